/-
  Each operation: what the abstract evaluator says of it the machine does (tenth part: interface values, pointers held against one another and seen as others, bytes that a string shares, functions without a body).
  Conditions: none.
-/
import Derived.Test.YtamikoglpnoicaaGreatDoorT12
import Derived.Lib.UnsafeStr
import Derived.LaidEql
import Derived.Laws.LoneSync
import Derived.Laws.NewFold
namespace Go.Proofs.Hz
open Bool renaming and_eq_true->yan
open Go.Builtin renaming unsafeString_->yac
open Go.Lib renaming run_unsafeString_row->yah
open List renaming getElem?_map->yag,map_cons->yal,map_nil->yap
open Nat renaming le_refl->yai,zero_add->yak,lt_of_lt_of_le->yam
open Go.Op renaming equalIn->yaf
open Option renaming map_some->yaj
open Ren renaming set_same->yad,set_ne->yae
open Go.Result renaming andThen_ok->yaa
open Go.Sem renaming run_bind->yab,run_pure->yao
open Go.RowKit
section
variable {G:Gl} {C:CodeRel} {P:Program} {D D':Nat->Prop} {ρ ρ':Ren} {w w':World} {V V':Ids} {h h':T Blk} {s s':St} {a:Act}
theorem HRel.drop (H:HRel C D w V ρ h) (db: ∀ b,D b->b<w.heap.size) {id b:Nat} (hb:ρ id=some b) (e:Ext D ρ w V D ρ w' V) (hsame: ∀ c,c≠b->w'.heap[c]? =w.heap[c]?):HRel C D w' V (ρ.set id none) (h.put id none)/\Ext D ρ w V D (ρ.set id none) w' V:=by
 have e2:Ext D ρ w' V D (ρ.set id none) w' V:=by
  refine⟨fun _ h=>h,rfl,rfl,rfl,yai _,fun _ h=>h,fun _ _ _=>rfl,fun _ real _ mk h=>⟨real,mk,h,rfl⟩,fun _ r h=>⟨r,h,rfl⟩,fun j b _ hb=> ?_,fun j b hb=> ?_,fun _ h=> .inl h⟩
  ·by_cases hj:id=j
   ·subst hj;rw[yad] at hb;cases hb
   ·rwa[yae _ _ hj] at hb
  ·by_cases hj:id=j
   ·subst hj;rw[yad] at hb;cases hb
   ·rw[yae _ _ hj] at hb;exact .inl ⟨j,hb⟩
 have e3:=e.trans e2;refine⟨⟨fun j hj=> ?_,fun j b hb=> ?_,fun i j b hi hj=> ?_,fun j k hk=> ?_⟩,e3⟩
 ·rw[T.get_put];split
  ·rfl
  ·exact H.lo j hj
 ·by_cases hj:id=j
  ·subst hj;rw[yad] at hb;cases hb
  ·rw[yae _ _ hj] at hb;rw[T.get_put,ir hj];exact H.dom j b hb
 ·by_cases h1:id=i
  ·subst h1;rw[yad] at hi;cases hi
  ·by_cases h2:id=j
   ·subst h2;rw[yad] at hj;cases hj
   ·rw[yae _ _ h1] at hi;rw[yae _ _ h2] at hj;exact H.inj i j b hi hj
 ·rw[T.get_put] at hk;by_cases hj:id=j
  ·rw[iq hj] at hk;cases hk
  ·rw[ir hj] at hk;obtain⟨c,hc,hB⟩:=H.bk j k hk;exact⟨c,by rw[yae _ _ hj];exact hc,hB.ext e3 db (hsame c (fun h=>hj (H.inj id j b hb (h ▸ hc)))) (fun h=>h)⟩
theorem qb6 (H:HRel C D w V ρ s.h) (db: ∀ b,D b->b<w.heap.size) (hr:Regs D w V ρ s a) {o:Oper} {t:TypeId} {x:Operand} (ho:o.op= .makeInterface t x) {ao:AOp} (hc:kbl P (.makeInterface t x)=some ao) {v:AV}
  (he:opA s ao=some (v,s')):OpPost C D ρ w V s s' v ((execOp a.eval o).run P w):=by
 simp only[kbl] at hc;split at hc
 ·cases hc
 ·rename_i d y hni hu hx;cases hc;simp only[opA] at he;cases he;refine .same H db (val:= .iface t (a.eval x)) ?_ (.ifc (ka8 hr hx));have:(Instr.makeInterface t (a.eval x)).run P w= .ok (.iface t (a.eval x)) w:=by
   simp only[Instr.makeInterface,yab,run_underlying hu,yaa];cases d <;> first |rfl |exact(hni _ rfl).elim
  simp[execOp,ho,this]
 ·cases hc
theorem k7u (d:Nat) {t e:TypeId} {n:Nat} (hu:P.underlying t=some (.pointer e)) (hs:szO P e=some (n+1)) (b o p:Nat):(yaf (d+1) t (.pointer (some ⟨b,o,none⟩)) (.pointer (some ⟨b,p,none⟩))).run P w= .ok (o == p) w:=by
 have hq:((⟨b,o,none⟩:Addr) == ⟨b,p,none⟩)=(o == p):=by
  rw[Bool.eq_iff_iff];simp
 simp only[yaf,yab,run_underlying hu,yaa,kcj hs];simp[sameAddr,hq]
theorem k7s (d:Nat) {t:TypeId} {ms:Array (String×TypeId)} (hu:P.underlying t=some (.interface ms)) {ta tb:TypeId} (hne: ¬ta=tb) (x y:Value):(yaf (d+1) t (.iface ta x) (.iface tb y)).run P w= .ok false w:=by
 simp[yaf,run_underlying hu,hne]
theorem k7r (d:Nat) {t u:TypeId} {ms:Array (String×TypeId)} {i:TypeInfo} {k:IntKind} (hu:P.underlying t=some (.interface ms)) (hi:P.info? u=some i) (hc:i.comparable=true) (hk:P.underlying u=some (.int k)) (k':IntKind) (x y:Int):(yaf (d+2) t (.iface u (.int k' x)) (.iface u (.int k' y))).run P w= .ok (x == y) w:=by
 have:=k39 (P:=P) (w:=w) d hk (k:=k') x y;simp[yaf,run_underlying hu,typeInfo,hi,hc] at this ⊢;exact this
theorem k7z (H:HRel C D w V ρ s.h) (db: ∀ b,D b->b<w.heap.size) (hr:Regs D w V ρ s a) {o:Oper} {op:BinOp} {t ty e:TypeId} {n:Nat} {x y:Operand} (ho:o.op= .binOp op t x y ty) (hop:op= .eql\/op= .neq)
  (hu:P.underlying t=some (.pointer e)) (hs:szO P e=some (n+1)) {x' y':AO} (hx:kar x=some x') (hy:kar y=some y') {v:AV} (he:opA s (.eqp (op == .neq) x' y')=some (v,s')):OpPost C D ρ w V s s' v ((execOp a.eval o).run P w):=by
 simp only[opA] at he;split at he
 ·rename_i i o1 j p1 e1 e2;split at he
  ·rename_i hc;obtain⟨rfl,hg⟩:=hc;obtain⟨k,hk⟩:=Option.isSome_iff_exists.1 hg;obtain⟨b,hb,_⟩:=H.bk i k hk;have h1:=ka8 hr hx;have h2:=ka8 hr hy;rw[e1] at h1;rw[e2] at h2;generalize hxv:a.eval x=xv at h1;generalize hyv:a.eval y=yv at h2;cases h1 with
   |ptr hi ha=>
    cases h2 with
    |ptr hj ha2=>
     have q1:=ha b hb;have q2:=ha2 b hb;subst q1;subst q2;cases he;have heq:(Op.equal t (.pointer (some ⟨b,o1,none⟩)) (.pointer (some ⟨b,p1,none⟩))).run P w= .ok (o1 == p1) w:=by
      exact k7u 9999 hu hs b o1 p1
     have hg:(eqGuard op t x y (.pointer (some ⟨b,o1,none⟩)) (.pointer (some ⟨b,p1,none⟩))).run P w= .ok () w:=kf0 (by simp) (by simp);rcases hop with rfl |rfl
     ·exact .same H db (val:= .bool (o1 == p1)) (by simp only[execOp,ho,hxv,hyv,yab,hg,yaa];simp[binOp,heq]) (.bool _)
     ·exact .same H db (val:= .bool (!(o1 == p1))) (by simp only[execOp,ho,hxv,hyv,yab,hg,yaa];simp[binOp,heq]) (.bool _)
  ·cases he
 ·cases he
theorem qam {u:Nat} (h:kln P=some u): ∃ i k,P.info? u=some i/\i.comparable=true/\P.underlying u=some (.int k):=by
 unfold kln at h;have:=List.find?_some h;split at this
 ·rename_i i hi;split at this
  ·simp only[yan] at this;obtain⟨h1,h2⟩:=this;split at h2
   ·rename_i k hk;exact⟨i,k,hi,h1,hk⟩
   ·cases h2
  ·cases this
 ·cases this
theorem k7y (H:HRel C D w V ρ s.h) (db: ∀ b,D b->b<w.heap.size) (hr:Regs D w V ρ s a) {o:Oper} {op:BinOp} {t ty u:TypeId} {ms:Array (String×TypeId)} {x y:Operand} (ho:o.op= .binOp op t x y ty) (hop:op= .eql\/op= .neq)
  (hu:P.underlying t=some (.interface ms)) (hi:kln P=some u) {x' y':AO} (hx:kar x=some x') (hy:kar y=some y') {v:AV} (he:opA s (.eqi (op == .neq) u x' y')=some (v,s')):OpPost C D ρ w V s s' v ((execOp a.eval o).run P w):=by
 simp only[opA] at he;split at he
 ·rename_i t1 k1 m1 t2 k2 m2 e1 e2;have h1:=ka8 hr hx;have h2:=ka8 hr hy;rw[e1] at h1;rw[e2] at h2;generalize hxv:a.eval x=xv at h1;generalize hyv:a.eval y=yv at h2;cases h1 with
  |ifc h1=>
   cases h1;cases h2 with
   |ifc h2=>
    cases h2;have hg:(eqGuard op t x y (.iface t1 (.int k1 m1)) (.iface t2 (.int k2 m2))).run P w= .ok () w:=kf0 (by simp) (by simp);have fin: ∀ b:Bool,(Op.equal t (.iface t1 (.int k1 m1)) (.iface t2 (.int k2 m2))).run P w= .ok b w->OpPost C D ρ w V s s (.bool (if(op == .neq)=true then !b else b)) ((execOp a.eval o).run P w):=fun b heq=>by
     rcases hop with rfl |rfl
     ·exact .same H db (val:= .bool b) (by simp only[execOp,ho,hxv,hyv,yab,hg,yaa];simp[binOp,heq]) (.bool _)
     ·exact .same H db (val:= .bool (!b)) (by simp only[execOp,ho,hxv,hyv,yab,hg,yaa];simp[binOp,heq]) (.bool _)
    split at he
    ·rename_i ht;subst ht;split at he
     ·rename_i hk;obtain⟨rfl,rfl⟩:=hk;cases he;obtain⟨i,k,g1,g2,g3⟩:=qam hi;exact fin (m1 == m2) (k7r 9998 hu g1 g2 g3 k1 m1 m2)
     ·cases he
    ·rename_i ht;cases he;have:=fin false (k7s 9999 hu ht _ _);rcases hop with rfl |rfl
     ·exact this
     ·exact this
 ·cases he
theorem kxh (H:HRel C D w V ρ s.h) (db: ∀ b,D b->b<w.heap.size) (hr:Regs D w V ρ s a) {o:Oper} {src dst t:TypeId} {n:Nat} {x:Operand} (ho:o.op= .convert src dst x) (hd:(P.underlying src=some (.pointer t)/\P.underlying dst=some .unsafePointer)\/(P.underlying src=some .unsafePointer/\P.underlying dst=some (.pointer t)))
  (hs:szO P t=some (n+1)) {x':AO} (hx:kar x=some x') {v:AV} (he:opA s (.cvp t (n+1) x')=some (v,s')):OpPost C D ρ w V s s' v ((execOp a.eval o).run P w):=by
 simp only[opA] at he;have h1:=ka8 hr hx;generalize hxv:a.eval x=xv at h1;have hinf: ∃ i,P.info? t=some i/\i.size=n+1:=by
  unfold szO at hs;cases hi:P.info? t with
  |none=>simp[hi] at hs
  |some i=>simp[hi] at hs;exact⟨i,rfl,hs⟩
 obtain⟨i,hi,hsz⟩:=hinf;split at he
 ·rename_i e1;rw[e1] at h1;cases he;cases h1;refine .same H db (val:= .pointer none) ?_ .nilp;rcases hd with⟨d1,d2⟩ | ⟨d1,d2⟩ <;> simp[execOp,ho,hxv,convert,Conv.unsafePointer,run_underlying d1,run_underlying d2]
 ·rename_i id e1;rw[e1] at h1;split at he
  ·rename_i cs fz ty hg;split at he
   ·rename_i hty;obtain⟨hty,hcn⟩:=hty;subst hty;cases he;obtain⟨b,hb,hB⟩:=H.bk id _ hg;cases h1 with
    |ptr hid ha=>
     have:=ha b hb;subst this;have hB2:=hB;obtain⟨_,_,real,mk,k1,k2,k3,k4⟩:=hB;have hlen:0<real.size:=by omega
     have hcell:w.cell? ⟨b,0,none⟩=some real[0]:=by simp[World.cell?,k1,hlen]
     refine .same H db (val:= .pointer (some ⟨b,0,none⟩)) ?_ (.ptr hid ha);rcases hd with⟨d1,d2⟩ | ⟨d1,d2⟩
     ·have:=run_convert_to_unsafe (P:=P) d1 d2 (by simp[hi,hsz]) hcell;simp[execOp,ho,hxv,this]
     ·have hcs:P.cellsOf ty=n+1:=by simp[Program.cellsOf,hi,hsz]
      have h1:1<=real.size / (n+1):=(Nat.le_div_iff_mul_le (by omega)).2 (by omega);have hlies:liesAt P P.depth ty (real.size / P.cellsOf ty) 0 ty 1=true:=by
       have hd:P.depth=(2*(P.types.size+Made.depth)+1)+1:=rfl;rw[hd,hcs];simp only[liesAt,Bool.or_eq_true];left;rw[hd];simp[rowAt,hcs,sameLayout,h1]
      have hsh:w.shape? b=some (ty,real.size):=by simp[World.shape?,k1]
      simp[execOp,ho,hxv,convert,Conv.unsafePointer,Conv.seenAt,viewAt,run_underlying d1,run_underlying d2,hsh,kcj hs,variablesAt,hlies]
   ·cases he
  ·cases he
 ·cases he
theorem qq0 (H:HRel C D w V ρ s.h) (db: ∀ b,D b->b<w.heap.size) {xv:Value} {x':AO} (h1:R D w V ρ (x'.ev s) xv) {ts:Array TypeId} {ty:TypeId} {v:AV} (he:opA s (.usd x')=some (v,s')):BPost C D ρ w V s s' v ((Builtin.unsafeSliceData_ ts ty #[xv]).run P w):=by
 simp only[opA] at he;split at he
 ·rename_i e1;rw[e1] at h1;cases he;cases h1;exact .same H db (Lib.run_unsafeSliceData_nil (P:=P) w ts ty 0 0) .nilp
 ·rename_i id off n sz c e1;rw[e1] at h1;split at he
  ·rename_i hn;cases he;cases h1 with
   |sl hid hn' hc ha=>
    refine .same H db (Lib.run_unsafeSliceData_row (P:=P) w ts ty _ _ _ (by omega)) (.ptr hid fun b hb=> ?_);rcases ha b hb with h0 | ⟨h0,_⟩
    ·omega
    ·exact h0
  ·cases he
 ·cases he
theorem k4x: ∀ {cs:List AV} {bs:List UInt8} {vs:List Value},kfm cs=some bs->RL D w V ρ cs vs->vs=bs.map fun b=>Value.int .u8 b.toNat
 | [],bs,vs,h,hR=>by
   cases h;rw[hR.inv_nil];rfl
 |c::cs,bs,vs,h,hR=>by
  obtain⟨v,us,rfl,h1,h2⟩:=hR.inv_cons;unfold kfm at h;split at h
  ·rename_i e;cases e
  ·rename_i n r e;injection e with e1 e2
   subst e1;subst e2;split at h
   ·rename_i hn;cases hb:kfm cs with
    |none=>simp[hb] at h
    |some l=>
     simp[hb] at h;subst h;have:=k4x hb h2;subst this;cases h1;have:((UInt8.ofNat n.toNat).toNat:Int)=n:=by
      have h3:n.toNat % 256=n.toNat:=Nat.mod_eq_of_lt (by omega);simp[h3];omega
     simp only[yal,this]
   ·cases h
  ·cases h
theorem k8y {b:Nat} {n:Nat} {real:Array Value} {ty:TypeId} {mk:Nat×Nat} (hb:w.heap[b]? =some (.cells real ty mk)):
  (0<n-> ∃ hi,n<=hi/\(w.freeze ⟨b,0,none⟩ n).heap[b]? =some (.cells real ty (0,hi)))/\(∀ c,c≠b->(w.freeze ⟨b,0,none⟩ n).heap[c]? =w.heap[c]?)/\(w.freeze ⟨b,0,none⟩ n).heap.size=w.heap.size/\(w.freeze ⟨b,0,none⟩ n).os=w.os/\(w.freeze ⟨b,0,none⟩ n).tape=w.tape/\(w.freeze ⟨b,0,none⟩ n).output=w.output:=by
 have hlt:=(Array.getElem?_eq_some_iff.1 hb).1;unfold World.freeze;split
 ·rename_i h0;exact⟨fun h=>absurd h0 (by omega),fun _ _=>rfl,rfl,rfl,rfl,rfl⟩
 ·have he:=(Array.getElem?_eq_some_iff.1 hb).2;obtain⟨lo,hi⟩:=mk;refine⟨fun _=>⟨if lo == hi then n else max hi n,?_,?_⟩,fun c hc=>by rw[Array.getElem?_modify,ir (Ne.symm hc)],by simp,rfl,rfl,rfl⟩
  ·split <;> omega
  ·rw[Array.getElem?_modify,iq rfl,hb];simp only[yaj,yak];split
   ·rfl
   ·rw[Nat.min_eq_right (Nat.zero_le lo)]
theorem k80 {b n hi:Nat} {real:Array Value} {ty:TypeId} (hb:w.heap[b]? =some (.cells real ty (0,hi))) (h0:0<n) (hn:n<=hi):w.freeze ⟨b,0,none⟩ n=w:=by
 unfold World.freeze;rw[ir (by omega)];have:(w.heap.modify b fun | .cells c elem (lo,hi)=> .cells c elem (if lo == hi then(0,0+n) else(min lo 0,max hi (0+n))) |o=>o)=w.heap:=by
  apply Array.ext_getElem?;intro i;rw[Array.getElem?_modify];by_cases hi':b=i
  ·subst hi';rw[iq rfl,hb];simp only[yaj,yak];rw[ir (by simp;omega),Nat.max_eq_left hn];rfl
  ·rw[ir hi']
 cases w;exact congrArg (fun h=>World.mk h _ _ _ _) this
theorem qq2 (H:HRel C D w V ρ s.h) (db: ∀ b,D b->b<w.heap.size) {t pt it ty:TypeId} {pv nv:Value} {p' n':AO} (h1:R D w V ρ (p'.ev s) pv) (h2:R D w V ρ (n'.ev s) nv) (hpt:P.underlying pt=some (.pointer t)) (hc1:P.cellsOf t=1)
  {v:AV} (he:opA s (.ust t p' n')=some (v,s')):BPost C D ρ w V s s' v ((yac #[pt,it] ty #[pv,nv]).run P w):=by
 simp only[opA] at he;split at he
 ·rename_i e1 e2;rw[e1] at h1;rw[e2] at h2;cases he;cases h1;cases h2;exact .same H db (Lib.run_unsafeString_none (P:=P) w pt it ty none) (.str .empty rfl)
 ·rename_i id m e1 e2;rw[e1] at h1;rw[e2] at h2;split at he
  ·rename_i cs bty hg;split at he
   ·rename_i hcc;obtain⟨hty,hm0,hmr⟩:=hcc;subst hty;split at he
    ·rename_i l hl;cases hb:kfm l with
     |none=>simp[hb] at he
     |some bs=>
      simp only[hb,yaj,Option.some.injEq,Prod.mk.injEq] at he;obtain⟨rfl,rfl⟩:=he;obtain⟨b,hbb,hB⟩:=H.bk id _ hg;cases h2;cases h1 with
      |ptr hid ha=>
       have:=ha b hbb;subst this;obtain⟨hle,hl1,hl2⟩:=kko hl;have hB2:=hB;obtain⟨_,hnd,real,mk,k1,k2,k3,k4⟩:=hB;obtain⟨vs,q1,q2⟩:=kjv (A:=fun j u=>w.cell? ⟨b,j,none⟩=some u) l (D:=D) (w:=w) (V:=V) (ρ:=ρ) (fun j y hy=>by
             rw[hl1,List.getElem?_take] at hy;split at hy
             ·rw[List.drop_zero] at hy;exact hB2.cell hy
             ·cases hy)
       have hvs:=k4x hb q1;have hlen:bs.length=m.toNat:=by
             have:=q1.1;rw[hvs,List.length_map] at this;omega
       have hne:bs≠[]:=fun h=>by rw[h] at hlen;simp at hlen;omega
       have hsh:w.shape? b=some (bty,real.size):=by simp[World.shape?,k1]
       have hcell: ∀ j x,bs[j]? =some x->w.cell? ((⟨b,0,none⟩:Addr).add j)=some (.int .u8 x.toNat):=fun j x hx=>by
             rw[kdj,yak];exact q2 j _ (by rw[hvs,yag,hx];rfl)
       have hrun:=yah (P:=P) w pt it ty bty hpt hc1 b real.size hsh bs hne (by omega) (by unfold kaq at hmr;omega) hcell;obtain⟨f0,f2,f3,f4,f5,f6⟩:=k8y (n:=bs.length) k1;have hpos:0<bs.length:=List.length_pos_iff.2 hne;obtain⟨hi,fhi,f1⟩:=f0 hpos;have ex:Ext D ρ w V D ρ (w.freeze ⟨b,0,none⟩ bs.length) V:=Ext.upd hbb (hnd rfl) f4 f5 f6 f3 f2 (fun r t2 mk2 hr=>by
             rw[k1] at hr;cases hr;exact⟨real,(0,hi),f1,rfl⟩) (fun r hr=>by rw[k1] at hr;cases hr)
       have H2:=H.upd db hbb ex f2 (.text (.str bs) bty) ⟨hnd rfl,bs,real,hi,rfl,f1,⟨hpos,fhi⟩,⟨by rw[hlen];exact Nat.le_trans (by simpa using hle) k3,by rw[hlen];exact Int.toNat_le.2 hmr⟩,fun j x hx=>by
             have h5:=q2 j _ (by rw[hvs,yag,hx];rfl);simpa[World.cell?,k1] using h5⟩
       refine⟨.string ⟨bs.toArray⟩,_,D,_,V,?_,.str _ (by simp),H2,ex,rfl,yai _,fun _ h=> .inl h,fun c hc=>by rw[f3];exact db c hc⟩;have:(Value.int .i64 (bs.length:Int))= .int .i64 m:=by rw[hlen];congr 1;exact Int.toNat_of_nonneg (Int.le_of_lt hm0)
       rw[←this];exact hrun
    ·cases he
   ·cases he
  ·rename_i bs bty hg;split at he
   ·rename_i hcc;obtain⟨hty,hm,hm0⟩:=hcc;subst hty;cases he;obtain⟨b,hbb,hB⟩:=H.bk id _ hg;cases h2;cases h1 with
    |ptr hid ha=>
     have:=ha b hbb;subst this;obtain⟨hnd,bs',real,hi,q1,k1,⟨k2,k3⟩,⟨k4,k5⟩,k6⟩:=hB;cases q1;have hsh:w.shape? b=some (bty,real.size):=by simp[World.shape?,k1]
     have hcell: ∀ j x,bs[j]? =some x->w.cell? ((⟨b,0,none⟩:Addr).add j)=some (.int .u8 x.toNat):=fun j x hx=>by
      rw[kdj,yak];simpa[World.cell?,k1] using k6 j x hx
     have hrun:=yah (P:=P) w pt it ty bty hpt hc1 b real.size hsh bs (fun h=>by rw[h] at k2;simp at k2) k4 (by unfold kaq at k5;omega) hcell;rw[k80 k1 k2 k3] at hrun;rw[hm];exact .same H db hrun (.str _ (by simp))
   ·cases he
  ·cases he
 ·cases he
theorem k8z (w:World) (real:Array Value) (ty:TypeId):(w.alloc (.cells real ty)).freeze ⟨w.heap.size,real.size,none⟩ 1=w.alloc (.cells real ty (real.size,real.size+1)):=by
 unfold World.freeze;rw[ir (by decide)];unfold World.alloc;congr 1;apply Array.ext_getElem?;intro i;rw[Array.getElem?_modify];by_cases hi:i=w.heap.size
 ·subst hi;simp
 ·simp[Array.getElem?_push,hi,Ne.symm hi]
theorem qn8 (H:HRel C D w V ρ s.h) (db: ∀ b,D b->b<w.heap.size) (hr:Regs D w V ρ s a) (hf: ¬V s.nx) {o:Oper} {src dst e:TypeId} {x:Operand} (ho:o.op= .convert src dst x) (h1:P.underlying src=some .string) (h2:P.underlying dst=some (.slice e)) (h3:P.underlying e=some (.int .u8)) {x':AO} (hx:kar x=some x')
  {v:AV} (he:opA s (.s2b e x')=some (v,s')):OpPost C D ρ w V s s' v ((execOp a.eval o).run P w):=by
 simp only[opA] at he;have hR:=ka8 hr hx;generalize hxv:a.eval x=xv at hR;split at he
 ·rename_i bs e1;rw[e1] at hR;cases he;cases hR with
  |str sx hsx=>
   subst hsx;have H1:HRel C D w.drew V ρ s.h:=H.drew db;have e0:Ext D ρ w V D ρ w.drew V:=Ext.drew;have hcut: ∀ n m x,n<=(Question.appendCap n m e).cut x:=fun n m x=>by simp[Question.cut]
   obtain⟨nc,hnc,hch⟩: ∃ nc,sx.size<=nc/\(choose (.appendCap sx.size 0 e)).run P w= .ok nc w.drew:=
    ⟨(Question.appendCap sx.size 0 e).cut (w.tape w.drawn (.appendCap sx.size 0 e)),hcut _ _ _,by rw[run_choose];rfl⟩
   have hel:(sx.data.map fun b=>Value.int .u8 b.toNat).size=sx.size:=by rw[Array.size_map];rfl
   have hrun:(execOp a.eval o).run P w= .ok (.value (.slice (some ⟨w.heap.size,0,none⟩) sx.size nc)) (w.drew.alloc (.cells ((sx.data.map fun b=>Value.int .u8 b.toNat)++Array.replicate (nc - sx.size) (.int .u8 0)) e (nc,nc+1))):=by
    have hsz:((sx.data.map fun b=>Value.int .u8 b.toNat)++Array.replicate (nc - sx.size) (Value.int .u8 0)).size=nc:=by simp only[Array.size_append,hel,Array.size_replicate];omega
    have hfz:=k8z w.drew ((sx.data.map fun b=>Value.int .u8 b.toNat)++Array.replicate (nc - sx.size) (Value.int .u8 0)) e;rw[hsz] at hfz;have hsh:(w.drew.alloc (.cells ((sx.data.map fun b=>Value.int .u8 b.toNat)++Array.replicate (nc - sx.size) (Value.int .u8 0)) e)).shape? w.heap.size=some (e,nc):=by
     have:=kez w.drew (.cells ((sx.data.map fun b=>Value.int .u8 b.toNat)++Array.replicate (nc - sx.size) (Value.int .u8 0)) e);have h5:w.drew.heap.size=w.heap.size:=rfl;rw[h5] at this;simp only[World.shape?,this,hsz]
    have hconv:(Conv.stringToBytes e sx).run P w= .ok (.slice (some ⟨w.heap.size,0,none⟩) sx.size nc) (w.drew.alloc (.cells ((sx.data.map fun b=>Value.int .u8 b.toNat)++Array.replicate (nc - sx.size) (.int .u8 0)) e (nc,nc+1))):=by
     simp only[Conv.stringToBytes,yab,hch,yaa,newRow,run_newObj_alloc,yao,markStringish];have h5:w.drew.heap.size=w.heap.size:=rfl;rw[h5] at hfz;simp[h5,hsh,hfz]
    have hcv:(convert src dst (.string sx)).run P w= .ok (.slice (some ⟨w.heap.size,0,none⟩) sx.size nc) (w.drew.alloc (.cells ((sx.data.map fun b=>Value.int .u8 b.toNat)++Array.replicate (nc - sx.size) (.int .u8 0)) e (nc,nc+1))):=by
     simp only[convert,yab,run_underlying h1,run_underlying h2,yaa,run_underlying h3];exact hconv
    simp only[execOp,ho,hxv,yab,hcv,yaa,yao]
   have hR2:RL D w.drew V ρ (sx.data.toList.map fun c=>AV.int .u8 c.toNat) (sx.data.toList.map fun b=>Value.int .u8 b.toNat):=by
    refine⟨by simp,fun j x v hx hv=> ?_⟩;rw[yag] at hx hv;cases hj:sx.data.toList[j]? with
    |none=>simp[hj] at hx
    |some c=>simp[hj] at hx hv;subst hx;subst hv;exact .int _ _
   have hsz:((sx.data.map fun b=>Value.int .u8 b.toNat)++Array.replicate (nc - sx.size) (Value.int .u8 0)).size=nc:=by simp only[Array.size_append,hel,Array.size_replicate];omega
   have e1:Ext D ρ w.drew V D (ρ.set s.nx (some w.drew.heap.size)) (w.drew.alloc (.cells ((sx.data.map fun b=>Value.int .u8 b.toNat)++Array.replicate (nc - sx.size) (.int .u8 0)) e (nc,nc+1))) (V.add s.nx):=Ext.add hf _;have H2:=H1.add db (id:=s.nx) hf (.cells ((sx.data.map fun b=>Value.int .u8 b.toNat)++Array.replicate (nc - sx.size) (.int .u8 0)) e (nc,nc+1)) (.cells (sx.data.toList.map fun c=> .int .u8 c.toNat) false e) ⟨(fun h=>by cases h),(fun _ hd=>Nat.lt_irrefl _ (db _ hd)),_,_,kez w.drew _,(fun j hj hm=>by rw[hsz] at hj;omega),by rw[hsz];simp;exact hnc,fun j x hx=>by
    have hlt:j<(sx.data.toList.map fun b=>Value.int .u8 b.toNat).length:=by rw[←hR2.1];exact(List.getElem?_eq_some_iff.1 hx).1
    have hv:=List.getElem?_eq_getElem hlt;refine⟨_,?_,(hR2.2 j x _ hx hv).ext e1 db⟩;rw[←hv,←Array.getElem?_toList,Array.toList_append,List.getElem?_append_left (by simpa using hlt),Array.toList_map]⟩
   refine⟨_,_,D,_,_,.inl hrun,?_,H2,e0.trans e1,rfl,Nat.le_succ _,fun i hi=> ?_,fun b hb=> ?_⟩
   ·refine .sl (.inr rfl) hnc (fun m hm=>by cases hm) (fun c hc'=> ?_);rw[yad] at hc';cases hc';exact .inr ⟨rfl,_,_,_,kez w.drew _,by rw[hsz];omega⟩
   ·rcases hi with hi |hi
    ·exact .inl hi
    ·subst hi;exact .inr ⟨yai _,Nat.lt_succ_self _⟩
   ·have:=db b hb;simp;omega
 ·cases he
theorem k8c {f k:Nat} (h:kld P f=some k): ∃ fn e,P.funcs[f]? =some fn/\(fn.name == "runtime.NumGoroutine")=false/\fn.body.isNone=true/\Extern.findNext fn=none/\Extern.find fn=some e/\
  ((k=0/\e=Extern.AbiNoEscape.same)\/(k=1/\e=Extern.BytealgIndexByte.indexByte)\/(k=2/\e=Extern.BytealgCount.count)):=by
 unfold kld at h;split at h
 ·rename_i fn hfn;split at h
  ·rename_i hb;simp only[yan,beq_iff_eq] at hb;obtain⟨hb,horg⟩:=hb;have none_: ∀ n:String,Extern.allNextRows.lookup n=none->Extern.allNextRows.lookup "" =none->fn.name=n->Extern.findNext fn=none:=fun n h1 h2 hn=>by
    simp only[Extern.findNext,hn,horg,h1,h2];rfl
   have some_: ∀ (n:String) (e:Array Value->Sem Value),Extern.allGenericRows.lookup n=none->Extern.allTypedRows.lookup n=none->Extern.allRows.lookup n=some e->fn.name=n->Extern.find fn=some e:=fun n e h1 h2 h3 hn=>by
    simp only[Extern.find,hn,h1,h2,h3];rfl
   split at h
   ·rename_i hn;cases h;have hn:=eq_of_beq hn;exact⟨fn,_,hfn,by rw[hn];rfl,hb,none_ _ (by kernel_rfl) (by kernel_rfl) hn,some_ _ _ (by kernel_rfl) (by kernel_rfl) (by kernel_rfl) hn,.inl ⟨rfl,rfl⟩⟩
   ·split at h
    ·rename_i hn;cases h;have hn:=eq_of_beq hn;exact⟨fn,_,hfn,by rw[hn];rfl,hb,none_ _ (by kernel_rfl) (by kernel_rfl) hn,some_ _ _ (by kernel_rfl) (by kernel_rfl) (by kernel_rfl) hn,.inr (.inl ⟨rfl,rfl⟩)⟩
    ·split at h
     ·rename_i hn;cases h;have hn:=eq_of_beq hn;exact⟨fn,_,hfn,by rw[hn];rfl,hb,none_ _ (by kernel_rfl) (by kernel_rfl) hn,some_ _ _ (by kernel_rfl) (by kernel_rfl) (by kernel_rfl) hn,.inr (.inr ⟨rfl,rfl⟩)⟩
     ·cases h
  ·cases h
 ·cases h
theorem kqy {c:Call} {f k:Nat} {vals:Array Value} {val:Value} {o:Oper} (ho:o.op= .call c) (hcal:c.callee= .value (.func f)) (hk:kld P f=some k) (hargs:c.args.map a.eval=vals)
  (hrun:(k=0->(Extern.AbiNoEscape.same vals).run P w= .ok val w)/\(k=1->(Extern.BytealgIndexByte.indexByte vals).run P w= .ok val w)/\(k=2->(Extern.BytealgCount.count vals).run P w= .ok val w)):(execOp a.eval o).run P w= .ok (.value val) w:=by
 obtain⟨fn,e,h1,h2,h3,h4,h5,h6⟩:=k8c hk;have hr:(e vals).run P w= .ok val w:=by
  rcases h6 with⟨rfl,rfl⟩ | ⟨rfl,rfl⟩ | ⟨rfl,rfl⟩
  ·exact hrun.1 rfl
  ·exact hrun.2.1 rfl
  ·exact hrun.2.2 rfl
 have hcf:=run_callFunc_extern h1 h2 h3 h4 h5 vals w;rw[hr] at hcf;have hev:a.eval (.func f)= .func (.func f) #[] #[]:=rfl;simp[execOp,ho,resolve,hcal,hev,Deferred.ofValue,invoke,hargs,hcf,Result.andThen]
theorem k8e (H:HRel C D w V ρ s.h) (db: ∀ b,D b->b<w.heap.size) (hr:Regs D w V ρ s a) {o:Oper} {c:Call} {f k:Nat} {as:List AO} {ao:AOp} (ho:o.op= .call c) (hcal:c.callee= .value (.func f)) (hk:kld P f=some k) (has:mapO kar c.args.toList=some as) (hc:km2 k as=some ao)
  {v:AV} (he:opA s ao=some (v,s')):OpPost C D ρ w V s s' v ((execOp a.eval o).run P w):=by
 have hR:=kiw hr has;have harr: ∀ l:List Value,c.args.toList.map a.eval=l->c.args.map a.eval=l.toArray:=fun l h=>by
  apply Array.ext';simpa using h
 unfold km2 at hc;split at hc
 ·rename_i x;split at hc
  ·rename_i hk0;cases hc;subst hk0;simp only[opA] at he;obtain⟨u,us,e1,r1,r2⟩:=hR.inv_cons;have e3:=r2.inv_nil;subst e3;have ha:=harr _ e1;cases he;exact .same H db (kqy (k:=0) (val:=u) ho hcal hk ha ⟨fun _=>rfl,fun h=>by omega,fun h=>by omega⟩) r1
  ·cases hc
 ·rename_i x y;split at hc
  ·rename_i hk0;cases hc;obtain⟨u,us,e1,r1,r2⟩:=hR.inv_cons;obtain⟨u2,us2,e2,r3,r4⟩:=r2.inv_cons;have e3:=r4.inv_nil;subst e3;subst e2;have ha:=harr _ e1;simp only[opA] at he;rcases hk0 with rfl |rfl
   ·split at he
    ·rename_i e0 _ _;omega
    ·rename_i b cc _ e4 e5;rw[e4] at r1;rw[e5] at r3;cases he;cases r3;cases r1 with
     |str sx hsx=>
      subst hsx;exact .same H db (kqy ho hcal hk ha ⟨fun h=>by(first |omega |cases h),fun _=>Lib.run_indexByteString sx cc w,fun h=>by(first |omega |cases h)⟩) (.int _ _)
    ·rename_i e0 _ _;omega
    ·cases he
   ·split at he
    ·rename_i e0 _ _;omega
    ·rename_i e0 _ _;omega
    ·rename_i b cc _ e4 e5;rw[e4] at r1;rw[e5] at r3;cases he;cases r3;cases r1 with
     |str sx hsx=>
      subst hsx;exact .same H db (kqy ho hcal hk ha ⟨fun h=>by(first |omega |cases h),fun h=>by(first |omega |cases h),fun _=>Lib.run_countString sx cc w⟩) (.int _ _)
    ·cases he
  ·cases hc
 ·cases hc
theorem qqx {ts:Array TypeId} {t ty:TypeId} (h:ts[0]? =some t) (args:Array Value):yac ts ty args=yac #[t,0] ty args:=by
 unfold yac;rw[h];rfl
end
open Go.RowKit
section
variable {G:Gl} {C:CodeRel} {P:Program} {D D':Nat->Prop} {ρ ρ':Ren} {w w':World} {V V':Ids} {h h':T Blk} {s s':St} {a:Act}
theorem BPost.op {o:Oper} {c:Call} {b:Builtin} {args:Array Value} {v:AV} (ho:o.op= .call c) (hb:c.callee= .builtin b) (hargs:c.args.map a.eval=args) {f:Array TypeId->TypeId->Array Value->Sem Value}
  (hf: ∀ ts ty cs args,builtin b ts ty cs args=(do pure (.value (←f ts ty args)))) (hp:BPost C D ρ w V s s' v ((f c.argTypes o.type args).run P w)):OpPost C D ρ w V s s' v ((execOp a.eval o).run P w):=by
 obtain⟨val,w',D',ρ',V',h1,h2,h3,h4,h5,h6,h7,h8⟩:=hp;refine⟨val,w',D',ρ',V',.inl ?_,h2,h3,h4,h5,h6,h7,h8⟩;simp[execOp,ho,resolve,hb,invoke,hf,hargs,h1]
theorem kju {c:Call} {x y:AO} {as:List AO} (hr:Regs D w V ρ s a) (has:mapO kar c.args.toList=some as) (h2:as=[x,y]): ∃ u v,c.args.map a.eval= #[u,v]/\R D w V ρ (x.ev s) u/\R D w V ρ (y.ev s) v:=by
 have hR:=kiw hr has;subst h2;simp only[yal,yap] at hR;obtain⟨u,us,e1,r1,r2⟩:=hR.inv_cons;obtain⟨v,vs,e2,r3,r4⟩:=r2.inv_cons;have e3:=r4.inv_nil;subst e3;refine⟨u,v,?_,r1,r3⟩;apply Array.ext';simpa[e2] using e1
theorem kpy {c:Call} {x:AO} {as:List AO} (hr:Regs D w V ρ s a) (has:mapO kar c.args.toList=some as) (h2:as=[x]): ∃ u,c.args.map a.eval= #[u]/\R D w V ρ (x.ev s) u:=by
 have hR:=kiw hr has;subst h2;simp only[yal,yap] at hR;obtain⟨u,us,e1,r1,r2⟩:=hR.inv_cons;have e3:=r2.inv_nil;subst e3;refine⟨u,?_,r1⟩;apply Array.ext';simpa using e1
theorem k6s (H:HRel C D w V ρ s.h) (db: ∀ b,D b->b<w.heap.size) (hr:Regs D w V ρ s a) (hf: ¬V s.nx) {o:Oper} {c:Call} {b:Builtin} (ho:o.op= .call c) (hb:c.callee= .builtin b) {as:List AO} (has:mapO kar c.args.toList=some as) {ao:AOp} (hc:kqb P b c.argTypes as=some ao) {v:AV}
  (he:opA s ao=some (v,s')):OpPost C D ρ w V s s' v ((execOp a.eval o).run P w):=by
 unfold kqb at hc;split at hc
 ·rename_i _ x y ot t h0;split at hc
  ·rename_i u h1;obtain⟨xv,yv,e,r1,r2⟩:=kju hr has rfl;exact BPost.op ho hb e (fun _ _ _ _=>rfl) (k57 H db hf hc h0 h1 r1 r2 he)
  ·cases hc
 ·rename_i _ x y ot t h0;split at hc
  ·rename_i el hel;cases hsz:szO P el with
   |none=>simp[hsz] at hc
   |some sz=>
    simp[hsz] at hc;subst hc;obtain⟨xv,yv,e,r1,r2⟩:=kju hr has rfl;obtain⟨u,w',h',rfl,p1,p2,p3,p4⟩:=k69 (ty:=o.type) H db hel hsz r1 r2 h0 he;exact BPost.op ho hb e (fun _ _ _ _=>rfl) ⟨u,w',D,ρ,V,p1,p2,p3,p4,rfl,yai _,fun _ h=> .inl h,fun b hb=>yam (db b hb) p4.size⟩
  ·cases hc
 ·rename_i _ x ot t h0;obtain⟨xv,e,r1⟩:=kpy hr has rfl;unfold kw9 at hc;split at hc
  ·rename_i el hu;cases hc;obtain⟨u,rfl,p1,p2⟩:=krw (ty:=o.type) (args:= #[xv]) H r1 h0 rfl (.inl ⟨rfl,el,hu⟩) he;exact BPost.op ho hb e (fun _ _ _ _=>rfl) (.same H db p1 p2)
  ·rename_i hu;cases hc;obtain⟨u,rfl,p1,p2⟩:=krw (ty:=o.type) (args:= #[xv]) H r1 h0 rfl (.inr (.inl ⟨rfl,hu⟩)) he;exact BPost.op ho hb e (fun _ _ _ _=>rfl) (.same H db p1 p2)
  ·rename_i k el hu;cases hc;obtain⟨u,rfl,p1,p2⟩:=krw (ty:=o.type) (args:= #[xv]) H r1 h0 rfl (.inr (.inr ⟨rfl,k,el,hu⟩)) he;exact BPost.op ho hb e (fun _ _ _ _=>rfl) (.same H db p1 p2)
  ·rename_i n el hu;cases hc;simp only[opA] at he;cases he;refine BPost.op ho hb e (fun _ _ _ _=>rfl) (.same H db (val:=goInt n) ?_ (.int _ _));simp[Builtin.len_,h0,run_underlying hu]
  ·cases hc
 ·rename_i _ x ot t h0;split at hc
  ·rename_i el hu;cases hc;obtain⟨xv,e,r1⟩:=kpy hr has rfl;obtain⟨u,rfl,p1,p2⟩:=k64 (ty:=o.type) (args:= #[xv]) r1 h0 rfl hu he;exact BPost.op ho hb e (fun _ _ _ _=>rfl) (.same H db p1 p2)
  ·cases hc
 ·cases hc;obtain⟨xv,yv,e,r1,r2⟩:=kju hr has rfl;obtain⟨u,rfl,p1,p2⟩:=qdv (P:=P) (w:=w) (ts:=c.argTypes) (ty:=o.type) r1 r2 he;exact BPost.op ho hb e (fun _ _ _ _=>rfl) (.same H db p1 p2)
 ·cases hc;obtain⟨xv,yv,e,r1,r2⟩:=kju hr has rfl;obtain⟨u,rfl,p1,p2⟩:=qb9 (P:=P) (w:=w) (ts:=c.argTypes) (ty:=o.type) r1 r2 he;exact BPost.op ho hb e (fun _ _ _ _=>rfl) (.same H db p1 p2)
 ·rename_i _ x y ot t h0;split at hc
  ·rename_i kk kt et hkt;cases hc;obtain⟨xv,yv,e,r1,r2⟩:=kju hr has rfl;obtain⟨w',h',rfl,rfl,p1,p3,p4⟩:=k7f (ty:=o.type) H db hkt r1 r2 h0 he;exact BPost.op ho hb e (fun _ _ _ _=>rfl) ⟨undef,w',D,ρ,V,p1,kpg,p3,p4,rfl,yai _,fun _ h=> .inl h,fun b hb=>yam (db b hb) p4.size⟩
  ·cases hc
 ·rename_i _ x ot t h0;cases hc;obtain⟨xv,e,r1⟩:=kpy hr has rfl;exact BPost.op ho hb e (fun _ _ _ _=>rfl) (qq0 H db r1 he)
 ·rename_i _ p n ot t h0;split at hc
  ·rename_i el hu;split at hc
   ·rename_i hu2;split at hc
    ·rename_i hcc;cases hc;obtain⟨xv,yv,e,r1,r2⟩:=kju hr has rfl;refine BPost.op ho hb e (fun _ _ _ _=>rfl) ?_;rw[qqx h0];exact qq2 H db r1 r2 hu hcc.1 he
    ·cases hc
   ·cases hc
  ·cases hc
 ·cases hc
theorem qd7 (H:HRel C D w V ρ s.h) (db: ∀ b,D b->b<w.heap.size) (hr:Regs D w V ρ s a) (hf: ¬V s.nx) {o:Oper} {ao:AOp} (hc:kbl P o.op=some ao) {v:AV}
  (he:opA s ao=some (v,s')):OpPost C D ρ w V s s' v ((execOp a.eval o).run P w):=by
 cases ho:o.op with
 |move x=>
  rw[ho] at hc;simp only[kbl] at hc;cases hx:kar x with
  |none=>simp[hx] at hc
  |some y=>
   simp[hx] at hc;subst hc;simp only[opA] at he;cases he;have:(execOp a.eval o).run P w= .ok (.value (a.eval x)) w:=by simp[execOp,ho]
   rw[this];exact kzi H db hr hx
 |assign x=>
  rw[ho] at hc;simp only[kbl] at hc;cases hx:kar x with
  |none=>simp[hx] at hc
  |some y=>
   simp[hx] at hc;subst hc;simp only[opA] at he;cases he;have:(execOp a.eval o).run P w= .ok (.value (a.eval x)) w:=by simp[execOp,ho]
   rw[this];exact kzi H db hr hx
 |pick c x y=>rw[ho] at hc;exact qej H db hr ho hc he
 |alloc t=>
  rw[ho] at hc;simp only[kbl] at hc;cases hz:zO P t with
  |none=>simp[hz] at hc
  |some z=>
   simp[hz] at hc;subst hc;simp only[opA] at he;cases he;exact k50 H db hf ho hz
 |box t x=>
  rw[ho] at hc;simp only[kbl] at hc;cases hx:kar x with
  |none=>simp[hx] at hc
  |some y=>
   simp[hx] at hc;subst hc;simp only[opA] at he;split at he
   ·cases he;exact k6p H db hr hf ho hx
   ·cases he
 |build t ps=>rw[ho] at hc;exact k6r H db hr ho hc he
 |buildSlice t n ps=>rw[ho] at hc;exact k6q H db hr hf ho hc he
 |insert t m k x=>
  rw[ho] at hc;simp only[kbl] at hc;split at hc
  ·rename_i kk kt et m' k' x' hkt hm hk hx;cases hc;exact kze H db hr (.inr ho) hkt hm hk hx he
  ·cases hc
 |load t x=>rw[ho] at hc;exact qbt H db hr ho hc he
 |store t x y=>rw[ho] at hc;exact qo2 H db hr ho hc he
 |ready g=>rw[ho] at hc;cases hc
 |waits g=>rw[ho] at hc;cases hc
 |nilCheck x=>rw[ho] at hc;exact qdw H db hr ho hc he
 |binOp op t x y ty=>
  rw[ho] at hc;simp only[kbl,kw7] at hc;split at hc
  ·rename_i x' y' hx hy;split at hc
   ·rename_i hop;split at hc
    ·cases hc;exact kp0 H db hr ho hx hy he
    ·cases hc;exact kp0 H db hr ho hx hy he
    ·rename_i hu;cases hc;exact k7x H db hr ho hop hu hx hy he
    ·rename_i fs hu;cases hp:kd4 P 12 t with
     |none=>simp[hp] at hc
     |some ks=>simp[hp] at hc;subst hc;exact kxq H db hr ho hop hp (by simp[gO,hu]) hx hy he
    ·rename_i n e hu;cases hp:kd4 P 12 t with
     |none=>simp[hp] at hc
     |some ks=>simp[hp] at hc;subst hc;exact kxq H db hr ho hop hp (by simp[gO,hu]) hx hy he
    ·rename_i p q r hu;cases hc;exact kqu H db hr ho hop (.inl ⟨rfl,p,q,r,hu⟩) hx hy he
    ·rename_i e hu;split at hc
     ·cases hc;exact kqu H db hr ho hop (.inr (.inl ⟨rfl,e,hu⟩)) hx hy he
     ·split at hc
      ·rename_i n hs;cases hc;exact k7z H db hr ho hop hu hs hx hy he
      ·cases hc
    ·rename_i m hu;split at hc
     ·rename_i hn;cases hc;exact kqu H db hr ho hop (.inr (.inr ⟨rfl,hn,m,hu⟩)) hx hy he
     ·cases hi:kln P with
      |none=>simp[hi] at hc
      |some u=>simp[hi] at hc;subst hc;exact k7y H db hr ho hop hu hi hx hy he
    ·rename_i e hu;split at hc
     ·rename_i hn;cases hc;exact k70 H db hr ho hop hu hn hx he
     ·cases hc
    ·cases hc
   ·cases hc;exact kp0 H db hr ho hx hy he
  ·cases hc
 |unOp op t x=>
  rw[ho] at hc;simp only[kbl] at hc;cases hx:kar x with
  |none=>simp[hx] at hc
  |some y=>simp[hx] at hc;subst hc;exact qqz H db hr ho hx he
 |convert src dst x=>
  rw[ho] at hc;simp only[kbl,kw8] at hc;split at hc
  ·rename_i k k' x' h1 h2 hx;cases hc;exact k68 H db hr ho h1 h2 hx he
  ·rename_i x' h1 h2 hx;cases hc;exact qdf H db hr ho h1 h2 hx he
  ·rename_i e x' h1 h2 hx;split at hc
   ·rename_i h3;cases hc;exact k6m H db hr ho h1 h2 h3 hx he
   ·cases hc
  ·rename_i e x' h1 h2 hx;split at hc
   ·rename_i h3;cases hc;exact qn8 H db hr hf ho h1 h2 h3 hx he
   ·cases hc
  ·rename_i u x' h1 h2 hx;split at hc
   ·rename_i n hs;cases hc;exact kxh H db hr ho (.inl ⟨h1,h2⟩) hs hx he
   ·cases hc
  ·rename_i u x' h1 h2 hx;split at hc
   ·rename_i n hs;cases hc;exact kxh H db hr ho (.inr ⟨h1,h2⟩) hs hx he
   ·cases hc
  ·cases hc
 |sliceToArrayPointer t x=>
  rw[ho] at hc;simp only[kbl] at hc;split at hc
  ·rename_i n e x' hu hx;cases hc;exact k5t H db hr ho hu hx he
  ·cases hc
 |makeInterface t x=>rw[ho] at hc;exact qb6 H db hr ho hc he
 |makeFunc fn fs cs=>
  rw[ho] at hc;cases fn with
  |func f=>
   simp only[kbl] at hc;split at hc
   ·rename_i fs' cs' h1 h2;cases hc;simp only[opA] at he;cases he;exact qb5 H db hr ho h1 h2
   ·cases hc
  |_=>cases hc
 |makeMap t r=>rw[ho] at hc;exact qb7 H db hf ho hc he
 |makeChan t x=>rw[ho] at hc;cases hc
 |makeSlice t l c=>rw[ho] at hc;exact qb8 H db hr hf ho hc he
 |slice t x lo hi mx=>
  rw[ho] at hc;simp only[kbl,kxb] at hc;split at hc
  ·rename_i x' lo' hi' mx' hx h1 h2 h3;split at hc
   ·rename_i n e hu;split at hc
    ·rename_i sz hsz;cases hc;exact qog H db hr ho hu hsz hx h1 h2 h3 he
    ·cases hc
   ·rename_i e hu;split at hc
    ·rename_i sz hsz;cases hc;exact qoh H db hr ho hu hsz hx h1 h2 h3 he
    ·cases hc
   ·rename_i hu;split at hc
    ·rename_i hm;cases hc;cases mx with
     |none=>exact qoi H db hr ho hu hx h1 h2 he
     |some m=>simp at hm
    ·cases hc
   ·cases hc
  ·cases hc
 |fieldAddr t x f=>rw[ho] at hc;exact k8k H db hr ho hc he
 |field t x f=>rw[ho] at hc;exact k8u H db hr ho hc he
 |indexAddr t x i=>
  rw[ho] at hc;simp only[kbl] at hc;split at hc
  ·rename_i len e x' i' hu hx hi;cases hsz:szO P e with
   |none=>simp[hsz] at hc
   |some sz=>simp[hsz] at hc;subst hc;exact qah H db hr ho hu hx hi hsz he
  ·rename_i e x' i' hu hx hi;cases hsz:szO P e with
   |none=>simp[hsz] at hc
   |some sz=>simp[hsz] at hc;subst hc;exact qai H db hr ho hu hx hi hsz he
  ·cases hc
 |index t x i=>
  rw[ho] at hc;simp only[kbl] at hc;split at hc
  ·rename_i len e x' i' hu hx hi;split at hc
   ·rename_i g sz hg hsz;split at hc
    ·rename_i hgn;cases hc;exact qau H db hr ho hu hx hi hg hsz hgn he
    ·cases hc
   ·cases hc
  ·rename_i x' i' hu hx hi;cases hc;exact qav H db hr ho hu hx hi he
  ·cases hc
 |lookup t x i ok=>rw[ho] at hc;exact qbv H db hr ho hc he
 |mapUpdate t m k x=>
  rw[ho] at hc;simp only[kbl] at hc;split at hc
  ·rename_i kk kt et m' k' x' hkt hm hk hx;cases hc;exact kze H db hr (.inl ho) hkt hm hk hx he
  ·cases hc
 |mapEntry t m k=>rw[ho] at hc;cases hc
 |entryStore t m k x=>rw[ho] at hc;cases hc
 |range t x=>rw[ho] at hc;cases hc
 |next x b=>rw[ho] at hc;cases hc
 |entry x=>rw[ho] at hc;cases hc
 |typeAssert x t u ok=>rw[ho] at hc;cases hc
 |extract x i=>rw[ho] at hc;exact k8f H db hr ho hc he
 |call c=>
  rw[ho] at hc;simp only[kbl] at hc;split at hc
  ·rename_i as has;split at hc
   ·rename_i b hb;exact k6s H db hr hf ho hb has hc he
   ·rename_i f hb;split at hc
    ·cases hc;simp[opA] at he
    ·rename_i k hk;exact k8e H db hr ho hb hk has hc he
   ·rename_i f _ hb;cases hx:kar f with
    |none=>simp[hx] at hc
    |some y=>simp[hx] at hc;subst hc;simp[opA] at he
   ·cases hc
  ·cases hc
 |go c=>rw[ho] at hc;cases hc
 |defer c=>rw[ho] at hc;cases hc
 |panic x=>rw[ho] at hc;cases hc
 |send x y=>rw[ho] at hc;cases hc
 |recv t x ok=>rw[ho] at hc;cases hc
 |select cs b=>rw[ho] at hc;cases hc
end
end Go.Proofs.Hz
