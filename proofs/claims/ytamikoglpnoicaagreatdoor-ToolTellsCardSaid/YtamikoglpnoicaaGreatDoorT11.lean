/-
  Each operation: what the abstract evaluator says of it the machine does (eighth part: maps written, append, copy, bytes to a string).
  Conditions: none.
-/
import Derived.Test.YtamikoglpnoicaaGreatDoorT10
namespace Go.Proofs.Hz
open AO renaming ev->yah
open Go.Builtin renaming delete_->yad,copy_->yaf
open List renaming getElem?_eraseIdx->yab,length_eraseIdx->yae
open Nat renaming sub_zero->yag
open Option.some renaming injEq->yaa
open Prod.mk renaming injEq->yac
open Go.RowKit
section
variable {G:Gl} {C:CodeRel} {P:Program} {D D':Nat->Prop} {ρ ρ':Ren} {w w':World} {V V':Ids} {h h':T Blk} {s s':St} {a:Act}
def kc7 (w:World) (b:Nat) (o:Obj):World:={w with heap:=w.heap.setIfInBounds b o}
theorem kg7 {b:Nat} (hb:b<w.heap.size) (o:Obj):(kc7 w b o).heap[b]? =some o:=by simp[kc7,hb]
theorem kl9 {b c:Nat} (hc:c≠b) (o:Obj):(kc7 w b o).heap[c]? =w.heap[c]? :=by
 simp only[kc7];rw[Array.getElem?_setIfInBounds_ne (Ne.symm hc)]
theorem ko6 {b:Nat} {o o':Obj} (hb:w.heap[b]? =some o) (hn: ∀ c t f,o≠ .cells c t f):(setObj b o').run P w= .ok () (kc7 w b o'):=by
 simp only[setObj,Sem.run,hb];cases o <;> first |rfl |exact absurd rfl (hn _ _ _)
theorem kjn (H:HRel C D w V ρ h) (db: ∀ b,D b->b<w.heap.size) {id b:Nat} (hb:ρ id=some b) (hnD: ¬D b) {o:Obj} (ho:w.heap[b]? =some o) (hn: ∀ c t f,o≠ .cells c t f) (o':Obj) (hlp: ∀ r,o= .loop r-> ∃ r':Loop,o'= .loop r'/\r'.defers=r.defers) (k:Blk)
  (hk:Ext D ρ w V D ρ (kc7 w b o') V->BRel C D (kc7 w b o') V ρ b k):HRel C D (kc7 w b o') V ρ (h.put id (some k))/\Ext D ρ w V D ρ (kc7 w b o') V:=by
 have e:Ext D ρ w V D ρ (kc7 w b o') V:=Ext.upd hb hnD rfl rfl rfl (by simp[kc7]) (fun c hc=>kl9 hc o') (fun r t m hr=>by rw[ho] at hr;cases hr;exact absurd rfl (hn _ _ _)) (fun r hr=>by
  rw[ho] at hr;cases hr;obtain⟨r',h1,h2⟩:=hlp r rfl;exact⟨r',by rw[kg7 (Array.getElem?_eq_some_iff.1 ho).1,h1],h2⟩)
 exact⟨H.upd db hb e (fun c hc=>kl9 hc o') k (hk e),e⟩
theorem OpPost.set (db: ∀ b,D b->b<w.heap.size) {v:AV} {val:Value} {res:Result Next} {h':T Blk} (hres:res= .ok (.value val) w'\/(res= .ok .skip w'/\val=undef)) (hv:R D w' V ρ v val) (H':HRel C D w' V ρ h') (e:Ext D ρ w V D ρ w' V):
  OpPost C D ρ w V s {s with h:=h'} v res:=
 ⟨val,w',D,ρ,V,hres,hv,H',e,rfl,Nat.le_refl _,fun _ hi=> .inl hi,fun b hb=>Nat.lt_of_lt_of_le (db b hb) e.size⟩
theorem kze (H:HRel C D w V ρ s.h) (db: ∀ b,D b->b<w.heap.size) (hr:Regs D w V ρ s a) {o:Oper} {t:TypeId} {m k x:Operand} (ho:o.op= .mapUpdate t m k x\/o.op= .insert t m k x) {kk:Nat} {kt et:TypeId} (hkt:khq P t=some (kk,kt,et)) {m' k' x':AO} (hm:kar m=some m') (hk:kar k=some k') (hx:kar x=some x')
  {v:AV} (he:opA s (.mapup kk m' k' x')=some (v,s')):OpPost C D ρ w V s s' v ((execOp a.eval o).run P w):=by
 obtain⟨hu,hkd⟩:=krs hkt;obtain⟨d,hd⟩:=krt hkd;have hex: ∀ w',(Instr.mapUpdate t (a.eval m) (a.eval k) (a.eval x)).run P w= .ok () w'->(execOp a.eval o).run P w= .ok .skip w':=by
  intro w' hh;rcases ho with ho |ho <;> simp[execOp,ho,hh]
 simp only[opA] at he;split at he
 ·rename_i id e1;split at he
  ·rename_i es hge;split at he
   ·rename_i hok;have hRm:=ka8 hr hm;have hRk:=ka8 hr hk;have hRx:=ka8 hr hx;rw[e1] at hRm;generalize hxv:a.eval m=xv at hRm hex;generalize hkv:a.eval k=kv at hRk hex;generalize hvv:a.eval x=vv at hRx hex;cases hRm with
    | @mp _ _ _ r0 hid hr2=>
      obtain⟨b,hb,hB⟩:=H.bk id _ hge;obtain⟨hnD,ents,clock,k1,k2,k3⟩:=hB;have hrb:=hr2 b hb;subst hrb;have hblt:r0<w.heap.size:=(Array.getElem?_eq_some_iff.1 k1).1;have hE:kjr D w V ρ es ents.toList:=⟨by simpa using k2,fun j x hx=>by obtain⟨e,q⟩:=k3 j x hx;exact⟨e,by simpa using q⟩⟩;have hck:=kvu (P:=P) (w:=w) hkd hRk hok false 9999;have hget:(getObj r0).run P w= .ok (.map ents clock) w:=by simp[getObj,Sem.run,k1]
      have hnc: ∀ c t f,Obj.map ents clock≠ .cells c t f:=fun _ _ _ h=>by cases h
      cases hfa:kew (yah s k') es 0 with
      |none=>simp[hfa] at he
      |some r=>
       have hfo:=kq7 (P:=P) hd hkd hRk hok es ents.toList 0 r hE hfa;cases r with
       |none=>
        simp only[hfa,yaa,yac] at he;obtain⟨rfl,rfl⟩:=he;have hfk:=kkq (P:=P) (w:=w) hd hfo;obtain⟨H',e⟩:=kjn H db hb hnD k1 hnc (.map (ents.push {key:=kv,val:=vv,born:=clock}) (clock+1)) (fun _ h=>by cases h) (.map (es++[(yah s k',yah s x')])) (fun e=>by
         refine⟨hnD,_,_,kg7 hblt _,by simp[k2],fun j y hy=> ?_⟩;by_cases hj:j<es.length
         ·rw[List.getElem?_append_left hj] at hy;obtain⟨en,q1,q2,q3⟩:=k3 j y hy;exact⟨en,by rw[Array.getElem?_push,ir (by omega)];exact q1,q2.ext e db,q3.ext e db⟩
         ·rw[List.getElem?_append_right (by omega)] at hy;have hj0:j - es.length=0:=by
           have:=(List.getElem?_eq_some_iff.1 hy).1;simp at this;omega
          rw[hj0] at hy;simp at hy;subst hy;refine⟨{key:=kv,val:=vv,born:=clock},by rw[Array.getElem?_push,iq (by omega)],hRk.ext e db,hRx.ext e db⟩)
        refine OpPost.set db (.inr ⟨hex _ ?_,rfl⟩) kpg H' e;simp[Instr.mapUpdate,run_underlying hu,hget,hck,hfk,ko6 (P:=P) k1 hnc]
       |some jr=>
        obtain⟨j,av⟩:=jr;simp only[hfa,yaa,yac] at he;obtain⟨rfl,rfl⟩:=he;obtain⟨v',en,r1,_,r3,_,r5,r6⟩:=hfo;have hfk:=kkq (P:=P) (w:=w) hd r1;simp only[yag,Array.getElem?_toList] at r3;have hjlt:j<ents.size:=(Array.getElem?_eq_some_iff.1 r3).1;obtain⟨H',e⟩:=kjn H db hb hnD k1 hnc (.map (ents.modify j fun e=>{e with key:=kv,val:=vv}) clock) (fun _ h=>by cases h) (.map (es.set j (yah s k',yah s x'))) (fun e=>by
         refine⟨hnD,_,_,kg7 hblt _,by simp[k2],fun i y hy=> ?_⟩;rw[List.getElem?_set] at hy;by_cases hij:j=i
         ·subst hij;rw[iq rfl,iq (by omega)] at hy;cases hy;exact⟨{en with key:=kv,val:=vv},by rw[Array.getElem?_modify,iq rfl,r3];rfl,hRk.ext e db,hRx.ext e db⟩
         ·rw[ir hij] at hy;obtain⟨en',q1,q2,q3⟩:=k3 i y hy;exact⟨en',by rw[Array.getElem?_modify,ir hij];exact q1,q2.ext e db,q3.ext e db⟩)
        refine OpPost.set db (.inr ⟨hex _ ?_,rfl⟩) kpg H' e;simp[Instr.mapUpdate,run_underlying hu,hget,hck,hfk,r3,Instr.keyThatStays,r6,ko6 (P:=P) k1 hnc]
   ·cases he
  ·cases he
 ·cases he
theorem k7f (H:HRel C D w V ρ s.h) (db: ∀ b,D b->b<w.heap.size) {t:TypeId} {kk:Nat} {kt et:TypeId} (hkt:khq P t=some (kk,kt,et)) {m' k':AO} {mv kv:Value} (hRm:R D w V ρ (m'.ev s) mv) (hRk:R D w V ρ (k'.ev s) kv) {ts:Array TypeId} {ty:TypeId} (ht:ts[0]? =some t)
  {v:AV} (he:opA s (.del kk m' k')=some (v,s')): ∃ w' h',s'={s with h:=h'}/\v= .tup []/\(yad ts ty #[mv,kv]).run P w= .ok undef w'/\HRel C D w' V ρ h'/\Ext D ρ w V D ρ w' V:=by
 obtain⟨hu,hkd⟩:=krs hkt;obtain⟨d,hd⟩:=krt hkd;simp only[opA] at he;split at he
 ·rename_i id e1;split at he
  ·rename_i es hge;split at he
   ·rename_i hok;rw[e1] at hRm;cases hRm with
    | @mp _ _ _ r0 hid hr2=>
      obtain⟨b,hb,hB⟩:=H.bk id _ hge;obtain⟨hnD,ents,clock,k1,k2,k3⟩:=hB;have hrb:=hr2 b hb;subst hrb;have hblt:r0<w.heap.size:=(Array.getElem?_eq_some_iff.1 k1).1;have hE:kjr D w V ρ es ents.toList:=⟨by simpa using k2,fun j x hx=>by obtain⟨e,q⟩:=k3 j x hx;exact⟨e,by simpa using q⟩⟩;have hck:=kvu (P:=P) (w:=w) hkd hRk hok ents.isEmpty 9999;have hget:(getObj r0).run P w= .ok (.map ents clock) w:=by simp[getObj,Sem.run,k1]
      have hnc: ∀ c t f,Obj.map ents clock≠ .cells c t f:=fun _ _ _ h=>by cases h
      cases hfa:kew (yah s k') es 0 with
      |none=>simp[hfa] at he
      |some r=>
       have hfo:=kq7 (P:=P) hd hkd hRk hok es ents.toList 0 r hE hfa;cases r with
       |none=>
        simp only[hfa,yaa,yac] at he;obtain⟨rfl,rfl⟩:=he;have hfk:=kkq (P:=P) (w:=w) hd hfo;obtain⟨H',e⟩:=kjn H db hb hnD k1 hnc (.map ents clock) (fun _ h=>by cases h) (.map es) (fun e=>⟨hnD,ents,clock,kg7 hblt _,k2,fun j y hy=>by obtain⟨en,q1,q2,q3⟩:=k3 j y hy;exact⟨en,q1,q2.ext e db,q3.ext e db⟩⟩);have hsame:kc7 w r0 (.map ents clock)=w:=by
             unfold kc7;have:w.heap.setIfInBounds r0 (Obj.map ents clock)=w.heap:=by
              apply Array.ext_getElem?;intro i;rw[Array.getElem?_setIfInBounds];split
              ·rename_i hi;subst hi;exact k1.symm
              ·rfl
             rw[this]
        rw[hsame] at H' e;refine⟨w,s.h,rfl,rfl,?_,H,.refl _ _ _ _⟩;simp[yad,ht,run_underlying hu,hget,hck,hfk,ko6 (P:=P) k1 hnc,hsame,undef]
       |some jr=>
        obtain⟨j,av⟩:=jr;simp only[hfa,yaa,yac] at he;obtain⟨rfl,rfl⟩:=he;obtain⟨v',en,r1,_,r3,_,r5,r6⟩:=hfo;have hfk:=kkq (P:=P) (w:=w) hd r1;simp only[yag,Array.getElem?_toList] at r3;have hjlt:j<ents.size:=(Array.getElem?_eq_some_iff.1 r3).1;have her:(ents.eraseIdxIfInBounds j).toList=ents.toList.eraseIdx j:=by simp[Array.eraseIdxIfInBounds,hjlt]
        obtain⟨H',e⟩:=kjn H db hb hnD k1 hnc (.map (ents.eraseIdxIfInBounds j) clock) (fun _ h=>by cases h) (.map (es.eraseIdx j)) (fun e=>by
             refine⟨hnD,_,_,kg7 hblt _,?_,fun i y hy=> ?_⟩
             ·have:=congrArg List.length her;rw[Array.length_toList] at this;rw[this,yae,yae,Array.length_toList,k2]
             ·have hc: ∀ e0,(ents.eraseIdxIfInBounds j)[i]? =some e0↔(ents.toList.eraseIdx j)[i]? =some e0:=fun e0=>by rw[←her,Array.getElem?_toList]
              rw[yab] at hy;split at hy
              ·rename_i hi;obtain⟨en',q1,q2,q3⟩:=k3 i y hy;exact⟨en',by rw[hc,yab,iq hi,Array.getElem?_toList];exact q1,q2.ext e db,q3.ext e db⟩
              ·rename_i hi;obtain⟨en',q1,q2,q3⟩:=k3 _ y hy;exact⟨en',by rw[hc,yab,ir hi,Array.getElem?_toList];exact q1,q2.ext e db,q3.ext e db⟩)
        refine⟨_,_,rfl,rfl,?_,H',e⟩;simp[yad,ht,run_underlying hu,hget,hck,hfk,ko6 (P:=P) k1 hnc,undef]
   ·cases he
  ·cases he
 ·cases he
theorem k69 (H:HRel C D w V ρ s.h) (db: ∀ b,D b->b<w.heap.size) {t e:TypeId} {sz:Nat} (hel:elO P t=some e) (hsz:szO P e=some sz) {d' x':AO} {dv xv:Value} (hRd:R D w V ρ (d'.ev s) dv) (hRx:R D w V ρ (x'.ev s) xv) {ts:Array TypeId} {ty:TypeId} (ht:ts[0]? =some t)
  {v:AV} (he:opA s (.cpy sz d' x')=some (v,s')): ∃ u w' h',s'={s with h:=h'}/\(yaf ts ty #[dv,xv]).run P w= .ok u w'/\R D w' V ρ v u/\HRel C D w' V ρ h'/\Ext D ρ w V D ρ w' V:=by
 have hu:=kl8 hel;simp only[opA] at he;split at he
 ·rename_i n xs id off k z c hxe hde;split at he
  ·rename_i hz;subst hz;obtain⟨vs,q1,q2,q3,q4⟩:=kiu (P:=P) H hRx hxe;cases hw:wrH s.h id off (xs.take (min n k*z)) with
   |none=>simp[hw] at he
   |some h'=>
    simp only[hw,Option.map_some,yaa,yac] at he;obtain⟨rfl,rfl⟩:=he;rw[hde] at hRd;cases hRd with
    |sl hid hn hc ha=>
     rename_i ad cap;obtain⟨b,hb,hrun,H',ex⟩:=kwn (P:=P) H db hw (q2.take (min n k*z));have hf:=q4 (min n k) (Nat.min_le_left _ _);have hmin:Nat.min n k=min n k:=rfl;refine⟨goInt (min n k:Nat),_,h',rfl,?_,.int _ _,H',ex⟩;by_cases h0:min n k*z=0
     ·have hnil:vs.take (min n k*z)=[]:=by rw[h0];rfl
      rw[hnil] at hf hrun ⊢;have:(storeCells ad []).run P w= .ok () w:=rfl;simp[yaf,ht,run_underlying hu,q1,kcj hsz,hmin,hf,this,World.setCells]
     ·have had:ad=⟨b,off,none⟩:=by
       rcases ha b hb with hc0 | ⟨e2,_⟩
       ·exfalso;have:k=0:=by omega
        subst this;simp at h0
       ·exact e2
      subst had;simp[yaf,ht,run_underlying hu,q1,kcj hsz,hmin,hf,hrun]
  ·cases he
 ·cases he
end
end Go.Proofs.Hz
