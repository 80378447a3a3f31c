/-
  Each operation: what the abstract evaluator says of it the machine does (fifth part: building; memory made and written).
  Conditions: none.
-/
import Derived.Test.YtamikoglpnoicaaGreatDoorT09
import Derived.IntWalk
namespace Go.Proofs.Hz
open Go.Builtin renaming firstCells->yac,lenOf->yan
open List renaming getElem?_append_right->yaa,getElem?_append_left->yab,flatten_cons->yae,replicate->yaf,getElem?_take->yag,getElem?_eq_some_iff->yah,getElem?_eq_getElem->yaj,append_assoc->yak,mem_cons_of_mem->yam,mem_cons_self->yap,getElem?_drop->yaq,length_eq_zero_iff->yar,length_cons->yas,getElem?_eq_none->yat,replicate_succ->yav,length_flatten->yaw,getElem?_map->yax,length_take->ya2,take->ya4,map_cons->ya5
open Nat renaming le_refl->yao,mul_le_mul_right->yau,lt_succ_self->ya0,mod_eq_of_lt->ya1,lt_irrefl->ya6,succ_mul->ya8
open Option.some renaming injEq->yay,inj->ya3
open Prod.mk renaming injEq->ya7
open Ren renaming set_same->yaz
open Go.Result renaming andThen_ok->yad
open Go.Sem renaming run_bind->yai,run_pure->yal
open Go.RowKit
section
variable {G:Gl} {C:CodeRel} {P:Program} {D D':Nat->Prop} {ρ ρ':Ren} {w w':World} {V V':Ids} {h:T Blk} {s s':St} {a:Act}
theorem kx0 (hr:Regs D w V ρ s a) {f place:Nat->Option (Nat×Nat)} (hf: ∀ i,f i=place i): ∀ (ps:List (Nat×Operand)) (ps':List (Nat×Nat×AO)),kgr f ps=some ps'->
  ∀ (cs cs':List AV) (vs:Array Value),RL D w V ρ cs vs.toList->kfa cs (evp s ps')=some cs'-> ∃ vs',Instr.fill place vs (ps.map fun p=>(p.1,a.eval p.2))=some vs'/\RL D w V ρ cs' vs'.toList:=by
 intro ps
 induction ps with
 |nil=>
  intro ps' hp cs cs' vs hv he;cases hp;cases he;exact⟨vs,rfl,hv⟩
 |cons p ps ih=>
  intro ps' hp cs cs' vs hv he;unfold kgr mapO at hp;split at hp
  ·cases hp
  ·rename_i q hq;split at hp
   ·cases hp
   ·rename_i qs hqs;cases hp;split at hq
    ·rename_i off n x h1 h2;cases hq;simp only[evp,ya5,kfa] at he;split at he
     ·rename_i hc;obtain⟨hc1,hc2⟩:=hc;have hR:=(ka8 hr h2).cells;have hsz:(a.eval p.2).cells.size=n:=by have:=hR.1;simp at this;omega
      have hcs:cs.length=vs.size:=by simpa using hv.1
      have hpl:place p.1=some (off,n):=by rw[←hf];exact h1
      have hfold:((a.eval p.2).cells.zipIdx.foldl (fun cs (x:Value×Nat)=>cs.setIfInBounds (off+x.2) x.1) vs).toList=vs.toList.take off++(a.eval p.2).cells.toList++vs.toList.drop (off+(a.eval p.2).cells.toList.length):=by
       rw[←Array.foldl_toList,Array.toList_zipIdx];have:=k8w (a.eval p.2).cells.toList off 0 vs (by simp;omega);simpa using this
      have hv':=hv.splice hR off;rw[←hfold] at hv';obtain⟨vs',e1,e2⟩:=ih qs hqs _ cs' _ hv' he;refine⟨vs',?_,e2⟩;simp only[ya5,Instr.fill,hpl];rw[ir (by simp;omega)];exact e1
     ·cases he
    ·cases hq
theorem qbx {fs:List Field} (hall: ∀ f ∈ fs,(P.info? f.type).isSome=true):
  ∃ places:List (Nat×Nat),fs.mapM (fun(f:Field)=>(P.info? f.type).map fun i=>(f.offset,i.size))=some places/\ ∀ i:Nat,places[i]? =(match(fs[i]? :Option Field) with |some f=>(szO P f.type).map fun n=>(f.offset,n) |none=>none):=by
 induction fs with
 |nil=>exact⟨[],rfl,fun i=>by simp⟩
 |cons f fs ih=>
  obtain⟨pl,h1,h2⟩:=ih (fun g hg=>hall g (yam _ hg));obtain⟨i,hi⟩:=Option.isSome_iff_exists.1 (hall f (yap ..));refine⟨(f.offset,i.size)::pl,by simp[List.mapM_cons,hi,h1],fun j=> ?_⟩;cases j with
  |zero=>simp[szO,hi]
  |succ j=>simpa using h2 j
theorem k6r (H:HRel C D w V ρ s.h) (db: ∀ b,D b->b<w.heap.size) (hr:Regs D w V ρ s a) {o:Oper} {t:TypeId} {ps:Array (Nat×Operand)} (ho:o.op= .build t ps) {ao:AOp} (hc:kbl P (.build t ps)=some ao) {v:AV}
  (he:opA s ao=some (v,s')):OpPost C D ρ w V s s' v ((execOp a.eval o).run P w):=by
 simp only[kbl] at hc;have fin: ∀ {z:List AV} {ps':List (Nat×Nat×AO)} {place:Nat->Option (Nat×Nat)} {f:Nat->Option (Nat×Nat)},(∀ i,f i=place i)->zO P t=some z->kgr f ps.toList=some ps'->
   (∀ (zc:Value) (cells:Array Value),(zeroValue t).run P w= .ok zc w->mapO (kio P t) zc.cells.toList=some z->Instr.fill place zc.cells (ps.toList.map fun p=>(p.1,a.eval p.2))=some cells->P.built t (ps.toList.map fun p=>(p.1,a.eval p.2))=some cells)->
   opA s (.build z ps')=some (v,s')->OpPost C D ρ w V s s' v ((execOp a.eval o).run P w):=by
  intro z ps' place f hf hz hp hb he;simp only[opA] at he;cases hfi:kfa z (evp s ps') with
  |none=>simp[hfi] at he
  |some cs=>
   simp[hfi] at he;obtain⟨rfl,rfl⟩:=he;obtain⟨zc,hz1,hz2⟩:=kid hz w;obtain⟨vs',e1,e2⟩:=kx0 hr hf _ _ hp _ _ zc.cells (kf4 hz2) hfi;have hbuilt:=hb zc vs' hz1 hz2 e1;refine .same H db (val:= .agg vs') ?_ (by simpa using R.agg_mk e2);have:(ps.map fun(x:Nat×Operand)=>(x.1,a.eval x.2)).toList=ps.toList.map fun p=>(p.1,a.eval p.2):=by simp
   rw[←this] at hbuilt;simp only[execOp,ho,yai,run_build w t _ _ hbuilt,yad,yal]
 split at hc
 ·rename_i z fs hz hu;split at hc
  ·rename_i hall;cases hp:kgr (kq4 P fs) ps.toList with
   |none=>simp[hp] at hc
   |some ps'=>
    simp[hp] at hc;subst hc;obtain⟨pl,h1,h2⟩:=qbx (P:=P) (fs:=fs.toList) (fun f hf=>by
     have:=Array.all_eq_true'.1 hall f (by simpa using hf);exact this)
    refine fin (place:=(pl.toArray[·]?)) (fun i=> ?_) hz hp (fun zc cells hz1 hz2 hfl=> ?_) he
    ·simp only[kq4,List.getElem?_toArray,h2 i,Array.getElem?_toList];cases fs[i]? <;> rfl
    ·unfold zO at hz;cases hi:P.info? t with
     |none=>simp[hi] at hz
     |some it=>
      simp only[hi] at hz;cases hq:it.zero with
      |none=>simp[hq] at hz
      |some z0=>
       have hz0:z0=zc:=by
        simp[zeroValue,typeInfo,hi,hq] at hz1;exact hz1
       subst hz0;simp only[Program.built,hi,hu,hq,h1];exact hfl
  ·cases hc
 ·rename_i z n e hz hu;split at hc
  ·rename_i sz hsz;cases hp:kgr (fun i=>some (i*sz,sz)) ps.toList with
   |none=>simp[hp] at hc
   |some ps'=>
    simp[hp] at hc;subst hc;refine fin (place:=fun i=>some (i*sz,sz)) (fun i=>rfl) hz hp (fun zc cells hz1 hz2 hfl=> ?_) he;unfold zO at hz;cases hi:P.info? t with
    |none=>simp[hi] at hz
    |some it=>
     simp only[hi] at hz;cases hq:it.zero with
     |none=>simp[hq] at hz
     |some z0=>
      have hz0:z0=zc:=by
       simp[zeroValue,typeInfo,hi,hq] at hz1;exact hz1
      subst hz0;unfold szO at hsz;cases hie:P.info? e with
      |none=>simp[hie] at hsz
      |some ie=>
       simp[hie] at hsz;simp only[Program.built,hi,hu,hq,hie,hsz];exact hfl
  ·cases hc
 ·cases hc
theorem qdx (n:Nat):kr6 (0,0) n:=fun j _ h=>by simp at h
theorem kr5 (H:HRel C D w V ρ s.h) (db: ∀ b,D b->b<w.heap.size) (hf: ¬V s.nx) {cs:List AV} {vs:List Value} {real:Array Value} (hR:RL D w V ρ cs vs) (hle:cs.length<=real.size) (hreal: ∀ (j:Nat) (v:Value),vs[j]? =some v->real[j]? =some v) (ty:TypeId):
  HRel C D (w.alloc (.cells real ty)) (V.add s.nx) (ρ.set s.nx (some w.heap.size)) (s.new (.cells cs false ty)).h/\Ext D ρ w V D (ρ.set s.nx (some w.heap.size)) (w.alloc (.cells real ty)) (V.add s.nx):=by
 have e:Ext D ρ w V D (ρ.set s.nx (some w.heap.size)) (w.alloc (.cells real ty)) (V.add s.nx):=Ext.add hf _;refine⟨H.add db hf _ _ ⟨(fun h=>by cases h),(fun _ hd=>ya6 _ (db _ hd)),real,(0,0),kez w _,qdx _,hle,fun j x hx=> ?_⟩,e⟩;have hlt:j<vs.length:=by rw[←hR.1];exact(yah.1 hx).1
 have hv:=yaj hlt;exact⟨vs[j],hreal j _ hv,(hR.2 j x _ hx hv).ext e db⟩
theorem OpPost.made (H:HRel C D w V ρ s.h) (db: ∀ b,D b->b<w.heap.size) (hf: ¬V s.nx) {cs:List AV} {vs:List Value} {real:Array Value} (hR:RL D w V ρ cs vs) (hle:cs.length<=real.size) (hreal: ∀ (j:Nat) (v:Value),vs[j]? =some v->real[j]? =some v) (ty:TypeId) {v:AV} {val:Value} {w0:World} (hw0:Ext D ρ w0 V D ρ w V)
  {res:Result Next} (hres:res= .ok (.value val) (w.alloc (.cells real ty)))
  (hv:R D (w.alloc (.cells real ty)) (V.add s.nx) (ρ.set s.nx (some w.heap.size)) v val):OpPost C D ρ w0 V s (s.new (.cells cs false ty)) v res:=by
 obtain⟨h1,h2⟩:=kr5 (C:=C) (s:=s) H db hf hR hle hreal ty;refine⟨val,_,D,_,_,.inl hres,hv,h1,hw0.trans h2,rfl,Nat.le_succ _,fun i hi=> ?_,fun b hb=> ?_⟩
 ·rcases hi with hi |hi
  ·exact .inl hi
  ·subst hi;exact .inr ⟨yao _,ya0 _⟩
 ·have:=db b hb;simp;omega
theorem R.newPtr (w':World):R D w' (V.add s.nx) (ρ.set s.nx (some w.heap.size)) (.ptr s.nx 0) (.pointer (some ⟨w.heap.size,0,none⟩)):=
 .ptr (.inr rfl) fun b hb=>by rw[yaz] at hb;cases hb;rfl
theorem k50 (H:HRel C D w V ρ s.h) (db: ∀ b,D b->b<w.heap.size) (hf: ¬V s.nx) {o:Oper} {t:TypeId} (ho:o.op= .alloc t) {z:List AV} (hz:zO P t=some z):
  OpPost C D ρ w V s (s.new (.cells z false t)) (.ptr s.nx 0) ((execOp a.eval o).run P w):=by
 obtain⟨zc,hz1,hz2⟩:=kid hz w;refine .made H db hf (kf4 hz2) (real:=zc.cells) ?_ (fun j v hv=>by simpa using hv) t (.refl _ _ _ _) (val:= .pointer (some ⟨w.heap.size,0,none⟩)) ?_ (R.newPtr _)
 ·have:=(kf4 (D:=D) (w:=w) (V:=V) (ρ:=ρ) hz2).1;simp at this;omega
 ·simp[execOp,ho,Instr.alloc,hz1,newVar,newRow]
theorem k6p (H:HRel C D w V ρ s.h) (db: ∀ b,D b->b<w.heap.size) (hr:Regs D w V ρ s a) (hf: ¬V s.nx) {o:Oper} {t:TypeId} {x:Operand} (ho:o.op= .box t x) {x':AO} (hx:kar x=some x'):
  OpPost C D ρ w V s (s.new (.cells (x'.ev s).cells false t)) (.ptr s.nx 0) ((execOp a.eval o).run P w):=by
 have hR:=(ka8 hr hx).cells;refine .made H db hf hR (real:=(a.eval x).cells) ?_ (fun j v hv=>by simpa using hv) t (.refl _ _ _ _) (val:= .pointer (some ⟨w.heap.size,0,none⟩)) ?_ (R.newPtr _)
 ·have:=hR.1;simp at this;omega
 ·simp[execOp,ho,Instr.box,newVar,newRow]
theorem R.newSl {w':World} {n c sz:Nat} {k:Option Nat} {real:Array Value} {ty:TypeId} (hw:w'.heap[w.heap.size]? =some (.cells real ty)) (hn:n<=c) (hk: ∀ m,k=some m->c=m) (hsz:c*sz<=real.size):
  R D w' (V.add s.nx) (ρ.set s.nx (some w.heap.size)) (.sl s.nx 0 n sz k) (.slice (some ⟨w.heap.size,0,none⟩) n c):=
 .sl (.inr rfl) hn hk fun b hb=>by rw[yaz] at hb;cases hb;exact .inr ⟨rfl,real,ty,(0,0),hw,by omega⟩
theorem kwo (zero:Array Value) (n:Nat) (hz:0<zero.size):((Array.range (n*zero.size)).map fun i=>zero[i % zero.size]!).toList=(yaf n zero.toList).flatten:=by
 induction n with
 |zero=>simp
 |succ n ih=>
  rw[ya8];apply List.ext_getElem?;intro i;rw[List.replicate_succ',List.flatten_append,←ih];simp only[Array.toList_map,Array.toList_range,yae,List.flatten_nil,List.append_nil];by_cases hi:i<n*zero.size
  ·rw[yab (by simpa using hi)];simp[hi,show i<n*zero.size+zero.size by omega]
  ·rw[yaa (by simp;omega)];simp only[List.length_map,List.length_range];by_cases h2:i<n*zero.size+zero.size
   ·have hm:i % zero.size=i - n*zero.size:=by
     have:i=(i - n*zero.size)+n*zero.size:=by omega
     rw[this,Nat.add_mul_mod_self_right];simp only[Nat.add_sub_cancel];exact ya1 (by omega)
    simp only[yax,List.getElem?_range h2,Option.map_some,hm,Array.getElem?_toList];have:i - n*zero.size<zero.size:=by omega
    simp[this]
   ·rw[yat (by simp;omega),yat (by simp;omega)]
theorem RL.replicate {cs:List AV} {vs:List Value} (hR:RL D w V ρ cs vs): ∀ n,RL D w V ρ (yaf n cs).flatten (yaf n vs).flatten
 |0=> .nil
 |n+1=>by rw[yav,yav,yae,yae];exact hR.append (RL.replicate hR n)
theorem k6q (H:HRel C D w V ρ s.h) (db: ∀ b,D b->b<w.heap.size) (hr:Regs D w V ρ s a) (hf: ¬V s.nx) {o:Oper} {t:TypeId} {len:Nat} {ps:Array (Nat×Operand)} (ho:o.op= .buildSlice t len ps) {ao:AOp} (hc:kbl P (.buildSlice t len ps)=some ao) {v:AV}
  (he:opA s ao=some (v,s')):OpPost C D ρ w V s s' v ((execOp a.eval o).run P w):=by
 simp only[kbl] at hc;split at hc
 ·rename_i e hel;split at hc
  ·rename_i sz z hsz hz;split at hc
   ·rename_i hcond;obtain⟨c1,c2,c3⟩:=hcond;cases hp:kgr (fun i=>some (i*sz,sz)) ps.toList with
    |none=>simp[hp] at hc
    |some ps'=>
     simp[hp] at hc;subst hc;simp only[opA] at he;split at he
     ·cases he
     ·split at he
      ·rename_i cs hcs;split at he
       ·rename_i hone;cases he;have hu:=kl8 hel;obtain⟨zc,hz1,hz2⟩:=kid hz w;have hzl:=(kf4 (D:=D) (w:=w) (V:=V) (ρ:=ρ) hz2).1;have hzs:zc.cells.size=sz:=by simp at hzl;omega
        have hlen:(yaf len z).flatten.length=len*sz:=by simp[yaw,c2]
        have hdiv:(yaf len z).flatten.length / sz=len:=by rw[hlen];exact Nat.mul_div_cancel _ c3
        have hcells:RL D w V ρ (yaf len z).flatten ((Array.range (len*sz)).map fun i=>zc.cells[i % zc.cells.size]!).toList:=by
         rw[←hzs,kwo _ _ (by omega)];exact RL.replicate (kf4 hz2) len
        obtain⟨vs',e1,e2⟩:=kx0 (place:=fun i=>some (i*sz,sz)) hr (fun i=>rfl) _ _ hp _ _ _ hcells hcs;have hfillen:cs.length=len*sz:=by
         have: ∀ (l:List (Nat×Nat×AV)) (c c':List AV),kfa c l=some c'->c'.length=c.length:=by
          intro l
          induction l with
          |nil=>intro c c' h;cases h;rfl
          |cons p l ih=>
           intro c c' h;obtain⟨off,n,x⟩:=p;unfold kfa at h;split at h
           ·rename_i hh;rw[ih _ _ h];unfold splice;simp;omega
           ·cases h
         rw[this _ _ _ hcs,hlen]
        have hvs:vs'.size=len*sz:=by have:=e2.1;simp at this;omega
        rw[hdiv];refine .made H db hf e2 (real:=vs') (by omega) (fun j v hv=>by simpa using hv) e (.refl _ _ _ _) (val:= .slice (some ⟨w.heap.size,0,none⟩) len len) ?_ (R.newSl (kez w _) (yao _) (fun m hm=>ya3 hm) (by omega));have hne: ¬len*sz > 16777216:=by omega
        have hpl:(ps.map fun(x:Nat×Operand)=>(x.1,a.eval x.2)).toList=ps.toList.map fun p=>(p.1,a.eval p.2):=by simp
        by_cases h0:len*sz=0
        ·have hcl:((Array.range (len*sz)).map fun i=>(#[]:Array Value)[i % (#[]:Array Value).size]!)=((Array.range (len*sz)).map fun i=>zc.cells[i % zc.cells.size]!):=by rw[h0];simp
         rw[←hcl] at e1;simp only[execOp,ho,Instr.buildSlice,yai,run_underlying hu,yad,kcj hsz,Sem.run_ite,yal,h0,if_true,hpl];rw[h0] at e1;simp only[e1,newRow,yai,run_newObj,yad,yal];rfl
        ·simp only[execOp,ho,Instr.buildSlice,yai,run_underlying hu,yad,kcj hsz,Sem.run_ite,ir hne,yal,h0,if_false,hpl,hz1];simp only[e1,newRow,yai,run_newObj,yad,yal];rfl
       ·cases he
      ·cases he
   ·cases hc
  ·cases hc
 ·cases hc
end
open Go.RowKit
section
variable {G:Gl} {C:CodeRel} {P:Program} {D D':Nat->Prop} {ρ ρ':Ren} {w w':World} {V V':Ids} {h h':T Blk} {s s':St} {a:Act}
theorem kv0 (b:Nat): ∀ (vs:List Value) (o:Nat) (w:World),(w.setCells b o vs).os=w.os/\(w.setCells b o vs).tape=w.tape/\(w.setCells b o vs).output=w.output/\(w.setCells b o vs).heap.size=w.heap.size
 | [],_,_=>⟨rfl,rfl,rfl,rfl⟩
 |v::vs,o,w=>by
  obtain⟨h1,h2,h3,h4⟩:=kv0 b vs (o+1) (w.setCell ⟨b,o,none⟩ v);exact⟨h1,h2,h3,by rw[World.setCells,h4];simp⟩
theorem kma (b:Nat) {c:Nat} (hc:c≠b): ∀ (vs:List Value) (o:Nat) (w:World),(w.setCells b o vs).heap[c]? =w.heap[c]?
 | [],_,_=>rfl
 |v::vs,o,w=>by rw[World.setCells,kma b hc vs,heap_setCell_other _ _ _ _ hc]
theorem k90 (w:World) (b o:Nat) (v:Value) {real:Array Value} {ty:TypeId} {mk:Nat×Nat} (hb:w.heap[b]? =some (.cells real ty mk)):
  (w.setCell ⟨b,o,none⟩ v).heap[b]? =some (.cells (real.setIfInBounds o v) ty mk):=by
 simp[World.setCell,Array.getElem?_modify,hb]
theorem kvz (b:Nat) {ty:TypeId} {mk:Nat×Nat}: ∀ (vs:List Value) (o:Nat) (w:World) (real:Array Value),w.heap[b]? =some (.cells real ty mk)->o+vs.length<=real.size->
  ∃ real',(w.setCells b o vs).heap[b]? =some (.cells real' ty mk)/\real'.toList=real.toList.take o++vs++real.toList.drop (o+vs.length)
 | [],o,w,real,hb,hle=>⟨real,hb,by simp⟩
 |v::vs,o,w,real,hb,hle=>by
  simp only[yas] at hle;obtain⟨real',h1,h2⟩:=kvz b vs (o+1) (w.setCell ⟨b,o,none⟩ v) _ (k90 w b o v hb) (by simp;omega);refine⟨real',by rw[World.setCells];exact h1,?_⟩;rw[h2];have hlt:o<real.toList.length:=by rw[Array.length_toList];omega
  simp only[Array.toList_setIfInBounds,yas];rw[List.take_add_one,List.take_set_of_le (yao _),List.getElem?_set_self hlt,List.drop_set_of_lt (by omega)];simp[show o+1+vs.length=o+(vs.length+1) by omega]
theorem k4d {b off:Nat} {real:Array Value} {ty:TypeId} {mk:Nat×Nat} (hb:w.heap[b]? =some (.cells real ty mk)) (hm:kr6 mk real.size) {vs:List Value} (hle:off+vs.length<=real.size) (h1: ∀ v ∈ vs,v.oneCell'=true):
  (storeCells ⟨b,off,none⟩ vs).run P w= .ok () (w.setCells b off vs):=by
 have:=run_storeCells_cells (P:=P) b off vs 0 w (fun j hj=>by
  have:off+j<real.size:=by omega
  simp[World.cell?,hb,this]) (fun j hj=>by
  have:=hm (off+j) (by omega);simp only[World.frozen?,hb,Nat.add_zero];simp;intro h;exact Nat.le_of_not_lt fun h2=>this ⟨h,h2⟩) h1
 simpa using this
theorem kwn (H:HRel C D w V ρ h) (db: ∀ b,D b->b<w.heap.size) {id off:Nat} {xs:List AV} (hw:wrH h id off xs=some h') {vs:List Value} (hR:RL D w V ρ xs vs):
  ∃ b,ρ id=some b/\(storeCells ⟨b,off,none⟩ vs).run P w= .ok () (w.setCells b off vs)/\HRel C D (w.setCells b off vs) V ρ h'/\Ext D ρ w V D ρ (w.setCells b off vs) V:=by
 unfold wrH at hw;split at hw
 ·rename_i cs ty hg;split at hw
  ·rename_i hc;cases hw;obtain⟨hc1,hc2⟩:=hc;obtain⟨b,hb,hB⟩:=H.bk id _ hg;obtain⟨_,hnd,real,mk,k1,k2,k3,k4⟩:=hB;have hnD:=hnd rfl;have hvl:vs.length=xs.length:=hR.1.symm;obtain⟨m1,m2,m3,m4⟩:=kv0 b vs off w;obtain⟨real',q1,q2⟩:=kvz b vs off w real k1 (by omega);have hsz:real'.size=real.size:=by
    have:=congrArg List.length q2;simp at this;omega
   have e:Ext D ρ w V D ρ (w.setCells b off vs) V:=Ext.upd hb hnD m1 m2 m3 m4 (fun c hc=>kma b hc vs off w) (fun r t m hr=>by
    rw[k1] at hr;cases hr;exact⟨real',_,q1,hsz⟩) (fun r hr=>by rw[k1] at hr;cases hr)
   refine⟨b,hb,k4d k1 k2 (by omega) (hR.one hc2),H.upd db hb e (fun c hc=>kma b hc vs off w) _ ?_,e⟩;refine⟨(fun h=>by cases h),(fun _=>hnD),real',mk,q1,by rw[hsz];exact k2,?_,fun j x hx=> ?_⟩
   ·unfold splice;simp;omega
   ·unfold splice at hx;have hget: ∀ v,real'[j]? =some v↔real'.toList[j]? =some v:=fun v=>by rw[Array.getElem?_toList]
    by_cases hj1:j<off
    ·rw[yak,yab (by simp;omega),yag,iq hj1] at hx;obtain⟨v,hv,hr⟩:=k4 j x hx;refine⟨v,?_,hr.ext e db⟩;rw[hget,q2,yak,yab (by simp;have:=(Array.getElem?_eq_some_iff.1 hv).1;omega),yag,iq hj1,Array.getElem?_toList];exact hv
    ·by_cases hj2:j<off+xs.length
     ·rw[yak,yaa (by simp;omega),yab (by simp;omega)] at hx;have htl:(ya4 off cs).length=off:=by simp;omega
      rw[htl] at hx;have hlt:j - off<vs.length:=by omega
      refine⟨vs[j - off],?_,(hR.2 _ x _ hx (yaj hlt)).ext e db⟩;rw[hget,q2,yak,yaa (by simp;omega)];have htl2:(ya4 off real.toList).length=off:=by simp;omega
      rw[htl2,yab hlt,yaj hlt]
     ·rw[yaa (by simp;omega),yaq] at hx;have hll:(ya4 off cs++xs).length=off+xs.length:=by simp;omega
      rw[hll,show off+xs.length+(j - (off+xs.length))=j by omega] at hx;obtain⟨v,hv,hr⟩:=k4 j x hx;refine⟨v,?_,hr.ext e db⟩;have hll2:(ya4 off real.toList++vs).length=off+vs.length:=by simp;omega
      rw[hget,q2,yaa (by rw[hll2];omega),hll2,yaq,show off+vs.length+(j - (off+vs.length))=j by omega,Array.getElem?_toList];exact hv
  ·cases hw
 ·cases hw
theorem kpg:R D w V ρ (.tup []) undef:=R.tup_mk (vs:=[]) .nil
theorem qo2 (H:HRel C D w V ρ s.h) (db: ∀ b,D b->b<w.heap.size) (hr:Regs D w V ρ s a) {o:Oper} {t:TypeId} {x y:Operand} (ho:o.op= .store t x y) {ao:AOp} (hc:kbl P (.store t x y)=some ao) {v:AV}
  (he:opA s ao=some (v,s')):OpPost C D ρ w V s s' v ((execOp a.eval o).run P w):=by
 simp only[kbl] at hc;split at hc
 ·rename_i n x' y' hn hx hy;cases hc;simp only[opA] at he;split at he
  ·rename_i hlen;have hRx:=ka8 hr hx;have hRy:=(ka8 hr hy).cells;generalize hxv:a.eval x=xv at hRx;generalize hxa:x'.ev s=xa at hRx he;unfold wrA at he;split at he
   ·rename_i id off;cases hw:wrH s.h id off (y'.ev s).cells with
    |none=>simp[hw] at he
    |some h'=>
     simp[hw] at he;obtain⟨rfl,rfl⟩:=he;cases hRx with
     |ptr hid ha=>
      rename_i ad;obtain⟨b,hb,hrun,H',e⟩:=kwn (P:=P) H db hw hRy;have:=ha b hb;subst this;refine⟨undef,_,D,ρ,V,.inr ⟨?_,rfl⟩,kpg,H',e,rfl,yao _,fun i hi=> .inl hi,fun c hc=>Nat.lt_of_lt_of_le (db c hc) e.size⟩;have hsz:(a.eval y).cells.size=n:=by have:=hRy.1;simp at this;omega
      simp[execOp,ho,hxv,Instr.storeAt,Instr.sureAddr,storeVar,kcj hn,hsz,hrun]
   ·simp at he
  ·cases he
 ·cases hc
theorem kiu (H:HRel C D w V ρ h) {x:AV} {v:Value} (hR:R D w V ρ x v) {sz n:Nat} {xs:List AV} (he:kbn h sz x=some (n,xs)):
  ∃ vs,(yan v).run P w= .ok n w/\RL D w V ρ xs vs/\xs.length=n*sz/\ ∀ m,m<=n->(yac sz m v).run P w= .ok (vs.take (m*sz)).toArray w:=by
 unfold kbn at he;split at he
 ·rename_i els cl;split at he
  ·rename_i hall;cases he;have hall': ∀ e ∈ els,e.length=sz:=fun e he=>by simpa using List.all_eq_true.1 hall e he
   have hfl:els.flatten.length=els.length*sz:=by
    clear hall hR
    induction els with
    |nil=>simp
    |cons e els ih=>rw[yae,List.length_append,hall' e (yap ..),ih (fun e he=>hall' e (yam _ he)),yas,ya8];omega
   cases hR with
   |imn hc ha=>
    rename_i ad cap;refine⟨[],by simp[yan],.nil,by simp,fun m hm=> ?_⟩;have hm0:m=0:=by simpa using hm
    subst hm0;cases ad with
    |none=>simp[yac]
    |some ad=>simp[yac,loadCells,loadCellsFrom]
   | @im _ _ _ _ b o' sz' cap c hn' hcl hD hl hc' h1=>
     by_cases hne:els=[]
     ·subst hne;refine⟨[],by simp[yan],.nil,by simp,fun m hm=> ?_⟩;have hm0:m=0:=by simpa using hm
      subst hm0;simp[yac,loadCells,loadCellsFrom]
     ·have hsz':sz'=sz:=by
       obtain⟨e0,he0⟩:=List.exists_mem_of_ne_nil els hne;rw[←hl e0 he0];exact hall' e0 he0
      subst hsz';have flat: ∀ (k:Nat) (l:List (List AV)),(∀ e ∈ l,e.length=sz')-> ∀ (i:Nat) (x:AV),l.flatten[i]? =some x-> ∃ e,l[i / sz']? =some e/\e[i % sz']? =some x:=by
       intro k l hl i x hx
       induction l generalizing i with
       |nil=>simp at hx
       |cons e l ih=>
        have hle:=hl e (yap ..);rw[yae] at hx;have hs0:0<sz':=by
         refine Nat.pos_of_ne_zero fun h0=> ?_
         have hz:(e++l.flatten)=[]:=by
             have: ∀ e' ∈ e::l,e'=[]:=fun e' he'=>yar.1 (by rw[hl e' he',h0])
             rw[←yae];exact List.flatten_eq_nil_iff.2 this
         rw[hz] at hx;simp at hx
        by_cases hi:i<sz'
        ·rw[yab (by omega)] at hx;exact⟨e,by rw[Nat.div_eq_of_lt hi];rfl,by rw[ya1 hi];exact hx⟩
        ·rw[yaa (by omega),hle] at hx;obtain⟨e',h1,h2⟩:=ih (fun e he=>hl e (yam _ he)) (i - sz') hx;refine⟨e',?_,?_⟩
         ·have:i / sz'=(i - sz') / sz'+1:=by
           rw[←Nat.add_div_right _ hs0,Nat.sub_add_cancel (by omega)]
          rw[this];exact h1
         ·have:i % sz'=(i - sz') % sz':=by
           rw[←Nat.mod_eq_sub_mod (by omega)]
          rw[this];exact h2
      obtain⟨vs,r1,r2⟩:=kjv (A:=fun j u=>w.cell? ⟨b,o'+j,none⟩=some u) els.flatten (D:=D) (w:=w) (V:=V) (ρ:=ρ) (fun j x hx=>by
       obtain⟨e,e1,e2⟩:=flat 0 els hall' j x hx;have hlt:=(yah.1 e1).1;have hlt2:=(yah.1 e2).1;rw[hall' e (List.mem_of_getElem? e1)] at hlt2;refine⟨c (j / sz') (j % sz'),?_,(h1 _ _ _ _ e1 e2).any⟩;have:=hc' _ _ hlt hlt2;rw[Nat.div_add_mod'] at this;exact this)
      refine⟨vs,by simp[yan],r1,hfl,fun m hm=> ?_⟩;have hvl:vs.length=els.length*sz':=by rw[←r1.1,hfl]
      have hml:(vs.take (m*sz')).length=m*sz':=by
       rw[ya2];have:m*sz'<=els.length*sz':=yau _ hm;omega
      have hl2:=run_loadCells_list (P:=P) w ⟨b,o',none⟩ (vs.take (m*sz')) (fun j v hv=>by
       rw[kdj];rw[yag] at hv;split at hv
       ·exact r2 j v hv
       ·cases hv)
      rw[hml] at hl2;simp[yac,hl2]
  ·cases he
 ·rename_i id off k z c;split at he
  ·rename_i hz;subst hz;split at he
   ·rename_i cs fz ty hg;cases hrd:kb2 cs off (k*z) with
    |none=>simp[hrd] at he
    |some l=>
     simp[hrd] at he;obtain⟨rfl,rfl⟩:=he;obtain⟨hle,rfl,hll⟩:=kko hrd;obtain⟨b,hb,hB⟩:=H.bk id _ hg;cases hR with
     |sl hid hn hc ha=>
      rename_i ad cap;obtain⟨vs,r1,r2⟩:=kjv (A:=fun j u=>w.cell? ⟨b,off+j,none⟩=some u) ((cs.drop off).take (k*z)) (D:=D) (w:=w) (V:=V) (ρ:=ρ) (fun j y hy=>by
       rw[yag] at hy;split at hy
       ·rw[yaq] at hy;exact hB.cell hy
       ·cases hy)
      refine⟨vs,by simp[yan],r1,hll,fun m hm=> ?_⟩;have hvl:vs.length=k*z:=by rw[←r1.1,hll]
      have hml:(vs.take (m*z)).length=m*z:=by
       rw[ya2];have:m*z<=k*z:=yau _ hm;omega
      by_cases h0:m*z=0
      ·simp[yac,loadCells,loadCellsFrom,h0]
      ·have had:ad=⟨b,off,none⟩:=by
        rcases ha b hb with hc0 | ⟨e,_⟩
        ·have:m=0:=by omega
         subst this;simp at h0
        ·exact e
       subst had;have hl2:=run_loadCells_list (P:=P) w ⟨b,off,none⟩ (vs.take (m*z)) (fun j v hv=>by
        rw[kdj];rw[yag] at hv;split at hv
        ·exact r2 j v hv
        ·cases hv)
       rw[hml] at hl2;simp[yac,hl2]
   ·cases he
  ·cases he
 ·rename_i b;split at he
  ·rename_i hz;subst hz;cases he;cases hR with
   |str sx hsx=>
    subst hsx;refine⟨sx.data.toList.map fun b=>Value.int .u8 b.toNat,rfl,⟨by simp,fun j x v hx hv=> ?_⟩,by simp,fun m hm=> ?_⟩
    ·rw[yax] at hx hv;cases hq:sx.data.toList[j]? with
     |none=>simp[hq] at hx
     |some q=>simp[hq] at hx hv;subst hx;subst hv;exact .int _ _
    ·simp only[yac,yal,Nat.mul_one];congr 1;apply Array.ext';simp[ByteArray.data_extract,Array.toList_extract,List.extract_eq_take_drop]
  ·cases he
 ·cases he
end
open Go.RowKit
section
variable {G:Gl} {C:CodeRel} {P:Program} {D D':Nat->Prop} {ρ ρ':Ren} {w w':World} {V V':Ids} {h h':T Blk} {s s':St} {a:Act}
theorem ko7 {t:TypeId} {n:Nat} (hn:byO P t=some n) (w:World): ∃ i,(typeInfo t).run P w= .ok i w/\i.bytes=n:=by
 unfold byO at hn;cases hi:P.info? t with
 |none=>simp[hi] at hn
 |some i=>simp[hi] at hn;exact⟨i,by simp[typeInfo,hi],hn⟩
theorem qn4 {t:TypeId} {z:AV} (hz:zvO P t=some z) (w0:World): ∃ zc:Value,(zeroValue t).run P w0= .ok zc w0/\R D w V ρ z zc:=by
 unfold zvO at hz;cases hi:P.info? t with
 |none=>simp[hi] at hz
 |some i=>
  simp only[hi] at hz;cases hq:i.zero with
  |none=>simp[hq] at hz
  |some z=>simp only[hq] at hz;exact⟨z,by simp[zeroValue,typeInfo,hi,hq],kwu hz⟩
theorem k5h {n:Int} (h0:0<=n) (h1:n<=140737488355328):IntKind.i64.wrap n=n:=IntWalk.i64_in _ (by omega)
theorem qb8 (H:HRel C D w V ρ s.h) (db: ∀ b,D b->b<w.heap.size) (hr:Regs D w V ρ s a) (hf: ¬V s.nx) {o:Oper} {t:TypeId} {l c:Operand} (ho:o.op= .makeSlice t l c) {ao:AOp} (hc:kbl P (.makeSlice t l c)=some ao) {v:AV}
  (he:opA s ao=some (v,s')):OpPost C D ρ w V s s' v ((execOp a.eval o).run P w):=by
 simp only[kbl] at hc;split at hc
 ·rename_i e hel;split at hc
  ·rename_i sz by_ z l' c' hsz hby hz hl hcc;cases hc;simp only[opA] at he;split at he
   ·rename_i l0 c0 hl0 hc0;split at he
    ·rename_i hcond;obtain⟨c1,c2,c3,c4,c5,c6⟩:=hcond;cases he;have hu:=kl8 hel;obtain⟨zc,hz1,hz2⟩:=kid hz w;obtain⟨i,hi1,hi2⟩:=ko7 hby w;have hzl:=(kf4 (D:=D) (w:=w) (V:=V) (ρ:=ρ) hz2).1;have hzs:zc.cells.size=sz:=by simp at hzl;omega
     obtain⟨k1,q1,e1,p1,r1⟩:=kja (ka8 hr hl) hl0;obtain⟨k2,q2,e2,p2,r2⟩:=kja (ka8 hr hcc) hc0;unfold kaq at c2 c3;have w1:IntKind.i64.wrap q1=q1:=k5h p1 (by omega);have w2:IntKind.i64.wrap q2=q2:=k5h p2 (by omega);have hreal:((Array.range (c0*sz)).map fun i=>zc.cells[i % zc.cells.size]!).toList=(yaf c0 zc.cells.toList).flatten:=by
      rw[←hzs];exact kwo _ _ (by omega)
     refine .made H db hf (RL.replicate (kf4 hz2) c0) (real:=(Array.range (c0*sz)).map fun i=>zc.cells[i % zc.cells.size]!) ?_ (fun j v hv=> ?_) e (.refl _ _ _ _) (val:= .slice (some ⟨w.heap.size,0,none⟩) l0 c0) ?_ (R.newSl (kez w _) c1 (fun m hm=>ya3 hm) (by simp))
     ·simp[yaw,c4]
     ·rw[←hreal,Array.getElem?_toList] at hv;exact hv
     ·have hby2:((by_:Nat):Int)*q2<=140737488355328:=by
       have:(by_:Int)*q2=((c0*by_:Nat):Int):=by
        rw[←r2];push_cast;rw[Int.toNat_of_nonneg p2,Int.mul_comm]
       rw[this];omega
      have hne: ¬(((decide (q2<0) || decide ((i.bytes:Int)*q2 > 2 ^ 48)) || decide (q1<0) || decide (q1 > q2))=true):=by
       rw[hi2];simp;omega
      by_cases h0:c0*sz=0
      ·have hc00:c0=0:=by
        rcases Nat.mul_eq_zero.1 h0 with h |h
        ·exact h
        ·omega
       subst hc00;have hq2:q2=0:=by omega
       have hq1:q1=0:=by omega
       subst hq2;subst hq1;simp[execOp,ho,Instr.makeSlice,run_underlying hu,asInt,asIntOf,e1,e2,hi1,kcj hsz,newRow,w1];have hl00:l0=0:=by omega
       subst hl00;have hz0: ∀ f:Nat->Value,Array.map f (Array.range 0)= #[]:=fun f=>by apply Array.ext';simp
       exact⟨rfl,by rw[hz0,hz0]⟩
      ·simp[execOp,ho,Instr.makeSlice,run_underlying hu,asInt,asIntOf,e1,e2,hi1,kcj hsz,newRow,w1,w2];rw[ir (by rw[hi2];omega)];simp[r2,r1,h0,hz1]
    ·cases he
   ·cases he
  ·cases hc
 ·cases hc
theorem qb7 (H:HRel C D w V ρ s.h) (db: ∀ b,D b->b<w.heap.size) (hf: ¬V s.nx) {o:Oper} {t:TypeId} {r:Option Operand} (ho:o.op= .makeMap t r) {ao:AOp} (hc:kbl P (.makeMap t r)=some ao) {v:AV}
  (he:opA s ao=some (v,s')):OpPost C D ρ w V s s' v ((execOp a.eval o).run P w):=by
 have fin: ∀ (hrun:(execOp a.eval o).run P w= .ok (.value (.map (some w.heap.size))) (w.alloc (.map #[] 0))),OpPost C D ρ w V s (s.new (.map [])) (.mp s.nx) ((execOp a.eval o).run P w):=by
  intro hrun;have e:Ext D ρ w V D (ρ.set s.nx (some w.heap.size)) (w.alloc (.map #[] 0)) (V.add s.nx):=Ext.add hf _;refine⟨.map (some w.heap.size),_,D,_,_,.inl hrun,.mp (.inr rfl) fun b hb=> ?_,H.add db hf _ _ ⟨(fun hd=>ya6 _ (db _ hd)),#[],0,kez w _,rfl,fun j x hx=>by simp at hx⟩,e,rfl,Nat.le_succ _,fun i hi=> ?_,fun b hb=> ?_⟩
  ·rw[yaz] at hb;cases hb;rfl
  ·rcases hi with hi |hi
   ·exact .inl hi
   ·subst hi;exact .inr ⟨yao _,ya0 _⟩
  ·have:=db b hb;simp;omega
 simp only[kbl] at hc;split at hc
 ·cases hc;simp only[opA] at he;cases he;exact fin (by simp[execOp,ho,Instr.makeMap])
 ·rename_i hu;cases hc;simp only[opA] at he;cases he;exact fin (by simp[execOp,ho,Instr.makeMap,run_underlying hu,Act.eval,asInt,asIntOf])
 ·cases hc
theorem krs {t:TypeId} {kk:Nat} {kt et:TypeId} (hk:khq P t=some (kk,kt,et)):P.underlying t=some (.map kt et)/\((kk=0/\ ∃ k,P.underlying kt=some (.int k))\/(kk=1/\P.underlying kt=some .string)):=by
 unfold khq at hk;split at hk
 ·rename_i kt' et' hu;split at hk
  ·rename_i k hk2;cases hk;exact⟨hu,.inl ⟨rfl,k,hk2⟩⟩
  ·rename_i hk2;cases hk;exact⟨hu,.inr ⟨rfl,hk2⟩⟩
  ·cases hk
 ·cases hk
theorem kvu {kk:Nat} {kt:TypeId} (hk:(kk=0/\ ∃ k,P.underlying kt=some (.int k))\/(kk=1/\P.underlying kt=some .string)) {x:AV} {v:Value} (hR:R D w V ρ x v) (hok:ke2 kk x=true) (em:Bool) (n:Nat):
  (Instr.checkKey em (n+1) kt v).run P w= .ok () w:=by
 rcases hk with⟨rfl,k,hk⟩ | ⟨rfl,hk⟩
 ·cases x <;> first |(simp[ke2] at hok;done) |(cases hR;simp only[Instr.checkKey,yai,run_underlying hk,yad];rfl)
 ·cases x <;> first |(simp[ke2] at hok;done) |(cases hR;simp only[Instr.checkKey,yai,run_underlying hk,yad];rfl)
theorem k4f {kk:Nat} {kt:TypeId} {d:TypeDesc} (hd:P.underlying kt=some d) (hk:(kk=0/\ ∃ k,P.underlying kt=some (.int k))\/(kk=1/\P.underlying kt=some .string)) {x y:AV} {u v:Value} (hx:R D w V ρ x u) (hy:R D w V ρ y v) (hok:ke2 kk x=true) {b:Bool} (hb:kkc x y=some b):
  Instr.sameNow d u v=some b/\(b=true->Instr.sameBits 10000 v u=true):=by
 unfold kkc at hb;split at hb
 ·rename_i k p k' q;split at hb
  ·rename_i hkk;subst hkk;cases hb;cases hx;cases hy;rcases hk with⟨rfl,k0,hk⟩ | ⟨rfl,hk⟩
   ·rw[hk] at hd;cases hd;refine⟨by simp[Instr.sameNow],fun h=> ?_⟩;have:p=q:=by simpa using h
    subst this;simp[Instr.sameBits]
   ·simp[ke2] at hok
  ·cases hb
 ·rename_i p q;cases hb;cases hx with
  |str sp hp=>cases hy with
   |str sq hq=>
    rcases hk with⟨rfl,k0,hk⟩ | ⟨rfl,hk⟩
    ·simp[ke2] at hok
    ·rw[hk] at hd;cases hd;have e:(sp == sq)=(p == q):=by rw[beq_toListBytes,kjp,kjp,hp,hq]
     refine⟨by simp[Instr.sameNow,e],fun h=> ?_⟩;have e2:(sq == sp)=(q == p):=by rw[beq_toListBytes,kjp,kjp,hp,hq]
     have hpq:p=q:=by simpa using h
     show(sq == sp)=true;rw[e2,hpq];simp
 ·cases hb
def kjr (D:Nat->Prop) (w:World) (V:Ids) (ρ:Ren) (es:List (AV×AV)) (ents:List MapEntry):Prop:=
 ents.length=es.length/\ ∀ (j:Nat) (x:AV×AV),es[j]? =some x-> ∃ e:MapEntry,ents[j]? =some e/\R D w V ρ x.1 e.key/\R D w V ρ x.2 e.val
theorem kq7 {kk:Nat} {kt:TypeId} {d:TypeDesc} (hd:P.underlying kt=some d) (hk:(kk=0/\ ∃ k,P.underlying kt=some (.int k))\/(kk=1/\P.underlying kt=some .string)) {x:AV} {u:Value} (hx:R D w V ρ x u) (hok:ke2 kk x=true):
  ∀ (es:List (AV×AV)) (ents:List MapEntry) (i:Nat) (r:Option (Nat×AV)),kjr D w V ρ es ents->kew x es i=some r->
   match r with
   |none=>Instr.findNow d u ents i=some none
   |some (j,av)=>∃ v e,Instr.findNow d u ents i=some (some (j,v))/\i<=j/\ents[j - i]? =some e/\v=e.val/\R D w V ρ av v/\Instr.sameBits 10000 e.key u=true:=by
 intro es
 induction es with
 |nil=>
  intro ents i r hE hf;cases hf;have:ents=[]:=yar.1 hE.1;subst this;rfl
 |cons p es ih=>
  intro ents i r hE hf;obtain⟨y,av⟩:=p;cases ents with
  |nil=>simp[kjr] at hE
  |cons e ents=>
   obtain⟨hl,hE⟩:=hE;obtain⟨e',h1,h2,h3⟩:=hE 0 (y,av) rfl;simp at h1;subst h1;have hE':kjr D w V ρ es ents:=⟨by simpa using hl,fun j x hx=>hE (j+1) x (by simpa using hx)⟩;unfold kew at hf;split at hf
   ·rename_i hb;cases hf;obtain⟨q1,q2⟩:=k4f hd hk hx h2 hok hb;exact⟨e.val,e,by simp[Instr.findNow,q1],yao _,by simp,rfl,h3,q2 rfl⟩
   ·rename_i hb;obtain⟨q1,_⟩:=k4f hd hk hx h2 hok hb;have:=ih ents (i+1) r hE' hf;cases r with
    |none=>simp only[Instr.findNow,q1];exact this
    |some jr=>
     obtain⟨j,av'⟩:=jr;obtain⟨v,e',r1,r2,r3,r4,r5,r6⟩:=this;refine⟨v,e',by simp only[Instr.findNow,q1];exact r1,by omega,?_,r4,r5,r6⟩;rw[show j - i=(j - (i+1))+1 by omega];simpa using r3
   ·cases hf
theorem kkq {kt:TypeId} {d:TypeDesc} (hd:P.underlying kt=some d) {u:Value} {ents:List MapEntry} {r:Option (Nat×Value)} (h:Instr.findNow d u ents 0=some r):(Instr.findKey kt u ents).run P w= .ok r w:=by
 simp[Instr.findKey,run_underlying hd,h]
theorem krt {kk:Nat} {kt:TypeId} (hk:(kk=0/\ ∃ k,P.underlying kt=some (.int k))\/(kk=1/\P.underlying kt=some .string)): ∃ d,P.underlying kt=some d:=by
 rcases hk with⟨_,k,h⟩ | ⟨_,h⟩
 ·exact⟨_,h⟩
 ·exact⟨_,h⟩
theorem qbv (H:HRel C D w V ρ s.h) (db: ∀ b,D b->b<w.heap.size) (hr:Regs D w V ρ s a) {o:Oper} {t:TypeId} {x i:Operand} {ok:Bool} (ho:o.op= .lookup t x i ok) {ao:AOp} (hc:kbl P (.lookup t x i ok)=some ao) {v:AV}
  (he:opA s ao=some (v,s')):OpPost C D ρ w V s s' v ((execOp a.eval o).run P w):=by
 simp only[kbl] at hc;split at hc
 ·rename_i kk kt et m k hkt hm hk;cases hz:zvO P et with
  |none=>simp[hz] at hc
  |some z=>
   simp[hz] at hc;subst hc;obtain⟨hu,hkd⟩:=krs hkt;obtain⟨d,hd⟩:=krt hkd;obtain⟨zval,hzr,hzR⟩:=qn4 (D:=D) (w:=w) (V:=V) (ρ:=ρ) hz w;simp only[opA] at he;split at he
   ·rename_i id e1;split at he
    ·rename_i es hge;split at he
     ·rename_i hok;have hRm:=ka8 hr hm;have hRk:=ka8 hr hk;rw[e1] at hRm;generalize hxv:a.eval x=xv at hRm;generalize hkv:a.eval i=kv at hRk;cases hRm with
      |mp hid hr2=>
       obtain⟨b,hb,hB⟩:=H.bk id _ hge;obtain⟨_,ents,clock,k1,k2,k3⟩:=hB;have hrb:=hr2 b hb;rw[hrb] at hxv;have hE:kjr D w V ρ es ents.toList:=⟨by simpa using k2,fun j x hx=>by obtain⟨e,q⟩:=k3 j x hx;exact⟨e,by simpa using q⟩⟩;have hck:=kvu (P:=P) hkd hRk hok ents.isEmpty 9999;have hget:(getObj b).run P w= .ok (.map ents clock) w:=by simp[getObj,Sem.run,k1]
       cases hfa:kew (AO.ev s k) es 0 with
       |none=>simp[hfa] at he
       |some r=>
        have hfo:=kq7 (P:=P) hd hkd hRk hok es ents.toList 0 r hE hfa;cases r with
        |none=>
         simp only[hfa,yay,ya7] at he;obtain⟨rfl,rfl⟩:=he;have hfk:=kkq (P:=P) (w:=w) hd hfo;cases ok with
         |true=>exact .same H db (val:= .tuple #[zval,.bool false]) (by simp[execOp,ho,hxv,hkv,Instr.lookup,run_underlying hu,hget,hck,hfk,hzr]) (R.tup_mk (vs:=[zval,.bool false]) (.cons hzR (.cons (.bool _) .nil)))
         |false=>exact .same H db (val:=zval) (by simp[execOp,ho,hxv,hkv,Instr.lookup,run_underlying hu,hget,hck,hfk,hzr]) hzR
        |some jr=>
         obtain⟨j,av⟩:=jr;simp only[hfa,yay,ya7] at he;obtain⟨rfl,rfl⟩:=he;obtain⟨v',e,r1,_,_,_,r5,_⟩:=hfo;have hfk:=kkq (P:=P) (w:=w) hd r1;cases ok with
         |true=>exact .same H db (val:= .tuple #[v',.bool true]) (by simp[execOp,ho,hxv,hkv,Instr.lookup,run_underlying hu,hget,hck,hfk]) (R.tup_mk (vs:=[v',.bool true]) (.cons r5 (.cons (.bool _) .nil)))
         |false=>exact .same H db (val:=v') (by simp[execOp,ho,hxv,hkv,Instr.lookup,run_underlying hu,hget,hck,hfk]) r5
     ·cases he
    ·cases he
   ·cases he
 ·cases hc
end
end Go.Proofs.Hz
