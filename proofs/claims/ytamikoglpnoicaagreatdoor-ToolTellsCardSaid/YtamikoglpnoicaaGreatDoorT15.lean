/-
  Regions whose order is drawn: what the abstract evaluator says of them the machine does, in whatever order it draws (last part).
  Conditions: none.
-/
import Derived.Test.YtamikoglpnoicaaGreatDoorT14
namespace Go.Proofs.Hz
open Bool renaming and_eq_true->yan
open Ids renaming none->yao
open List renaming getElem?_eq_some_iff->yac,mem_cons->yad,mem_append->yae,getD_eq_getElem?_getD->yaf,getElem?_eq_getElem->yag,getElem?_take->yak,getElem?_drop->yal
open Nat renaming mul_le_mul_right->yai,le_refl->yaj,succ_mul->yam
open Option renaming map_eq_some_iff->yah
open Option.some renaming injEq->yaa
open Prod.mk renaming injEq->yab
open Ren renaming none->yap
open Go.RowKit
section
variable {G:Gl} {P:Program} {pu:Nat->Nat} {D D':Nat->Prop} {ρ ρ':Ren} {w w':World} {V V':Ids} {s s' s1:St} {a:Act} {rd:Option Nat} {n nt nx0:Nat} {K:Act->World->Prop} {Q:Exit->Act->World->Prop}
 {F:Nat->Option AFn} {KK:Nat->List AV->Option AV} {ex:AC->St->Option (AE×St)} {ops:Array Oper}
theorem k7l (hC:keq P pu (kb1 F KK ex)) (hX:kfo P pu ex) (h:SRel (C0 P pu) D w V ρ nt s a) {o:Oper} {y:ADr} (hc:kf6 P nt ops o=some y.o) (hfree:y.k=1-> ¬V (nx0+y.i)) (hlt:nx0+y.i<s.nx) {hist hist1:List (T Blk)} {v:AV}
  (he:kav F KK ex nx0 hist y s=some (v,s1,hist1))
  (hK: ∀ val w' D' ρ' V',SRel (C0 P pu) D' w' V' ρ' nt (s1.set o.dst v) (a.put o.dst val)->Ext D ρ w V D' ρ' w' V'->s.nx<=s1.nx->(∀ i,V' i->V i\/(y.k=1/\i=nx0+y.i)\/s.nx<=i)->K (a.put o.dst val) w'):
  if Region.wanted o (yielded ops a.tmps)=true then o.wpIn (FW rd) n P a w K Q else(∀ f,o.about P w a.eval=some f->(FW rd).fn f)/\K (a.put o.dst undef) w:=by
 obtain⟨h1,h2,h3,h4⟩:=kqd hc;have hn: ¬V s.nx:=fun h'=>Nat.lt_irrefl _ (h.top _ h')
 rw[k48 h2 h.regs];have gen: ∀ (val:Value) (w':World) (D':Nat->Prop) (ρ':Ren) (V':Ids),Post P pu D ρ w V s s1 v val w' D' ρ' V'->s1.r=s.r->K (a.put o.dst val) w':=fun val w' D' ρ' V' hp hr=>by
  have m:=Mv.step h hp hr h4;exact hK _ _ _ _ _ m.rel hp.ext hp.nx fun i hi=>(hp.ids i hi).imp id fun hi=> .inr hi.1
 unfold kav at he;split at he
 ·rename_i hw;rw[iq hw];rcases ki5 y.k with hk |hk |hk |hk
  ·simp only[hk] at he;split at he
   ·rename_i hq;cases ho:opA s y.o.op with
    |none=>simp[ho] at he
    |some p=>
     obtain⟨u,s2⟩:=p;have:=k3a hq ho;subst this;simp only[ho,yaa,yab] at he;obtain⟨rfl,rfl,rfl⟩:=he;exact kn9 h.heap h.db h.regs hn h1 ho gen
   ·split at he
    ·rename_i f as hop;split at he
     ·rename_i g first caps hf
      split at he
      ·rename_i fn hF;split at he
       ·rename_i hp;split at he
        ·rename_i xs hx;split at he
         ·rename_i r hr;simp only[yaa,yab] at he;obtain⟨rfl,rfl,rfl⟩:=he;simp only[yan] at hp;have hst:kbi F KK ex y.o.op s=some (r,s):=by
           rw[hop];simp only[kbi,hf,keu,kb1,hF,hp.1,if_true,hx,hr];rw[iq (by rw[hp.2];simp)]
          exact kwa hC hX h.heap h.db h.regs h.top h1 hst gen
         ·cases he
        ·cases he
       ·cases he
      ·cases he
     ·cases he
    ·cases he
  ·simp only[hk] at he;split at he
   ·rename_i hnew;simp only[yan] at hnew;cases ho:opA {s with nx:=nx0+y.i} y.o.op with
    |none=>simp[ho] at he
    |some p=>
     obtain⟨u,s2⟩:=p;simp only[ho,yaa,yab] at he;obtain⟨rfl,rfl,rfl⟩:=he;obtain⟨b,rfl,_⟩:=kny hnew.1 ho;refine kn9 (s:={s with nx:=nx0+y.i}) h.heap h.db ⟨fun t=>h.regs.regs t,h.regs.gl⟩ (hfree hk) h1 ho fun val w' D' ρ' V' hp hr=> ?_
     have hids: ∀ i,V' i->V i\/i=nx0+y.i:=fun i hi=>by
      rcases hp.ids i hi with hi | ⟨h5,h6⟩
      ·exact .inl hi
      ·simp only[St.new] at h5 h6;exact .inr (by omega)
     refine hK val w' D' ρ' V' ⟨by rw[k0w];exact h.size,k3x (s:={s with h:=s.h.put (nx0+y.i) (some b)}) (fun e he=>Nat.lt_of_lt_of_le (h4 e he) h.size) ⟨fun t=>(kl6 hp.ext h.db h.regs).regs t,(kl6 hp.ext h.db h.regs).gl⟩ hp.val,by rw[k4h];exact hp.heap,fun i hi=> ?_,hp.db⟩ hp.ext (yaj _) fun i hi=>(hids i hi).imp id fun e=> .inl ⟨hk,e⟩
     rw[kmb];rcases hids i hi with hi |rfl
     ·exact h.top i hi
     ·exact hlt
   ·cases he
  ·have key: ∀ {q:AV×St},kbi F KK ex y.o.op s=some q->q.1=v->q.2=s1->o.wpIn (FW rd) n P a w K Q:=fun {q} hq e1 e2=>by
    obtain⟨u,s2⟩:=q;simp only at e1 e2;subst e1;subst e2;exact kwa hC hX h.heap h.db h.regs h.top h1 hq gen
   rcases hk with hk |hk
   ·simp only[hk] at he;cases ho:kbi F KK ex y.o.op s with
    |none=>simp[ho] at he
    |some p=>
     simp only[ho,yaa,yab] at he;exact key ho he.1 he.2.1
   ·simp only[hk] at he;split at he
    ·cases ho:kbi F KK ex y.o.op s with
     |none=>simp[ho] at he
     |some p=>
      simp only[ho,yaa,yab] at he;exact key ho he.1 he.2.1
    ·cases he
  ·obtain⟨k,hk'⟩: ∃ k,y.k=k+4:=⟨y.k - 4,by omega⟩;simp only[hk'] at he;split at he
   ·rename_i hr;cases ho:opA s y.o.op with
    |none=>simp[ho] at he
    |some p=>
     obtain⟨u,s2⟩:=p;have:=k3v hr ho;subst this;simp only[ho] at he;split at he
     ·simp only[yaa,yab] at he;obtain⟨rfl,rfl,rfl⟩:=he;exact kn9 h.heap h.db h.regs hn h1 ho gen
     ·cases he
   ·cases he
 ·rename_i hw;rw[ir hw];refine⟨fun f _=>trivial,?_⟩;simp only[yaa,yab] at he;obtain⟨rfl,rfl,_⟩:=he;exact gen undef w D ρ V ⟨kwi,h.heap,Ext.refl _ _ _ _,yaj _,fun _ h=> .inl h,h.db⟩ rfl
theorem k7k (hfr:kfp ex) (hC:keq P pu (kb1 F KK ex)) (hX:kfo P pu ex) {ms:List Nat} (hms: ∀ j x,(ms.getD j 0).testBit x=true->Anc ops x j) (hE:kkh 0 ops.toList=true) {e:St}:
  ∀ (fuel:Nat) (L:List ADr) (listed:Array Bool) (D:Nat->Prop) (ρ:Ren) (w:World) (V:Ids) (s:St) (a:Act) (hist:List (T Blk)),L.length<=fuel->listed.size=ops.size->OkL ops ms L->
   (∀ y ∈ L,∃ o,ops[y.i]? =some o/\kf6 P nt ops o=some y.o)->(∀ i,listed.getD i true=false↔ ∃ y ∈ L,y.i=i)->
   (∀ j o,ops[j]? =some o->listed.getD j false=true-> ∀ e ∈ o.after,Region.binds .any e=true->listed.getD e.on false=true)->
   SRel (C0 P pu) D w V ρ nt s a->(∀ y ∈ L,¬V (nx0+y.i))->nx0+ops.size<=s.nx->kjs s hist->kch F KK ex nx0 L s hist=some e->
   (∀ D' ρ' w' V' a',SRel (C0 P pu) D' w' V' ρ' nt e a'->Ext D ρ w V D' ρ' w' V'->s.nx<=e.nx->(∀ i,V' i->V i\/nx0<=i)->a'.defers=a.defers->Q .normal a' w')->
   wpAnyIn (FW rd) n P .any ops Q fuel listed a w:=by
 have done: ∀ (fuel:Nat) (listed:Array Bool) (a:Act) (w:World),(∀ i,listed.getD i true=false->False)->Q .normal a w->wpAnyIn (FW rd) n P .any ops Q fuel listed a w:=fun fuel listed a w hno hQ=>by
  refine wpAnyIn_done ?_ hQ fuel;refine List.eq_nil_iff_forall_not_mem.2 fun i hi=> ?_
  exact hno i (mem_ready.1 hi).1
 intro fuel
 induction fuel with
 |zero=>
  intro L listed D ρ w V s a hist hlen _ _ _ hiff _ h _ _ _ he hQ;have:L=[]:=List.length_eq_zero_iff.1 (by omega);subst this;cases he;exact done 0 listed a w (fun i hi=>by obtain⟨y,hy,_⟩:=(hiff i).1 hi;cases hy) (hQ _ _ _ _ _ h (Ext.refl _ _ _ _) (yaj _) (fun _ h=> .inl h) rfl)
 |succ fuel ih=>
  intro L listed D ρ w V s a hist hlen hsz hok hL hiff hcl h hV hnx hg he hQ;cases hLe:L with
  |nil=>
   subst hLe;cases he;exact done _ listed a w (fun i hi=>by obtain⟨y,hy,_⟩:=(hiff i).1 hi;cases hy) (hQ _ _ _ _ _ h (Ext.refl _ _ _ _) (yaj _) (fun _ h=> .inl h) rfl)
  |cons y0 L0=>
   refine⟨fun h0=>absurd h0 (qnh hE hsz ((hiff y0.i).2 ⟨y0,by rw[hLe];simp,rfl⟩)),fun i hi=> ?_⟩;clear hLe;obtain⟨hun,o,ho,hall⟩:=mem_ready.1 hi;obtain⟨y,hy,rfl⟩:=(hiff i).1 hun;obtain⟨l1,l2,rfl⟩:=List.append_of_mem hy;have hnanc: ∀ x ∈ l1,ker ms x.i y.i=false:=fun x hx=>by
    refine Bool.eq_false_iff.2 fun ha=> ?_
    have h1:=k51 hcl (hms _ _ ha) fun o' ho' e' he' hb'=>by
     rw[ho] at ho';cases ho';exact hall e' he' hb'
    have h2:=(kj7.1 ((hiff x.i).2 ⟨x,by simp[hx],rfl⟩)).2;rw[h1] at h2;cases h2
   have hpair: ∀ x ∈ l1,kip x.o y.o=true/\kgg x y=true:=fun x hx=>(hok.pair l1 y l2 rfl x hx).resolve_left fun ha=>by rw[hnanc x hx] at ha;cases ha
   have hcount:4<=y.k->l1.countP (fun x=>isW x.k)<=y.back:=fun hk=>by
    have:=hok.back l1 y l2 rfl hk;have ec:l1.countP (fun x=>isW x.k && !ker ms x.i y.i)=l1.countP (fun x=>isW x.k):=List.countP_congr fun x hx=>by simp[hnanc x hx]
    omega
   have hlt:y.i<ops.size:=(Array.getElem?_eq_some_iff.1 ho).1;obtain⟨o',ho',hc⟩:=hL y (by simp);rw[ho] at ho';cases ho';have hp:=qev hfr l1 s hist hg hpair hcount (fun _=>⟨h.heap.lo _ (hV y (by simp)),by omega⟩) he;generalize (l1.countP fun x=>isW x.k)=c at hp;simp only[kch] at hp;have hyi:(y.up c).i=y.i:=rfl;have hyo:(y.up c).o=y.o:=rfl;have hdst:(y.up c).o.dst=o.dst:=(kqd hc).2.2.1;have hVy:(y.up c).k=1-> ¬V (nx0+(y.up c).i):=fun _=>hV y (by simp)
   have hlty:nx0+(y.up c).i<s.nx:=by rw[hyi];omega
   rw[←hyo] at hc;generalize y.up c=z0 at hp hyi hyo hdst hVy hlty hc;cases hst:kav F KK ex nx0 hist z0 s with
   |none=>simp[hst] at hp
   |some p=>
    obtain⟨v,s1,hist1⟩:=p;simp only[hst] at hp;have hg1:=kye hg hst;simp only[wpOpIn,ho];refine k7l hC hX h hc hVy hlty hst fun val w' D' ρ' V' hS hE' hn1 hids=> ?_
    have hS:SRel (C0 P pu) D' w' V' ρ' nt (s1.set z0.o.dst v) (a.put o.dst val):=by rw[hdst];exact hS
    have honce:=hok.once l1 y l2 rfl;refine ih (l1++l2) (listed.setIfInBounds y.i true) D' ρ' w' V' _ _ hist1 ?_ (by simpa using hsz) hok.rest (fun z hz=>hL z ?_) (fun j=> ?_) (fun j oj hj hlj e' he' hb'=> ?_) hS (fun z hz hv=> ?_) ?_ ?_ hp fun D₂ ρ₂ w₂ V₂ a₂ h5 h6 h7 h8 h9=> ?_
    ·simp only[List.length_append,List.length_cons] at hlen ⊢;omega
    ·simp only[yae,yad] at hz ⊢;rcases hz with hz |hz
     ·exact .inl hz
     ·exact .inr (.inr hz)
    ·by_cases hj:y.i=j
     ·subst hj;constructor
      ·intro hx;have:=(kj7.1 hx).2;simp[show y.i<listed.size by omega] at this
      ·rintro⟨z,hz,hzi⟩;exact absurd hzi (honce z hz)
     ·rw[getD_set_ne true hj,hiff j];constructor
      ·rintro⟨z,hz,rfl⟩;refine⟨z,?_,rfl⟩;simp only[yae,yad] at hz ⊢;rcases hz with hz |hz |hz
       ·exact .inl hz
       ·exact absurd (by rw[hz]) hj
       ·exact .inr hz
      ·rintro⟨z,hz,rfl⟩;refine⟨z,?_,rfl⟩;simp only[yae,yad] at hz ⊢;rcases hz with hz |hz
       ·exact .inl hz
       ·exact .inr (.inr hz)
    ·by_cases hj':y.i=j
     ·subst hj';rw[ho] at hj;cases hj;exact getD_set_true (hall e' he' hb')
     ·refine getD_set_true (hcl j oj hj ?_ e' he' hb');rwa[getD_set_ne false hj'] at hlj
    ·have hz':z ∈ l1++y::l2:=by
      simp only[yae,yad] at hz ⊢;rcases hz with hz |hz
      ·exact .inl hz
      ·exact .inr (.inr hz)
     obtain⟨oz,hoz,_⟩:=hL z hz';have hzlt:z.i<ops.size:=(Array.getElem?_eq_some_iff.1 hoz).1;rcases hids _ hv with hv | ⟨_,hv⟩ |hv
     ·exact hV z hz' hv
     ·exact honce z hz (by rw[hyi] at hv;omega)
     ·omega
    ·rw[kmb];omega
    ·rw[kkr];exact hg1
    ·refine hQ D₂ ρ₂ w₂ V₂ a₂ h5 (hE'.trans h6) ?_ (fun i hi=> ?_) (h9.trans (k0v _ _))
     ·rw[kmb] at h7;omega
     ·rcases h8 i hi with hi |hi
      ·rcases hids i hi with hi | ⟨_,hi⟩ |hi
       ·exact .inl hi
       ·exact .inr (by omega)
       ·exact .inr (by omega)
      ·exact .inr hi
end
open Go.RowKit
def MarkRel (g g':T Blk):Prop:=∀ id,g'.get id=g.get id\/ ∃ cs fz ty,g.get id=some (.cells cs fz ty)/\g'.get id=some (.cells cs true ty)
theorem MarkRel.refl (g:T Blk):MarkRel g g:=fun _=> .inl rfl
theorem MarkRel.trans {a b c:T Blk} (h:MarkRel a b) (k:MarkRel b c):MarkRel a c:=fun id=>by
 rcases k id with hk | ⟨cs,fz,ty,h1,h2⟩
 ·rcases h id with hh | ⟨cs,fz,ty,h1,h2⟩
  ·exact .inl (hk.trans hh)
  ·exact .inr ⟨cs,fz,ty,h1,hk.trans h2⟩
 ·rcases h id with hh | ⟨cs',fz',ty',h3,h4⟩
  ·exact .inr ⟨cs,fz,ty,hh.symm.trans h1,h2⟩
  ·rw[h4] at h1;cases h1;exact .inr ⟨cs,fz',ty,h3,h2⟩
theorem MarkRel.put {g:T Blk} {id ty:Nat} {cs:List AV} {fz:Bool} (h:g.get id=some (.cells cs fz ty)):MarkRel g (g.put id (some (.cells cs true ty))):=fun j=>by
 rw[T.get_put];by_cases e:id=j
 ·subst e;exact .inr ⟨cs,fz,ty,h,by rw[iq rfl]⟩
 ·rw[ir e];exact .inl rfl
theorem MarkRel.cells {g g':T Blk} (h:MarkRel g g') {id ty:Nat} {cs:List AV} {fz:Bool} (hg:g.get id=some (.cells cs fz ty)): ∃ fz',g'.get id=some (.cells cs fz' ty)/\(fz=true->fz'=true):=by
 rcases h id with h | ⟨cs',fz',ty',h1,h2⟩
 ·exact⟨fz,h.trans hg,fun h=>h⟩
 ·rw[hg] at h1;cases h1;exact⟨true,h2,fun _=>rfl⟩
def kcp (M:Nat->Prop) (h:T Blk):Nat->AV->Prop
 |0,_=>True
 |n+1,v=>match v with
  | .sl id off k sz _=>M id/\ ∀ cs fz ty l,h.get id=some (.cells cs fz ty)->kb2 cs off (k*sz)=some l-> ∀ x ∈ l,kcp M h n x
  | .agg cs=>∀ x ∈ cs,kcp M h n x
  | .tup cs=>∀ x ∈ cs,kcp M h n x
  | .fn _ a b=>(∀ x ∈ a,kcp M h n x)/\ ∀ x ∈ b,kcp M h n x
  |_=>True
theorem ki1 (h:T Blk): ∀ (n:Nat) (v:AV),kcp (fun _=>True) h n v
 |0,_=>trivial
 |n+1,v=>by
  cases v <;> simp only[kcp]
  ·exact⟨trivial,fun _ _ _ _ _ _ x _=>ki1 h n x⟩
  ·exact⟨fun x _=>ki1 h n x,fun x _=>ki1 h n x⟩
  ·exact fun x _=>ki1 h n x
  ·exact fun x _=>ki1 h n x
theorem klk (M:Nat->Prop) (h:T Blk): ∀ (n:Nat) (v:AV),AV.hasSl n v=false->kcp M h n v
 |0,_,_=>trivial
 |n+1,v,hs=>by
  cases v <;> simp only[AV.hasSl,List.any_eq_false,Bool.or_eq_false_iff,Bool.true_eq_false] at hs <;> simp only[kcp]
  ·exact⟨fun x hx=>klk M h n x (by simpa using hs.1 x hx),fun x hx=>klk M h n x (by simpa using hs.2 x hx)⟩
  ·exact fun x hx=>klk M h n x (by simpa using hs x hx)
  ·exact fun x hx=>klk M h n x (by simpa using hs x hx)
def Mk (g:T Blk) (id:Nat):Prop:=∃ cs ty,g.get id=some (.cells cs true ty)
theorem Mk.mono {g g':T Blk} (h:MarkRel g g') {id:Nat} (hm:Mk g id):Mk g' id:=by
 obtain⟨cs,ty,hcs⟩:=hm;obtain⟨fz',h1,h2⟩:=h.cells hcs;have:=h2 rfl;subst this;exact⟨cs,ty,h1⟩
theorem qmx {cs l:List AV} {off n:Nat} (e:kb2 cs off n=some l): ∀ x ∈ l,x ∈ cs:=by
 unfold kb2 at e;split at e
 ·cases e;exact fun x hx=>List.mem_of_mem_drop (List.mem_of_mem_take hx)
 ·cases e
theorem krg {h:T Blk} {n:Nat} (hf: ∀ (g g':T Blk) (v:AV),MarkRel h g->fzs n g v=some g'->MarkRel g g'/\ ∀ M:Nat->Prop,(∀ id,Mk g' id->M id)->kcp M h n v):
  ∀ {l:List AV} {g g':T Blk},MarkRel h g->fzL (fzs n) g l=some g'->MarkRel g g'/\ ∀ M:Nat->Prop,(∀ id,Mk g' id->M id)-> ∀ x ∈ l,kcp M h n x
 | [],g,g',hg,e=>by cases e;exact⟨.refl _,fun _ _ x hx=>by cases hx⟩
 |x::xs,g,g',hg,e=>by
  unfold fzL at e;split at e
  ·rename_i g1 h1;obtain⟨h2,h3⟩:=hf g g1 x hg h1;obtain⟨h4,h5⟩:=krg hf (hg.trans h2) e;refine⟨h2.trans h4,fun M hM y hy=> ?_⟩;rcases yad.1 hy with rfl |hy
   ·exact h3 M fun id hid=>hM id (hid.mono h4)
   ·exact h5 M hM y hy
  ·cases e
theorem kyb {h:T Blk}: ∀ (n:Nat) (g g':T Blk) (v:AV),MarkRel h g->fzs n g v=some g'->MarkRel g g'/\ ∀ M:Nat->Prop,(∀ id,Mk g' id->M id)->kcp M h n v
 |0,_,_,_,_,e=>by cases e
 |n+1,g,g',v,hg,e=>by
  have ih: ∀ {l:List AV} {g g':T Blk},MarkRel h g->fzL (fzs n) g l=some g'->MarkRel g g'/\ ∀ M:Nat->Prop,(∀ id,Mk g' id->M id)-> ∀ x ∈ l,kcp M h n x:=fun hg e=>krg (fun g g' v=>kyb n g g' v) hg e
  cases v <;> simp only[fzs] at e
  case sl id off k sz c=>
   split at e
   ·rename_i cs fz ty hc;have hp:=MarkRel.put hc;obtain⟨h1,h2⟩:=ih (hg.trans hp) e;refine⟨hp.trans h1,fun M hM=> ?_⟩;simp only[kcp];refine⟨hM id (Mk.mono h1 ⟨cs,ty,by rw[T.get_put,iq rfl]⟩),fun cs' fz' ty' l hcs hl x hx=>h2 M hM x ?_⟩;obtain⟨fz2,h3,_⟩:=hg.cells hcs;rw[hc] at h3;cases h3;exact qmx hl x hx
   ·cases e
  case agg cs=>obtain⟨h1,h2⟩:=ih hg e;exact⟨h1,fun M hM=>by simp only[kcp];exact h2 M hM⟩
  case tup cs=>obtain⟨h1,h2⟩:=ih hg e;exact⟨h1,fun M hM=>by simp only[kcp];exact h2 M hM⟩
  case fn f a c=>
   split at e
   ·rename_i g1 ha;obtain⟨h1,h2⟩:=ih hg ha;obtain⟨h3,h4⟩:=ih (hg.trans h1) e;exact⟨h1.trans h3,fun M hM=>by simp only[kcp];exact⟨h2 M fun id hid=>hM id (hid.mono h3),h4 M hM⟩⟩
   ·cases e
  all_goals (cases e;exact⟨.refl _,fun _ _=>by simp only[kcp]⟩)
section
variable {C:CodeRel} {D D':Nat->Prop} {ρ ρ':Ren} {w w':World} {V V':Ids} {h h':T Blk}
def Dom (D:Nat->Prop) (ρ:Ren) (M:Nat->Prop) (b:Nat):Prop:=D b\/ ∃ id,M id/\ρ id=some b
theorem R.dom {M:Nat->Prop} {x:AV} {v:Value} (hx:R D w V ρ x v):R (Dom D ρ M) w V ρ x v:=hx.sub fun _ h=> .inl h
theorem HRel.mark (H:HRel C D w V ρ h) (hm:MarkRel h h'):HRel C (Dom D ρ (Mk h')) w V ρ h' where
 lo:=fun id hid=>by
  rcases hm id with h1 | ⟨cs,fz,ty,h1,_⟩
  ·rw[h1];exact H.lo id hid
  ·rw[H.lo id hid] at h1;cases h1
 dom:=fun id b hb=>by
  obtain⟨k,hk⟩:=H.dom id b hb;rcases hm id with h1 | ⟨cs,fz,ty,_,h1⟩
  ·exact⟨k,h1.trans hk⟩
  ·exact⟨_,h1⟩
 inj:=H.inj
 bk:=fun id k hk=>by
  have own: ∀ b,ρ id=some b->Dom D ρ (Mk h') b-> ¬Mk h' id->D b:=fun b hb hd hn=>hd.elim (fun h=>h) fun⟨j,hj,hjb⟩=>absurd (H.inj j id b hjb hb ▸ hj) hn
  rcases hm id with h1 | ⟨cs,fz,ty,h1,h2⟩
  ·obtain⟨b,hb,hB⟩:=H.bk id k (h1.symm.trans hk);refine⟨b,hb,?_⟩;cases k with
   |cells cs fz ty=>
    obtain⟨h3,h4,real,mk,h5,h6,h7,h8⟩:=hB;refine⟨fun hf=> .inl (h3 hf),fun hf hd=>h4 hf (own b hb hd fun⟨cs',ty',hc⟩=> ?_),real,mk,h5,h6,h7,fun j x hx=>let ⟨v,hv,hr⟩:=h8 j x hx;⟨v,hv,hr.dom⟩⟩;rw[hk,hf] at hc;cases hc
   |map es=>
    obtain⟨h3,ents,clock,h4,h5,h6⟩:=hB;exact⟨fun hd=>h3 (own b hb hd fun⟨cs',ty',hc⟩=>by rw[hk] at hc;cases hc),ents,clock,h4,h5,fun j x hx=>let ⟨v,hv,hr,hr2⟩:=h6 j x hx;⟨v,hv,hr.dom,hr2.dom⟩⟩
   |loop l=>
    obtain⟨h3,r,h4,h5⟩:=hB;exact⟨fun hd=>h3 (own b hb hd fun⟨cs',ty',hc⟩=>by rw[hk] at hc;cases hc),r,h4,⟨h5.st,h5.pend,h5.size,fun t=>(h5.tmps t).dom,h5.ps,h5.lt,h5.asg,h5.body⟩⟩
   |own=>exact hB.elim
   |pre=>exact hB.elim
   |text v ty=>
    obtain⟨h3,h4⟩:=hB;exact⟨fun hd=>h3 (own b hb hd fun⟨cs',ty',hc⟩=>by rw[hk] at hc;cases hc),h4⟩
  ·rw[h2] at hk;cases hk;obtain⟨b,hb,hB⟩:=H.bk id _ h1;obtain⟨h3,h4,real,mk,h5,h6,h7,h8⟩:=hB;exact⟨b,hb,fun _=> .inr ⟨id,⟨cs,ty,h2⟩,hb⟩,fun hf=>by(cases hf),real,mk,h5,h6,h7,fun j x hx=>let ⟨v,hv,hr⟩:=h8 j x hx;⟨v,hv,hr.dom⟩⟩
theorem kjy (sz:Nat): ∀ (k:Nat) (l:List AV),(kb9 sz k l).length=k
 |0,_=>rfl
 |k+1,l=>by simp[kb9,kjy sz k]
theorem kw6 (sz:Nat): ∀ (k:Nat) (l:List AV) (i:Nat) (e:List AV),(kb9 sz k l)[i]? =some e->e=(l.drop (i*sz)).take sz
 |0,_,i,e,h=>by simp[kb9] at h
 |k+1,l,i,e,h=>by
  unfold kb9 at h;cases i with
  |zero=>simp at h;simp[h]
  |succ i=>
   have:=kw6 sz k (l.drop sz) i e (by simpa using h);rw[this,List.drop_drop];congr 2;rw[yam];omega
theorem kra (H:HRel C D w V ρ h) {M:Nat->Prop}: ∀ {n:Nat} {v u:AV} {val:Value},kcp M h n v->frz h n v=some u->R D w V ρ v val->R (Dom D ρ M) w yao yap u val
 |0,_,_,_,_,e,_=>by cases e
 |n+1,v,u,val,hin,e,hR=>by
  have row: ∀ {l r:List AV} {vs:List Value},(∀ x ∈ l,kcp M h n x)->mapO (frz h n) l=some r->RL D w V ρ l vs->RL (Dom D ρ M) w yao yap r vs:=fun {l r vs} hl hr hvs=>by
   obtain⟨h1,h2⟩:=ki8 hr;refine⟨h1.symm.trans hvs.1,fun j x y hx hy=> ?_⟩;have hlt:j<l.length:=by rw[h1];exact(yac.1 hx).1
   have hlj:=yag hlt;exact kra H (hl _ (List.getElem_mem hlt)) (h2 j _ x hlj hx) (hvs.2 j _ y hlj hy)
  cases hR with
  |bool b=>cases e;exact .bool b
  |int k m=>cases e;exact .int k m
  |str s hs=>cases e;exact .str s hs
  |nilp=>cases e;exact .nilp
  |ptr _ _=>cases e
  |ip c hD hc h1=>cases e;exact .ip c (.inl hD) hc fun j x hx=>(h1 j x hx).sub fun _ h=> .inl h
  |imn hc ha=>cases e;exact .imn hc ha
  |im c hn hcl hD hl hc h1=>cases e;exact .im c hn hcl (.inl hD) hl hc fun i j e' x he hx=>(h1 i j e' x he hx).sub fun _ h=> .inl h
  |yld _ _=>cases e
  |nilf=>cases e;exact .nilf
  |nilm=>cases e;exact .nilm
  |mp _ _=>cases e
  |nili=>cases e;exact .nili
  |ifv=>cases e;exact .ifv
  |ifc hx=>
   rename_i t x v;cases x <;> first
    |(cases e;cases hx;exact .ifc (.int _ _))
    |(cases e;exact .ifv)
  |nils=>cases e;exact .imn (fun _=>rfl) (fun _=>rfl)
  |agg hl hx=>
   rename_i cs vs;simp only[frz,yah] at e;obtain⟨r,hr,rfl⟩:=e;simp only[kcp] at hin;have:=row (vs:=vs.toList) hin hr ⟨by simpa using hl,fun j x y hx' hy=>hx j x y hx' (by simpa using hy)⟩;exact .agg (by simpa using this.1) fun j x y hx' hy=>this.2 j x y hx' (by simpa using hy)
  |tup hl hx=>
   rename_i cs vs;simp only[frz,yah] at e;obtain⟨r,hr,rfl⟩:=e;simp only[kcp] at hin;have:=row (vs:=vs.toList) hin hr ⟨by simpa using hl,fun j x y hx' hy=>hx j x y hx' (by simpa using hy)⟩;exact .tup (by simpa using this.1) fun j x y hx' hy=>this.2 j x y hx' (by simpa using hy)
  |fn lf lc hf hc=>
   rename_i f a c vf vc;simp only[frz] at e;split at e
   ·rename_i a' c' ha hc';cases e;simp only[kcp] at hin;have r1:=row (vs:=vf.toList) hin.1 ha ⟨by simpa using lf,fun j x y hx' hy=>hf j x y hx' (by simpa using hy)⟩;have r2:=row (vs:=vc.toList) hin.2 hc' ⟨by simpa using lc,fun j x y hx' hy=>hc j x y hx' (by simpa using hy)⟩;exact .fn (by simpa using r1.1) (by simpa using r2.1) (fun j x y hx' hy=>r1.2 j x y hx' (by simpa using hy)) fun j x y hx' hy=>r2.2 j x y hx' (by simpa using hy)
   ·cases e
  |sl hid hn hc ha=>
   rename_i id off k sz c ad cap;simp only[frz] at e;split at e
   ·rename_i cs fz ty hg;split at e
    ·rename_i l hl;split at e
     ·rename_i r hr;cases e;simp only[kcp] at hin;obtain⟨b,hb,hB⟩:=H.bk id _ hg;have hcap:(c == some k)=true->cap=k:=fun hq=>hc k (by simpa using hq)
      by_cases hk:k=0
      ·subst hk;simp only[kb9];exact .imn (fun hq=>hcap hq) (fun hq=>by cases hq)
      ·rcases ha b hb with h0 | ⟨rfl,_⟩
       ·omega
       ·obtain⟨hle,rfl,hll⟩:=kko hl;obtain⟨vs,h1,h2⟩:=kjv (A:=fun j u=>w.cell? ⟨b,off+j,none⟩=some u) ((cs.drop off).take (k*sz)) (D:=D) (w:=w) (V:=V) (ρ:=ρ) (fun j y hy=>by
         rw[yak] at hy;split at hy
         ·rw[yal] at hy;exact hB.cell hy
         ·cases hy)
        have h3:=row (fun x hx=>hin.2 cs fz ty _ hg hl x hx) hr h1;have hvl:vs.length=k*sz:=by rw[←h1.1,hll]
        have hrl:r.length=k*sz:=by rw[h3.1,hvl]
        have he: ∀ (i:Nat) (e:List AV),(kb9 sz k r)[i]? =some e->i<k/\e=(r.drop (i*sz)).take sz/\e.length=sz:=fun i e he=>by
         have hi:i<k:=by
          have:=(yac.1 he).1;rwa[kjy] at this
         have h4:=kw6 sz k r i e he;have h5:(i+1)*sz<=k*sz:=yai _ hi;rw[yam] at h5;exact⟨hi,h4,by rw[h4];simp;omega⟩
        have key:R (Dom D ρ M) w yao yap (.im (kb9 sz k r) (c == some k)) (.slice (some ⟨b,off,none⟩) (kb9 sz k r).length cap):=by
         refine .im (b:=b) (o:=off) (sz:=sz) (fun i j=>vs.getD (i*sz+j) undef) (by rw[kjy];exact hn) (fun hq=>by rw[kjy];exact hcap hq) (.inr ⟨id,hin.1,hb⟩) (fun e hme=> ?_) (fun i j hi hj=> ?_) fun i j e x hei hxj=> ?_
         ·obtain⟨i,hi⟩:=List.mem_iff_getElem?.1 hme;exact(he i e hi).2.2
         ·rw[kjy] at hi;have h5:(i+1)*sz<=k*sz:=yai _ hi;rw[yam] at h5;have hlt:i*sz+j<vs.length:=by omega
          rw[h2 _ _ (yag hlt)];simp[yaf,hlt]
         ·obtain⟨hi,rfl,hel⟩:=he i e hei;rw[yak] at hxj;split at hxj
          ·rename_i hj;rw[yal] at hxj;have hlt:i*sz+j<vs.length:=by
            have:=(yac.1 hxj).1;omega
           refine h3.2 _ x _ hxj ?_;simp[yaf,hlt]
          ·cases hxj
        rw[kjy] at key;exact key
     ·cases e
    ·cases e
   ·cases e
end
end Go.Proofs.Hz
