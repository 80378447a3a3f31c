/-
  Code: what the abstract evaluator says of it the machine does.
  Conditions: none.
-/
import Derived.Test.YtamikoglpnoicaaGreatDoorT15
import Derived.RangeFuncNested
import Derived.RangeFuncLeaves
namespace Go.Proofs.Hz
open Bool renaming and_eq_true->yaf
open Ids renaming none->yai
open List renaming getElem?_eq_getElem->yab,pairwise_cons->yad,all_eq_true->yag
open Nat renaming le_refl->yac,lt_irrefl->yae,lt_succ_self->yah
open Option renaming map_eq_some_iff->yaa
open Ren renaming none->yaj,set_same->yak
open Go.RowKit
theorem qra {F:Fence} {n:Nat} {P:Program} {c:Code} {Q:Exit->Act->World->Prop} (I:Nat->Act->World->Prop) (zero: ∀ a w,¬I 0 a w)
  (round: ∀ k a w,I (k+1) a w->c.wpIn F n P (Exit.then (fun a' w'=>I k a' w') Q) a w): ∀ k a w,I k a w->(Code.loop c).wpIn F n P Q a w:=by
 intro k a w hI b it cs hro hb hr;have key: ∀ k a w,I k a w-> ∃ e a' w',Q e a' w'/\ArrivesIn (Machine.fenced P F) P (lone (b.atR a (.code c:: .inLoop c::it)) cs w) b it cs e a' w':=by
  intro k
  induction k with
  |zero=>intro a w h;exact absurd h (zero a w)
  |succ k ih=>
   intro a w hI;obtain⟨e,a1,w1,hq,harr⟩:=round k a w hI b (.inLoop c::it) cs hro hb hr;by_cases hn:e= .normal
   ·subst hn;obtain⟨e2,a2,w2,hq2,harr2⟩:=ih a1 w1 hq;exact⟨e2,a2,w2,hq2,.of_steps (StepsIn.trans harr (.one (fenced_calm hb hr rfl) stepR_inLoop)) harr2⟩
   ·have hq':Q e a1 w1:=by cases e <;> first |exact absurd rfl hn |exact hq
    exact⟨e,a1,w1,hq',.pass (x:= .inLoop c) rfl (fun _ _=> .inl hn) harr⟩
 obtain⟨e,a',w',hq,harr⟩:=key k a w hI;exact⟨e,a',w',hq,.of_steps (.one (fenced_calm hb hr rfl) stepR_loop) harr⟩
def kmg (F:Fence) (n:Nat) (P:Program) (body c:Code) (Q:Exit->Act->World->Prop) (a:Act) (w:World):Prop:=
 ∀ (b:Frame) (k:List Item) (cs:List Frame),b.roundOf=F.round->F.fn b.fn->F.room (cs.length+1+n)->
  ∃ e a' w',Q e a' w'/\ArrivesIn (Machine.fenced P F) P (lone (b.atR a (.code c:: .inScope body::k)) cs w) b k cs e a' w'
theorem qo0 {P:Program} {b:Frame} {a:Act} {k:List Item} {cs:List Frame} {w:World} {c:Code}:
  step P (lone (b.atR a (.code (.scope c)::k)) cs w)= .next (lone (b.atR a (.code c:: .inScope c::k)) cs w):=
 step_lone_go (by simp[stepG,stepG.exec,Frame.atR])
theorem qoz {P:Program} {b:Frame} {a:Act} {k:List Item} {cs:List Frame} {w:World} {c:Code}:
  step P (lone (b.atR a (.inScope c::k)) cs w)= .next (lone (b.atR a k) cs w):=
 step_lone_go (by simp[stepG,stepG.exec,Frame.atR])
theorem qaj {F:Fence} {n:Nat} {P:Program} {body c:Code} {Q:Exit->Act->World->Prop} {a:Act} {w:World}
  (h:c.wpIn F n P (fun e a w=>match e with
   | .goto l=>match findLabel body l with
     |some rest=>kmg F n P body rest Q a w
     |none=>Q (.goto l) a w
   |e=>Q e a w) a w):kmg F n P body c Q a w:=by
 intro b k cs hro hb hr;obtain⟨e,a1,w1,hq,harr⟩:=h b (.inScope body::k) cs hro hb hr;cases e with
 |normal=>exact⟨.normal,a1,w1,hq,StepsIn.trans harr (.one (fenced_calm hb hr rfl) qoz)⟩
 |exit id=>exact⟨.exit id,a1,w1,hq,fun k' hk=>harr.1 k' (by simpa[exitTo] using hk),fun h1 hk=>harr.2 h1 (by simpa[exitTo] using hk)⟩
 |goto l=>
  simp only at hq;cases hf:findLabel body l with
  |some rest=>
   rw[hf] at hq;obtain⟨e2,a2,w2,hq2,harr2⟩:=hq b k cs hro hb hr;exact⟨e2,a2,w2,hq2,.of_steps (harr.1 _ (by simp[gotoIn,hf])) harr2⟩
  |none=>
   rw[hf] at hq;exact⟨.goto l,a1,w1,hq,fun k' hk=>harr.1 k' (by simpa[gotoIn,hf] using hk),fun h1 hk=>harr.2 h1 (by simpa[gotoIn,hf] using hk)⟩
 |ret=>exact⟨.ret,a1,w1,hq,harr⟩
 |panic chain=>exact⟨.panic chain,a1,w1,hq,harr⟩
 |outgrown=>exact⟨.outgrown,a1,w1,hq,harr⟩
theorem qrb {F:Fence} {n:Nat} {P:Program} {body:Code} {Q:Exit->Act->World->Prop} {a:Act} {w:World} (h:kmg F n P body body Q a w):(Code.scope body).wpIn F n P Q a w:=by
 intro b k cs hro hb hr;obtain⟨e,a1,w1,hq,harr⟩:=h b k cs hro hb hr;exact⟨e,a1,w1,hq,.of_steps (.one (fenced_calm hb hr rfl) qo0) harr⟩
theorem k8q {G:Gl} {P:Program} {pu:Nat->Nat} {nt:Nat}: ∀ {c:Code} {ac:AC},kb4 P pu nt c=some ac-> ∀ l,(findLabel c l=none->kgc ac l=none)/\ ∀ rest,findLabel c l=some rest-> ∃ ar,kgc ac l=some ar/\kb4 P pu nt rest=some ar:=by
 intro c
 induction c with
 |seq x y ihx ihy=>
  intro ac hc l;simp only[kb4] at hc;split at hc
  ·rename_i ax ay hx hy;cases hc;simp only[findLabel,kgc];cases hf:findLabel x l with
   |some rx=>
    obtain⟨ar,h1,h2⟩:=(ihx hx l).2 rx hf;refine⟨fun h=>(by cases h),fun rest h=> ?_⟩;cases h;exact⟨.seq ar ay,by rw[h1],by simp[kb4,h2,hy]⟩
   |none=>
    have h1:=(ihx hx l).1 hf;rw[h1];exact ihy hy l
  ·cases hc
 |label j=>
  intro ac hc l;cases hc;simp only[findLabel,kgc];by_cases h:j=l
  ·subst h;simp[kb4]
  ·simp[h]
 |_=>
  intro ac hc l;refine⟨fun _=> ?_,fun rest h=>(by cases h)⟩;simp only[kb4] at hc
  first
   |(cases hc;rfl)
   |(simp only[yaa] at hc;obtain⟨_,_,rfl⟩:=hc;rfl)
   |((repeat' split at hc) <;> first |(cases hc;rfl) |(cases hc) |skip
     all_goals first |(unfold kms at hc;(repeat' split at hc) <;> first |(cases hc;rfl) |cases hc) |(simp only[yaa] at hc;obtain⟨_,_,rfl⟩:=hc;rfl))
section
variable {G:Gl} {P:Program} {D D':Nat->Prop} {ρ ρ':Ren} {w w':World} {V V':Ids} {s s' s1:St} {a:Act} {rd:Option Nat} {m nt:Nat} {Q:Exit->Act->World->Prop}
 {F:Nat->Option AFn} {KK:Nat->List AV->Option AV} {pu:Nat->Nat}
theorem SRel.drawn (h:SRel (C0 P pu) D w V ρ nt s a) (k:Nat):SRel (C0 P pu) D {w with drawn:=k} V ρ nt s a/\Ext D ρ w V D ρ {w with drawn:=k} V:=by
 have e:Ext D ρ w V D ρ {w with drawn:=k} V:=⟨fun _ h=>h,rfl,rfl,rfl,yac _,fun _ h=>h,fun _ _ _=>rfl,fun _ real _ mk h=>⟨real,mk,h,rfl⟩,fun _ r h=>⟨r,h,rfl⟩,fun _ _ _ h=>h,fun id _ h=> .inl ⟨id,h⟩,fun _ h=> .inl h⟩;refine⟨⟨h.size,kl6 e h.db h.regs,⟨h.heap.lo,h.heap.dom,h.heap.inj,fun id k hk=> ?_⟩,h.top,h.db⟩,e⟩;obtain⟨b,hb,hB⟩:=h.heap.bk id k hk;exact⟨b,hb,hB.ext e h.db rfl (fun h=>h)⟩
theorem k7h {n:Nat} (hC:keq P pu (kb1 F KK (exA F KK n))) (hX:kfo P pu (exA F KK n)) {id:Nat} {ops:Array Oper} {ac:AC} (hc:kms P pu nt ops=some ac) (h:SRel (C0 P pu) D w V ρ nt s a) {e:AE} (he:exA F KK (n+1) ac s=some (e,s1))
  (hQ: ∀ D' ρ' w' V' a',Mv P pu nt D ρ w V s a D' ρ' w' V' s1 a'->Q e.toExit a' w'):(Code.region id ops true).wpIn (FW rd) m P Q a w:=by
 unfold kms at hc;split at hc
 ·cases hc
 ·rename_i as has;split at hc
  ·cases hc
  ·rename_i l hl;split at hc
   ·rename_i hok;cases hc;simp only[yaf] at hok;obtain⟨hmode,hok⟩:=hok;simp only[kzx,yaf,decide_eq_true_eq,yag,List.any_eq_true,List.mem_range,beq_iff_eq] at hok;obtain⟨h1,h2,h3,h4,h5,h6⟩:=hok;simp only[exA] at he;split at he
    ·rename_i s2 hd;cases he;refine wpIn_region_draw fun t=> ?_
     simp only[Region.schedule,hmode,if_true];refine wpAnyIn_sound ops.size t _ _ _ ?_;obtain⟨hS,hE⟩:=h.drawn (w.drawn+1);have hLo: ∀ y ∈ l,∃ o,ops[y.i]? =some o/\kf6 P nt ops o=some y.o:=fun y hy=>by
      obtain⟨q1,q2⟩:=ki8 hl;obtain⟨j,hj⟩:=List.mem_iff_getElem?.1 hy;have hlt:j<(k0o (klu ops.toList []) (as.map (kyt pu))).length:=by rw[q1];exact(List.getElem?_eq_some_iff.1 hj).1
      have:=q2 j _ y (yab hlt) hj;unfold kzh at this;split at this
      ·rename_i o ho;simp only[yaa] at this;obtain⟨ao,hao,rfl⟩:=this;exact⟨o,ho,hao⟩
      ·cases this
     have hS2:SRel (C0 P pu) D {w with drawn:=w.drawn+1} V ρ nt {s with nx:=s.nx+ops.size} a:=⟨hS.size,⟨fun t=>hS.regs.regs t,hS.regs.gl⟩,hS.heap,fun i hi=>by have:=h.top i hi;show i<s.nx+ops.size;omega,hS.db⟩;refine k7k (nx0:=s.nx) (k76 n) hC hX (kzf (acc:=[]) (fun j x hx=>by simp at hx) (fun j o ho=>by simpa using ho)) h4 ops.size l _ D ρ _ V {s with nx:=s.nx+ops.size} a [s.h] h5 (by simp) ⟨kz1 h1,fun l1 y l2 e hk=>by simpa using kzw h2 l1 y l2 e hk,kz0 h3⟩ hLo (fun i=> ?_) (fun j o ho hj=> ?_) hS2 (fun y hy hv=> ?_) (yac _) ⟨s.h,[],rfl,fun _ _ h=>h⟩ hd fun D' ρ' w' V' a' q1 q2 q3 q4 q5=> ?_
     ·constructor
      ·intro hi;have hlt:i<ops.size:=by simpa using (kj7.1 hi).1
       exact h6 i hlt
      ·rintro⟨y,hy,rfl⟩;obtain⟨o,ho,_⟩:=hLo y hy;have hlt:y.i<ops.size:=(Array.getElem?_eq_some_iff.1 ho).1;rw[kj7];simp[hlt]
     ·have hlt:j<ops.size:=(Array.getElem?_eq_some_iff.1 ho).1;simp[hlt] at hj
     ·have:=h.top _ hv;omega
     ·exact hQ D' ρ' w' V' a' ⟨q1,hE.trans q2,by simp only at q3;omega,q4,fun n0 _ m=>by rw[q5];exact m.ext h.heap (hE.trans q2)⟩
    ·cases he
   ·cases hc
def FOk [Gl] (P:Program) (pu:Nat->Nat) (F:Nat->Option AFn):Prop:=∀ f af,F f=some af->kk9 P pu f=some af
def kgo [Gl] (P:Program) (f:Nat) (k:List AV->Option AV):Prop:=
 ∀ {args:List AV} {r:AV} {D:Nat->Prop} {w:World} {vals:List Value},k args=some r->(∀ b,D b->b<w.heap.size)->GOk D w->RL D w yai yaj args vals->khd P f/\
  ∀ n,CallsIn (FW none) n P f vals.toArray w fun e w'=>∃ val D',e= .returned val/\R D' w' yai yaj r val/\Ext D yaj w yai D' yaj w' yai/\ ∀ b,D' b->b<w'.heap.size
def KOk [Gl] (P:Program) (KK:Nat->List AV->Option AV):Prop:=∀ f,kgo P f (KK f)
theorem HRel.more {C:CodeRel} {h:T Blk} (H:HRel C D w V ρ h) (db: ∀ b,D b->b<w.heap.size) (e:Ext D ρ w V D ρ w' V) (hsame: ∀ id b,ρ id=some b->w'.heap[b]? =w.heap[b]?):HRel C D w' V ρ h:=
 ⟨H.lo,H.dom,H.inj,fun id k hk=>let ⟨b,h1,h2⟩:=H.bk id k hk;⟨b,h1,h2.ext e db (hsame id b h1) (fun h=>h)⟩⟩
theorem Ext.allocU (o:Obj):Ext D ρ w V D ρ (w.alloc o) V where
 ids:=fun _ hi=>hi
 os:=rfl
 tape:=rfl
 output:=rfl
 size:=by simp
 sub:=fun _ hb=>hb
 frame:=fun b hb _=>ke0 w o b hb
 shape:=fun b real ty mk hb=>⟨real,mk,by rw[ke0 w o b (Array.getElem?_eq_some_iff.1 hb).1];exact hb,rfl⟩
 loops:=fun b r hb=>⟨r,by rw[ke0 w o b (Array.getElem?_eq_some_iff.1 hb).1];exact hb,rfl⟩
 ren:=fun j b hj hb=>hb
 new:=fun j b hb=> .inl ⟨j,hb⟩
 dnew:=fun b hb=> .inl hb
theorem k7n (h:SRel (C0 P pu) D w V ρ nt s a) (hrd:RdOk w rd) {ps:Array Tmp} {x y:Code} {ax ay:AC} (hx:kb4 P pu nt x=some ax) (hy:kb4 P pu nt y=some ay) (hps:ps.toList.all (fun p=>decide (p<nt))=true) (fn:FuncId):
  ∃ l mark w1,(Instr.enterLoop fn a.tmps ps x y (FW rd).round).run P w= .ok (l,mark) w1/\Ext D ρ w V D (ρ.set s.nx (some l)) w1 (V.add s.nx)/\
   HRel (C0 P pu) D w1 (V.add s.nx) (ρ.set s.nx (some l)) (s.new (.loop {st:=0,pend:=none,r:=s.r,ps:=ps.toList,asg:=ax,body:=ay,nt:=nt})).h/\ ¬D l/\w.heap.size<=l/\(∀ b,D b->b<w1.heap.size)/\
   ∀ n0,n0<=w.heap.size->MarkL D w n0 a.defers->MarkL D w1 n0 (mark++a.defers):=by
 have hf: ¬V s.nx:=fun hv=>yae _ (h.top _ hv)
 have lrel: ∀ (w1:World) (r:Loop) (ρ1:Ren) (V1:Ids),Ext D ρ w V D ρ1 w1 V1->r.state= .ready->r.pending=none->r.tmps=a.tmps->r.params=ps->r.assign=x->r.body=y->
   LRel D w1 V1 ρ1 {st:=0,pend:=none,r:=s.r,ps:=ps.toList,asg:=ax,body:=ay,nt:=nt} r ((C0 P pu).rel nt):=fun w1 r ρ1 V1 e1 q1 q2 q3 q4 q5 q6=>
  ⟨by rw[q1],by rw[q2];trivial,by rw[q3];exact h.size,fun t=>by rw[q3];exact(h.regs.regs t).ext e1 h.db,by rw[q4],fun p hp=>by simpa using yag.1 hps p hp,by rw[q5];exact hx,by rw[q6];exact hy⟩
 cases rd with
 |none=>
  have e0:Ext D ρ w V D ρ (w.alloc (.deferred (some []))) V:=Ext.allocU _;have H0:=h.heap.more h.db e0 (fun id b hb=>ke0 w _ b (h.heap.blt hb));have db0: ∀ b,D b->b<(w.alloc (.deferred (some []))).heap.size:=fun b hb=>by have:=h.db b hb;simp;omega
  have hs1:(w.alloc (.deferred (some []))).heap.size=w.heap.size+1:=by simp
  have e1:=Ext.add (D:=D) (ρ:=ρ) (w:=w.alloc (.deferred (some []))) (V:=V) hf (.loop {state:= .ready,pending:=none,fn:=fn,tmps:=a.tmps,params:=ps,assign:=x,body:=y,defers:=w.heap.size});rw[hs1] at e1;have H1:=H0.add db0 hf (.loop {state:= .ready,pending:=none,fn:=fn,tmps:=a.tmps,params:=ps,assign:=x,body:=y,defers:=w.heap.size}) (.loop {st:=0,pend:=none,r:=s.r,ps:=ps.toList,asg:=ax,body:=ay,nt:=nt})
   ⟨fun hd=>(by have:=h.db _ hd;simp at this;omega),_,kez _ _,lrel _ _ _ _ (e0.trans (by rw[hs1];exact e1)) rfl rfl rfl rfl rfl rfl⟩
  rw[hs1] at H1;refine⟨_,_,_,run_enterLoop_outer (P:=P) fn a.tmps ps x y,e0.trans e1,H1,fun hd=>by have:=h.db _ hd;omega,by omega,fun b hb=>by have:=h.db b hb;simp;omega,fun n0 hn0 hm=> ?_⟩;obtain⟨rs,q1,q2,q3⟩:=hm;refine⟨w.heap.size::rs,by rw[q1];rfl,yad.2 ⟨fun r hr=>(Array.getElem?_eq_some_iff.1 (q3 r hr).2.2).1,q2⟩,fun r hr=> ?_⟩;rcases List.mem_cons.1 hr with rfl |hr
  ·refine⟨hn0,fun hd=>yae _ (h.db _ hd),?_⟩;rw[ke0 _ _ _ (by rw[hs1];omega)];exact kez w _
  ·obtain⟨k1,k2,k3⟩:=q3 r hr;have hlt:=(Array.getElem?_eq_some_iff.1 k3).1;refine⟨k1,k2,?_⟩;rw[ke0 _ _ _ (by rw[hs1];omega),ke0 _ _ _ hlt];exact k3
 |some l0=>
  obtain⟨r0,hr0⟩:=hrd l0 rfl;have e1:=Ext.add (D:=D) (ρ:=ρ) (w:=w) (V:=V) hf (.loop {state:= .ready,pending:=none,fn:=fn,tmps:=a.tmps,params:=ps,assign:=x,body:=y,defers:=r0.defers});have H1:=h.heap.add h.db hf (.loop {state:= .ready,pending:=none,fn:=fn,tmps:=a.tmps,params:=ps,assign:=x,body:=y,defers:=r0.defers}) (.loop {st:=0,pend:=none,r:=s.r,ps:=ps.toList,asg:=ax,body:=ay,nt:=nt})
   ⟨fun hd=>yae _ (h.db _ hd),_,kez _ _,lrel _ _ _ _ e1 rfl rfl rfl rfl rfl rfl⟩
  refine⟨_,_,_,run_enterLoop_inner (P:=P) hr0 fn a.tmps ps x y,e1,H1,fun hd=>yae _ (h.db _ hd),yac _,fun b hb=>by have:=h.db b hb;simp;omega,fun n0 hn0 hm=> ?_⟩;obtain⟨rs,q1,q2,q3⟩:=hm;refine⟨rs,by rw[q1];rfl,q2,fun r hr=> ?_⟩;obtain⟨k1,k2,k3⟩:=q3 r hr;have hlt:=(Array.getElem?_eq_some_iff.1 k3).1;exact⟨k1,k2,by rw[ke0 _ _ _ hlt];exact k3⟩
theorem qnr {n:Nat} (hC:keq P pu (kb1 F KK (exA F KK n))) {g:Operand} {af:AO} {ps:Array Tmp} {x y:Code} {ax ay:AC} (hf:kar g=some af) (hx:kb4 P pu nt x=some ax) (hy:kb4 P pu nt y=some ay) (hps:ps.toList.all (fun p=>decide (p<nt))=true)
  (h:SRel (C0 P pu) D w V ρ nt s a) (hrd:RdOk w rd) {e:AE} (he:exA F KK (n+1) (.rngf nt af ps.toList ax ay) s=some (e,s1)) (hQ: ∀ D' ρ' w' V' a',Mv P pu nt D ρ w V s a D' ρ' w' V' s1 a'->Q e.toExit a' w'):(Code.rangeFunc g ps x y).wpIn (FW rd) m P Q a w:=by
 simp only[exA] at he;split at he
 ·rename_i v0 s2 hcall;split at he
  ·rename_i l hl;split at he
   ·cases he
   ·rename_i hst;have hR:=ka8 h.regs hf;unfold kf5 at hcall;split at hcall
    ·rename_i g1 first caps hev
     rw[hev] at hR;generalize hgv:a.eval g=gv at hR;cases hR with
     |fn lf lc hfst hcap=>
      rename_i vf vc;refine wpIn_rangeFunc fun fn _=> ?_
      obtain⟨lb,mark,w1,henter,e1,H1,hnD,hge,db1,hmk⟩:=k7n h hrd hx hy hps fn;have hl1:RL D w V ρ first vf.toList:=⟨by simpa using lf,fun j x u hx hu=>hfst j x u hx (by simpa using hu)⟩
      have hl2:RL D w V ρ caps vc.toList:=⟨by simpa using lc,fun j x u hx hu=>hcap j x u hx (by simpa using hu)⟩;have hy1:RL D w1 (V.add s.nx) (ρ.set s.nx (some lb)) [.yld s.nx] [.func (.yield lb) #[] #[]]:=RL.cons (.yld (.inr rfl) fun b hb=>by rw[yak] at hb;cases hb;rfl) .nil;obtain⟨⟨fn1,cd,h1,h2,h3⟩,hcl⟩:=hC H1 db1 (h.regs.gl.ext e1 h.db) (fun i hi=>by
       rcases hi with hi |hi
       ·have:=h.top i hi;simp only[St.new];omega
       ·subst hi;simp only[St.new];omega) (((hl1.ext e1 h.db).append hy1).append (hl2.ext e1 h.db)) hcall
      have hcf: ∀ as:Array Value,(callFunc g1 as).run P w1= .ok (.enter g1 as) w1:=fun as=>by simp[callFunc,go_sem,h1,h2,h3]
      refine⟨lb,mark,w1,{target:= .fn (.func g1) vc,args:=vf++ #[.func (.yield lb) #[] #[]]},w1,g1,vf++ #[.func (.yield lb) #[] #[]]++vc,w1,henter,?_,fun _ _=>trivial,?_,fun hh=>by simp[FW] at hh,?_⟩
      ·have hk:a.eval (.const (.func (.yield lb) #[] #[]))= .func (.yield lb) #[] #[]:=rfl;simp[resolve,hgv,Deferred.ofValue,hk]
      ·simp[invoke,hcf]
      ·have hq:=hcl (m - 1);rw[show(vf.toList++[Value.func (.yield lb) #[] #[]]++vc.toList).toArray=vf++ #[Value.func (.yield lb) #[] #[]]++vc by apply Array.ext';simp] at hq;refine CallsIn.mono (kwq hq) fun e1' w2 he1=> ?_
       obtain⟨val,D2,ρ2,V2,rfl,hp⟩:=he1;obtain⟨b2,hb2,hB2⟩:=hp.heap.bk _ _ hl;have e2:=hp.ext.ren s.nx b2 (.inr rfl) hb2;rw[yak] at e2;cases e2;obtain⟨hnD2,r2,hr2,hL2⟩:=hB2;have hnb:r2.state≠ .busy:=fun hq=>by
        have:=hL2.st;rw[hq] at this;exact hst this.symm
       obtain⟨H3,x3⟩:=kjn hp.heap hp.db hb2 hnD2 hr2 (fun _ _ _ h=>by cases h) (.loop {r2 with state:= .exhausted}) (fun r' h=>by cases h;exact⟨_,rfl,rfl⟩) (.loop {l with st:=3}) (fun x3=>⟨hnD2,_,kg7 (Array.getElem?_eq_some_iff.1 hr2).1 _,⟨rfl,hL2.pend,hL2.size,fun t=>(hL2.tmps t).ext x3 hp.db,hL2.ps,hL2.lt,hL2.asg,hL2.body⟩⟩);have ee:=(e1.trans hp.ext).trans x3;have hM:Mv P pu nt D ρ w V s a D2 ρ2 (kc7 w2 lb (.loop {r2 with state:= .exhausted})) V2 {r:=s.r,h:=s2.h.put s.nx (some (.loop {l with st:=3})),nx:=s2.nx} {a with defers:=mark++a.defers}:=by
        have hnx:s.nx+1<=s2.nx:=hp.nx;refine⟨⟨h.size,⟨fun t=>(h.regs.regs t).ext ee h.db,h.regs.gl.ext ee h.db⟩,H3,fun i hi=> ?_,fun c hc=>Nat.lt_of_lt_of_le (hp.db c hc) x3.size⟩,ee,by show s.nx<=s2.nx;omega,fun i hi=> ?_,fun n0 hn0 hm=> ?_⟩
        ·show i<s2.nx;rcases hp.ids i hi with(hi |hi) |hi
         ·have:=h.top i hi;omega
         ·omega
         ·exact hi.2
        ·rcases hp.ids i hi with(hi |hi) |hi
         ·exact .inl hi
         ·exact .inr (by omega)
         ·have h1:s.nx+1<=i:=hi.1;exact .inr (by omega)
        ·exact(hmk n0 hn0 hm).ext H1 (hp.ext.trans x3)
       refine⟨_,_,run_endLoop hr2 hnb,?_⟩;have hpd:=hL2.pend;split at he
       ·rename_i hnone;cases he;rw[hnone] at hpd;have hq:=hQ _ _ _ _ _ hM;generalize r2.pending=pp at hpd hq ⊢;cases pp with
        |none=>exact hq
        |some c=>cases c <;> exact hpd.elim
       ·rename_i e' hsome;cases he;rw[hsome] at hpd;have hq:=hQ _ _ _ _ _ hM;generalize r2.pending=pp at hpd hq ⊢;cases pp with
        |none=>exact hpd.elim
        |some c=>
         cases c <;> cases e <;> first |exact hpd.elim |skip
         ·cases hpd;exact wpIn_exit hq
         ·cases hpd;exact wpIn_goto hq
         ·exact wpIn_ret hq
    ·cases hcall
  ·cases he
 ·cases he
theorem k8b: ∀ (n:Nat),(∀ k,k<n->keq P pu (kb1 F KK (exA F KK k)))->kfo P pu (exA F KK n):=by
 intro n
 induction n using Nat.strongRecOn with
 |_ n ih=>
  intro hC nt code ac hc rd m D ρ w V s s1 a e Q h hrd he hQ;cases n with
  |zero=>cases he
  |succ n=>
   have IH:kfo P pu (exA F KK n):=ih n (yah n) (fun k hk=>hC k (Nat.lt_succ_of_lt hk));have hCn:keq P pu (kb1 F KK (exA F KK n)):=hC n (yah n);cases code with
   |skip=>cases hc;cases he;exact wpIn_skip (hQ _ _ _ _ _ (Mv.refl h))
   |region id ops draw=>
    simp only[kb4] at hc;cases draw with
    |true=>simp only[if_true] at hc;exact k7h hCn IH hc h he hQ
    |false=>
     simp only[Bool.false_eq_true,if_false,yaa] at hc;obtain⟨aos,hm,rfl⟩:=hc;simp only[exA] at he;split at he
     ·rename_i s2 hr;cases he;exact qnk hCn IH hm h hr hQ
     ·cases he
   |seq x y=>
    simp only[kb4] at hc;split at hc
    ·rename_i ax ay hx hy;cases hc;simp only[exA] at he;refine wpIn_seq ?_;split at he
     ·rename_i s2 h1;refine IH hx h hrd h1 fun D' ρ' w' V' a' m1=> ?_
      exact IH hy m1.rel (hrd.ext m1.ext) he fun D₂ ρ₂ w₂ V₂ a₂ m2=>hQ _ _ _ _ _ (m1.trans m2)
     ·rename_i hne;refine IH hx h hrd he fun D' ρ' w' V' a' m1=> ?_
      have:=hQ _ _ _ _ _ m1;cases e with
      |nrm=>exact absurd he (hne s1)
      |ext i=>exact this
      |gto l=>exact this
      |ret=>exact this
    ·cases hc
   |cond c x y=>
    simp only[kb4] at hc;split at hc
    ·rename_i ac ax ay hcc hx hy;cases hc;simp only[exA] at he;have hR:=ka8 h.regs hcc;split at he
     ·rename_i t ht;rw[ht] at hR;generalize hv:a.eval c=v at hR;cases hR;refine wpIn_cond hv ?_;cases t with
      |true=>exact IH hx h hrd (by simpa using he) hQ
      |false=>exact IH hy h hrd (by simpa using he) hQ
     ·cases he
    ·cases hc
   |block id c=>
    simp only[kb4,yaa] at hc;obtain⟨ax,hx,rfl⟩:=hc;simp only[exA] at he;refine wpIn_block ?_;split at he
    ·rename_i j s2 h1;refine IH hx h hrd h1 fun D' ρ' w' V' a' m1=> ?_
     simp only[AE.toExit,Exit.inBlock];split at he
     ·rename_i hj;cases he;rw[iq hj];exact hQ _ _ _ _ _ m1
     ·rename_i hj;cases he;rw[ir hj];exact hQ _ _ _ _ _ m1
    ·rename_i hne;refine IH hx h hrd he fun D' ρ' w' V' a' m1=> ?_
     have:=hQ _ _ _ _ _ m1;cases e with
     |nrm=>exact this
     |ext i=>exact absurd he (hne i s1)
     |gto l=>exact this
     |ret=>exact this
   |loop c=>
    simp only[kb4,yaa] at hc;obtain⟨ax,hx,rfl⟩:=hc;refine qra (fun k a' w'=>k<=n+1/\ ∃ D' ρ' V' s',Mv P pu nt D ρ w V s a D' ρ' w' V' s' a'/\exA F KK k (.loop ax) s'=some (e,s1)) (fun a' w' hI=> ?_) (fun k a' w' hI=> ?_) (n+1) a w ⟨yac _,D,ρ,V,s,Mv.refl h,he⟩
    ·obtain⟨_,_,_,_,_,_,h0⟩:=hI;cases h0
    ·obtain⟨hk,D',ρ',V',s',m1,h1⟩:=hI;simp only[exA] at h1;have IH0:kfo P pu (exA F KK k):=ih k (by omega) (fun j hj=>hC j (by omega));split at h1
     ·rename_i s2 h2;exact IH0 hx m1.rel (hrd.ext m1.ext) h2 fun D₂ ρ₂ w₂ V₂ a₂ m2=>⟨by omega,D₂,ρ₂,V₂,s2,m1.trans m2,h1⟩
     ·rename_i hne;refine IH0 hx m1.rel (hrd.ext m1.ext) h1 fun D₂ ρ₂ w₂ V₂ a₂ m2=> ?_
      have:=hQ _ _ _ _ _ (m1.trans m2);cases e with
      |nrm=>exact absurd h1 (hne s1)
      |ext i=>exact this
      |gto l=>exact this
      |ret=>exact this
   |rangeFunc f ps x y=>
    simp only[kb4] at hc;split at hc
    ·rename_i af ax ay hf hx hy;split at hc
     ·rename_i hps;cases hc;exact qnr hCn hf hx hy hps h hrd he hQ
     ·cases hc
    ·cases hc
   |exit id=>cases hc;cases he;exact wpIn_exit (hQ _ _ _ _ _ (Mv.refl h))
   |scope c=>
    simp only[kb4] at hc;split at hc
    ·rename_i ab hb;cases hc;have hsc: ∀ j,j<=n+1-> ∀ {cc:Code} {cur:AC},kb4 P pu nt cc=some cur-> ∀ {D:Nat->Prop} {ρ:Ren} {w:World} {V:Ids} {s:St} {a:Act},SRel (C0 P pu) D w V ρ nt s a->RdOk w rd->exA F KK j (.scope cur ab) s=some (e,s1)->
       (∀ D' ρ' w' V' a',Mv P pu nt D ρ w V s a D' ρ' w' V' s1 a'->Q e.toExit a' w')->kmg (FW rd) m P c cc Q a w:=by
      intro j
      induction j with
      |zero=>intro _ cc cur _ D ρ w V s a _ _ he _;cases he
      |succ j ihj=>
       intro hj cc cur hcc D ρ w V s a h hrd he hQ;simp only[exA] at he;refine qaj ?_;have IHj:kfo P pu (exA F KK j):=ih j (by omega) (fun k hk=>hC k (by omega));split at he
       ·rename_i l s2 h1;refine IHj hcc h hrd h1 fun D' ρ' w' V' a' m1=> ?_
        simp only[AE.toExit];obtain⟨k1,k2⟩:=k8q hb l;split at he
        ·rename_i rest hrest;cases hfl:findLabel c l with
         |none=>rw[k1 hfl] at hrest;cases hrest
         |some rc=>
          obtain⟨ar,q1,q2⟩:=k2 rc hfl;rw[q1] at hrest;cases hrest;exact ihj (by omega) q2 m1.rel (hrd.ext m1.ext) he fun D₂ ρ₂ w₂ V₂ a₂ m2=>hQ _ _ _ _ _ (m1.trans m2)
        ·rename_i hrest;cases he;cases hfl:findLabel c l with
         |none=>exact hQ _ _ _ _ _ m1
         |some rc=>
          obtain⟨ar,q1,q2⟩:=k2 rc hfl;rw[q1] at hrest;cases hrest
       ·rename_i hne;refine IHj hcc h hrd he fun D' ρ' w' V' a' m1=> ?_
        have:=hQ _ _ _ _ _ m1;cases e with
        |nrm=>exact this
        |ext i=>exact this
        |gto l=>exact absurd he (hne l s1)
        |ret=>exact this
     exact qrb (hsc (n+1) (yac _) hb h hrd he hQ)
    ·cases hc
   |label l=>cases hc;cases he;exact wpIn_label (hQ _ _ _ _ _ (Mv.refl h))
   |goto l=>cases hc;cases he;exact wpIn_goto (hQ _ _ _ _ _ (Mv.refl h))
   |ret=>cases hc;cases he;exact wpIn_ret (hQ _ _ _ _ _ (Mv.refl h))
   |refuse r=>cases hc;cases he
end
open Go.RowKit
theorem ki2: ∀ (args:List AV) (i:Nat) (t:T AV) (k:Nat),(inits i args t).get k=if i<=k/\k<i+args.length then args[k - i]? else t.get k
 | [],i,t,k=>by
   rw[ir (by simp;try omega)];rfl
 |x::xs,i,t,k=>by
  unfold inits;rw[ki2 xs (i+1) _ k,T.get_put];by_cases h:i=k
  ·subst h;rw[ir (by omega),iq rfl,iq (by simp)];simp
  ·rw[ir h];by_cases h2:i+1<=k/\k<i+1+xs.length
   ·rw[iq h2,iq (by simp;omega),show k - i=(k - (i+1))+1 from by omega];simp
   ·rw[ir h2,ir (by simp;omega)]
section
variable {G:Gl} {P:Program} {D D':Nat->Prop} {ρ ρ':Ren} {w w':World} {V V':Ids} {s s' s1:St} {a:Act} {rd:Option Nat} {m nt:Nat}
 {F:Nat->Option AFn} {KK:Nat->List AV->Option AV} {pu:Nat->Nat}
theorem qak {args:List AV} {vals:List Value} (h:RL D w V ρ args vals) (gl:GOk D w) (k:Nat) (h':T Blk) (n:Nat):
  Regs D w V ρ {r:=inits 0 args .nil,h:=h',nx:=n} {tmps:=vals.toArray++Array.replicate k undef,defers:=[]}:=⟨fun t=>by
 unfold St.rg;simp only[ki2,Nat.zero_le,true_and,Nat.zero_add,Nat.sub_zero];have hl:=h.1;by_cases ht:t<args.length
 ·rw[iq ht];have h1:(vals.toArray++Array.replicate k undef)[t]? =vals[t]? :=by
   rw[Array.getElem?_append_left (by simp;omega)];simp
  have h2:t<vals.length:=by omega
  have:=h.2 t _ _ (yab ht) (yab h2);simp only[Array.getD_eq_getD_getElem?,h1,yab ht,yab h2,Option.getD_some];exact this
 ·rw[ir ht];have h1:(vals.toArray++Array.replicate k undef).getD t undef=undef:=by
   rw[Array.getD_eq_getD_getElem?,Array.getElem?_append_right (by simp;omega),Array.getElem?_replicate];split <;> rfl
  rw[h1];exact kwi,gl⟩
def ko3 (tmps:Array Value) (r:ResultVar):Sem Value:=
 match r with
 | .tmp t=>pure (tmps.getD t undef)
 | .cell ad t=>do loadVar t (←asAddr (tmps.getD ad undef))
theorem qnn (fn:Func) (tmps:Array Value):results fn tmps=(do
 let vs ←fn.results.mapM (ko3 tmps)
 pure (if h:vs.size=1 then vs[0] else .tuple vs)):=rfl
theorem qnl (h:SRel (C0 P pu) D w V ρ nt s a) {r:ResultVar} {p:Nat×Option (Bool×Nat)} (hc:kjz r P=some p) {v:AV}
  (he:kdi s p=some v):
  ∃ u,(ko3 a.tmps r).run P w= .ok u w/\R D w V ρ v u:=by
 unfold kjz at hc;unfold kdi at he;split at hc
 ·cases hc;simp only[Option.some.injEq] at he;subst he;exact⟨_,rfl,h.regs.regs _⟩
 ·rename_i ad t;split at hc
  ·rename_i g n hg hn;split at hc
   ·cases hc;simp only at he;split at he
    ·rename_i cs hr;obtain⟨adr,u,h1,h2,h3⟩:=k4a h.heap (h.regs.regs ad) hg hn hr he;refine⟨u,?_,h3⟩;simp[ko3,h1,asAddr,h2]
    ·cases he
   ·cases hc
  ·cases hc
theorem k32 (h:SRel (C0 P pu) D w V ρ nt s a): ∀ {rs:List ResultVar} {ps:List (Nat×Option (Bool×Nat))} {us:List AV},mapO (fun r=>kjz r P) rs=some ps->
  mapO (kdi s) ps=some us->
  ∃ vs,(rs.mapM (ko3 a.tmps)).run P w= .ok vs w/\RL D w V ρ us vs
 | [],ps,us,hc,he=>by
   cases hc;cases he;exact⟨[],rfl,RL.nil⟩
 |r::rs,ps,us,hc,he=>by
  unfold mapO at hc;split at hc
  ·cases hc
  ·rename_i p hp;split at hc
   ·cases hc
   ·rename_i ps' hps;cases hc;unfold mapO at he;split at he
    ·cases he
    ·rename_i u hu;split at he
     ·cases he
     ·rename_i us' hus;cases he;obtain⟨x,h1,h2⟩:=qnl h hp hu;obtain⟨xs,h3,h4⟩:=k32 h hps hus;refine⟨x::xs,?_,RL.cons h2 h4⟩;rw[List.mapM_cons,Sem.run_bind,h1];simp[h3]
theorem qnm (h:SRel (C0 P pu) D w V ρ nt s a) {fn:Func} {af:AFn} (hc:mapO (fun r=>kjz r P) fn.results.toList=some af.res) {v:AV} (he:kcg af s=some v): ∃ u,(results fn a.tmps).run P w= .ok u w/\R D w V ρ v u:=by
 unfold kcg at he;have key: ∃ us,mapO (kdi s) af.res=some us/\(match us with | [v]=>v |us=> .tup us)=v:=by
  split at he
  ·rename_i v' hv;cases he;exact⟨_,hv,rfl⟩
  ·rename_i us hne hv;cases he;refine⟨us,hv,?_⟩;split
   ·rename_i v' ;exact absurd rfl (hne v')
   ·rfl
  ·cases he
 obtain⟨us,h1,h2⟩:=key;obtain⟨vs,h3,h4⟩:=k32 h hc h1;have hrun:(results fn a.tmps).run P w= .ok (if h:vs.toArray.size=1 then vs.toArray[0] else .tuple vs.toArray) w:=by
  rw[qnn,Array.mapM_eq_mapM_toList];simp[h3]
 refine⟨_,hrun,?_⟩;subst h2
 match us,vs,h4 with
 | [],[],h4=>exact R.tup_mk h4
 | [u],[x],h4=>
   obtain⟨_,_,h5,h6,_⟩:=h4.inv_cons;cases h5;simpa using h6
 |u::u2::us,x::x2::vs,h4=>exact R.tup_mk h4
 | [],_::_,h4=>exact absurd h4.1 (by simp)
 |_::_,[],h4=>exact absurd h4.1 (by simp)
 | [_],_::_::_,h4=>exact absurd h4.1 (by simp)
 |_::_::_,[_],h4=>exact absurd h4.1 (by simp)
theorem k66 {f:Nat} {af:AFn} (h:kk9 P pu f=some af): ∃ fn c,P.funcs[f]? =some fn/\fn.body=some c/\fn.name≠ "runtime.NumGoroutine" /\kb4 P pu fn.ntmps c=some af.body/\mapO (fun r=>kjz r P) fn.results.toList=some af.res:=by
 unfold kk9 at h;split at h
 ·rename_i fn hf;split at h
  ·rename_i c hc;split at h
   ·rename_i hn;split at h
    ·rename_i b rs hb hr;cases h;exact⟨fn,c,hf,hc,hn,hb,hr⟩
    ·cases h
   ·cases h
  ·cases h
 ·cases h
theorem SRel.off (h:SRel (C0 P pu) D w V ρ nt s a) {r:Nat} {x:Option (List Deferred)} (hr:w.heap[r]? =some (.deferred x)) (hD: ¬D r) (hρ: ∀ id,ρ id≠some r) (x':Option (List Deferred)):SRel (C0 P pu) D (kc7 w r (.deferred x')) V ρ nt s a:=by
 have hh: ∀ c,c≠r->(kc7 w r (.deferred x')).heap[c]? =w.heap[c]? :=fun c hc=>kl9 hc _
 have hR: ∀ {y:AV} {v:Value} {V:Ids} {ρ:Ren},R D w V ρ y v->R D (kc7 w r (.deferred x')) V ρ y v:=fun hy=>
  hy.mono (fun _ h=>h) (fun b hb=>hh b fun e=>hD (e ▸ hb)) (fun b real ty mk hb=>⟨real,mk,by rw[hh b fun e=>by subst e;rw[hr] at hb;cases hb];exact hb,rfl⟩) (fun _ h=>h) (fun _ _ _ h=>h)
 refine⟨h.size,⟨fun t=>hR (h.regs.regs t),⟨fun g x hx=>hR (h.regs.gl.tab g x hx),Gl.fact_ext (fun _ h=>h) (fun b hb=>hh b fun e=>hD (e ▸ hb)) h.regs.gl.fact⟩⟩,⟨h.heap.lo,h.heap.dom,h.heap.inj,fun id k hk=> ?_⟩,h.top,fun b hb=>by have:=h.db b hb;simpa[kc7] using this⟩;obtain⟨b,hb,hB⟩:=h.heap.bk id k hk;have hbr:b≠r:=fun e=>hρ id (e ▸ hb)
 refine⟨b,hb,?_⟩;cases k with
 |cells cs fz ty=>
  obtain⟨h1,h2,real,mk,h3,h4,h5,h6⟩:=hB;exact⟨h1,h2,real,mk,(hh b hbr).trans h3,h4,h5,fun j x hx=>let ⟨v,hv,hr⟩:=h6 j x hx;⟨v,hv,hR hr⟩⟩
 |map es=>
  obtain⟨h1,ents,clock,h2,h3,h4⟩:=hB;exact⟨h1,ents,clock,(hh b hbr).trans h2,h3,fun j x hx=>let ⟨v,hv,hr,hr2⟩:=h4 j x hx;⟨v,hv,hR hr,hR hr2⟩⟩
 |loop l=>
  obtain⟨h1,r',h2,h3⟩:=hB;exact⟨h1,r',(hh b hbr).trans h2,⟨h3.st,h3.pend,h3.size,fun t=>hR (h3.tmps t),h3.ps,h3.lt,h3.asg,h3.body⟩⟩
 |own=>exact hB.elim
 |pre=>exact hB.elim
 |text v ty=>
  obtain⟨h1,bs,real,hi,h2,h3,h4⟩:=hB;exact⟨h1,bs,real,hi,h2,(hh b hbr).trans h3,h4⟩
theorem Ext.off (e:Ext D ρ w V D' ρ' w' V') {r:Nat} {x:Option (List Deferred)} (hr:w'.heap[r]? =some (.deferred x)) (hge:w.heap.size<=r) (x':Option (List Deferred)):Ext D ρ w V D' ρ' (kc7 w' r (.deferred x')) V':=by
 have hh: ∀ c,c≠r->(kc7 w' r (.deferred x')).heap[c]? =w'.heap[c]? :=fun c hc=>kl9 hc _
 exact {
  ids:=e.ids
  os:=e.os
  tape:=e.tape
  output:=e.output
  size:=by simpa[kc7] using e.size
  sub:=e.sub
  frame:=fun b hb hf=>(hh b (by omega)).trans (e.frame b hb hf)
  shape:=fun b real ty mk hb=>by
   obtain⟨real',mk',h1,h2⟩:=e.shape b real ty mk hb;exact⟨real',mk',by rw[hh b fun e=>by subst e;rw[hr] at h1;cases h1];exact h1,h2⟩
  loops:=fun b l hb=>by
   obtain⟨l',h1,h2⟩:=e.loops b l hb;exact⟨l',by rw[hh b fun e=>by subst e;rw[hr] at h1;cases h1];exact h1,h2⟩
  ren:=e.ren
  new:=e.new
  dnew:=e.dnew}
theorem SRel.mark_free (h:SRel (C0 P pu) D w V ρ nt s a) {r:Nat} {x:Option (List Deferred)} (hr:w.heap[r]? =some (.deferred x)) (id:Nat):ρ id≠some r:=fun hid=>by
 obtain⟨k,hk⟩:=h.heap.dom id r hid;obtain⟨b,hb,hB⟩:=h.heap.bk id k hk;rw[hid] at hb;cases hb;cases k with
 |cells cs fz ty=>obtain⟨_,_,real,mk,q,_⟩:=hB;rw[hr] at q;cases q
 |map es=>obtain⟨_,ents,clock,q,_⟩:=hB;rw[hr] at q;cases q
 |loop l=>obtain⟨_,r',q,_⟩:=hB;rw[hr] at q;cases q
 |own=>exact hB.elim
 |pre=>exact hB.elim
 |text v ty=>obtain⟨_,_,_,_,_,q,_⟩:=hB;rw[hr] at q;cases q
theorem qa1 {n:Nat} {fn:Func} {R:Ending->World->Prop}: ∀ (ds:List Deferred) {D₀:Nat->Prop} {ρ₀:Ren} {w₀:World} {V₀:Ids} {w:World},MarkL D w w₀.heap.size ds->SRel (C0 P pu) D w V ρ nt s a->Ext D₀ ρ₀ w₀ V₀ D ρ w V->
  (∀ w',SRel (C0 P pu) D w' V ρ nt s a->Ext D₀ ρ₀ w₀ V₀ D ρ w' V->LeavesIn (FW none) n P fn a.tmps R [] .returning w')->LeavesInM (FW none) n P fn a.tmps R ds .returning w:=by
 intro ds
 induction ds with
 |nil=>intro D₀ ρ₀ w₀ V₀ w _ hS hE h;exact h w hS hE
 |cons d ds ih=>
  intro D₀ ρ₀ w₀ V₀ w hm hS hE h;obtain⟨rs,h1,h2,h3⟩:=hm;cases rs with
  |nil=>cases h1
  |cons r rs=>
   rw[List.map_cons] at h1;cases h1;obtain⟨k1,k2,k3⟩:=h3 r List.mem_cons_self;refine⟨(by intro h;cases h),.inl ⟨r,_,rfl,run_takeDeferred k3,?_⟩⟩;refine ih ⟨rs,rfl,(yad.1 h2).2,fun r' hr'=> ?_⟩ (hS.off k3 k2 (hS.mark_free k3) none) (hE.off k3 k1 none) h;obtain⟨q1,q2,q3⟩:=h3 r' (List.mem_cons_of_mem _ hr');have:=(yad.1 h2).1 r' hr';exact⟨q1,q2,(kl9 (w:=w) (by omega) _).trans q3⟩
theorem kp1 {n:Nat} (hC: ∀ k,k<n->keq P pu (kb1 F KK (exA F KK k))) {f:Nat} {af:AFn} (hf:kk9 P pu f=some af) (H:HRel (C0 P pu) D w V ρ s.h) (db: ∀ b,D b->b<w.heap.size) (gl:GOk D w) (top: ∀ i,V i->i<s.nx)
  {args:List AV} {vals:List Value} (hR:RL D w V ρ args vals) {e:AE} (he:exA F KK n af.body {r:=inits 0 args .nil,h:=s.h,nx:=s.nx}=some (e,s1)) (hn:e= .nrm\/e= .ret) {v:AV} (hv:kcg af s1=some v):
  khd P f/\ ∀ j,CallsIn (FW none) j P f vals.toArray w fun en w'=>∃ val D' ρ' V',en= .returned val/\R D' w' V' ρ' v val/\HRel (C0 P pu) D' w' V' ρ' s1.h/\Ext D ρ w V D' ρ' w' V'/\s.nx<=s1.nx/\(∀ i,V' i->V i\/(s.nx<=i/\i<s1.nx))/\ ∀ b,D' b->b<w'.heap.size:=by
 obtain⟨fn,c,h1,h2,h3,h4,h5⟩:=k66 hf;refine⟨⟨fn,c,h1,h2,h3⟩,fun j=> ?_⟩;refine callsIn_of_wp_marks h1 h2 trivial ?_ rfl;have hS:SRel (C0 P pu) D w V ρ fn.ntmps {r:=inits 0 args .nil,h:=s.h,nx:=s.nx} {tmps:=vals.toArray++Array.replicate (fn.ntmps - vals.toArray.size) undef,defers:=[]}:=
  ⟨by simp;omega,qak hR gl _ _ _,H,top,db⟩
 refine k8b n hC h4 (rd:=none) hS (fun l hl=>by cases hl) he fun D' ρ' w' V' a' m1=> ?_
 have hfin:LeavesInM (FW none) j P fn a'.tmps (fun en w'=>∃ val D' ρ' V',en= .returned val/\R D' w' V' ρ' v val/\HRel (C0 P pu) D' w' V' ρ' s1.h/\Ext D ρ w V D' ρ' w' V'/\s.nx<=s1.nx/\(∀ i,V' i->V i\/(s.nx<=i/\i<s1.nx))/\ ∀ b,D' b->b<w'.heap.size) a'.defers .returning w':=by
  refine qa1 a'.defers (m1.defers _ (yac _) MarkL.nil) m1.rel m1.ext fun w2 r2 e2=> ?_
  obtain⟨u,hu,hRu⟩:=qnm r2 h5 hv;exact⟨u,hu,u,D',ρ',V',rfl,hRu,r2.heap,e2,m1.nx,fun i hi=>(m1.ids i hi).imp id fun h=>⟨h,r2.top i hi⟩,r2.db⟩
 rcases hn with rfl |rfl
 ·exact hfin
 ·exact hfin
end
end Go.Proofs.Hz
