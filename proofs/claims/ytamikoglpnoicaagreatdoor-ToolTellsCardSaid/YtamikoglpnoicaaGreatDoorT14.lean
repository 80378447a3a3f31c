/-
  The program's code told as abstract code: control, regions (also those whose order is drawn), functions.
  Conditions: none.
-/
import Derived.Test.YtamikoglpnoicaaGreatDoorT07
import Derived.Test.YtamikoglpnoicaaGreatDoorT03
import Derived.Test.YtamikoglpnoicaaGreatDoorT13
import Derived.CallsIn
import Derived.OrdersIn
import Derived.RangeFuncRecord
namespace Go.Proofs.Hz
open Bool renaming and_eq_true->yae,or_eq_true->yah
open Classical renaming not_forall->yaf
open List renaming getD_eq_getElem?_getD->yac,cons_append->yad,mem_cons->yag,all_eq_true->yak,mem_append->yal,countP_cons->yam,foldl_cons->yan,nil_append->yao
open List.cons renaming injEq->yab
open Nat renaming lt_of_lt_of_le->yaa,le_trans->yai
open Option.some renaming injEq->yaj
def khj (acc:List Nat):List Edge->Nat
 | []=>0
 |e::es=>if Region.binds .any e then khj acc es |||(2 ^ e.on |||acc.getD e.on 0) else khj acc es
def klu:List Oper->List Nat->List Nat
 | [],acc=>acc
 |o::os,acc=>klu os (acc++[khj acc o.after.toList])
def ker (ms:List Nat) (i j:Nat):Bool:=(ms.getD j 0).testBit i
def kyt (pu:Nat->Nat):AOp->Nat
 | .call f _=>match f with
   | .c (.fn g [] [])=>if pu g=2 then 0 else if pu g=1 then 3 else 2
   |_=>2
 | .store .. =>3
 | .app .. =>3
 | .cpy .. =>3
 |o=>if kgk o then 0 else if kjc o then 1 else if kfk o then 4 else 2
def kz9 (ms:List Nat):List (Nat×Nat)->List (Nat×Nat)->List (Nat×Nat)
 | [],rem=>rem
 |q::ws,rem=>rem.filter (fun p=>ker ms p.1 q.1)++q::kz9 ms ws (rem.filter fun p=> !ker ms p.1 q.1 && p.1 != q.1)
def kxz (ms:List Nat):List (Nat×Nat)->List (Nat×Nat)->List (Nat×Nat×Nat×Bool)
 |_,[]=>[]
 |pre,p::l=>(p.1,p.2,(if p.2=4 then pre.countP (fun q=>isW q.2 && !ker ms q.1 p.1) else 0),(if p.2=4 then pre.any (fun q=>q.2 == 1 && !ker ms q.1 p.1) else false))::kxz ms (p::pre) l
def kyk:Nat->List Nat->List (Nat×Nat)
 |_,[]=>[]
 |i,k::ks=>(i,k)::kyk (i+1) ks
def k0o (ms:List Nat) (ks:List Nat):List (Nat×Nat×Nat×Bool):=
 let l:=kyk 0 ks
 kxz ms [] (kz9 ms (l.filter fun p=>isW p.2) l)
def kn5 (ms:List Nat):List ADr->Bool
 | []=>true
 |x::l=>l.all (fun y=>ker ms x.i y.i || (kip x.o y.o && kgg x y)) && kn5 ms l
def kn3 (ms:List Nat):List ADr->List ADr->Bool
 |_,[]=>true
 |pre,y::l=>(decide (y.k<4) || decide (pre.countP (fun x=>isW x.k && !ker ms x.i y.i)<=y.back)) && kn3 ms (y::pre) l
def kn4:List ADr->Bool
 | []=>true
 |x::l=>l.all (fun y=>y.i != x.i) && kn4 l
def kkh:Nat->List Oper->Bool
 |_,[]=>true
 |i,o::os=>o.after.toList.all (fun e=> !Region.binds .any e || decide (e.on<i)) && kkh (i+1) os
def kzx (ops:Array Oper) (l:List ADr):Bool:=
 let ms:=klu ops.toList []
 kn5 ms l && (kn3 ms [] l && (kn4 l && (kkh 0 ops.toList && (decide (l.length<=ops.size) && (List.range ops.size).all fun i=>l.any fun y=>y.i == i))))
section
variable [Gl]
def kzh (P:Program) (nt:Nat) (ops:Array Oper) (p:Nat×Nat×Nat×Bool):Option ADr:=
 match ops[p.1]? with
 |some o=>(kf6 P nt ops o).map fun a=>{o:=a,i:=p.1,k:=p.2.1,back:=p.2.2.1,fl:=p.2.2.2}
 |none=>none
def kms (P:Program) (pu:Nat->Nat) (nt:Nat) (ops:Array Oper):Option AC:=
 match mapO (fun o=>kfr P o.op) ops.toList with
 |none=>none
 |some as=>
  match mapO (kzh P nt ops) (k0o (klu ops.toList []) (as.map (kyt pu))) with
  |none=>none
  |some l=>if(P.follows .mixedOrders || !Region.departs ops) && kzx ops l then some (.drw ops.size l) else none
def kb4 (P:Program) (pu:Nat->Nat) (nt:Nat):Code->Option AC
 | .skip=>some .skip
 | .region _ ops draw=>if draw then kms P pu nt ops else(mapO (kf6 P nt ops) ops.toList).map .reg
 | .seq a b=>match kb4 P pu nt a,kb4 P pu nt b with
   |some a,some b=>some (.seq a b)
   |_,_=>none
 | .cond c a b=>match kar c,kb4 P pu nt a,kb4 P pu nt b with
   |some c,some a,some b=>some (.cond c a b)
   |_,_,_=>none
 | .block id b=>(kb4 P pu nt b).map (.block id)
 | .loop b=>(kb4 P pu nt b).map .loop
 | .exit id=>some (.exit id)
 | .ret=>some .ret
 | .label l=>some (.label l)
 | .goto l=>some (.goto l)
 | .scope b=>match kb4 P pu nt b with
   |some b=>some (.scope b b)
   |none=>none
 | .rangeFunc g ps asg body=>match kar g,kb4 P pu nt asg,kb4 P pu nt body with
   |some f,some a,some b=>if ps.toList.all (fun p=>decide (p<nt)) then some (.rngf nt f ps.toList a b) else none
   |_,_,_=>none
 | .refuse _=>some (.reg [⟨none,.fail,none⟩])
def kk9 (P:Program) (pu:Nat->Nat) (f:Nat):Option AFn:=
 match P.funcs[f]? with
 |some fn=>match fn.body with
  |some c=>if fn.name≠ "runtime.NumGoroutine" then
    match kb4 P pu fn.ntmps c,mapO (fun r=>kjz r P) fn.results.toList with
    |some b,some rs=>some {nt:=fn.ntmps,res:=rs,body:=b,pure:=pu f != 0}
    |_,_=>none
   else none
  |none=>none
 |none=>none
end
open Go.RowKit
def FW (rd:Option Nat):Fence:={fn:=fun _=>True,depth:=none,alive:=false,round:=rd}
theorem kwq {rd rd':Option Nat} {n:Nat} {P:Program} {f:FuncId} {args:Array Value} {w:World} {Q:Ending->World->Prop} (h:CallsIn (FW rd) n P f args w Q):CallsIn (FW rd') n P f args w Q:=h
abbrev C0 [Gl] (P:Program) (pu:Nat->Nat):CodeRel:=⟨fun nt c ac=>kb4 P pu nt c=some ac⟩
structure Post [Gl] (P:Program) (pu:Nat->Nat) (D:Nat->Prop) (ρ:Ren) (w:World) (V:Ids) (s s':St) (v:AV) (val:Value) (w':World) (D':Nat->Prop) (ρ':Ren) (V':Ids):Prop where
 val:R D' w' V' ρ' v val
 heap:HRel (C0 P pu) D' w' V' ρ' s'.h
 ext:Ext D ρ w V D' ρ' w' V'
 nx:s.nx<=s'.nx
 ids: ∀ i,V' i->V i\/(s.nx<=i/\i<s'.nx)
 db: ∀ b,D' b->b<w'.heap.size
def k5k [Gl] (P:Program) (pu:Nat->Nat) (D:Nat->Prop) (ρ:Ren) (w:World) (V:Ids) (s s':St) (v:AV) (e:Ending) (w':World):Prop:=
 ∃ val D' ρ' V',e= .returned val/\Post P pu D ρ w V s s' v val w' D' ρ' V'
def khd (P:Program) (g:Nat):Prop:=∃ fn c,P.funcs[g]? =some fn/\fn.body=some c/\fn.name≠ "runtime.NumGoroutine"
def keq [Gl] (P:Program) (pu:Nat->Nat) (cf:Nat->List AV->St->Option (AV×St)):Prop:=
 ∀ {D:Nat->Prop} {ρ:Ren} {w:World} {V:Ids} {s s':St} {g:Nat} {args:List AV} {vals:List Value} {v:AV},HRel (C0 P pu) D w V ρ s.h->(∀ b,D b->b<w.heap.size)->GOk D w->(∀ i,V i->i<s.nx)->
  RL D w V ρ args vals->cf g args s=some (v,s')->khd P g/\ ∀ n,CallsIn (FW none) n P g vals.toArray w (k5k P pu D ρ w V s s' v)
def qby (r:Nat):Deferred:={target:= .collected r,args:= #[]}
def MarkL (D:Nat->Prop) (w:World) (n0:Nat) (ds:List Deferred):Prop:=
 ∃ rs:List Nat,ds=rs.map qby/\rs.Pairwise (· > ·)/\ ∀ r ∈ rs,n0<=r/\ ¬D r/\w.heap[r]? =some (.deferred (some []))
theorem MarkL.nil {D:Nat->Prop} {w:World} {n0:Nat}:MarkL D w n0 []:=⟨[],rfl,.nil,fun r hr=>by cases hr⟩
theorem MarkL.ext {C:CodeRel} {D D':Nat->Prop} {ρ ρ':Ren} {w w':World} {V V':Ids} {h:T Blk} {n0:Nat} {ds:List Deferred} (H:HRel C D w V ρ h) (e:Ext D ρ w V D' ρ' w' V') (m:MarkL D w n0 ds):MarkL D' w' n0 ds:=by
 obtain⟨rs,h1,h2,h3⟩:=m;refine⟨rs,h1,h2,fun r hr=> ?_⟩;obtain⟨k1,k2,k3⟩:=h3 r hr;have hlt:=(Array.getElem?_eq_some_iff.1 k3).1;have hno: ∀ id,ρ id≠some r:=fun id hid=>by
  obtain⟨k,hk⟩:=H.dom id r hid;obtain⟨b,hb,hB⟩:=H.bk id k hk;rw[hid] at hb;cases hb;cases k with
  |cells cs fz ty=>obtain⟨_,_,real,mk,q,_⟩:=hB;rw[k3] at q;cases q
  |map es=>obtain⟨_,ents,clock,q,_⟩:=hB;rw[k3] at q;cases q
  |loop l=>obtain⟨_,r',q,_⟩:=hB;rw[k3] at q;cases q
  |own=>exact hB.elim
  |pre=>exact hB.elim
  |text v ty=>obtain⟨_,_,_,_,_,q,_⟩:=hB;rw[k3] at q;cases q
 refine⟨k1,fun hd=> ?_,(e.frame r hlt (.inr hno)).trans k3⟩;rcases e.dnew r hd with h | ⟨i,hi⟩ |h
 ·exact k2 h
 ·exact hno i hi
 ·omega
structure Mv [Gl] (P:Program) (pu:Nat->Nat) (nt:Nat) (D:Nat->Prop) (ρ:Ren) (w:World) (V:Ids) (s:St) (a:Act) (D':Nat->Prop) (ρ':Ren) (w':World) (V':Ids) (s':St) (a':Act):Prop where
 rel:SRel (C0 P pu) D' w' V' ρ' nt s' a'
 ext:Ext D ρ w V D' ρ' w' V'
 nx:s.nx<=s'.nx
 ids: ∀ i,V' i->V i\/s.nx<=i
 defers: ∀ n0,n0<=w.heap.size->MarkL D w n0 a.defers->MarkL D' w' n0 a'.defers
def AE.toExit:AE->Exit
 | .nrm=> .normal
 | .ext i=> .exit i
 | .gto l=> .goto l
 | .ret=> .ret
def RdOk (w:World) (rd:Option Nat):Prop:=∀ l,rd=some l-> ∃ r:Loop,w.heap[l]? =some (.loop r)
theorem RdOk.ext {D D':Nat->Prop} {ρ ρ':Ren} {w w':World} {V V':Ids} {rd:Option Nat} (e:Ext D ρ w V D' ρ' w' V') (h:RdOk w rd):RdOk w' rd:=fun l hl=>by
 obtain⟨r,hr⟩:=h l hl;obtain⟨r',h1,_⟩:=e.loops l r hr;exact⟨r',h1⟩
def kfo [Gl] (P:Program) (pu:Nat->Nat) (ex:AC->St->Option (AE×St)):Prop:=
 ∀ {nt:Nat} {code:Code} {ac:AC},kb4 P pu nt code=some ac-> ∀ {rd:Option Nat} {m:Nat} {D:Nat->Prop} {ρ:Ren} {w:World} {V:Ids} {s s1:St} {a:Act} {e:AE} {Q:Exit->Act->World->Prop},
  SRel (C0 P pu) D w V ρ nt s a->RdOk w rd->ex ac s=some (e,s1)->(∀ D' ρ' w' V' a',Mv P pu nt D ρ w V s a D' ρ' w' V' s1 a'->Q e.toExit a' w')->code.wpIn (FW rd) m P Q a w
theorem k67 {G:Gl} {P:Program} {op:Op} {f:AO} {as:List AO} (h:kfr P op=some (.call f as)): ∃ c fo,op= .call c/\c.callee= .value fo/\kar fo=some f/\mapO kar c.args.toList=some as:=by
 unfold kfr at h;split at h
 ·rename_i f' as' hc;split at h
  ·rename_i c;split at h
   ·rename_i fo hcal;cases h;simp only[kbl,hcal] at hc;split at hc
    ·rename_i as'' has;have other:(kar fo).map (fun f=>AOp.call f as'')=some (.call f as)-> ∃ c_1 fo_1,Op.call c=Op.call c_1/\c_1.callee=Callee.value fo_1/\kar fo_1=some f/\mapO kar c_1.args.toList=some as:=fun hc=>by
      cases hf:kar fo with
      |none=>simp[hf] at hc
      |some y=>simp[hf] at hc;obtain⟨rfl,rfl⟩:=hc;exact⟨c,fo,rfl,hcal,hf,has⟩
     cases fo with
     |func g=>
      simp only at hc;split at hc
      ·exact other hc
      ·unfold km2 at hc
       (repeat' split at hc) <;> cases hc
     |tmp t=>exact other hc
     |const v=>exact other hc
     |global g=>exact other hc
    ·cases hc
   ·cases h
  ·cases h
 ·cases h
 ·rename_i hne _;exact absurd h (hne _ _)
theorem kxa {G:Gl} {P:Program} {op:Op} {ao:AOp} (h:kfr P op=some ao) (hf:ao≠ .fail):kbl P op=some ao:=by
 unfold kfr at h;split at h
 ·rename_i f as hc
  (repeat' split at h) <;> first |(cases h;done) |(cases h;exact hc)
 ·cases h;exact absurd rfl hf
 ·exact h
theorem kqc {G:Gl} {P:Program} {op:Op} {ao:AOp} (h:kfr P op=some ao) (hf:ao≠ .fail) (c:Call):op≠ .defer c:=fun e=>by
 subst e;cases(kxa h hf)
section
variable {G:Gl} {P:Program} {pu:Nat->Nat} {D D':Nat->Prop} {ρ ρ':Ren} {w w':World} {V V':Ids} {s s':St} {a:Act} {rd:Option Nat} {n:Nat} {K:Act->World->Prop} {Q:Exit->Act->World->Prop}
theorem kn9 (H:HRel (C0 P pu) D w V ρ s.h) (db: ∀ b,D b->b<w.heap.size) (hr:Regs D w V ρ s a) (hf: ¬V s.nx) {o:Oper} {ao:AOp} (hc:kfr P o.op=some ao) {v:AV} (he:opA s ao=some (v,s'))
  (hK: ∀ val w' D' ρ' V',Post P pu D ρ w V s s' v val w' D' ρ' V'->s'.r=s.r->K (a.put o.dst val) w'):o.wpIn (FW rd) n P a w K Q:=by
 have hnf:ao≠ .fail:=fun e=>by subst e;cases he
 obtain⟨val,w',D',ρ',V',hres,h2,h3,h4,h5,h6,h7,h8⟩:=qd7 H db hr hf (kxa hc hnf) he;refine⟨fun f _=>trivial,?_⟩;rw[Oper.semAt_eq _ _ _ (kqc hc hnf)];have hp:=hK val w' D' ρ' V' ⟨h2,h3,h4,h6,h7,h8⟩ h5;rcases hres with hres | ⟨hres,rfl⟩
 ·rw[hres];exact hp
 ·rw[hres];exact hp
theorem k61 {F:Nat->Option AFn} {KK:Nat->List AV->Option AV} {ex:AC->St->Option (AE×St)} {f:AV} {as:List AV} {v:AV} (he:keu F KK ex f as s=some (v,s')):s'.r=s.r:=by
 have hx:kbi F KK ex (.call (.c f) (as.map .c)) s=some (v,s'):=by
  have:(as.map AO.c).map (AO.ev s)=as:=by
   rw[List.map_map];exact(List.map_congr_left fun _ _=>rfl).trans (List.map_id _)
  simp only[kbi,AO.ev,this];exact he
 have h2:=kv9 (F:=F) (K:=KK) (ex:=ex) (s:=s) (r:=s.r) (o:= .call (.c f) (as.map .c)) (fun _ _=>rfl);have e:({s with r:=s.r}:St)=s:=rfl;rw[e,hx] at h2;simp only[Option.map_some,ka7,yaj,Prod.mk.injEq,true_and] at h2;rw[h2]
theorem k3y: ∀ (ps:List Nat) (xs:List AV) (vs:List Value) (r:T AV) (tmps:Array Value),ps.length=xs.length->(∀ p ∈ ps,p<tmps.size)->RL D w V ρ xs vs->(∀ t,R D w V ρ ((r.get t).getD (.tup [])) (tmps.getD t undef))->
  ∀ t,R D w V ρ (((kel r ps xs).get t).getD (.tup [])) (((ps.zip vs).foldl (fun tm p=>tm.setIfInBounds p.1 p.2) tmps).getD t undef)
 | [],xs,vs,r,tmps,hl,hlt,hR,hr=>by
   cases xs with
   |nil=>exact hr
   |cons x xs=>cases hl
 |p::ps,xs,vs,r,tmps,hl,hlt,hR,hr=>by
  cases xs with
  |nil=>cases hl
  |cons x xs=>
   obtain⟨v,us,rfl,h1,h2⟩:=hR.inv_cons;simp only[kel,List.zip_cons_cons,yan];refine k3y ps xs us _ _ (by simpa using hl) (fun q hq=>by simpa using hlt q (List.mem_cons_of_mem _ hq)) h2 fun t=> ?_
   rw[T.get_put];by_cases e:p=t
   ·subst e;rw[iq rfl];have hlt:=hlt p List.mem_cons_self;simpa[hlt] using h1
   ·rw[ir e];have:(tmps.setIfInBounds p v).getD t undef=tmps.getD t undef:=by
     simp[Array.getElem?_setIfInBounds_ne e]
    rw[this];exact hr t
theorem kx5: ∀ (l:List (Nat×Value)) (tm:Array Value),(l.foldl (fun tm p=>tm.setIfInBounds p.1 p.2) tm).size=tm.size
 | [],_=>rfl
 |p::l,tm=>by rw[yan,kx5 l];simp
theorem qnu {ex:AC->St->Option (AE×St)} (hX:kfo P pu ex) (H:HRel (C0 P pu) D w V ρ s.h) (db: ∀ b,D b->b<w.heap.size)
  (hr:Regs D w V ρ s a) (top: ∀ i,V i->i<s.nx) {o:Oper} {f:AO} {as:List AO} (hc:kfr P o.op=some (.call f as)) {c:Call} {fo:Operand} (hcal:c.callee= .value fo) (ho:o.op= .call c) {id:Nat} (hf:R D w V ρ (.yld id) (a.eval fo)) (has:mapO kar c.args.toList=some as)
  {l l1 l2:ALoop} {s1 s2:St} {e:AE} (hl:s.h.get id=some (.loop l)) (hps:l.ps.length=(as.map (AO.ev s)).length) (he1:ex l.asg {r:=kel l.r l.ps (as.map (AO.ev s)),h:=s.h,nx:=s.nx}=some (.nrm,s1)) (hl1:s1.h.get id=some (.loop l1)) (hst:l1.st=0)
  (he2:ex l.body (s1.hp id (.loop {l1 with st:=1}))=some (e,s2)) (hl2:s2.h.get id=some (.loop l2))
  (hK: ∀ val w' D' ρ' V',Post P pu D ρ w V s {r:=s.r,h:=s2.h.put id (some (.loop {l2 with st:=if e.jump.isNone then 0 else 2,pend:=e.jump})),nx:=s2.nx} (.bool e.jump.isNone) val w' D' ρ' V'->K (a.put o.dst val) w'):o.wpIn (FW rd) n P a w K Q:=by
 generalize hfv:a.eval fo=fv at hf;cases hf with
 |yld hid hlb=>
  rename_i lb;obtain⟨b,hb,hB⟩:=H.bk id _ hl;have:=hlb b hb;subst this;obtain⟨hnD,r,hr0,hL⟩:=hB;have hargs:=kiw hr has;have hsz:(c.args.map a.eval).size=r.params.size:=by
   have h1:=hargs.1;have h2:=congrArg List.length hL.ps;simp at h1 h2 hps;simp;omega
  have hrun:(execOp a.eval o).run P w= .ok (.round lb r.fn ((r.params.zip (c.args.map a.eval)).foldl (fun tmps (t,a)=>tmps.setIfInBounds t a) r.tmps) r.assign r.body) w:=by
   have hy:=run_yield (P:=P) hr0 hsz;simp[execOp,ho,resolve,hcal,hfv,Deferred.ofValue,invoke,hy]
  have hfold:(r.params.zip (c.args.map a.eval)).foldl (fun tmps (x:Tmp×Value)=>tmps.setIfInBounds x.1 x.2) r.tmps=(l.ps.zip (c.args.toList.map a.eval)).foldl (fun tm p=>tm.setIfInBounds p.1 p.2) r.tmps:=by
   rw[←Array.foldl_toList,Array.toList_zip,hL.ps,Array.toList_map]
  refine⟨fun f _=>trivial,?_⟩;rw[Oper.semAt_eq _ _ _ (kqc hc (by simp)),hrun,Oper.uponIn_round];refine⟨fun h=>by simp[FW] at h,?_⟩;have S0:SRel (C0 P pu) D w V ρ l.nt {r:=kel l.r l.ps (as.map (AO.ev s)),h:=s.h,nx:=s.nx} {tmps:=(r.params.zip (c.args.map a.eval)).foldl (fun tmps (x:Tmp×Value)=>tmps.setIfInBounds x.1 x.2) r.tmps,defers:=[]}:=by
   refine⟨?_,⟨?_,hr.gl⟩,H,top,db⟩
   ·rw[hfold];show l.nt<=Array.size _;rw[kx5];exact hL.size
   ·rw[hfold];exact k3y l.ps _ _ l.r r.tmps hps (fun p hp=>yaa (hL.lt p hp) hL.size) hargs hL.tmps
  refine roundIn_of_wpIn (F:=FW rd) trivial ?_;refine hX hL.asg (rd:=some lb) S0 (fun q hq=>by cases hq;exact⟨r,hr0⟩) he1 fun D1 ρ1 w1 V1 a1 m1=> ?_
  obtain⟨b1,hb1,hB1⟩:=m1.rel.heap.bk id _ hl1;have e1:=m1.ext.ren id b1 hid hb1;rw[hb] at e1;cases e1;obtain⟨hnD1,r1,hr1,hL1⟩:=hB1;have hst1:r1.state= .ready:=by
   have:=hL1.st;rw[hst] at this;split at this <;> first |rfl |cases this
   assumption
  have hnc: ∀ r:Loop,∀ c t f,Obj.loop r≠ .cells c t f:=fun _ _ _ _ h=>by cases h
  obtain⟨H2,x2⟩:=kjn m1.rel.heap m1.rel.db hb1 hnD1 hr1 (hnc r1) (.loop {r1 with state:= .busy}) (fun r' h=>by cases h;exact⟨_,rfl,rfl⟩) (.loop {l1 with st:=1}) (fun x2=>⟨hnD1,_,kg7 (Array.getElem?_eq_some_iff.1 hr1).1 _,⟨rfl,hL1.pend,hL1.size,fun t=>(hL1.tmps t).ext x2 m1.rel.db,hL1.ps,hL1.lt,hL1.asg,hL1.body⟩⟩);have S1:SRel (C0 P pu) D1 (kc7 w1 lb (.loop {r1 with state:= .busy})) V1 ρ1 l.nt (s1.hp id (.loop {l1 with st:=1})) a1:=
   ⟨m1.rel.size,⟨fun t=>(m1.rel.regs.regs t).ext x2 m1.rel.db,m1.rel.regs.gl.ext x2 m1.rel.db⟩,H2,m1.rel.top,fun c hc=>yaa (m1.rel.db c hc) x2.size⟩
  refine⟨_,run_beginRound hr1 hst1,?_⟩;refine hX hL.body (rd:=some lb) S1 (fun q hq=>by cases hq;exact⟨_,kg7 (Array.getElem?_eq_some_iff.1 hr1).1 _⟩) he2 fun D2 ρ2 w2 V2 a2 m2=> ?_
  obtain⟨b2,hb2,hB2⟩:=m2.rel.heap.bk id _ hl2;have e2:=m2.ext.ren id b2 (m1.ext.ids id hid) hb2;rw[hb1] at e2;cases e2;obtain⟨hnD2,r2,hr2,hL2⟩:=hB2;have fin: ∀ (jump:Option Code),jump.isNone=e.jump.isNone->(match jump,e.jump with
    |none,none=>True
    |some (.exit i),some (.ext j)=>i=j
    |some (.goto i),some (.gto j)=>i=j
    |some .ret,some .ret=>True
    |_,_=>False)-> ∃ v w',(Instr.endRound lb jump).run P w2= .ok v w'/\K (a.put o.dst v) w':=fun jump hj hp=>by
   refine⟨_,_,run_endRound jump hr2,?_⟩;obtain⟨H3,x3⟩:=kjn m2.rel.heap m2.rel.db hb2 hnD2 hr2 (hnc r2) (.loop {r2 with state:=if jump.isNone then .ready else .done,pending:=jump}) (fun r' h=>by cases h;exact⟨_,rfl,rfl⟩) (.loop {l2 with st:=if e.jump.isNone then 0 else 2,pend:=e.jump}) (fun x3=>⟨hnD2,_,kg7 (Array.getElem?_eq_some_iff.1 hr2).1 _,⟨by
    simp only;rw[hj];cases e.jump.isNone <;> rfl,hp,hL2.size,fun t=>(hL2.tmps t).ext x3 m2.rel.db,hL2.ps,hL2.lt,hL2.asg,hL2.body⟩⟩)
   refine hK _ _ D2 ρ2 V2 ⟨?_,H3,((m1.ext.trans x2).trans m2.ext).trans x3,?_,fun i hi=> ?_,fun c hc=>yaa (m2.rel.db c hc) x3.size⟩
   ·rw[hj];exact .bool _
   ·exact yai m1.nx m2.nx
   ·rcases m2.ids i hi with h |h
    ·rcases m1.ids i h with h |h
     ·exact .inl h
     ·exact .inr ⟨h,m2.rel.top i hi⟩
    ·exact .inr ⟨yai m1.nx h,m2.rel.top i hi⟩
  cases e with
  |nrm=>exact fin none rfl trivial
  |ext i=>exact fin (some (.exit i)) rfl rfl
  |gto i=>exact fin (some (.goto i)) rfl rfl
  |ret=>exact fin (some .ret) rfl trivial
theorem kwa {F:Nat->Option AFn} {KK:Nat->List AV->Option AV} {ex:AC->St->Option (AE×St)} (hC:keq P pu (kb1 F KK ex)) (hX:kfo P pu ex) (H:HRel (C0 P pu) D w V ρ s.h) (db: ∀ b,D b->b<w.heap.size)
  (hr:Regs D w V ρ s a) (top: ∀ i,V i->i<s.nx) {o:Oper} {ao:AOp} (hc:kfr P o.op=some ao) {v:AV} (he:kbi F KK ex ao s=some (v,s'))
  (hK: ∀ val w' D' ρ' V',Post P pu D ρ w V s s' v val w' D' ρ' V'->s'.r=s.r->K (a.put o.dst val) w'):o.wpIn (FW rd) n P a w K Q:=by
 have hn: ¬V s.nx:=fun h=>Nat.lt_irrefl _ (top _ h)
 unfold kbi at he;split at he
 ·rename_i f as;obtain⟨c,fo,ho,hcal,hfo,has⟩:=k67 hc;have hr':=k61 he;have hf:=ka8 hr hfo;have hargs:=kiw hr has;unfold keu at he;split at he
  ·rename_i g first caps hev
   rw[hev] at hf;generalize hfv:a.eval fo=fv at hf;cases hf with
   |fn lf lc hfst hcap=>
    rename_i vf vc;have hl1:RL D w V ρ first vf.toList:=⟨by simpa using lf,fun j x u hx hu=>hfst j x u hx (by simpa using hu)⟩
    have hl2:RL D w V ρ caps vc.toList:=⟨by simpa using lc,fun j x u hx hu=>hcap j x u hx (by simpa using hu)⟩;obtain⟨⟨fn,cd,h1,h2,h3⟩,hcall⟩:=hC H db hr.gl top ((hl1.append hargs).append hl2) he;refine⟨fun f _=>trivial,?_⟩;rw[Oper.semAt_eq _ _ _ (kqc hc (by simp))];have hrun:(execOp a.eval o).run P w= .ok (.enter g (vf++c.args.map a.eval++vc)) w:=by
     have hcf: ∀ as:Array Value,(callFunc g as).run P w= .ok (.enter g as) w:=fun as=>by simp[callFunc,go_sem,h1,h2,h3]
     simp[execOp,ho,resolve,hcal,hfv,Deferred.ofValue,invoke,hcf]
    rw[hrun,Oper.uponIn_enter];refine⟨fun h=>by simp[FW] at h,?_⟩;have hargs2:(vf.toList++(c.args.map a.eval).toList++vc.toList).toArray=vf++c.args.map a.eval++vc:=by
     apply Array.ext';simp
    have hq:=hcall (n - 1);rw[show(vf.toList++List.map a.eval c.args.toList++vc.toList).toArray=vf++c.args.map a.eval++vc by apply Array.ext';simp] at hq;exact CallsIn.mono (kwq hq) fun e w' he=>by
     obtain⟨val,D',ρ',V',rfl,hp⟩:=he;exact hK val w' D' ρ' V' hp hr'
  ·rename_i id hev;unfold ke5 at he;split at he
   ·rename_i l hl;rw[hev] at hf;split at he
    ·rename_i hps;split at he
     ·rename_i s1 he1;split at he
      ·rename_i l1 hl1;split at he
       ·rename_i hst;split at he
        ·rename_i e s2 he2;split at he
         ·rename_i l2 hl2;cases he;exact qnu hX H db hr top hc hcal ho hf has hl hps he1 hl1 hst he2 hl2 (fun val w' D' ρ' V' hp=>hK val w' D' ρ' V' hp rfl)
         ·cases he
        ·cases he
       ·cases he
      ·cases he
     ·cases he
    ·cases he
   ·cases he
  ·cases he
 ·exact kn9 H db hr hn hc he hK
end
open Go.RowKit
section
variable {G:Gl} {P:Program} {pu:Nat->Nat} {D D' D₂:Nat->Prop} {ρ ρ' ρ₂:Ren} {w w' w₂:World} {V V' V₂:Ids} {s s' s₂:St} {a a' a₂:Act} {rd:Option Nat} {n nt:Nat} {K:Act->World->Prop} {Q:Exit->Act->World->Prop}
theorem Mv.refl (h:SRel (C0 P pu) D w V ρ nt s a):Mv P pu nt D ρ w V s a D ρ w V s a:=⟨h,Ext.refl _ _ _ _,Nat.le_refl _,fun _ h=> .inl h,fun _ _ h=>h⟩
theorem Mv.trans (h:Mv P pu nt D ρ w V s a D' ρ' w' V' s' a') (k:Mv P pu nt D' ρ' w' V' s' a' D₂ ρ₂ w₂ V₂ s₂ a₂):Mv P pu nt D ρ w V s a D₂ ρ₂ w₂ V₂ s₂ a₂:=
 ⟨k.rel,h.ext.trans k.ext,yai h.nx k.nx,fun i hi=>(k.ids i hi).elim (h.ids i) (fun hn=> .inr (yai h.nx hn)),fun n0 h0 m=>k.defers n0 (yai h0 h.ext.size) (h.defers n0 h0 m)⟩
theorem kl6 (e:Ext D ρ w V D' ρ' w' V') (db: ∀ b,D b->b<w.heap.size) (h:Regs D w V ρ s a):Regs D' w' V' ρ' s a:=⟨fun t=>(h.regs t).ext e db,h.gl.ext e db⟩
theorem qnp {d:Option Nat} {v:AV} {t:Nat}:(s.set d v).rg t=if d=some t then v else s.rg t:=by
 cases d with
 |none=>rfl
 |some d=>
  unfold St.set St.rg;rw[T.get_put];by_cases e:d=t
  ·simp[e]
  ·simp[e]
theorem qp8 {d:Option Nat} {v:Value} {t:Nat} (hd: ∀ e,d=some e->e<a.tmps.size):(a.put d v).tmps.getD t undef=if d=some t then v else a.tmps.getD t undef:=by
 cases d with
 |none=>rfl
 |some d=>
  have hl:=hd d rfl;unfold Act.put;by_cases e:d=t
  ·subst e;simp[hl]
  ·simp[Array.getElem?_setIfInBounds_ne e,e]
theorem k3x {d:Option Nat} {v:AV} {val:Value} (hd: ∀ e,d=some e->e<a.tmps.size) (h:Regs D w V ρ s a) (hv:R D w V ρ v val):Regs D w V ρ (s.set d v) (a.put d val):=⟨fun t=>by
 rw[qnp,qp8 hd];split
 ·exact hv
 ·exact h.regs t,h.gl⟩
theorem k0w (d:Option Nat) (v:Value):(a.put d v).tmps.size=a.tmps.size:=by cases d <;> simp[Act.put]
theorem k0v (d:Option Nat) (v:Value):(a.put d v).defers=a.defers:=by cases d <;> rfl
theorem k4h (d:Option Nat) (v:AV):(s.set d v).h=s.h:=by cases d <;> rfl
theorem kmb (d:Option Nat) (v:AV):(s.set d v).nx=s.nx:=by cases d <;> rfl
theorem kqd {ops:Array Oper} {o:Oper} {ao:AOper} (h:kf6 P nt ops o=some ao):kfr P o.op=some ao.op/\kmt ops o.guard=some ao.guard/\ao.dst=o.dst/\ ∀ d,o.dst=some d->d<nt:=by
 unfold kf6 at h;split at h
 ·rename_i op g h1 h2;cases hd:o.dst with
  |none=>
   simp only[hd,if_true,yaj] at h;subst h;exact⟨h1,h2,rfl,fun d e=>by cases e⟩
  |some t=>
   simp only[hd,decide_eq_true_eq] at h;by_cases hlt:t<nt
   ·rw[iq hlt] at h;cases h;exact⟨h1,h2,rfl,fun d e=>by cases e;exact hlt⟩
   ·rw[ir hlt] at h;cases h
 ·cases h
theorem k48 {ops:Array Oper} {o:Oper} {g:Option (Nat×Bool)} (hg:kmt ops o.guard=some g) (hr:Regs D w V ρ s a):Region.wanted o (yielded ops a.tmps)=kb8 s g:=by
 unfold kmt at hg;unfold Region.wanted;cases hq:o.guard with
 |none=>rw[hq] at hg;cases hg;rfl
 |some p=>
  obtain⟨j,b⟩:=p;rw[hq] at hg;simp only at hg;split at hg
  ·rename_i t ht;cases hg;have hR:=hr.regs t;simp only[yielded,ht,Option.bind_some,kb8];cases hv:a.tmps[t]? with
   |none=>
    have:a.tmps.getD t undef=undef:=by simp[hv]
    rw[this] at hR;generalize s.rg t=x at hR ⊢;cases hR;rfl
   |some v=>
    have:a.tmps.getD t undef=v:=by simp[hv]
    rw[this] at hR;generalize s.rg t=x at hR ⊢;cases hR <;> rfl
  ·cases hg
theorem Mv.step (h:SRel (C0 P pu) D w V ρ nt s a) {v:AV} {val:Value} (hp:Post P pu D ρ w V s s' v val w' D' ρ' V') (hr:s'.r=s.r) {d:Option Nat} (hd: ∀ e,d=some e->e<nt):
  Mv P pu nt D ρ w V s a D' ρ' w' V' (s'.set d v) (a.put d val) where
 rel:={
  size:=by rw[k0w];exact h.size
  regs:=k3x (fun e he=>yaa (hd e he) h.size) ⟨fun t=>by
   have:=(kl6 hp.ext h.db h.regs).regs t;unfold St.rg at this ⊢;rwa[hr],(kl6 hp.ext h.db h.regs).gl⟩ hp.val
  heap:=by rw[k4h];exact hp.heap
  top:=fun i hi=>by
   rw[kmb];rcases hp.ids i hi with hi | ⟨_,hi⟩
   ·exact yaa (h.top i hi) hp.nx
   ·exact hi
  db:=hp.db}
 ext:=hp.ext
 nx:=by rw[kmb];exact hp.nx
 ids:=fun i hi=>(hp.ids i hi).imp id (·.1)
 defers:=fun n0 _ m=>by rw[k0v];exact m.ext h.heap hp.ext
theorem kwi:R D w V ρ (.tup []) undef:= .tup rfl fun j x v hx _=>by simp at hx
theorem Mv.skip (h:SRel (C0 P pu) D w V ρ nt s a) {d:Option Nat} (hd: ∀ e,d=some e->e<nt):Mv P pu nt D ρ w V s a D ρ w V (s.set d (.tup [])) (a.put d undef):=
 Mv.step h ⟨kwi,h.heap,Ext.refl _ _ _ _,Nat.le_refl _,fun _ h=> .inl h,h.db⟩ rfl hd
section
variable {F:Nat->Option AFn} {KK:Nat->List AV->Option AV} {ex:AC->St->Option (AE×St)} {ops:Array Oper}
inductive Told [Gl] (P:Program) (nt:Nat) (ops:Array Oper):List Nat->List AOper->Prop
 |nil:Told P nt ops [] []
 |cons {i:Nat} {is:List Nat} {o:Oper} {ao:AOper} {aos:List AOper} (ho:ops[i]? =some o) (hc:kf6 P nt ops o=some ao) (t:Told P nt ops is aos):Told P nt ops (i::is) (ao::aos)
theorem qnj (hC:keq P pu (kb1 F KK ex)) (hX:kfo P pu ex) {s1:St}: ∀ {is:List Nat} {l:List AOper},Told P nt ops is l-> ∀ {D:Nat->Prop} {ρ:Ren} {w:World} {V:Ids} {s:St} {a:Act},SRel (C0 P pu) D w V ρ nt s a->kb7 F KK ex l s=some s1->
  (∀ D' ρ' w' V' a',Mv P pu nt D ρ w V s a D' ρ' w' V' s1 a'->Q .normal a' w')->wpOpsIn (FW rd) n P ops Q is a w:=by
 intro is l ht
 induction ht with
 |nil=>
  intro D ρ w V s a h he hQ;cases he;exact hQ _ _ _ _ _ (Mv.refl h)
 | @cons i is o ao aos ho hc ht ih=>
   intro D ρ w V s a h he hQ;obtain⟨h1,h2,h3,h4⟩:=kqd hc;simp only[wpOpsIn,ho];rw[k48 h2 h.regs];simp only[kb7] at he;split at he
   ·rename_i hw;rw[iq hw];split at he
    ·rename_i v s2 hs;refine kwa hC hX h.heap h.db h.regs h.top h1 hs fun val w' D' ρ' V' hp hr=> ?_
     have m:=Mv.step h hp hr h4;rw[h3] at he;exact ih m.rel he fun D₂ ρ₂ w₂ V₂ a₂ m₂=>hQ _ _ _ _ _ (m.trans m₂)
    ·cases he
   ·rename_i hw;rw[ir hw];refine⟨fun f _=>trivial,?_⟩;have m:=Mv.skip h h4;rw[h3] at he;exact ih m.rel he fun D₂ ρ₂ w₂ V₂ a₂ m₂=>hQ _ _ _ _ _ (m.trans m₂)
theorem k40: ∀ {l:List Oper} {aos:List AOper} {k:Nat},mapO (kf6 P nt ops) l=some aos->(∀ j o,l[j]? =some o->ops[k+j]? =some o)->Told P nt ops (List.range' k l.length) aos
 | [],aos,k,h,_=>by cases h;exact .nil
 |o::l,aos,k,h,hl=>by
  unfold mapO at h;split at h
  ·cases h
  ·rename_i ao hao;split at h
   ·cases h
   ·rename_i aos' haos;cases h;rw[List.length_cons,List.range'_succ];exact .cons (by simpa using hl 0 o rfl) hao (k40 haos fun j o' ho=>by
     have:=hl (j+1) o' (by simpa using ho);rwa[show k+(j+1)=k+1+j from by omega] at this)
theorem qnk (hC:keq P pu (kb1 F KK ex)) (hX:kfo P pu ex) {s1:St} {id:Nat} {aos:List AOper} (hm:mapO (kf6 P nt ops) ops.toList=some aos) (h:SRel (C0 P pu) D w V ρ nt s a) (he:kb7 F KK ex aos s=some s1)
  (hQ: ∀ D' ρ' w' V' a',Mv P pu nt D ρ w V s a D' ρ' w' V' s1 a'->Q .normal a' w'):(Code.region id ops false).wpIn (FW rd) n P Q a w:=by
 refine wpIn_region ?_;have:=k40 (k:=0) hm (fun j o ho=>by simpa using ho);rw[List.range_eq_range',←Array.length_toList];exact qnj hC hX this h he hQ
end
end
open Go.RowKit
inductive Anc (ops:Array Oper):Nat->Nat->Prop
 |one {i j:Nat} {o:Oper} {e:Edge} (ho:ops[j]? =some o) (he:e ∈ o.after) (hb:Region.binds .any e=true) (hi:e.on=i):Anc ops i j
 |more {i j k:Nat} (h:Anc ops i k) (h':Anc ops k j):Anc ops i j
theorem kxn {ops:Array Oper} {acc:List Nat} (hacc: ∀ j x,(acc.getD j 0).testBit x=true->Anc ops x j) {j:Nat} {o:Oper} (ho:ops[j]? =some o):
  ∀ {es:List Edge},(∀ e ∈ es,e ∈ o.after)-> ∀ x,(khj acc es).testBit x=true->Anc ops x j
 | [],_,x,h=>by simp[khj] at h
 |e::es,hes,x,h=>by
  have ih:=kxn hacc ho (es:=es) fun e he=>hes e (by simp[he])
  unfold khj at h;split at h
  ·rename_i hb;simp only[Nat.testBit_or,yah,Nat.testBit_two_pow,decide_eq_true_eq] at h;have h1:Anc ops e.on j:= .one ho (hes e (by simp)) hb rfl;rcases h with h |h |h
   ·exact ih x h
   ·exact h ▸ h1
   ·exact .more (hacc _ _ h) h1
  ·exact ih x h
theorem kzf {ops:Array Oper}: ∀ {l:List Oper} {acc:List Nat},(∀ j x,(acc.getD j 0).testBit x=true->Anc ops x j)->(∀ j o,l[j]? =some o->ops[acc.length+j]? =some o)-> ∀ j x,((klu l acc).getD j 0).testBit x=true->Anc ops x j
 | [],acc,h,_,j,x,hx=>h j x hx
 |o::l,acc,h,hl,j,x,hx=>by
  refine kzf (l:=l) (acc:=acc++[khj acc o.after.toList]) (fun j x hx=> ?_) (fun j o' ho=> ?_) j x hx
  ·by_cases hj:j<acc.length
   ·refine h j x ?_;simpa[yac,List.getElem?_append_left hj] using hx
   ·by_cases he:j=acc.length
    ·subst he;refine kxn h (by simpa using hl 0 o rfl) (es:=o.after.toList) (fun e he=>by simpa using he) x ?_;simpa[yac] using hx
    ·have:(acc++[khj acc o.after.toList])[j]? =none:=List.getElem?_eq_none (by simp;omega);simp[yac,this] at hx
  ·have:=hl (j+1) o' (by simpa using ho);rwa[List.length_append,List.length_singleton,show acc.length+1+j=acc.length+(j+1) from by omega]
structure OkL (ops:Array Oper) (ms:List Nat) (L:List ADr):Prop where
 pair: ∀ l1 y l2,L=l1++y::l2-> ∀ x ∈ l1,ker ms x.i y.i=true\/(kip x.o y.o=true/\kgg x y=true)
 back: ∀ l1 y l2,L=l1++y::l2->4<=y.k->l1.countP (fun x=>isW x.k && !ker ms x.i y.i)<=y.back
 once: ∀ l1 y l2,L=l1++y::l2-> ∀ x ∈ l1++l2,x.i≠y.i
theorem kpw {α:Type} {p q l1 l2:List α} {y:α} (h:p++q=l1++y::l2):(∃ p2,p=l1++y::p2/\l2=p2++q)\/ ∃ q1,l1=p++q1/\q=q1++y::l2:=by
 rcases List.append_eq_append_iff.1 h with⟨c,h1,h2⟩ | ⟨c,h1,h2⟩
 ·exact .inr ⟨c,h1,h2⟩
 ·cases c with
  |nil=>exact .inr ⟨[],by simpa using h1.symm,by simpa using h2.symm⟩
  |cons z c=>
   simp only[yad,yab] at h2;obtain⟨rfl,rfl⟩:=h2;exact .inl ⟨c,h1,rfl⟩
theorem OkL.rest {ops:Array Oper} {ms:List Nat} {p q:List ADr} {j:ADr} (h:OkL ops ms (p++j::q)):OkL ops ms (p++q) where
 pair:=fun l1 y l2 e x hx=>by
  rcases kpw e with⟨p2,rfl,rfl⟩ | ⟨q1,rfl,rfl⟩
  ·exact h.pair l1 y (p2++j::q) (by simp) x hx
  ·refine h.pair (p++j::q1) y l2 (by simp) x ?_;simp only[yal,yag] at hx ⊢;rcases hx with hx |hx
   ·exact .inl hx
   ·exact .inr (.inr hx)
 back:=fun l1 y l2 e hk=>by
  rcases kpw e with⟨p2,rfl,rfl⟩ | ⟨q1,rfl,rfl⟩
  ·exact h.back l1 y (p2++j::q) (by simp) hk
  ·have:=h.back (p++j::q1) y l2 (by simp) hk;simp only[List.countP_append,yam] at this ⊢;omega
 once:=fun l1 y l2 e x hx=>by
  rcases kpw e with⟨p2,rfl,rfl⟩ | ⟨q1,rfl,rfl⟩
  ·refine h.once l1 y (p2++j::q) (by simp) x ?_;simp only[yal,yag] at hx ⊢;rcases hx with hx |hx |hx
   ·exact .inl hx
   ·exact .inr (.inl hx)
   ·exact .inr (.inr (.inr hx))
  ·refine h.once (p++j::q1) y l2 (by simp) x ?_;simp only[yal,yag] at hx ⊢;rcases hx with(hx |hx) |hx
   ·exact .inl (.inl hx)
   ·exact .inl (.inr (.inr hx))
   ·exact .inr hx
theorem kz1 {ms:List Nat}: ∀ {L:List ADr},kn5 ms L=true-> ∀ l1 y l2,L=l1++y::l2-> ∀ x ∈ l1,ker ms x.i y.i=true\/(kip x.o y.o=true/\kgg x y=true)
 | [],_,l1,y,l2,e,_,_=>by cases l1 <;> cases e
 |z::L,h,l1,y,l2,e,x,hx=>by
  simp only[kn5,yae,yak,yah] at h;cases l1 with
  |nil=>cases hx
  |cons z' l1=>
   simp only[yad,yab] at e;obtain⟨rfl,rfl⟩:=e;rcases yag.1 hx with rfl |hx
   ·exact h.1 y (by simp)
   ·exact kz1 h.2 l1 y l2 rfl x hx
theorem kzw {ms:List Nat}: ∀ {L pre:List ADr},kn3 ms pre L=true-> ∀ l1 y l2,L=l1++y::l2->4<=y.k->(l1.countP fun x=>isW x.k && !ker ms x.i y.i)+(pre.countP fun x=>isW x.k && !ker ms x.i y.i)<=y.back
 | [],_,_,l1,y,l2,e,_=>by cases l1 <;> cases e
 |z::L,pre,h,l1,y,l2,e,hk=>by
  simp only[kn3,yae,yah,decide_eq_true_eq] at h;cases l1 with
  |nil=>
   simp only[yao,yab] at e;obtain⟨rfl,rfl⟩:=e;simp only[List.countP_nil,Nat.zero_add];rcases h.1 with h1 |h1
   ·omega
   ·exact h1
  |cons z' l1=>
   simp only[yad,yab] at e;obtain⟨rfl,rfl⟩:=e;have:=kzw h.2 l1 y l2 rfl hk;rw[yam] at this ⊢;omega
theorem kz0: ∀ {L:List ADr},kn4 L=true-> ∀ l1 y l2,L=l1++y::l2-> ∀ x ∈ l1++l2,x.i≠y.i
 | [],_,l1,y,l2,e,_,_=>by cases l1 <;> cases e
 |z::L,h,l1,y,l2,e,x,hx=>by
  simp only[kn4,yae,yak,bne_iff_ne,ne_eq] at h;cases l1 with
  |nil=>
   simp only[yao,yab] at e;obtain⟨rfl,rfl⟩:=e;exact h.1 x (by simpa using hx)
  |cons z' l1=>
   simp only[yad,yab] at e;obtain⟨rfl,rfl⟩:=e;simp only[yad,yag] at hx;rcases hx with rfl |hx
   ·exact fun he=>h.1 y (by simp) he.symm
   ·exact kz0 h.2 l1 y l2 rfl x hx
theorem kzy: ∀ {l:List Oper} {i:Nat},kkh i l=true-> ∀ j o,l[j]? =some o-> ∀ e ∈ o.after,Region.binds .any e=true->e.on<i+j
 | [],_,_,j,o,h,_,_,_=>by simp at h
 |o'::l,i,h,j,o,ho,e,he,hb=>by
  simp only[kkh,yae,yak,yah,Bool.not_eq_true',decide_eq_true_eq] at h;cases j with
  |zero=>
   simp only[List.getElem?_cons_zero,yaj] at ho;subst ho;rcases h.1 e (by simpa using he) with h1 |h1
   ·rw[hb] at h1;cases h1
   ·simpa using h1
  |succ j=>
   have:=kzy h.2 j o (by simpa using ho) e he hb;omega
theorem kj7 {l:Array Bool} {i:Nat}:l.getD i true=false↔i<l.size/\l.getD i false=false:=by
 rcases Nat.lt_or_ge i l.size with h |h
 ·simp[h]
 ·simp[Array.getElem?_eq_none h];omega
theorem qnh {ops:Array Oper} (he:kkh 0 ops.toList=true) {listed:Array Bool} (hs:listed.size=ops.size) {i:Nat} (hi:listed.getD i true=false):Region.ready .any ops listed≠[]:=by
 induction i using Nat.strongRecOn with
 |_ i ih=>
  have hlt:i<listed.size:=(kj7.1 hi).1;have hop: ∃ o,ops[i]? =some o:=⟨_,Array.getElem?_eq_getElem (by omega)⟩;obtain⟨o,ho⟩:=hop;by_cases hall: ∀ e ∈ o.after,Region.binds .any e=true->listed.getD e.on false=true
  ·intro hn;have:i ∈ Region.ready .any ops listed:=mem_ready.2 ⟨hi,o,ho,hall⟩;rw[hn] at this;cases this
  ·obtain⟨e,hn⟩:=yaf.1 hall;obtain⟨h1,hn⟩:=yaf.1 hn;obtain⟨h2,hn⟩:=yaf.1 hn;have hlt2:e.on<i:=by simpa using kzy he i o (by simpa using ho) e h1 h2
   exact ih e.on hlt2 (kj7.2 ⟨by omega,by simpa using hn⟩)
theorem k51 {ops:Array Oper} {listed:Array Bool} (hcl: ∀ j o,ops[j]? =some o->listed.getD j false=true-> ∀ e ∈ o.after,Region.binds .any e=true->listed.getD e.on false=true) {i j:Nat} (h:Anc ops i j):
  (∀ o,ops[j]? =some o-> ∀ e ∈ o.after,Region.binds .any e=true->listed.getD e.on false=true)->listed.getD i false=true:=by
 induction h with
 |one ho he hb hi=>intro hj;rw[←hi];exact hj _ ho _ he hb
 |more h h' ih ih'=>intro hj;exact ih fun o ho e he hb=>hcl _ o ho (ih' hj) e he hb
end Go.Proofs.Hz
