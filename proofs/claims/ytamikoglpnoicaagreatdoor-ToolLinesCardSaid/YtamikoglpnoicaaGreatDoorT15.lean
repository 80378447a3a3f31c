/-
  The program's code told as abstract code: control, regions (also those whose order is drawn), functions. And: Regions whose order is drawn: what the abstract evaluator says of them the machine does, in whatever order it draws.
  Conditions: none.
-/
import Derived.Test.YtamikoglpnoicaaGreatDoorT08
import Derived.Test.YtamikoglpnoicaaGreatDoorT03
import Derived.Test.YtamikoglpnoicaaGreatDoorT14
import Derived.CallsIn
import Derived.OrdersIn
import Derived.RangeFuncRecord
namespace Go.Proofs.Hz
def kfl (acc:List Nat):List Edge→Nat
 | []=>0
 |e::es=>if Region.binds .any e then kfl acc es |||(2 ^ e.on |||acc.getD e.on 0) else kfl acc es
def ki5:List Oper→List Nat→List Nat
 | [],acc=>acc
 |o::os,acc=>ki5 os (acc++[kfl acc o.after.toList])
def ancB (ms:List Nat) (i j:Nat):Bool:=(ms.getD j 0).testBit i
def kt4 (pu:Nat→Nat):AOp→Nat
 | .call f _=>match f with
   | .c (.fn g [] [])=>if pu g=2 then 0 else if pu g=1 then 3 else 2
   |_=>2
 | .store .. =>3
 | .app .. =>3
 | .cpy .. =>3
 |o=>if kev o then 0 else if kg1 o then 1 else if kd6 o then 4 else 2
def kvb (ms:List Nat):List (Nat×Nat)→List (Nat×Nat)→List (Nat×Nat)
 | [],rem=>rem
 |q::ws,rem=>rem.filter (fun p=>ancB ms p.1 q.1)++q::kvb ms ws (rem.filter fun p=> !ancB ms p.1 q.1 && p.1 != q.1)
def kte (ms:List Nat):List (Nat×Nat)→List (Nat×Nat)→List (Nat×Nat×Nat×Bool)
 |_,[]=>[]
 |pre,p::l=>(p.1,p.2,(if p.2=4 then pre.countP (fun q=>isW q.2 && !ancB ms q.1 p.1) else 0),(if p.2=4 then pre.any (fun q=>q.2 == 1 && !ancB ms q.1 p.1) else false))::kte ms (p::pre) l
def idxL:Nat→List Nat→List (Nat×Nat)
 |_,[]=>[]
 |i,k::ks=>(i,k)::idxL (i+1) ks
def kvp (ms:List Nat) (ks:List Nat):List (Nat×Nat×Nat×Bool):=
 let l:=idxL 0 ks
 kte ms [] (kvb ms (l.filter fun p=>isW p.2) l)
def klo (ms:List Nat):List ADr→Bool
 | []=>true
 |x::l=>l.all (fun y=>ancB ms x.i y.i || (kgj x.o y.o && kes x y)) && klo ms l
def klk (ms:List Nat):List ADr→List ADr→Bool
 |_,[]=>true
 |pre,y::l=>(decide (y.k<4) || decide (pre.countP (fun x=>isW x.k && !ancB ms x.i y.i)≤y.back)) && klk ms (y::pre) l
def klm:List ADr→Bool
 | []=>true
 |x::l=>l.all (fun y=>y.i != x.i) && klm l
def khv:Nat→List Oper→Bool
 |_,[]=>true
 |i,o::os=>o.after.toList.all (fun e=> !Region.binds .any e || decide (e.on<i)) && khv (i+1) os
def ku4 (ops:Array Oper) (l:List ADr):Bool:=
 let ms:=ki5 ops.toList []
 klo ms l && (klk ms [] l && (klm l && (khv 0 ops.toList && (decide (l.length≤ops.size) && (List.range ops.size).all fun i=>l.any fun y=>y.i == i))))
section
variable [Gl]
def mkDr (P:Program) (nt:Nat) (ops:Array Oper) (p:Nat×Nat×Nat×Bool):Option ADr:=
 match ops[p.1]? with
 |some o=>(ken P nt ops o).map fun a=>{o:=a,i:=p.1,k:=p.2.1,back:=p.2.2.1,fl:=p.2.2.2}
 |none=>none
def kke (P:Program) (pu:Nat→Nat) (nt:Nat) (ops:Array Oper):Option AC:=
 match mapO (fun o=>kec P o.op) ops.toList with
 |none=>none
 |some as=>
  match mapO (mkDr P nt ops) (kvp (ki5 ops.toList []) (as.map (kt4 pu))) with
  |none=>none
  |some l=>if(P.follows .mixedOrders || !Region.departs ops) && ku4 ops l then some (.drw ops.size l) else none
def kbq (P:Program) (pu:Nat→Nat) (nt:Nat):Code→Option AC
 | .skip=>some .skip
 | .region _ ops draw=>if draw then kke P pu nt ops else(mapO (ken P nt ops) ops.toList).map .reg
 | .seq a b=>match kbq P pu nt a,kbq P pu nt b with
   |some a,some b=>some (.seq a b)
   |_,_=>none
 | .cond c a b=>match absO c,kbq P pu nt a,kbq P pu nt b with
   |some c,some a,some b=>some (.cond c a b)
   |_,_,_=>none
 | .block id b=>(kbq P pu nt b).map (.block id)
 | .loop b=>(kbq P pu nt b).map .loop
 | .exit id=>some (.exit id)
 | .ret=>some .ret
 | .label l=>some (.label l)
 | .goto l=>some (.goto l)
 | .scope b=>match kbq P pu nt b with
   |some b=>some (.scope b b)
   |none=>none
 | .rangeFunc g ps asg body=>match absO g,kbq P pu nt asg,kbq P pu nt body with
   |some f,some a,some b=>if ps.toList.all (fun p=>decide (p<nt)) then some (.rngf nt f ps.toList a b) else none
   |_,_,_=>none
 | .refuse _=>some (.reg [⟨none,.fail,none⟩])
def kik (P:Program) (pu:Nat→Nat) (f:Nat):Option AFn:=
 match P.funcs[f]? with
 |some fn=>match fn.body with
  |some c=>if fn.name≠ "runtime.NumGoroutine" then
    match kbq P pu fn.ntmps c,mapO (fun r=>khg r P) fn.results.toList with
    |some b,some rs=>some {nt:=fn.ntmps,res:=rs,body:=b,pure:=pu f != 0}
    |_,_=>none
   else none
  |none=>none
 |none=>none
end
end Go.Proofs.Hz
namespace Go.Proofs.Hz
open Go.RowKit
def FW (rd:Option Nat):Fence:={fn:=fun _=>True,depth:=none,alive:=false,round:=rd}
theorem ksa {rd rd':Option Nat} {n:Nat} {P:Program} {f:FuncId} {args:Array Value} {w:World} {Q:Ending→World→Prop} (h:CallsIn (FW rd) n P f args w Q):CallsIn (FW rd') n P f args w Q:=h
abbrev C0 [Gl] (P:Program) (pu:Nat→Nat):CodeRel:=⟨fun nt c ac=>kbq P pu nt c=some ac⟩
structure Post [Gl] (P:Program) (pu:Nat→Nat) (D:Nat→Prop) (ρ:Ren) (w:World) (V:Ids) (s s':St) (v:AV) (val:Value) (w':World) (D':Nat→Prop) (ρ':Ren) (V':Ids):Prop where
 val:R D' w' V' ρ' v val
 heap:HRel (C0 P pu) D' w' V' ρ' s'.h
 ext:Ext D ρ w V D' ρ' w' V'
 nx:s.nx≤s'.nx
 ids: ∀ i,V' i→V i∨(s.nx≤i∧i<s'.nx)
 db: ∀ b,D' b→b<w'.heap.size
def kzi [Gl] (P:Program) (pu:Nat→Nat) (D:Nat→Prop) (ρ:Ren) (w:World) (V:Ids) (s s':St) (v:AV) (e:Ending) (w':World):Prop:=
 ∃ val D' ρ' V',e= .returned val∧Post P pu D ρ w V s s' v val w' D' ρ' V'
def IsFn (P:Program) (g:Nat):Prop:=∃ fn c,P.funcs[g]? =some fn∧fn.body=some c∧fn.name≠ "runtime.NumGoroutine"
def kdi [Gl] (P:Program) (pu:Nat→Nat) (cf:Nat→List AV→St→Option (AV×St)):Prop:=
 ∀ {D:Nat→Prop} {ρ:Ren} {w:World} {V:Ids} {s s':St} {g:Nat} {args:List AV} {vals:List Value} {v:AV},HRel (C0 P pu) D w V ρ s.h→(∀ b,D b→b<w.heap.size)→GOk D w→(∀ i,V i→i<s.nx)→
  RL D w V ρ args vals→cf g args s=some (v,s')→IsFn P g∧ ∀ n,CallsIn (FW none) n P g vals.toArray w (kzi P pu D ρ w V s s' v)
def k48 (r:Nat):Deferred:={target:= .collected r,args:= #[]}
def MarkL (D:Nat→Prop) (w:World) (n0:Nat) (ds:List Deferred):Prop:=
 ∃ rs:List Nat,ds=rs.map k48∧rs.Pairwise (· > ·)∧ ∀ r ∈ rs,n0≤r∧ ¬D r∧w.heap[r]? =some (.deferred (some []))
theorem MarkL.nil {D:Nat→Prop} {w:World} {n0:Nat}:MarkL D w n0 []:=⟨[],rfl,.nil,fun r hr=>by cases hr⟩
theorem MarkL.ext {C:CodeRel} {D D':Nat→Prop} {ρ ρ':Ren} {w w':World} {V V':Ids} {h:T Blk} {n0:Nat} {ds:List Deferred} (H:HRel C D w V ρ h) (e:Ext D ρ w V D' ρ' w' V') (m:MarkL D w n0 ds):MarkL D' w' n0 ds:=by
 obtain⟨rs,h1,h2,h3⟩:=m
 refine⟨rs,h1,h2,fun r hr=> ?_⟩
 obtain⟨k1,k2,k3⟩:=h3 r hr
 have hlt:=(Array.getElem?_eq_some_iff.1 k3).1
 have hno: ∀ id,ρ id≠some r:=fun id hid=>by
  obtain⟨k,hk⟩:=H.dom id r hid
  obtain⟨b,hb,hB⟩:=H.bk id k hk
  rw[hid] at hb;cases hb
  cases k with
  |cells cs fz ty=>obtain⟨_,_,real,mk,q,_⟩:=hB;rw[k3] at q;cases q
  |map es=>obtain⟨_,ents,clock,q,_⟩:=hB;rw[k3] at q;cases q
  |loop l=>obtain⟨_,r',q,_⟩:=hB;rw[k3] at q;cases q
  |own=>exact hB.elim
  |pre=>exact hB.elim
  |text v ty=>obtain⟨_,_,_,_,_,q,_⟩:=hB;rw[k3] at q;cases q
 refine⟨k1,fun hd=> ?_,(e.frame r hlt (.inr hno)).trans k3⟩
 rcases e.dnew r hd with h | ⟨i,hi⟩ |h
 ·exact k2 h
 ·exact hno i hi
 ·omega
structure Mv [Gl] (P:Program) (pu:Nat→Nat) (nt:Nat) (D:Nat→Prop) (ρ:Ren) (w:World) (V:Ids) (s:St) (a:Act) (D':Nat→Prop) (ρ':Ren) (w':World) (V':Ids) (s':St) (a':Act):Prop where
 rel:SRel (C0 P pu) D' w' V' ρ' nt s' a'
 ext:Ext D ρ w V D' ρ' w' V'
 nx:s.nx≤s'.nx
 ids: ∀ i,V' i→V i∨s.nx≤i
 defers: ∀ n0,n0≤w.heap.size→MarkL D w n0 a.defers→MarkL D' w' n0 a'.defers
def AE.toExit:AE→Exit
 | .nrm=> .normal
 | .ext i=> .exit i
 | .gto l=> .goto l
 | .ret=> .ret
def RdOk (w:World) (rd:Option Nat):Prop:=∀ l,rd=some l→ ∃ r:Loop,w.heap[l]? =some (.loop r)
theorem RdOk.ext {D D':Nat→Prop} {ρ ρ':Ren} {w w':World} {V V':Ids} {rd:Option Nat} (e:Ext D ρ w V D' ρ' w' V') (h:RdOk w rd):RdOk w' rd:=fun l hl=>by
 obtain⟨r,hr⟩:=h l hl
 obtain⟨r',h1,_⟩:=e.loops l r hr
 exact⟨r',h1⟩
def ExOk [Gl] (P:Program) (pu:Nat→Nat) (ex:AC→St→Option (AE×St)):Prop:=
 ∀ {nt:Nat} {code:Code} {ac:AC},kbq P pu nt code=some ac→ ∀ {rd:Option Nat} {m:Nat} {D:Nat→Prop} {ρ:Ren} {w:World} {V:Ids} {s s1:St} {a:Act} {e:AE} {Q:Exit→Act→World→Prop},
  SRel (C0 P pu) D w V ρ nt s a→RdOk w rd→ex ac s=some (e,s1)→(∀ D' ρ' w' V' a',Mv P pu nt D ρ w V s a D' ρ' w' V' s1 a'→Q e.toExit a' w')→code.wpIn (FW rd) m P Q a w
theorem k1f {G:Gl} {P:Program} {op:Op} {f:AO} {as:List AO} (h:kec P op=some (.call f as)): ∃ c fo,op= .call c∧c.callee= .value fo∧absO fo=some f∧mapO absO c.args.toList=some as:=by
 unfold kec at h
 split at h
 ·rename_i f' as' hc
  split at h
  ·rename_i c
   split at h
   ·rename_i fo hcal
    cases h
    simp only[ka7,hcal] at hc
    split at hc
    ·rename_i as'' has
     have other:(absO fo).map (fun f=>AOp.call f as'')=some (.call f as)→ ∃ c_1 fo_1,Op.call c=Op.call c_1∧c_1.callee=Callee.value fo_1∧absO fo_1=some f∧mapO absO c_1.args.toList=some as:=fun hc=>by
      cases hf:absO fo with
      |none=>simp[hf] at hc
      |some y=>simp[hf] at hc;obtain⟨rfl,rfl⟩:=hc;exact⟨c,fo,rfl,hcal,hf,has⟩
     cases fo with
     |func g=>
      simp only at hc
      split at hc
      ·exact other hc
      ·unfold extO at hc
       (repeat' split at hc) <;> cases hc
     |tmp t=>exact other hc
     |const v=>exact other hc
     |global g=>exact other hc
    ·cases hc
   ·cases h
  ·cases h
 ·cases h
 ·rename_i hne _
  exact absurd h (hne _ _)
theorem ksu {G:Gl} {P:Program} {op:Op} {ao:AOp} (h:kec P op=some ao) (hf:ao≠ .fail):ka7 P op=some ao:=by
 unfold kec at h
 split at h
 ·rename_i f as hc
  (repeat' split at h) <;> first |(cases h;done) |(cases h;exact hc)
 ·cases h;exact absurd rfl hf
 ·exact h
theorem knk {G:Gl} {P:Program} {op:Op} {ao:AOp} (h:kec P op=some ao) (hf:ao≠ .fail) (c:Call):op≠ .defer c:=fun e=>by
 subst e;cases(ksu h hf)
section
variable {G:Gl} {P:Program} {pu:Nat→Nat} {D D':Nat→Prop} {ρ ρ':Ren} {w w':World} {V V':Ids} {s s':St} {a:Act} {rd:Option Nat} {n:Nat} {K:Act→World→Prop} {Q:Exit→Act→World→Prop}
theorem klr (H:HRel (C0 P pu) D w V ρ s.h) (db: ∀ b,D b→b<w.heap.size) (hr:Regs D w V ρ s a) (hf: ¬V s.nx) {o:Oper} {ao:AOp} (hc:kec P o.op=some ao) {v:AV} (he:opA s ao=some (v,s'))
  (hK: ∀ val w' D' ρ' V',Post P pu D ρ w V s s' v val w' D' ρ' V'→s'.r=s.r→K (a.put o.dst val) w'):o.wpIn (FW rd) n P a w K Q:=by
 have hnf:ao≠ .fail:=fun e=>by subst e;cases he
 obtain⟨val,w',D',ρ',V',hres,h2,h3,h4,h5,h6,h7,h8⟩:=k64 H db hr hf (ksu hc hnf) he
 refine⟨fun f _=>trivial,?_⟩
 rw[Oper.semAt_eq _ _ _ (knk hc hnf)]
 have hp:=hK val w' D' ρ' V' ⟨h2,h3,h4,h6,h7,h8⟩ h5
 rcases hres with hres | ⟨hres,rfl⟩
 ·rw[hres];exact hp
 ·rw[hres];exact hp
theorem k1a {F:Nat→Option AFn} {KK:Nat→List AV→Option AV} {ex:AC→St→Option (AE×St)} {f:AV} {as:List AV} {v:AV} (he:kdl F KK ex f as s=some (v,s')):s'.r=s.r:=by
 have hx:ka2 F KK ex (.call (.c f) (as.map .c)) s=some (v,s'):=by
  have:(as.map AO.c).map (AO.ev s)=as:=by
   rw[List.map_map];exact(List.map_congr_left fun _ _=>rfl).trans (List.map_id _)
  simp only[ka2,AO.ev,this];exact he
 have h2:=krt (F:=F) (K:=KK) (ex:=ex) (s:=s) (r:=s.r) (o:= .call (.c f) (as.map .c)) (fun _ _=>rfl)
 have e:({s with r:=s.r}:St)=s:=rfl
 rw[e,hx] at h2
 simp only[Option.map_some,kaw,Option.some.injEq,Prod.mk.injEq,true_and] at h2
 rw[h2]
theorem kx5: ∀ (ps:List Nat) (xs:List AV) (vs:List Value) (r:T AV) (tmps:Array Value),ps.length=xs.length→(∀ p ∈ ps,p<tmps.size)→RL D w V ρ xs vs→(∀ t,R D w V ρ ((r.get t).getD (.tup [])) (tmps.getD t undef))→
  ∀ t,R D w V ρ (((kdd r ps xs).get t).getD (.tup [])) (((ps.zip vs).foldl (fun tm p=>tm.setIfInBounds p.1 p.2) tmps).getD t undef)
 | [],xs,vs,r,tmps,hl,hlt,hR,hr=>by
   cases xs with
   |nil=>exact hr
   |cons x xs=>cases hl
 |p::ps,xs,vs,r,tmps,hl,hlt,hR,hr=>by
  cases xs with
  |nil=>cases hl
  |cons x xs=>
   obtain⟨v,us,rfl,h1,h2⟩:=hR.inv_cons
   simp only[kdd,List.zip_cons_cons,List.foldl_cons]
   refine kx5 ps xs us _ _ (by simpa using hl) (fun q hq=>by simpa using hlt q (List.mem_cons_of_mem _ hq)) h2 fun t=> ?_
   rw[T.get_put]
   by_cases e:p=t
   ·subst e
    rw[if_pos rfl]
    have hlt:=hlt p List.mem_cons_self
    simpa[hlt] using h1
   ·rw[if_neg e]
    have:(tmps.setIfInBounds p v).getD t undef=tmps.getD t undef:=by
     simp[Array.getElem?_setIfInBounds_ne e]
    rw[this];exact hr t
theorem kti: ∀ (l:List (Nat×Value)) (tm:Array Value),(l.foldl (fun tm p=>tm.setIfInBounds p.1 p.2) tm).size=tm.size
 | [],_=>rfl
 |p::l,tm=>by rw[List.foldl_cons,kti l];simp
theorem qet {ex:AC→St→Option (AE×St)} (hX:ExOk P pu ex) (H:HRel (C0 P pu) D w V ρ s.h) (db: ∀ b,D b→b<w.heap.size)
  (hr:Regs D w V ρ s a) (top: ∀ i,V i→i<s.nx) {o:Oper} {f:AO} {as:List AO} (hc:kec P o.op=some (.call f as)) {c:Call} {fo:Operand} (hcal:c.callee= .value fo) (ho:o.op= .call c) {id:Nat} (hf:R D w V ρ (.yld id) (a.eval fo)) (has:mapO absO c.args.toList=some as)
  {l l1 l2:ALoop} {s1 s2:St} {e:AE} (hl:s.h.get id=some (.loop l)) (hps:l.ps.length=(as.map (AO.ev s)).length) (he1:ex l.asg {r:=kdd l.r l.ps (as.map (AO.ev s)),h:=s.h,nx:=s.nx}=some (.nrm,s1)) (hl1:s1.h.get id=some (.loop l1)) (hst:l1.st=0)
  (he2:ex l.body (s1.hp id (.loop {l1 with st:=1}))=some (e,s2)) (hl2:s2.h.get id=some (.loop l2))
  (hK: ∀ val w' D' ρ' V',Post P pu D ρ w V s {r:=s.r,h:=s2.h.put id (some (.loop {l2 with st:=if e.jump.isNone then 0 else 2,pend:=e.jump})),nx:=s2.nx} (.bool e.jump.isNone) val w' D' ρ' V'→K (a.put o.dst val) w'):o.wpIn (FW rd) n P a w K Q:=by
 generalize hfv:a.eval fo=fv at hf
 cases hf with
 |yld hid hlb=>
  rename_i lb
  obtain⟨b,hb,hB⟩:=H.bk id _ hl
  have:=hlb b hb;subst this
  obtain⟨hnD,r,hr0,hL⟩:=hB
  have hargs:=kgo hr has
  have hsz:(c.args.map a.eval).size=r.params.size:=by
   have h1:=hargs.1
   have h2:=congrArg List.length hL.ps
   simp at h1 h2 hps
   simp;omega
  have hrun:(execOp a.eval o).run P w= .ok (.round lb r.fn ((r.params.zip (c.args.map a.eval)).foldl (fun tmps (t,a)=>tmps.setIfInBounds t a) r.tmps) r.assign r.body) w:=by
   have hy:=run_yield (P:=P) hr0 hsz
   simp[execOp,ho,resolve,hcal,hfv,Deferred.ofValue,invoke,hy]
  have hfold:(r.params.zip (c.args.map a.eval)).foldl (fun tmps (x:Tmp×Value)=>tmps.setIfInBounds x.1 x.2) r.tmps=(l.ps.zip (c.args.toList.map a.eval)).foldl (fun tm p=>tm.setIfInBounds p.1 p.2) r.tmps:=by
   rw[←Array.foldl_toList,Array.toList_zip,hL.ps,Array.toList_map]
  refine⟨fun f _=>trivial,?_⟩
  rw[Oper.semAt_eq _ _ _ (knk hc (by simp)),hrun,Oper.uponIn_round]
  refine⟨fun h=>by simp[FW] at h,?_⟩
  have S0:SRel (C0 P pu) D w V ρ l.nt {r:=kdd l.r l.ps (as.map (AO.ev s)),h:=s.h,nx:=s.nx} {tmps:=(r.params.zip (c.args.map a.eval)).foldl (fun tmps (x:Tmp×Value)=>tmps.setIfInBounds x.1 x.2) r.tmps,defers:=[]}:=by
   refine⟨?_,⟨?_,hr.gl⟩,H,top,db⟩
   ·rw[hfold]
    show l.nt≤Array.size _
    rw[kti]
    exact hL.size
   ·rw[hfold]
    exact kx5 l.ps _ _ l.r r.tmps hps (fun p hp=>Nat.lt_of_lt_of_le (hL.lt p hp) hL.size) hargs hL.tmps
  refine roundIn_of_wpIn (F:=FW rd) trivial ?_
  refine hX hL.asg (rd:=some lb) S0 (fun q hq=>by cases hq;exact⟨r,hr0⟩) he1 fun D1 ρ1 w1 V1 a1 m1=> ?_
  obtain⟨b1,hb1,hB1⟩:=m1.rel.heap.bk id _ hl1
  have e1:=m1.ext.ren id b1 hid hb1
  rw[hb] at e1;cases e1
  obtain⟨hnD1,r1,hr1,hL1⟩:=hB1
  have hst1:r1.state= .ready:=by
   have:=hL1.st
   rw[hst] at this
   split at this <;> first |rfl |cases this
   assumption
  have hnc: ∀ r:Loop,∀ c t f,Obj.loop r≠ .cells c t f:=fun _ _ _ _ h=>by cases h
  obtain⟨H2,x2⟩:=kg7 m1.rel.heap m1.rel.db hb1 hnD1 hr1 (hnc r1) (.loop {r1 with state:= .busy}) (fun r' h=>by cases h;exact⟨_,rfl,rfl⟩) (.loop {l1 with st:=1}) (fun x2=>⟨hnD1,_,kfd (Array.getElem?_eq_some_iff.1 hr1).1 _,⟨rfl,hL1.pend,hL1.size,fun t=>(hL1.tmps t).ext x2 m1.rel.db,hL1.ps,hL1.lt,hL1.asg,hL1.body⟩⟩)
  have S1:SRel (C0 P pu) D1 (setB w1 lb (.loop {r1 with state:= .busy})) V1 ρ1 l.nt (s1.hp id (.loop {l1 with st:=1})) a1:=
   ⟨m1.rel.size,⟨fun t=>(m1.rel.regs.regs t).ext x2 m1.rel.db,m1.rel.regs.gl.ext x2 m1.rel.db⟩,H2,m1.rel.top,fun c hc=>Nat.lt_of_lt_of_le (m1.rel.db c hc) x2.size⟩
  refine⟨_,run_beginRound hr1 hst1,?_⟩
  refine hX hL.body (rd:=some lb) S1 (fun q hq=>by cases hq;exact⟨_,kfd (Array.getElem?_eq_some_iff.1 hr1).1 _⟩) he2 fun D2 ρ2 w2 V2 a2 m2=> ?_
  obtain⟨b2,hb2,hB2⟩:=m2.rel.heap.bk id _ hl2
  have e2:=m2.ext.ren id b2 (m1.ext.ids id hid) hb2
  rw[hb1] at e2;cases e2
  obtain⟨hnD2,r2,hr2,hL2⟩:=hB2
  have fin: ∀ (jump:Option Code),jump.isNone=e.jump.isNone→(match jump,e.jump with
    |none,none=>True
    |some (.exit i),some (.ext j)=>i=j
    |some (.goto i),some (.gto j)=>i=j
    |some .ret,some .ret=>True
    |_,_=>False)→ ∃ v w',(Instr.endRound lb jump).run P w2= .ok v w'∧K (a.put o.dst v) w':=fun jump hj hp=>by
   refine⟨_,_,run_endRound jump hr2,?_⟩
   obtain⟨H3,x3⟩:=kg7 m2.rel.heap m2.rel.db hb2 hnD2 hr2 (hnc r2) (.loop {r2 with state:=if jump.isNone then .ready else .done,pending:=jump}) (fun r' h=>by cases h;exact⟨_,rfl,rfl⟩) (.loop {l2 with st:=if e.jump.isNone then 0 else 2,pend:=e.jump}) (fun x3=>⟨hnD2,_,kfd (Array.getElem?_eq_some_iff.1 hr2).1 _,⟨by
    simp only
    rw[hj]
    cases e.jump.isNone <;> rfl,hp,hL2.size,fun t=>(hL2.tmps t).ext x3 m2.rel.db,hL2.ps,hL2.lt,hL2.asg,hL2.body⟩⟩)
   refine hK _ _ D2 ρ2 V2 ⟨?_,H3,((m1.ext.trans x2).trans m2.ext).trans x3,?_,fun i hi=> ?_,fun c hc=>Nat.lt_of_lt_of_le (m2.rel.db c hc) x3.size⟩
   ·rw[hj];exact .bool _
   ·exact Nat.le_trans m1.nx m2.nx
   ·rcases m2.ids i hi with h |h
    ·rcases m1.ids i h with h |h
     ·exact .inl h
     ·exact .inr ⟨h,m2.rel.top i hi⟩
    ·exact .inr ⟨Nat.le_trans m1.nx h,m2.rel.top i hi⟩
  cases e with
  |nrm=>exact fin none rfl trivial
  |ext i=>exact fin (some (.exit i)) rfl rfl
  |gto i=>exact fin (some (.goto i)) rfl rfl
  |ret=>exact fin (some .ret) rfl trivial
theorem kru {F:Nat→Option AFn} {KK:Nat→List AV→Option AV} {ex:AC→St→Option (AE×St)} (hC:kdi P pu (kbi F KK ex)) (hX:ExOk P pu ex) (H:HRel (C0 P pu) D w V ρ s.h) (db: ∀ b,D b→b<w.heap.size)
  (hr:Regs D w V ρ s a) (top: ∀ i,V i→i<s.nx) {o:Oper} {ao:AOp} (hc:kec P o.op=some ao) {v:AV} (he:ka2 F KK ex ao s=some (v,s'))
  (hK: ∀ val w' D' ρ' V',Post P pu D ρ w V s s' v val w' D' ρ' V'→s'.r=s.r→K (a.put o.dst val) w'):o.wpIn (FW rd) n P a w K Q:=by
 have hn: ¬V s.nx:=fun h=>Nat.lt_irrefl _ (top _ h)
 unfold ka2 at he
 split at he
 ·rename_i f as
  obtain⟨c,fo,ho,hcal,hfo,has⟩:=k1f hc
  have hr':=k1a he
  have hf:=kax hr hfo
  have hargs:=kgo hr has
  unfold kdl at he
  split at he
  ·rename_i g first caps hev
   rw[hev] at hf
   generalize hfv:a.eval fo=fv at hf
   cases hf with
   |fn lf lc hfst hcap=>
    rename_i vf vc
    have hl1:RL D w V ρ first vf.toList:=⟨by simpa using lf,fun j x u hx hu=>hfst j x u hx (by simpa using hu)⟩
    have hl2:RL D w V ρ caps vc.toList:=⟨by simpa using lc,fun j x u hx hu=>hcap j x u hx (by simpa using hu)⟩
    obtain⟨⟨fn,cd,h1,h2,h3⟩,hcall⟩:=hC H db hr.gl top ((hl1.append hargs).append hl2) he
    refine⟨fun f _=>trivial,?_⟩
    rw[Oper.semAt_eq _ _ _ (knk hc (by simp))]
    have hrun:(execOp a.eval o).run P w= .ok (.enter g (vf++c.args.map a.eval++vc)) w:=by
     have hcf: ∀ as:Array Value,(callFunc g as).run P w= .ok (.enter g as) w:=fun as=>by simp[callFunc,go_sem,h1,h2,h3]
     simp[execOp,ho,resolve,hcal,hfv,Deferred.ofValue,invoke,hcf]
    rw[hrun,Oper.uponIn_enter]
    refine⟨fun h=>by simp[FW] at h,?_⟩
    have hargs2:(vf.toList++(c.args.map a.eval).toList++vc.toList).toArray=vf++c.args.map a.eval++vc:=by
     apply Array.ext';simp
    have hq:=hcall (n - 1)
    rw[show(vf.toList++List.map a.eval c.args.toList++vc.toList).toArray=vf++c.args.map a.eval++vc by apply Array.ext';simp] at hq
    exact CallsIn.mono (ksa hq) fun e w' he=>by
     obtain⟨val,D',ρ',V',rfl,hp⟩:=he
     exact hK val w' D' ρ' V' hp hr'
  ·rename_i id hev
   unfold kdv at he
   split at he
   ·rename_i l hl
    rw[hev] at hf
    split at he
    ·rename_i hps
     split at he
     ·rename_i s1 he1
      split at he
      ·rename_i l1 hl1
       split at he
       ·rename_i hst
        split at he
        ·rename_i e s2 he2
         split at he
         ·rename_i l2 hl2
          cases he
          exact qet hX H db hr top hc hcal ho hf has hl hps he1 hl1 hst he2 hl2 (fun val w' D' ρ' V' hp=>hK val w' D' ρ' V' hp rfl)
         ·cases he
        ·cases he
       ·cases he
      ·cases he
     ·cases he
    ·cases he
   ·cases he
  ·cases he
 ·exact klr H db hr hn hc he hK
end
end Go.Proofs.Hz
namespace Go.Proofs.Hz
open Go.RowKit
section
variable {G:Gl} {P:Program} {pu:Nat→Nat} {D D' D₂:Nat→Prop} {ρ ρ' ρ₂:Ren} {w w' w₂:World} {V V' V₂:Ids} {s s' s₂:St} {a a' a₂:Act} {rd:Option Nat} {n nt:Nat} {K:Act→World→Prop} {Q:Exit→Act→World→Prop}
theorem Mv.refl (h:SRel (C0 P pu) D w V ρ nt s a):Mv P pu nt D ρ w V s a D ρ w V s a:=⟨h,Ext.refl _ _ _ _,Nat.le_refl _,fun _ h=> .inl h,fun _ _ h=>h⟩
theorem Mv.trans (h:Mv P pu nt D ρ w V s a D' ρ' w' V' s' a') (k:Mv P pu nt D' ρ' w' V' s' a' D₂ ρ₂ w₂ V₂ s₂ a₂):Mv P pu nt D ρ w V s a D₂ ρ₂ w₂ V₂ s₂ a₂:=
 ⟨k.rel,h.ext.trans k.ext,Nat.le_trans h.nx k.nx,fun i hi=>(k.ids i hi).elim (h.ids i) (fun hn=> .inr (Nat.le_trans h.nx hn)),fun n0 h0 m=>k.defers n0 (Nat.le_trans h0 h.ext.size) (h.defers n0 h0 m)⟩
theorem kjq (e:Ext D ρ w V D' ρ' w' V') (db: ∀ b,D b→b<w.heap.size) (h:Regs D w V ρ s a):Regs D' w' V' ρ' s a:=⟨fun t=>(h.regs t).ext e db,h.gl.ext e db⟩
theorem qeo {d:Option Nat} {v:AV} {t:Nat}:(s.set d v).rg t=if d=some t then v else s.rg t:=by
 cases d with
 |none=>rfl
 |some d=>
  unfold St.set St.rg
  rw[T.get_put]
  by_cases e:d=t
  ·simp[e]
  ·simp[e]
theorem qg8 {d:Option Nat} {v:Value} {t:Nat} (hd: ∀ e,d=some e→e<a.tmps.size):(a.put d v).tmps.getD t undef=if d=some t then v else a.tmps.getD t undef:=by
 cases d with
 |none=>rfl
 |some d=>
  have hl:=hd d rfl
  unfold Act.put
  by_cases e:d=t
  ·subst e;simp[hl]
  ·simp[Array.getElem?_setIfInBounds_ne e,e]
theorem kx4 {d:Option Nat} {v:AV} {val:Value} (hd: ∀ e,d=some e→e<a.tmps.size) (h:Regs D w V ρ s a) (hv:R D w V ρ v val):Regs D w V ρ (s.set d v) (a.put d val):=⟨fun t=>by
 rw[qeo,qg8 hd]
 split
 ·exact hv
 ·exact h.regs t,h.gl⟩
theorem kvw (d:Option Nat) (v:Value):(a.put d v).tmps.size=a.tmps.size:=by cases d <;> simp[Act.put]
theorem kvv (d:Option Nat) (v:Value):(a.put d v).defers=a.defers:=by cases d <;> rfl
theorem kyk (d:Option Nat) (v:AV):(s.set d v).h=s.h:=by cases d <;> rfl
theorem kjv (d:Option Nat) (v:AV):(s.set d v).nx=s.nx:=by cases d <;> rfl
theorem knl {ops:Array Oper} {o:Oper} {ao:AOper} (h:ken P nt ops o=some ao):kec P o.op=some ao.op∧kkf ops o.guard=some ao.guard∧ao.dst=o.dst∧ ∀ d,o.dst=some d→d<nt:=by
 unfold ken at h
 split at h
 ·rename_i op g h1 h2
  cases hd:o.dst with
  |none=>
   simp only[hd,if_true,Option.some.injEq] at h
   subst h
   exact⟨h1,h2,rfl,fun d e=>by cases e⟩
  |some t=>
   simp only[hd,decide_eq_true_eq] at h
   by_cases hlt:t<nt
   ·rw[if_pos hlt] at h
    cases h
    exact⟨h1,h2,rfl,fun d e=>by cases e;exact hlt⟩
   ·rw[if_neg hlt] at h;cases h
 ·cases h
theorem kzb {ops:Array Oper} {o:Oper} {g:Option (Nat×Bool)} (hg:kkf ops o.guard=some g) (hr:Regs D w V ρ s a):Region.wanted o (yielded ops a.tmps)=kbs s g:=by
 unfold kkf at hg
 unfold Region.wanted
 cases hq:o.guard with
 |none=>rw[hq] at hg;cases hg;rfl
 |some p=>
  obtain⟨j,b⟩:=p
  rw[hq] at hg
  simp only at hg
  split at hg
  ·rename_i t ht
   cases hg
   have hR:=hr.regs t
   simp only[yielded,ht,Option.bind_some,kbs]
   cases hv:a.tmps[t]? with
   |none=>
    have:a.tmps.getD t undef=undef:=by simp[hv]
    rw[this] at hR
    generalize s.rg t=x at hR ⊢
    cases hR;rfl
   |some v=>
    have:a.tmps.getD t undef=v:=by simp[hv]
    rw[this] at hR
    generalize s.rg t=x at hR ⊢
    cases hR <;> rfl
  ·cases hg
theorem Mv.step (h:SRel (C0 P pu) D w V ρ nt s a) {v:AV} {val:Value} (hp:Post P pu D ρ w V s s' v val w' D' ρ' V') (hr:s'.r=s.r) {d:Option Nat} (hd: ∀ e,d=some e→e<nt):
  Mv P pu nt D ρ w V s a D' ρ' w' V' (s'.set d v) (a.put d val) where
 rel:={
  size:=by rw[kvw];exact h.size
  regs:=kx4 (fun e he=>Nat.lt_of_lt_of_le (hd e he) h.size) ⟨fun t=>by
   have:=(kjq hp.ext h.db h.regs).regs t
   unfold St.rg at this ⊢
   rwa[hr],(kjq hp.ext h.db h.regs).gl⟩ hp.val
  heap:=by rw[kyk];exact hp.heap
  top:=fun i hi=>by
   rw[kjv]
   rcases hp.ids i hi with hi | ⟨_,hi⟩
   ·exact Nat.lt_of_lt_of_le (h.top i hi) hp.nx
   ·exact hi
  db:=hp.db}
 ext:=hp.ext
 nx:=by rw[kjv];exact hp.nx
 ids:=fun i hi=>(hp.ids i hi).imp id (·.1)
 defers:=fun n0 _ m=>by rw[kvv];exact m.ext h.heap hp.ext
theorem kr2:R D w V ρ (.tup []) undef:= .tup rfl fun j x v hx _=>by simp at hx
theorem Mv.skip (h:SRel (C0 P pu) D w V ρ nt s a) {d:Option Nat} (hd: ∀ e,d=some e→e<nt):Mv P pu nt D ρ w V s a D ρ w V (s.set d (.tup [])) (a.put d undef):=
 Mv.step h ⟨kr2,h.heap,Ext.refl _ _ _ _,Nat.le_refl _,fun _ h=> .inl h,h.db⟩ rfl hd
section
variable {F:Nat→Option AFn} {KK:Nat→List AV→Option AV} {ex:AC→St→Option (AE×St)} {ops:Array Oper}
inductive Told [Gl] (P:Program) (nt:Nat) (ops:Array Oper):List Nat→List AOper→Prop
 |nil:Told P nt ops [] []
 |cons {i:Nat} {is:List Nat} {o:Oper} {ao:AOper} {aos:List AOper} (ho:ops[i]? =some o) (hc:ken P nt ops o=some ao) (t:Told P nt ops is aos):Told P nt ops (i::is) (ao::aos)
theorem qej (hC:kdi P pu (kbi F KK ex)) (hX:ExOk P pu ex) {s1:St}: ∀ {is:List Nat} {l:List AOper},Told P nt ops is l→ ∀ {D:Nat→Prop} {ρ:Ren} {w:World} {V:Ids} {s:St} {a:Act},SRel (C0 P pu) D w V ρ nt s a→regA F KK ex l s=some s1→
  (∀ D' ρ' w' V' a',Mv P pu nt D ρ w V s a D' ρ' w' V' s1 a'→Q .normal a' w')→wpOpsIn (FW rd) n P ops Q is a w:=by
 intro is l ht
 induction ht with
 |nil=>
  intro D ρ w V s a h he hQ
  cases he
  exact hQ _ _ _ _ _ (Mv.refl h)
 | @cons i is o ao aos ho hc ht ih=>
   intro D ρ w V s a h he hQ
   obtain⟨h1,h2,h3,h4⟩:=knl hc
   simp only[wpOpsIn,ho]
   rw[kzb h2 h.regs]
   simp only[regA] at he
   split at he
   ·rename_i hw
    rw[if_pos hw]
    split at he
    ·rename_i v s2 hs
     refine kru hC hX h.heap h.db h.regs h.top h1 hs fun val w' D' ρ' V' hp hr=> ?_
     have m:=Mv.step h hp hr h4
     rw[h3] at he
     exact ih m.rel he fun D₂ ρ₂ w₂ V₂ a₂ m₂=>hQ _ _ _ _ _ (m.trans m₂)
    ·cases he
   ·rename_i hw
    rw[if_neg hw]
    refine⟨fun f _=>trivial,?_⟩
    have m:=Mv.skip h h4
    rw[h3] at he
    exact ih m.rel he fun D₂ ρ₂ w₂ V₂ a₂ m₂=>hQ _ _ _ _ _ (m.trans m₂)
theorem ky4: ∀ {l:List Oper} {aos:List AOper} {k:Nat},mapO (ken P nt ops) l=some aos→(∀ j o,l[j]? =some o→ops[k+j]? =some o)→Told P nt ops (List.range' k l.length) aos
 | [],aos,k,h,_=>by cases h;exact .nil
 |o::l,aos,k,h,hl=>by
  unfold mapO at h
  split at h
  ·cases h
  ·rename_i ao hao
   split at h
   ·cases h
   ·rename_i aos' haos
    cases h
    rw[List.length_cons,List.range'_succ]
    exact .cons (by simpa using hl 0 o rfl) hao (ky4 haos fun j o' ho=>by
     have:=hl (j+1) o' (by simpa using ho)
     rwa[show k+(j+1)=k+1+j from by omega] at this)
theorem qek (hC:kdi P pu (kbi F KK ex)) (hX:ExOk P pu ex) {s1:St} {id:Nat} {aos:List AOper} (hm:mapO (ken P nt ops) ops.toList=some aos) (h:SRel (C0 P pu) D w V ρ nt s a) (he:regA F KK ex aos s=some s1)
  (hQ: ∀ D' ρ' w' V' a',Mv P pu nt D ρ w V s a D' ρ' w' V' s1 a'→Q .normal a' w'):(Code.region id ops false).wpIn (FW rd) n P Q a w:=by
 refine wpIn_region ?_
 have:=ky4 (k:=0) hm (fun j o ho=>by simpa using ho)
 rw[List.range_eq_range',←Array.length_toList]
 exact qej hC hX this h he hQ
end
end
end Go.Proofs.Hz
namespace Go.Proofs.Hz
open Go.RowKit
inductive Anc (ops:Array Oper):Nat→Nat→Prop
 |one {i j:Nat} {o:Oper} {e:Edge} (ho:ops[j]? =some o) (he:e ∈ o.after) (hb:Region.binds .any e=true) (hi:e.on=i):Anc ops i j
 |more {i j k:Nat} (h:Anc ops i k) (h':Anc ops k j):Anc ops i j
theorem ks4 {ops:Array Oper} {acc:List Nat} (hacc: ∀ j x,(acc.getD j 0).testBit x=true→Anc ops x j) {j:Nat} {o:Oper} (ho:ops[j]? =some o):
  ∀ {es:List Edge},(∀ e ∈ es,e ∈ o.after)→ ∀ x,(kfl acc es).testBit x=true→Anc ops x j
 | [],_,x,h=>by simp[kfl] at h
 |e::es,hes,x,h=>by
  have ih:=ks4 hacc ho (es:=es) fun e he=>hes e (by simp[he])
  unfold kfl at h
  split at h
  ·rename_i hb
   simp only[Nat.testBit_or,Bool.or_eq_true,Nat.testBit_two_pow,decide_eq_true_eq] at h
   have h1:Anc ops e.on j:= .one ho (hes e (by simp)) hb rfl
   rcases h with h |h |h
   ·exact ih x h
   ·exact h ▸ h1
   ·exact .more (hacc _ _ h) h1
  ·exact ih x h
theorem kur {ops:Array Oper}: ∀ {l:List Oper} {acc:List Nat},(∀ j x,(acc.getD j 0).testBit x=true→Anc ops x j)→(∀ j o,l[j]? =some o→ops[acc.length+j]? =some o)→ ∀ j x,((ki5 l acc).getD j 0).testBit x=true→Anc ops x j
 | [],acc,h,_,j,x,hx=>h j x hx
 |o::l,acc,h,hl,j,x,hx=>by
  refine kur (l:=l) (acc:=acc++[kfl acc o.after.toList]) (fun j x hx=> ?_) (fun j o' ho=> ?_) j x hx
  ·by_cases hj:j<acc.length
   ·refine h j x ?_
    simpa[List.getD_eq_getElem?_getD,List.getElem?_append_left hj] using hx
   ·by_cases he:j=acc.length
    ·subst he
     refine ks4 h (by simpa using hl 0 o rfl) (es:=o.after.toList) (fun e he=>by simpa using he) x ?_
     simpa[List.getD_eq_getElem?_getD] using hx
    ·have:(acc++[kfl acc o.after.toList])[j]? =none:=List.getElem?_eq_none (by simp;omega)
     simp[List.getD_eq_getElem?_getD,this] at hx
  ·have:=hl (j+1) o' (by simpa using ho)
   rwa[List.length_append,List.length_singleton,show acc.length+1+j=acc.length+(j+1) from by omega]
structure OkL (ops:Array Oper) (ms:List Nat) (L:List ADr):Prop where
 pair: ∀ l1 y l2,L=l1++y::l2→ ∀ x ∈ l1,ancB ms x.i y.i=true∨(kgj x.o y.o=true∧kes x y=true)
 back: ∀ l1 y l2,L=l1++y::l2→4≤y.k→l1.countP (fun x=>isW x.k && !ancB ms x.i y.i)≤y.back
 once: ∀ l1 y l2,L=l1++y::l2→ ∀ x ∈ l1++l2,x.i≠y.i
theorem km4 {α:Type} {p q l1 l2:List α} {y:α} (h:p++q=l1++y::l2):(∃ p2,p=l1++y::p2∧l2=p2++q)∨ ∃ q1,l1=p++q1∧q=q1++y::l2:=by
 rcases List.append_eq_append_iff.1 h with⟨c,h1,h2⟩ | ⟨c,h1,h2⟩
 ·exact .inr ⟨c,h1,h2⟩
 ·cases c with
  |nil=>exact .inr ⟨[],by simpa using h1.symm,by simpa using h2.symm⟩
  |cons z c=>
   simp only[List.cons_append,List.cons.injEq] at h2
   obtain⟨rfl,rfl⟩:=h2
   exact .inl ⟨c,h1,rfl⟩
theorem OkL.rest {ops:Array Oper} {ms:List Nat} {p q:List ADr} {j:ADr} (h:OkL ops ms (p++j::q)):OkL ops ms (p++q) where
 pair:=fun l1 y l2 e x hx=>by
  rcases km4 e with⟨p2,rfl,rfl⟩ | ⟨q1,rfl,rfl⟩
  ·exact h.pair l1 y (p2++j::q) (by simp) x hx
  ·refine h.pair (p++j::q1) y l2 (by simp) x ?_
   simp only[List.mem_append,List.mem_cons] at hx ⊢
   rcases hx with hx |hx
   ·exact .inl hx
   ·exact .inr (.inr hx)
 back:=fun l1 y l2 e hk=>by
  rcases km4 e with⟨p2,rfl,rfl⟩ | ⟨q1,rfl,rfl⟩
  ·exact h.back l1 y (p2++j::q) (by simp) hk
  ·have:=h.back (p++j::q1) y l2 (by simp) hk
   simp only[List.countP_append,List.countP_cons] at this ⊢
   omega
 once:=fun l1 y l2 e x hx=>by
  rcases km4 e with⟨p2,rfl,rfl⟩ | ⟨q1,rfl,rfl⟩
  ·refine h.once l1 y (p2++j::q) (by simp) x ?_
   simp only[List.mem_append,List.mem_cons] at hx ⊢
   rcases hx with hx |hx |hx
   ·exact .inl hx
   ·exact .inr (.inl hx)
   ·exact .inr (.inr (.inr hx))
  ·refine h.once (p++j::q1) y l2 (by simp) x ?_
   simp only[List.mem_append,List.mem_cons] at hx ⊢
   rcases hx with(hx |hx) |hx
   ·exact .inl (.inl hx)
   ·exact .inl (.inr (.inr hx))
   ·exact .inr hx
theorem ku8 {ms:List Nat}: ∀ {L:List ADr},klo ms L=true→ ∀ l1 y l2,L=l1++y::l2→ ∀ x ∈ l1,ancB ms x.i y.i=true∨(kgj x.o y.o=true∧kes x y=true)
 | [],_,l1,y,l2,e,_,_=>by cases l1 <;> cases e
 |z::L,h,l1,y,l2,e,x,hx=>by
  simp only[klo,Bool.and_eq_true,List.all_eq_true,Bool.or_eq_true] at h
  cases l1 with
  |nil=>cases hx
  |cons z' l1=>
   simp only[List.cons_append,List.cons.injEq] at e
   obtain⟨rfl,rfl⟩:=e
   rcases List.mem_cons.1 hx with rfl |hx
   ·exact h.1 y (by simp)
   ·exact ku8 h.2 l1 y l2 rfl x hx
theorem ku3 {ms:List Nat}: ∀ {L pre:List ADr},klk ms pre L=true→ ∀ l1 y l2,L=l1++y::l2→4≤y.k→(l1.countP fun x=>isW x.k && !ancB ms x.i y.i)+(pre.countP fun x=>isW x.k && !ancB ms x.i y.i)≤y.back
 | [],_,_,l1,y,l2,e,_=>by cases l1 <;> cases e
 |z::L,pre,h,l1,y,l2,e,hk=>by
  simp only[klk,Bool.and_eq_true,Bool.or_eq_true,decide_eq_true_eq] at h
  cases l1 with
  |nil=>
   simp only[List.nil_append,List.cons.injEq] at e
   obtain⟨rfl,rfl⟩:=e
   simp only[List.countP_nil,Nat.zero_add]
   rcases h.1 with h1 |h1
   ·omega
   ·exact h1
  |cons z' l1=>
   simp only[List.cons_append,List.cons.injEq] at e
   obtain⟨rfl,rfl⟩:=e
   have:=ku3 h.2 l1 y l2 rfl hk
   rw[List.countP_cons] at this ⊢
   omega
theorem ku7: ∀ {L:List ADr},klm L=true→ ∀ l1 y l2,L=l1++y::l2→ ∀ x ∈ l1++l2,x.i≠y.i
 | [],_,l1,y,l2,e,_,_=>by cases l1 <;> cases e
 |z::L,h,l1,y,l2,e,x,hx=>by
  simp only[klm,Bool.and_eq_true,List.all_eq_true,bne_iff_ne,ne_eq] at h
  cases l1 with
  |nil=>
   simp only[List.nil_append,List.cons.injEq] at e
   obtain⟨rfl,rfl⟩:=e
   exact h.1 x (by simpa using hx)
  |cons z' l1=>
   simp only[List.cons_append,List.cons.injEq] at e
   obtain⟨rfl,rfl⟩:=e
   simp only[List.cons_append,List.mem_cons] at hx
   rcases hx with rfl |hx
   ·exact fun he=>h.1 y (by simp) he.symm
   ·exact ku7 h.2 l1 y l2 rfl x hx
theorem ku5: ∀ {l:List Oper} {i:Nat},khv i l=true→ ∀ j o,l[j]? =some o→ ∀ e ∈ o.after,Region.binds .any e=true→e.on<i+j
 | [],_,_,j,o,h,_,_,_=>by simp at h
 |o'::l,i,h,j,o,ho,e,he,hb=>by
  simp only[khv,Bool.and_eq_true,List.all_eq_true,Bool.or_eq_true,Bool.not_eq_true',decide_eq_true_eq] at h
  cases j with
  |zero=>
   simp only[List.getElem?_cons_zero,Option.some.injEq] at ho
   subst ho
   rcases h.1 e (by simpa using he) with h1 |h1
   ·rw[hb] at h1;cases h1
   ·simpa using h1
  |succ j=>
   have:=ku5 h.2 j o (by simpa using ho) e he hb
   omega
theorem khn {l:Array Bool} {i:Nat}:l.getD i true=false↔i<l.size∧l.getD i false=false:=by
 rcases Nat.lt_or_ge i l.size with h |h
 ·simp[h]
 ·simp[Array.getElem?_eq_none h];omega
theorem qei {ops:Array Oper} (he:khv 0 ops.toList=true) {listed:Array Bool} (hs:listed.size=ops.size) {i:Nat} (hi:listed.getD i true=false):Region.ready .any ops listed≠[]:=by
 induction i using Nat.strongRecOn with
 |_ i ih=>
  have hlt:i<listed.size:=(khn.1 hi).1
  have hop: ∃ o,ops[i]? =some o:=⟨_,Array.getElem?_eq_getElem (by omega)⟩
  obtain⟨o,ho⟩:=hop
  by_cases hall: ∀ e ∈ o.after,Region.binds .any e=true→listed.getD e.on false=true
  ·intro hn
   have:i ∈ Region.ready .any ops listed:=mem_ready.2 ⟨hi,o,ho,hall⟩
   rw[hn] at this;cases this
  ·obtain⟨e,hn⟩:=Classical.not_forall.1 hall
   obtain⟨h1,hn⟩:=Classical.not_forall.1 hn
   obtain⟨h2,hn⟩:=Classical.not_forall.1 hn
   have hlt2:e.on<i:=by simpa using ku5 he i o (by simpa using ho) e h1 h2
   exact ih e.on hlt2 (khn.2 ⟨by omega,by simpa using hn⟩)
theorem kzy {ops:Array Oper} {listed:Array Bool} (hcl: ∀ j o,ops[j]? =some o→listed.getD j false=true→ ∀ e ∈ o.after,Region.binds .any e=true→listed.getD e.on false=true) {i j:Nat} (h:Anc ops i j):
  (∀ o,ops[j]? =some o→ ∀ e ∈ o.after,Region.binds .any e=true→listed.getD e.on false=true)→listed.getD i false=true:=by
 induction h with
 |one ho he hb hi=>intro hj;rw[←hi];exact hj _ ho _ he hb
 |more h h' ih ih'=>intro hj;exact ih fun o ho e he hb=>hcl _ o ho (ih' hj) e he hb
end Go.Proofs.Hz
