/-
  Chapter 20: slices.Collect(strings.Lines(s)), called in the caller's own memory. And: Chapter 20: what is told, as it is handed in: rows of syscalls, moves; the same?; few?; may it be? (Plain definitions.)
  Conditions: none.
-/
import Derived.Test.YtamikoglpnoicaaGreatDoorT29
import Derived.Test.YtamikoglpnoicaaGreatDoorT28
import Derived.Test.YtamikoglpnoicaaGreatDoorT24
open Go Go.Proofs
namespace Go.Proofs.Hz
set_option maxRecDepth 20000
abbrev tb:Blk:= .cells tdZ false 26
theorem k0f (s:Bs) {z:St} {σ:Nat→Nat} (hσ: ∀ i j,σ i=σ j→i=j) (S:Sim (valL [.str s] [] [] σ 2) (tmpl [0,1] [.im [] true,.fn 49 [] [.ptr 1 0]] [tb,.cells [vt 0] false 9]) z): ∃ z1,Ev FF (.seq asA asB) z .nrm z1∧Sim (valL [.str s] [] [] (sig σ [0,1,2] 3) 3) (tmpl [2,6] [.ptr 2 0,.fn 49 [] [.ptr 1 0]] [tb,.cells [vt 0] false 9,.cells [.im [] true] false 56]) z1:=by
 have H:=Tok.start (G:=gl20) (F:=FF) hσ S 2 1 0 0 [.str s] [] [] .n .n rfl rfl
 exact H.ev (.seq asA asB) .nrm [2,6] [0,1,2] [.ptr 2 0,.fn 49 [] [.ptr 1 0]] [tb,.cells [vt 0] false 9,.cells [.im [] true] false 56] 3 [.ptr 2 0,.fn 49 [] [.ptr 1 0]] [tb,.cells [vt 0] false 9,.cells [.im [] true] false 56] (valL [.str s] [] [] (sig σ [0,1,2] 3) 3)
theorem kz9 (rest:Bs) {z:St} {σ:Nat→Nat} (l:ALoop) (hσ: ∀ i j,σ i=σ j→i=j) (S:Sim (U0 [] rest σ) (tmpl [2] [.ptr 2 0] (c0 l)) z): ∃ z1,Ev FF asE z .ret z1∧Sim (valL [] [] [] (sig σ [0] 4) 1) (tmpl [4] [.im [] true] [tb]) z1:=by
 have H:=Tok.start (G:=gl20) (F:=FF) hσ S 4 1 0 0 [.str rest] [] [] .n .n rfl rfl
 exact H.ev asE .ret [4] [0] [.im [] true] [tb] 4 [.im [] true] [tb] (valL [] [] [] (sig σ [0] 4) 1)
theorem k0a (out:List Bs) (rest:Bs) {z:St} {σ:Nat→Nat} (l:ALoop) (hσ: ∀ i j,σ i=σ j→i=j) (S:Sim (U1 out rest σ) (tmpl [2] [.ptr 2 0] (c1 l)) z): ∃ z1,Ev FF asE z .ret z1∧Sim (valL [] [] [(1,out.map eT)] (sig σ [0,4] 5) 2) (tmpl [4] [.sl 1 0 1000001 1 none] [tb,.own 1000001 false 9]) z1:=by
 have H:=Tok.start (G:=gl20) (F:=FF) hσ S 5 1 0 1 [.str rest] [] [(0,1,out.map eT)] .n (.c (OkO.own kaf _) .n) rfl rfl
 exact H.ev asE .ret [4] [0,4] [.sl 4 0 1000001 1 none] [tb,.own 1000001 false 9] 5 [.sl 1 0 1000001 1 none] [tb,.own 1000001 false 9] (valL [] [] [(1,out.map eT)] (sig σ [0,4] 5) 2)
theorem Sim.begin {ρ:Val} {bs:List Blk} {z:St} (S:Sim ρ (tmpl [] [] bs) z) (ts:List Nat) (ws:List AV) (r:T AV) (hr: ∀ t v,(tmpl ts ws bs).r.get t=some v→r.get t=some (gm ρ v)):Sim ρ (tmpl ts ws bs) {r:=r,h:=z.h,nx:=z.nx}:=
 S.regs' (s':=tmpl ts ws bs) (c':={r:=r,h:=z.h,nx:=z.nx}) hr rfl rfl rfl rfl
theorem Sim.bare {ρ:Val} {ts:List Nat} {ws:List AV} {bs:List Blk} {z:St} (S:Sim ρ (tmpl ts ws bs) z) (r:T AV):Sim ρ (tmpl [] [] bs) {r:=r,h:=z.h,nx:=z.nx}:=
 S.regs' (s':=tmpl [] [] bs) (c':={r:=r,h:=z.h,nx:=z.nx}) (fun t u hu=>by rw[show(tmpl [] [] bs).r.get t=none from T.get_nil _] at hu;cases hu) rfl rfl rfl rfl
def cRes (s:Bs) (σ:Nat→Nat) (z':St) (v:AV):Prop:=∃ σ',σ' 0=σ 0∧
 ((s=[]∧v= .im [] true∧Sim (valL [] [] [] σ' 1) (tmpl [] [] [tb]) z')∨
  (s≠[]∧v= .sl (σ' 1) 0 (ka9 s).length 1 none∧Sim (valL [] [] [(1,(ka9 s).map eT)] σ' 2) (tmpl [] [] [tb,.own 1000001 false 9]) z'))
theorem kz3 (s:Bs) (hl:s.length≤1000000) {z:St} {σ:Nat→Nat} (S:Sim (valL [.str s] [] [] σ 2) (tmpl [] [] [tb,.cells [vt 0] false 9]) z):
  ∃ v z',CallEv FF 48 [.im [] true,.fn 49 [] [.ptr (σ 1) 0]] z v z'∧z'.r=z.r∧cRes s σ z' v:=by
 have S0:=S.begin [0,1] [.im [] true,.fn 49 [] [.ptr 1 0]] (inits 0 [.im [] true,.fn 49 [] [.ptr (σ 1) 0]] .nil) (fun t u hu=>by
  have hm:=kbh (show(ofL ([0,1].zip [AV.im [] true,.fn 49 [] [.ptr 1 0]])).get t=some u from hu)
  simp only[List.zip,List.zipWith,List.mem_cons,Prod.mk.injEq,List.not_mem_nil,or_false] at hm
  rw[kgt]
  rcases hm with⟨rfl,rfl⟩ | ⟨rfl,rfl⟩
  ·exact(by kernel_rfl:some (AV.im [] true)=some (gm (valL [.str s] [] [] σ 2) (.im [] true)))
  ·exact(by kernel_rfl:some (AV.fn 49 [] [.ptr (σ 1) 0])=some (gm (valL [.str s] [] [] σ 2) (.fn 49 [] [.ptr 1 0]))))
 obtain⟨z1,e1,S1⟩:=k0f (σ:=σ) s S.heap.inj S0
 obtain⟨zA,kA,kB⟩:=e1.seqI
 generalize hσ3:sig σ [0,1,2] 3=σ3 at S1
 have g0:σ3 0=σ 0:=by subst hσ3;rfl
 have g1:σ3 1=σ 1:=by subst hσ3;rfl
 have hnx:σ3 3=z1.nx:=S1.nxs 0
 have h6:(AO.t 6).ev z1= .fn 49 [] [.ptr (σ3 1) 0]:=kbd ((S1.regs 6 (.fn 49 [] [.ptr 1 0]) (by kernel_rfl)).trans (by kernel_rfl))
 have h2:z1.r.get 2=some (.ptr (σ3 2) 0):=(S1.regs 2 (.ptr 2 0) (by kernel_rfl)).trans (by kernel_rfl)
 have L:UOk σ3 {st:=0,pend:=none,r:=z1.r,ps:=[7],asg:=asG,body:=asH,nt:=13}:=⟨rfl,rfl,rfl,rfl,rfl,h2⟩
 generalize hl0:({st:=0,pend:=none,r:=z1.r,ps:=[7],asg:=asG,body:=asH,nt:=13}:ALoop)=l0 at L
 have SI:Sim (U0 [] s σ3) (tmpl [0,1] u01 (c0 l0)) {r:=inits 0 (.yld z1.nx::[.ptr (σ3 1) 0]) .nil,h:=z1.h.put z1.nx (some (.loop l0)),nx:=z1.nx+1}:=by
  have S2:Sim _ ((tmpl [2,6] [.ptr 2 0,.fn 49 [] [.ptr 1 0]] [tb,.cells [vt 0] false 9,.cells [.im [] true] false 56]).new (.loop l0)) (z1.new (.loop l0)):=Sim.new S1 (.loop l0)
  have S4:Sim (valL [.str s] [] [] σ3 3) {r:= .nil,h:=((tmpl [2,6] [.ptr 2 0,.fn 49 [] [.ptr 1 0]] [tb,.cells [vt 0] false 9,.cells [.im [] true] false 56]).new (.loop l0)).h,nx:=4} {r:=inits 0 (.yld z1.nx::[.ptr (σ3 1) 0]) .nil,h:=z1.h.put z1.nx (some (.loop l0)),nx:=z1.nx+1}:=
   S2.regs' (fun t u hu=>by rw[show(({r:= .nil,h:=((tmpl [2,6] [.ptr 2 0,.fn 49 [] [.ptr 1 0]] [tb,.cells [vt 0] false 9,.cells [.im [] true] false 56]).new (.loop l0)).h,nx:=4}:St)).r.get t=none from T.get_nil _] at hu;cases hu) rfl rfl rfl rfl
  refine S4.up (fun t u hu=> ?_) (by kernel_rfl) rfl rfl (Nat.le_succ 3) (Nat.le_refl 4) rfl (by kernel_rfl)
  have hm:=kbh (show(ofL ([0,1].zip u01)).get t=some u from hu)
  simp only[u01,List.zip,List.zipWith,List.mem_cons,Prod.mk.injEq,List.not_mem_nil,or_false] at hm
  show(inits 0 (.yld z1.nx::[.ptr (σ3 1) 0]) .nil).get t=_
  rw[kgt,←hnx]
  rcases hm with⟨rfl,rfl⟩ | ⟨rfl,rfl⟩
  ·exact(by kernel_rfl:some (AV.yld (σ3 3))=some (gm (U0 [] s σ3) (.yld 3)))
  ·exact(by kernel_rfl:some (AV.ptr (σ3 1) 0)=some (gm (U0 [] s σ3) (.ptr 1 0)))
 have ring: ∀ {z':St},Ev FF (.loop lnX) {r:=inits 0 (.yld z1.nx::[.ptr (σ3 1) 0]) .nil,h:=z1.h.put z1.nx (some (.loop l0)),nx:=z1.nx+1} (.ext 0) z'→z'.h.get z1.nx=some (.loop l0)→
   Ev FF (.rngf 13 (.t 6) [7] asG asH) z1 .nrm {r:=z1.r,h:=z'.h.put z1.nx (some (.loop {l0 with st:=3})),nx:=z'.nx}:=fun {z'} he hz=>by
  have hp:AE.after l0.pend= .nrm:=by rw[L.pend];rfl
  have hs:l0.st≠1:=by rw[L.st];decide
  subst hl0
  have:=Ev.rngf (fn:=fnOf FF 49) h6 (by kernel_rfl) (by kernel_rfl) (by kernel_rfl) (by rw[kui];exact he.block) (.inl rfl) hz hs
  rw[hp] at this
  exact this
 have fin: ∀ {z' z2:St},Ev FF (.rngf 13 (.t 6) [7] asG asH) z1 .nrm z'→Ev FF asE z' .ret z2→CallEv FF 48 [.im [] true,.fn 49 [] [.ptr (σ 1) 0]] z (z2.rg 4) {r:=z.r,h:=z2.h,nx:=z2.nx}:=fun {z' z2} h3 h4=>by
  refine CallEv.mk (fn:=fnOf FF 48) (by kernel_rfl) (by kernel_rfl) (e:= .ret) ?_ (.inr rfl) (by kernel_rfl)
  rw[k0g]
  have hb:=(h3.block (id:=0))
  exact kA.seq ((kB.seq hb).seq h4)
 by_cases hs:s=[]
 ·obtain⟨z',e',S'⟩:=qfh (σ:=σ3) [] s l0 SI.heap.inj SI (by rw[hs];simp)
  have e'':Ev FF (.loop lnX) _ (.ext 0) z':=Ev.loopJ (e'.seqJ (by intro h;cases h)) (by intro h;cases h)
  have hz:z'.h.get z1.nx=some (.loop l0):=by
   rw[←hnx];exact S'.heap.get 3 (.loop l0) (by kernel_rfl)
  have S6:=S'.hp' 3 {l0 with st:=3} (i:=z1.nx) hnx
  rw[show({tmpl [] [] (c0 l0) with h:=(tmpl [] [] (c0 l0)).h.put 3 (some (.loop {l0 with st:=3}))}:St)=tmpl [] [] (c0 {l0 with st:=3}) by kernel_rfl] at S6
  have S7:=S6.begin [2] [.ptr 2 0] z1.r (fun t u hu=>by
   have hm:=kbh (show(ofL ([2].zip [AV.ptr 2 0])).get t=some u from hu)
   simp only[List.zip,List.zipWith,List.mem_cons,Prod.mk.injEq,List.not_mem_nil,or_false] at hm
   obtain⟨rfl,rfl⟩:=hm
   exact h2)
  obtain⟨z2,e2,S8⟩:=kz9 (σ:=sig σ3 [0,1,2,3] 4) s {l0 with st:=3} S7.heap.inj S7
  refine⟨_,_,fin (ring e'' hz) e2,rfl,_,?_,.inl ⟨hs,kbd (S8.regs 4 (.im [] true) (by kernel_rfl)),S8.bare z.r⟩⟩
  exact g0
 ·have hlen:=kdy s
  have hpos:=keo hs
  obtain⟨z2,σ2,e2,a2,S2⟩:=qfq (σ:=σ3) [] s l0 SI.heap.inj L SI hs hl
  obtain⟨z',σ',rest',x3,x4,x5⟩:=qfn l0 s.length [(kaj s).1] (kaj s).2 (by omega) (by rw[List.length_singleton];omega) (σ:=σ2) S2.heap.inj (L.agree a2) S2
  have a4:=a2.trans x4
  have h3:σ' 3=z1.nx:=(a4 3 (by decide)).trans hnx
  have hz:z'.h.get z1.nx=some (.loop l0):=by
   rw[←h3];exact x5.heap.get 3 (.loop l0) (by kernel_rfl)
  have hlines:[(kaj s).1]++ka9 (kaj s).2=ka9 s:=(kgw hs).symm
  rw[hlines] at x5
  have S6:=x5.hp' 3 {l0 with st:=3} (i:=z1.nx) h3
  rw[show({tmpl [] [] (c1 l0) with h:=(tmpl [] [] (c1 l0)).h.put 3 (some (.loop {l0 with st:=3}))}:St)=tmpl [] [] (c1 {l0 with st:=3}) by kernel_rfl] at S6
  have S7:=S6.begin [2] [.ptr 2 0] z1.r (fun t u hu=>by
   have hm:=kbh (show(ofL ([2].zip [AV.ptr 2 0])).get t=some u from hu)
   simp only[List.zip,List.zipWith,List.mem_cons,Prod.mk.injEq,List.not_mem_nil,or_false] at hm
   obtain⟨rfl,rfl⟩:=hm
   have e2:=a4 2 (by decide)
   exact h2.trans (by rw[←e2];rfl))
  obtain⟨z3,e3,S8⟩:=k0a (σ:=σ') (ka9 s) rest' {l0 with st:=3} S7.heap.inj S7
  refine⟨_,_,fin (ring (e2.loop x3) hz) e3,rfl,sig σ' [0,4] 5,?_,.inr ⟨hs,?_,S8.bare z.r⟩⟩
  ·exact(a4 0 (by decide)).trans g0
  ·rw[kbd (S8.regs 4 (.sl 1 0 1000001 1 none) (by kernel_rfl))]
   rw[show(gm (valL [] [] [(1,(ka9 s).map eT)] (sig σ' [0,4] 5) 2) (.sl 1 0 1000001 1 none))= .sl ((sig σ' [0,4] 5) 1) 0 ((ka9 s).map eT).length 1 none by kernel_rfl,List.length_map]
theorem k1d (s:Bs) (hl:s.length≤1000000) {z:St} {σ:Nat→Nat} (S:Sim (valL [.str s] [] [] σ 2) (tmpl [] [] [tb,.cells [vt 0] false 9]) z):
  ∃ v z',CallEv FF 21 [.fn 49 [] [.ptr (σ 1) 0]] z v z'∧z'.r=z.r∧cRes s σ z' v:=by
 have hbody:(fnOf FF 21).body= .seq (.reg [⟨some 2,.mov (.c (.im [] true)),none⟩]) (.seq (.reg [⟨some 3,.mov (.t 0),none⟩,⟨some 4,.call (.c (.fn 48 [] [])) [.c (.im [] true),.t 3],none⟩,⟨some 2,.mov (.t 4),none⟩]) .ret):=by kernel_rfl
 generalize hr0:(((inits 0 [.fn 49 [] [.ptr (σ 1) 0]] .nil).put 2 (some (.im [] true))).put 3 (some (.fn 49 [] [.ptr (σ 1) 0])):T AV)=r1
 obtain⟨v,z1,hc,hr,hR⟩:=kz3 s hl (S.bare r1)
 obtain⟨z1r,z1h,z1n⟩:=z1
 have hr:r1=z1r:=hr.symm
 subst hr
 refine⟨v,{r:=z.r,h:=z1h,nx:=z1n},?_,rfl,?_⟩
 ·have hev:Ev FF (fnOf FF 21).body {r:=inits 0 [.fn 49 [] [.ptr (σ 1) 0]] .nil,h:=z.h,nx:=z.nx} .ret {r:=(r1.put 4 (some v)).put 2 (some v),h:=z1h,nx:=z1n}:=by
   rw[hbody]
   refine Ev.seq (Ev.reg (EvR.op (v:= .im [] true) (s1:={r:=inits 0 [.fn 49 [] [.ptr (σ 1) 0]] .nil,h:=z.h,nx:=z.nx}) (fun _=>rfl) (EvR.nil _))) (Ev.seq (Ev.reg ?_) (Ev.ret _))
   refine EvR.op (v:= .fn 49 [] [.ptr (σ 1) 0]) (s1:={r:=(inits 0 [.fn 49 [] [.ptr (σ 1) 0]] .nil).put 2 (some (.im [] true)),h:=z.h,nx:=z.nx}) (fun _=>by kernel_rfl) ?_
   refine EvR.call (g:=48) (first:=[]) (caps:=[]) (v:=v) (s1:={r:=r1,h:=z1h,nx:=z1n}) rfl ?_ ?_
   ·subst hr0
    exact hc
   ·refine EvR.op (v:=v) (s1:={r:=r1.put 4 (some v),h:=z1h,nx:=z1n}) (fun _=> ?_) (EvR.nil _)
    show some (St.rg {r:=r1.put 4 (some v),h:=z1h,nx:=z1n} 4,_)=_
    rw[kbd (show(St.mk (r1.put 4 (some v)) z1h z1n).r.get 4=some v by show(r1.put 4 (some v)).get 4=_;rw[T.get_put,if_pos rfl])]
    rfl
  have:=CallEv.mk (f:=21) (s:=z) (fn:=fnOf FF 21) (v:=v) (by kernel_rfl) (by kernel_rfl) hev (.inr rfl) (by
   have h2:(St.mk ((r1.put 4 (some v)).put 2 (some v)) z1h z1n).rg 2=v:=kbd (by show((r1.put 4 (some v)).put 2 (some v)).get 2=_;rw[T.get_put,if_pos rfl])
   show(match mapO (kcu _) [(2,none)] with |some [v]=>some v |some vs=>some (.tup vs) |none=>none)=_
   simp only[mapO,kcu,h2])
  exact this
 ·obtain⟨σ',h0,h⟩:=hR
  refine⟨σ',h0,?_⟩
  rcases h with⟨a,b,c⟩ | ⟨a,b,c⟩
  ·exact .inl ⟨a,b,c.bare z.r⟩
  ·exact .inr ⟨a,b,c.bare z.r⟩
end Go.Proofs.Hz
open Go Go.Proofs
namespace Go.Proofs.Hz
theorem kpb (n:Nat) (out:List Cl) (a:Nat):kdu n out a []=(out,a,0):=by
 cases n with
 |zero=>rfl
 |succ n=>unfold kdu;rw[if_pos rfl]
theorem kpc {n:Nat} {out:List Cl} {a:Nat} {rest:List UInt8} (h:rest≠[]):kdu (n+1) out a rest=
  if kay (kaj rest).1=true then kdu n (out++[kav (kaj rest).1]) (a+(kaj rest).1.length) (kaj rest).2 else([],a,1):=by
 rw[kdu,if_neg h]
where
 parseGo_fuel: ∀ (n m:Nat) (out:List Cl) (a:Nat) (rest:List UInt8),rest.length<n→rest.length<m→kdu n out a rest=kdu m out a rest:=by
  intro n
  induction n with
  |zero=>intro m out a rest h;omega
  |succ n ih=>
   intro m out a rest hn hm
   cases m with
   |zero=>omega
   |succ m=>
    by_cases hr:rest=[]
    ·subst hr;rw[kpb,kpb]
    ·rw[kpc hr,kpc hr]
     have hlen:=kdy rest
     have hpos:=keo hr
     split
     ·exact ih _ _ _ _ (by omega) (by omega)
     ·rfl
end Go.Proofs.Hz
open Go Go.Proofs
namespace Go.Proofs.Hz
theorem ku2: ∀ (cs:List Blk) (k i:Nat),(ofL (idx k cs)).get i=if k≤i then cs[i - k]? else none
 | [],k,i=>by
   show(T.nil:T Blk).get i=_
   rw[T.get_nil]
   split <;> simp
 |b::cs,k,i=>by
  show((ofL (idx (k+1) cs)).put k (some b)).get i=_
  rw[T.get_put,ku2 cs (k+1) i]
  by_cases h:k=i
  ·subst h
   rw[if_pos rfl,if_pos (Nat.le_refl _),Nat.sub_self]
   rfl
  ·rw[if_neg h]
   by_cases h2:k≤i
   ·rw[if_pos h2,if_pos (by omega),show i - k=(i - (k+1))+1 by omega,List.getElem?_cons_succ]
   ·rw[if_neg h2,if_neg (by omega)]
theorem kg8 (ts:List Nat) (ws:List AV) (cs:List Blk) (i:Nat):(tmpl ts ws cs).h.get i=cs[i]? :=by
 show(ofL (idx 0 cs)).get i=_
 rw[ku2,if_pos (Nat.zero_le _),Nat.sub_zero]
def kde (σ:Nat→Nat) (k:Nat):Nat→Nat:=fun i=>if i<k then σ i else σ (i+1)
theorem Sim.hide {ρ ρ':Val} {ts:List Nat} {ws:List AV} {cs cs':List Blk} {b:Blk} {z:St} (S:Sim ρ (tmpl ts ws (cs++[b])) z) (hlo:ρ.lo=cs.length+1) (hlo':ρ'.lo=cs.length) (hσ:ρ'.σ=kde ρ.σ cs.length) (hb:cs.map (gB ρ)=cs'.map (gB ρ')) (hh:ρ'.hid=(ρ.σ cs.length,gB ρ b)::ρ.hid):Sim ρ' (tmpl [] [] cs') z:=by
 have hlen:cs'.length=cs.length:=by have:=congrArg List.length hb;simpa using this.symm
 have hg: ∀ i,i<cs.length→ ∀ k,cs[i]? =some k→z.h.get (ρ.σ i)=some (gB ρ k):=fun i hi k hk=>S.heap.get i k (by rw[kg8,List.getElem?_append_left hi,hk])
 refine⟨fun t v hv=> ?_,⟨fun id k hk=> ?_,fun id h1 h2=> ?_,fun i j e=> ?_,fun p hp=> ?_⟩,fun i=> ?_,?_⟩
 ·rw[show(tmpl [] [] cs').r.get t=none from T.get_nil _] at hv;cases hv
 ·rw[kg8] at hk
  have hlt:id<cs.length:=by rw[←hlen];exact(List.getElem?_eq_some_iff.1 hk).1
  have e1:=congrArg (·[id]?) hb
  simp only[List.getElem?_map,hk,List.getElem?_eq_getElem hlt,Option.map_some,Option.some.injEq] at e1
  rw[hσ]
  unfold kde
  rw[if_pos hlt,hg id hlt _ (List.getElem?_eq_getElem hlt),e1]
 ·rw[hlo'] at h1
  rw[hσ]
  unfold kde
  rw[if_neg (by omega)]
  refine S.heap.absent (id+1) (by omega) ?_
  rw[kg8]
  exact List.getElem?_eq_none (by rw[List.length_append,List.length_singleton];omega)
 ·rw[hσ] at e
  unfold kde at e
  split at e <;> split at e
  ·exact S.heap.inj _ _ e
  ·have:=S.heap.inj _ _ e;omega
  ·have:=S.heap.inj _ _ e;omega
  ·have:=S.heap.inj _ _ e;omega
 ·rw[hh] at hp
  rcases List.mem_cons.1 hp with rfl |hp
  ·refine⟨S.heap.get cs.length b (by rw[kg8];simp),fun i e=> ?_⟩
   rw[hσ] at e
   unfold kde at e
   split at e
   ·have:=S.heap.inj _ _ e;omega
   ·have:=S.heap.inj _ _ e;omega
  ·refine⟨(S.heap.hid p hp).1,fun i=> ?_⟩
   rw[hσ]
   unfold kde
   split
   ·exact(S.heap.hid p hp).2 _
   ·exact(S.heap.hid p hp).2 _
 ·show ρ'.σ (cs'.length+i)=z.nx+i
  rw[hσ,hlen]
  unfold kde
  rw[if_neg (by omega),←S.nxs i]
  congr 1
  show cs.length+i+1=(cs++[b]).length+i
  rw[List.length_append,List.length_singleton]
  omega
 ·rw[hlo']
  show cs.length≤cs'.length
  omega
theorem kvg {l:Bs} (h:kaj l=(l,[])) (hne:l≠[]):kfv l=if kay l=true then([kav l],l.length,0) else([],0,1):=by
 have hp:0<l.length:=List.length_pos_iff.2 hne
 unfold kfv
 rw[kpc hne,h]
 by_cases hk:kay l=true
 ·rw[if_pos hk,if_pos hk,List.nil_append]
  show kdu l.length [kav l] (0+l.length) []=_
  rw[kpb,Nat.zero_add]
 ·rw[if_neg hk,if_neg hk]
theorem kls {l:Bs} (h:kaj l=(l,[])) (hne:l≠[]) (hl:l.length≤1000000) (hk:kay l=true):Spec FF 77 [.str l] (.tup [.im [[.int .i64 (kav l).no,.int .i64 (kav l).a,.int .i64 (kav l).b]] false,.int .i64 (l.length:Int),.int .i64 0]):=by
 have:=kvh l hl
 rw[kvg h hne,if_pos hk] at this
 exact this
theorem khw {l:Bs} (h:kaj l=(l,[])) (hne:l≠[]) (hl:l.length≤1000000) (hk: ¬kay l=true):Spec FF 77 [.str l] (.tup [.im [] true,.int .i64 0,.int .i64 1]):=by
 have:=kvh l hl
 rw[kvg h hne,if_neg hk] at this
 exact this
theorem kug: ∀ (n:Nat) (s:Bs),s.length<n→ ∀ l ∈ ka9 s,kaj l=(l,[])∧l≠[]∧l.length≤s.length
 |0,_,h=>by omega
 |n+1,s,h=>by
  intro l hl
  by_cases hs:s=[]
  ·subst hs;cases hl
  ·have hlen:=kdy s
   have hpos:=keo hs
   rw[kgw hs] at hl
   rcases List.mem_cons.1 hl with rfl |hl
   ·refine⟨?_,fun e=>by rw[e] at hpos;simp at hpos,by omega⟩
    rcases k1k s with⟨p,h1,h2⟩ | ⟨h1,_⟩
    ·rw[h1];exact ksx h2
    ·exact ksy h1
   ·obtain⟨a,b,c⟩:=kug n _ (by omega) l hl
    exact⟨a,b,by omega⟩
end Go.Proofs.Hz
open Go Go.Proofs
namespace Go.Proofs.Hz
theorem ktx {n:Int} (h:0≤n) (k:n≤9999):inW n=true:=by
 simp only[inW,decide_eq_true_eq];omega
theorem k5b (w:Bs) (n:Int):midL w (hdL w n)=kaa n:=by
 unfold midL hdL
 rw[←List.append_assoc,List.drop_left' (by simp),List.dropLast_concat]
theorem kff {w:Bs} {n most:Int} (h:0≤n) (k:n≤most) (hm:most≤9999):kaq w (hdL w n) most=n:=by
 obtain⟨a,b⟩:=klj (ktx h (by omega))
 have h1:(w++[32]).isPrefixOf (hdL w n)=true:=by
  unfold hdL
  rw[←List.append_assoc]
  exact List.isPrefixOf_iff_prefix.2 ⟨_,rfl⟩
 have h2:kac (hdL w n)=true:=kdz.2 ⟨w++([32]++kaa n),by unfold hdL;simp⟩
 unfold kaq
 rw[k5b,b,if_pos ⟨h1,h2,a,h,k⟩]
theorem kge {w l:Bs} {most:Int} (h:0≤kaq w l most):l=hdL w (kaq w l most)∧kaq w l most≤most:=by
 unfold kaq at h ⊢
 split
 ·rename_i hc
  obtain⟨h1,h2,h3,h4,h5⟩:=hc
  refine⟨?_,h5⟩
  have e1:=(ko8 h3).2
  obtain⟨r,hr⟩:=List.isPrefixOf_iff_prefix.1 h1
  obtain⟨t,ht⟩:=kdz.1 h2
  unfold hdL
  rw[e1]
  unfold midL
  cases hl:r.reverse with
  |nil=>
   have:r=[]:=by simpa using hl
   subst this
   rw[List.append_nil] at hr
   rw[←hr] at ht
   have:=List.append_inj_right' ht rfl
   cases this
  |cons y ys=>
   have hr2:r=ys.reverse++[y]:=by rw[←List.reverse_reverse r,hl];simp
   rw[hr2] at hr
   have:y=10:=by
    rw[←hr,←List.append_assoc] at ht
    have:=List.append_inj_right' ht rfl
    simpa using this
   subst this
   rw[←hr,←List.append_assoc,List.append_assoc,List.drop_left' (by simp)]
   rw[List.dropLast_concat]
   simp
 ·rename_i hc
  rw[if_neg hc] at h
  omega
theorem kha {w p:Bs} {most:Int} (h:(10:UInt8) ∉ p):kaq w p most= -1:=by
 unfold kaq
 rw[if_neg]
 rintro⟨_,h2,_⟩
 obtain⟨t,ht⟩:=kdz.1 h2
 rw[ht] at h
 simp at h
theorem qg9 {w l:Bs} {most:Int} (h: ¬0≤kaq w l most):kaq w l most= -1:=by
 unfold kaq at h ⊢
 split
 ·rename_i hc;rw[if_pos hc] at h;exact absurd hc.2.2.2.1 h
 ·rfl
theorem k29 {w v:Bs} {n m:Int} (hw:(32:UInt8) ∉ w) (hv:(32:UInt8) ∉ v) (h:hdL w n=hdL v m):w=v:=by
 unfold hdL at h
 have key: ∀ {a b r s:Bs},(32:UInt8) ∉ a→(32:UInt8) ∉ b→a++32::r=b++32::s→a=b:=by
  intro a
  induction a with
  |nil=>
   intro b r s _ hb e
   cases b with
   |nil=>rfl
   |cons y b=>simp only[List.nil_append,List.cons_append,List.cons.injEq] at e;simp[←e.1] at hb
  |cons x a ih=>
   intro b r s ha hb e
   cases b with
   |nil=>simp only[List.nil_append,List.cons_append,List.cons.injEq] at e;simp[e.1] at ha
   |cons y b=>
    simp only[List.cons_append,List.cons.injEq] at e
    simp only[List.mem_cons,not_or] at ha hb
    rw[e.1,ih ha.2 hb.2 e.2]
 exact key hw hv h
theorem kr1 {w v:Bs} {n most:Int} (hw:(32:UInt8) ∉ w) (hv:(32:UInt8) ∉ v) (h:w≠v):kaq v (hdL w n) most= -1:=
 qg9 fun h0=>h (k29 hw hv (kge h0).1)
theorem k5r {m:Mov} (h:mvOk m=true):kb4 (mvL m)=some m:=by
 simp only[mvOk,decide_eq_true_eq] at h
 obtain⟨⟨h1,h2⟩,h3,h4⟩:=h
 have hk:m.kind=0∨m.kind=1∨m.kind=2:=by omega
 obtain⟨k,n⟩:=m
 simp only at h1 h2 h3 h4 hk
 rcases hk with rfl |rfl |rfl
 ·show kb4 (hdL keh n)=_
  unfold kb4
  rw[kff h3 h4 (by omega),if_pos h3]
 ·show kb4 (hdL kek n)=_
  unfold kb4
  rw[kr1 (w:=kek) (v:=keh) (by decide) (by decide) (by decide),if_neg (by decide),kff h3 h4 (by omega),if_pos h3]
 ·show kb4 (hdL kei n)=_
  unfold kb4
  rw[kr1 (w:=kei) (v:=keh) (by decide) (by decide) (by decide),if_neg (by decide),kr1 (w:=kei) (v:=kek) (by decide) (by decide) (by decide),if_neg (by decide),kff h3 h4 (by omega),if_pos h3]
theorem k5s {l:Bs} {m:Mov} (h:kb4 l=some m):mvL m=l∧mvOk m=true:=by
 unfold kb4 at h
 split at h
 ·rename_i h0;cases h
  obtain⟨a,b⟩:=kge h0
  exact⟨a.symm,by simp only[mvOk,decide_eq_true_eq];exact⟨by decide,h0,b⟩⟩
 ·split at h
  ·rename_i h0;cases h
   obtain⟨a,b⟩:=kge h0
   exact⟨a.symm,by simp only[mvOk,decide_eq_true_eq];exact⟨by decide,h0,b⟩⟩
  ·split at h
   ·rename_i h0;cases h
    obtain⟨a,b⟩:=kge h0
    exact⟨a.symm,by simp only[mvOk,decide_eq_true_eq];exact⟨by decide,h0,b⟩⟩
   ·cases h
theorem k5q {p:Bs} (h:(10:UInt8) ∉ p):kb4 p=none:=by
 unfold kb4
 rw[kha h,kha h,kha h]
 rfl
theorem kms (l:Bs) (ls:List Bs) (a:Nat) (T:List (List Cl)):kco (l::ls) a T=if l=goL then(some T,a+1,ls) else match kcx l T with
 |none=>(none,a,ls)
 |some T'=>kco ls (a+1) T':=rfl
theorem ki6 (l:Bs) (ls:List Bs) (a:Nat) (M:List Mov):mvGo (l::ls) a M=match kb4 l with
 |none=>(none,a)
 |some m=>if M.length=1000 then(none,a) else mvGo ls (a+1) (M++[m]):=rfl
def kcp:List Bs→List (List Cl)→Option (List (List Cl))
 | [],T=>some T
 |l::ls,T=>if l=goL then none else match kcx l T with
  |none=>none
  |some T'=>kcp ls T'
theorem kry: ∀ (A B:List Bs) (T:List (List Cl)),kcp (A++B) T=match kcp A T with
  |none=>none
  |some T'=>kcp B T'
 | [],_,_=>rfl
 |l::A,B,T=>by
  show(if l=goL then none else match kcx l T with
   |none=>none
   |some T'=>kcp (A++B) T')=match(if l=goL then none else match kcx l T with
   |none=>none
   |some T'=>kcp A T') with
   |none=>none
   |some T'=>kcp B T'
  by_cases hl:l=goL
  ·rw[if_pos hl,if_pos hl]
  ·rw[if_neg hl,if_neg hl]
   cases kcx l T with
   |none=>rfl
   |some U=>exact kry A B U
theorem krx: ∀ {A B:List Bs} {a:Nat} {T T':List (List Cl)},kcp A T=some T'→kco (A++B) a T=kco B (a+A.length) T'
 | [],_,_,_,_,h=>by cases h;rfl
 |l::A,B,a,T,T',h=>by
  unfold kcp at h
  split at h
  ·cases h
  ·rename_i hl
   split at h
   ·cases h
   ·rename_i U hU
    rw[List.cons_append]
    rw[kms,if_neg hl,hU]
    show kco (A++B) (a+1) U=_
    rw[krx h,List.length_cons,show a+1+A.length=a+(A.length+1) by omega]
theorem kk3 {c:Cl}:kbp c≠goL∧kbp c≠thrL:=by
 have h:(32:UInt8) ∈ kbp c:=by unfold kbp;simp
 exact⟨fun e=>by rw[e] at h;revert h;decide,fun e=>by rw[e] at h;revert h;decide⟩
theorem kfm {α:Type} (T:List α) (b d:α):(T++[b]).getLastD d=b:=by simp
theorem kyw: ∀ {c:List Cl} {T:List (List Cl)} {b:List Cl},kcg c=true→b.length+c.length≤100→kcp (c.map kbp) (T++[b])=some (T++[b++c])
 | [],T,b,_,_=>by rw[List.append_nil];rfl
 |x::c,T,b,h,hl=>by
  simp only[kcg,List.all_cons,Bool.and_eq_true] at h
  rw[List.length_cons] at hl
  obtain⟨h1,h2⟩:=k36 h.1
  rw[List.map_cons]
  unfold kcp
  rw[if_neg kk3.1]
  have e:kcx (kbp x) (T++[b])=some (T++[b++[x]]):=by
   unfold kcx
   rw[if_neg kk3.2,kfm,if_neg,List.dropLast_concat,h2]
   rintro(k |k |k)
   ·simp at k
   ·rw[h1] at k;cases k
   ·omega
  rw[e]
  show kcp (c.map kbp) (T++[b++[x]])=_
  rw[kyw (by exact h.2) (by rw[List.length_append,List.length_singleton];omega),List.append_assoc]
  rfl
theorem krz: ∀ {R T:List (List Cl)},R.all kbb=true→T.length+R.length≤16→kcp (R.map kcb).flatten T=some (T++R)
 | [],T,_,_=>by rw[List.append_nil];rfl
 |c::R,T,h,hl=>by
  simp only[List.all_cons,Bool.and_eq_true] at h
  obtain⟨h1,h2⟩:=h
  simp only[kbb,Bool.and_eq_true,decide_eq_true_eq] at h1
  rw[List.length_cons] at hl
  rw[List.map_cons,List.flatten_cons,kry]
  have e:kcp (kcb c) T=some (T++[c]):=by
   unfold kcb kcp
   rw[if_neg (by decide)]
   unfold kcx
   rw[if_pos rfl,if_neg (by omega)]
   show kcp (c.map kbp) (T++[[]])=_
   rw[kyw h1.1 (by simpa using h1.2)]
   rfl
  rw[e]
  show kcp (R.map kcb).flatten (T++[c])=_
  rw[krz h2 (by rw[List.length_append,List.length_singleton];omega),List.append_assoc]
  rfl
theorem qg4 {A B:List Bs} {T T':List (List Cl)} (h:kcp (A++B) T=some T'): ∃ U,kcp A T=some U:=by
 rw[kry] at h
 cases e:kcp A T with
 |none=>rw[e] at h;cases h
 |some U=>exact⟨U,rfl⟩
theorem kyx {l:Bs} {T T':List (List Cl)} (h:kcx l T=some T') (hT:T.all kbb=true) (hn:T.length≤16):
  (T'.map kcb).flatten=(T.map kcb).flatten++[l]∧T'.all kbb=true∧T'.length≤16:=by
 unfold kcx at h
 split at h
 ·rename_i hl
  split at h
  ·cases h
  ·cases h
   subst hl
   refine⟨by simp[kcb],?_,by rw[List.length_append,List.length_singleton];omega⟩
   rw[List.all_append,hT]
   rfl
 ·split at h
  ·cases h
  ·rename_i hc
   cases h
   simp only[not_or] at hc
   obtain⟨c1,c2,c3⟩:=hc
   have hk:kay l=true:=by simpa using c2
   obtain⟨w1,w2⟩:=koz hk
   obtain⟨U,b,rfl⟩: ∃ U b,T=U++[b]:=⟨T.dropLast,T.getLast c1,(List.dropLast_concat_getLast c1).symm⟩
   rw[kfm] at c3
   rw[kfm,List.dropLast_concat]
   simp only[List.all_append,List.all_cons,List.all_nil,Bool.and_true,Bool.and_eq_true] at hT ⊢
   obtain⟨t1,t2⟩:=hT
   simp only[kbb,Bool.and_eq_true,decide_eq_true_eq] at t2
   refine⟨?_,⟨t1,?_⟩,by simpa using hn⟩
   ·simp[kcb,w2]
   ·simp only[kbb,Bool.and_eq_true,decide_eq_true_eq,List.length_append,List.length_singleton]
    refine⟨?_,by omega⟩
    have:=t2.1
    simp only[kcg,List.all_append,List.all_cons,List.all_nil,Bool.and_true,Bool.and_eq_true] at this ⊢
    exact⟨this,w1⟩
theorem kyt: ∀ {L:List Bs} {a a':Nat} {T T':List (List Cl)} {ls:List Bs},kco L a T=(some T',a',ls)→T.all kbb=true→T.length≤16→
  (T.map kcb).flatten++L=(T'.map kcb).flatten++goL::ls∧a'+ls.length=a+L.length∧T'.all kbb=true∧T'.length≤16
 | [],a,a',T,T',ls,h,_,_=>by cases h
 |l::L,a,a',T,T',ls,h,hT,hn=>by
  unfold kco at h
  split at h
  ·rename_i hl
   cases h
   subst hl
   exact⟨rfl,by rw[List.length_cons];omega,hT,hn⟩
  ·split at h
   ·cases h
   ·rename_i U hU
    obtain⟨s1,s2,s3⟩:=kyx hU hT hn
    obtain⟨r1,r2,r3,r4⟩:=kyt h s2 s3
    refine⟨?_,by rw[List.length_cons];omega,r3,r4⟩
    rw[←r1,s1]
    simp
theorem qg5 {p:Bs} (h:(10:UInt8) ∉ p) (T:List (List Cl)):kcx p T=none∧p≠goL:=by
 refine⟨?_,fun e=>by rw[e] at h;revert h;decide⟩
 unfold kcx
 rw[if_neg (fun e=>by rw[e] at h;revert h;decide),if_pos]
 refine .inr (.inl ?_)
 cases e:kay p with
 |false=>rfl
 |true=>
  have:=(koz e).2
  rw[←this] at h
  unfold kbp at h
  simp at h
theorem kuw: ∀ {N:List Mov} {ls:List Bs} {a:Nat} {M:List Mov},N.all mvOk=true→M.length+N.length≤1000→mvGo (N.map mvL++ls) a M=mvGo ls (a+N.length) (M++N)
 | [],ls,a,M,_,_=>by rw[List.append_nil];rfl
 |m::N,ls,a,M,h,hl=>by
  simp only[List.all_cons,Bool.and_eq_true] at h
  rw[List.length_cons] at hl
  rw[List.map_cons,List.cons_append,ki6,k5r h.1]
  show(if M.length=1000 then _ else _)=_
  rw[if_neg (by omega),kuw h.2 (by rw[List.length_append,List.length_singleton];omega),List.append_assoc,List.length_cons,show a+1+N.length=a+(N.length+1) by omega]
  rfl
theorem kux: ∀ {L:List Bs} {a a':Nat} {M M':List Mov},mvGo L a M=(some M',a')→M.all mvOk=true→M.length≤1000→M'.map mvL=M.map mvL++L∧a'=a+L.length∧M'.all mvOk=true∧M'.length≤1000
 | [],a,a',M,M',h,hM,hn=>by cases h;exact⟨by simp,rfl,hM,hn⟩
 |l::L,a,a',M,M',h,hM,hn=>by
  unfold mvGo at h
  split at h
  ·cases h
  ·rename_i m hm
   split at h
   ·cases h
   ·rename_i hl
    obtain⟨e1,e2⟩:=k5s hm
    obtain⟨r1,r2,r3,r4⟩:=kux h (by rw[List.all_append,hM];simp[e2]) (by rw[List.length_append,List.length_singleton];omega)
    refine⟨by rw[r1];simp[e1],by rw[r2,List.length_cons];omega,r3,r4⟩
end Go.Proofs.Hz
open Go Go.Proofs
namespace Go.Proofs.Hz
def thrN (T:List (List Cl)):Nat:=(T.map fun c=>c.length+1).sum
theorem kj0: ∀ T:List (List Cl),(T.map kcb).flatten.length=thrN T
 | []=>rfl
 |c::T=>by
  rw[List.map_cons,List.flatten_cons,List.length_append,kj0 T]
  simp[thrN,kcb]
theorem kyv: ∀ T:List (List Cl),T.length≤thrN T
 | []=>Nat.le_refl 0
 |c::T=>by
  have:=kyv T
  simp only[thrN,List.map_cons,List.sum_cons,List.length_cons] at this ⊢
  omega
theorem kku {w:Bs} {n:Int} (hw:(10:UInt8) ∉ w) (h:inI n=true):IsLn (hdL w n):=by
 refine⟨w++([32]++kaa n),by unfold hdL;simp,?_⟩
 simp only[List.mem_append,not_or]
 simp only[inI,decide_eq_true_eq] at h
 exact⟨hw,by decide,(kiy h).2.1⟩
theorem kd2 {n:Int} (h:0≤n) (k:n≤9999):inI n=true:=by
 simp only[inI,decide_eq_true_eq];omega
theorem k35 {c:Cl} (h:kc7 c=true):IsLn (kbp c):=by
 simp only[kc7,Bool.and_eq_true,decide_eq_true_eq,inW] at h
 obtain⟨⟨h0,h9⟩,ha,hb⟩:=h
 refine⟨kdf c.no++[32]++kaa c.a++[32]++kaa c.b,rfl,?_⟩
 have hw:(10:UInt8) ∉ kdf c.no:=by
  have:c.no=0∨c.no=1∨c.no=2∨c.no=3∨c.no=4∨c.no=5∨c.no=6∨c.no=7∨c.no=8∨c.no=9:=by omega
  rcases this with e |e |e |e |e |e |e |e |e |e <;> rw[e] <;> decide
 have ka:=(kiy (n:=c.a) (by omega)).2.1
 have kb:=(kiy (n:=c.b) (by omega)).2.1
 simp only[List.mem_append,not_or]
 exact⟨⟨⟨⟨hw,by decide⟩,ka⟩,by decide⟩,kb⟩
theorem k6j {m:Mov} (h:mvOk m=true):IsLn (mvL m):=by
 simp only[mvOk,decide_eq_true_eq] at h
 refine kku ?_ (kd2 h.2.1 h.2.2)
 unfold kab
 split
 ·decide
 ·split <;> decide
theorem qg3 {c:List Cl} (h:kbb c=true): ∀ l ∈ kcb c,IsLn l:=by
 simp only[kbb,Bool.and_eq_true,decide_eq_true_eq] at h
 intro l hl
 simp only[kcb,List.mem_cons,List.mem_map] at hl
 rcases hl with rfl | ⟨x,hx,rfl⟩
 ·exact⟨[116,104,114,101,97,100],rfl,by decide⟩
 ·exact k35 (List.all_eq_true.1 h.1 x hx)
structure May (x:Dt):Prop where
 n0:kc3 x.n0
 n1:kc3 x.n1
 n2:kc3 x.n2
 t:x.t.all kbb=true
 m:x.m.all mvOk=true
 tl:x.t.length≤16
 ml:x.m.length≤1000
theorem k49 {x:Dt}:mayD x=true↔May x:=by
 simp only[mayD,Bool.and_eq_true,decide_eq_true_eq]
 exact⟨fun⟨⟨⟨⟨a,b,c⟩,d⟩,e⟩,f,g⟩=>⟨a,b,c,d,e,f,g⟩,fun h=>⟨⟨⟨⟨h.n0,h.n1,h.n2⟩,h.t⟩,h.m⟩,h.tl,h.ml⟩⟩
theorem kk6 {x:Dt} (h:May x): ∀ l ∈ kb7 x,IsLn l:=by
 intro l hl
 simp only[kb7,kcs,List.mem_append,List.mem_cons,List.not_mem_nil,or_false,List.mem_flatten,List.mem_map] at hl
 rcases hl with(rfl |rfl |rfl) | ⟨_,⟨c,hc,rfl⟩,hl⟩ |rfl | ⟨m,hm,rfl⟩
 ·exact kku (by decide) (kd2 h.n0.1 (by have:=h.n0.2;omega))
 ·exact kku (by decide) (kd2 h.n1.1 (by have:=h.n1.2;omega))
 ·exact kku (by decide) (kd2 h.n2.1 (by have:=h.n2.2;omega))
 ·exact qg3 (List.all_eq_true.1 h.t c hc) l hl
 ·exact⟨[103,111],rfl,by decide⟩
 ·exact k6j (List.all_eq_true.1 h.m m hm)
theorem kud {x:Dt} (h:May x) (r:Bs):ka9 (kbl x++r)=kb7 x++ka9 r:=ko0 (kk6 h) r
theorem ki0 (x:Dt):(kb7 x).length=4+thrN x.t+x.m.length:=by
 simp only[kb7,kcs,List.length_append,List.length_cons,List.length_nil,List.length_map,kj0]
 omega
theorem kxz {x:Dt} (h:May x) (L:List Bs):kc5 (kcs x++L)=match kco L 3 [] with
  |(none,a,_)=>(none,a+1)
  |(some T,a,ls)=>match mvGo ls a [] with
   |(none,a)=>(none,a+1)
   |(some M,a)=>(some ⟨x.n0,x.n1,x.n2,T,M⟩,a):=by
 have e0:=kff (w:=kak) h.n0.1 h.n0.2 (by omega)
 have e1:=kff (w:=kal) h.n1.1 h.n1.2 (by omega)
 have e2:=kff (w:=kao) h.n2.1 h.n2.2 (by omega)
 have k0:=h.n0.1
 have k1:=h.n1.1
 have k2:=h.n2.1
 have g0:(kcs x++L).getD 0 []=hdL kak x.n0:=rfl
 have g1:(kcs x++L).getD 1 []=hdL kal x.n1:=rfl
 have g2:(kcs x++L).getD 2 []=hdL kao x.n2:=rfl
 have g3:(kcs x++L).drop 3=L:=rfl
 unfold kc5
 rw[g0,g1,g2,g3,e0,e1,e2,if_neg (by omega),if_neg (by omega),if_neg (by omega)]
 rfl
theorem krd {x:Dt} (h:May x) (ls:List Bs):kc5 (kb7 x++ls)=match mvGo ls (kb7 x).length x.m with
  |(none,a)=>(none,a+1)
  |(some M,a)=>(some ⟨x.n0,x.n1,x.n2,x.t,M⟩,a):=by
 have e1:=krx (a:=3) (B:=goL::(x.m.map mvL++ls)) (krz (T:=[]) h.t (by simpa using h.tl))
 rw[List.nil_append,kj0] at e1
 rw[show kb7 x++ls=kcs x++((x.t.map kcb).flatten++(goL::(x.m.map mvL++ls))) by simp[kb7],kxz h,e1]
 unfold kco
 rw[if_pos rfl]
 simp only
 rw[kuw h.m (by simpa using h.ml),List.nil_append,ki0]
 rw[show 3+thrN x.t+1+x.m.length=4+thrN x.t+x.m.length by omega]
theorem kre {x:Dt} (h:May x):kcn (kbl x)=(some x,4+thrN x.t+x.m.length):=by
 unfold kcn
 have e:=kud h []
 rw[List.append_nil,kuc] at e
 rw[e,krd h,←ki0]
 rfl
theorem kx2 {s:Bs} {x:Dt} {n:Nat} (h:kcn s=(some x,n)):May x∧kbl x=s∧ka9 s=kb7 x∧n=4+thrN x.t+x.m.length:=by
 have key:May x∧ka9 s=kb7 x:=by
  unfold kcn kc5 at h
  generalize hL:ka9 s=L at h
  split at h
  ·cases h
  rename_i h0
  split at h
  ·cases h
  rename_i h1
  split at h
  ·cases h
  rename_i h2
  split at h
  ·cases h
  rename_i T a ls hT
  split at h
  ·cases h
  rename_i M a' hM
  cases h
  obtain⟨t1,t2,t3,t4⟩:=kyt hT rfl (by simp)
  obtain⟨m1,m2,m3,m4⟩:=kux hM rfl (by simp)
  obtain⟨x0,y0⟩:=kge (by omega:0≤kaq kak (L.getD 0 []) 999)
  obtain⟨x1,y1⟩:=kge (by omega:0≤kaq kal (L.getD 1 []) 999)
  obtain⟨x2,y2⟩:=kge (by omega:0≤kaq kao (L.getD 2 []) 999)
  refine⟨⟨⟨Int.not_lt.1 h0,y0⟩,⟨Int.not_lt.1 h1,y1⟩,⟨Int.not_lt.1 h2,y2⟩,t3,m3,t4,m4⟩,?_⟩
  have hlen:3≤L.length:=by
   have:L.getD 2 []≠[]:=by rw[x2];simp[hdL]
   rcases Nat.lt_or_ge 2 L.length with h |h
   ·exact h
   ·exact absurd (by rw[List.getD_eq_getElem?_getD,List.getElem?_eq_none h];rfl) this
  obtain⟨a,b,c,L',rfl⟩: ∃ a b c L',L=a::b::c::L':=by
   match L,hlen with
   |a::b::c::L',_=>exact⟨a,b,c,L',rfl⟩
  simp only[List.getD_cons_zero,List.getD_cons_succ,List.drop_succ_cons,List.drop_zero,List.map_nil,List.flatten_nil,List.nil_append] at*
  unfold kb7 kcs
  simp only
  rw[←x0,←x1,←x2,t1,m1]
  rfl
 obtain⟨hm,hl⟩:=key
 have hw:kbl x=s:=by
  have:=k4g s
  rw[hl] at this
  exact this
 have e:=kre hm
 rw[hw,h] at e
 cases e
 exact⟨hm,hw,hl,rfl⟩
theorem qeg {s:Bs} {n:Nat} (h:kcn s=(none,n)):1≤n:=by
 unfold kcn kc5 at h
 split at h
 ·cases h;omega
 split at h
 ·cases h;omega
 split at h
 ·cases h;omega
 split at h
 ·cases h;omega
 split at h
 ·cases h;omega
 ·cases h
end Go.Proofs.Hz
open Go Go.Proofs
namespace Go.Proofs.Hz
def kqn (l:List Cl) (_bl:Bool) (m:List Cl) (_bm:Bool):Option AV:=
 if List.length l≤1000000 then some (.bool (eqC l m)) else none
def kxb:List AV:=[(vf 0),(vf 1)]
def kqq (l:List Cl) (bl:Bool) (m:List Cl) (bm:Bool) (σ:Nat→Nat):Val:=(valL ([]) ([.im (List.map eC l) bl,.im (List.map eC m) bm]) [] σ 0)
def qch (l:List Cl) (bl:Bool) (m:List Cl) (bm:Bool) (_σ:Nat→Nat):List AV:=[(.im (List.map eC l) bl),(.im (List.map eC m) bm)]
def qci (_l:List Cl) (_bl:Bool) (_m:List Cl) (_bm:Bool) (_σ:Nat→Nat):List Blk:=[]
theorem qcf (l:List Cl) (bl:Bool) (m:List Cl) (bm:Bool) (σ:Nat→Nat):kxb.map (gm (kqq l bl m bm σ))=qch l bl m bm σ:=by kernel_rfl
theorem qcg (l:List Cl) (bl:Bool) (m:List Cl) (bm:Bool) (σ:Nat→Nat):([]:List Blk).map (gB (kqq l bl m bm σ))=qci l bl m bm σ:=by kernel_rfl
theorem qcj (l:List Cl) (bl:Bool) (m:List Cl) (bm:Bool) {r0:AV} (h:kqn l bl m bm=some r0):Spec FF 40 [(.im (List.map eC l) bl),(.im (List.map eC m) bm)] r0:=by
 unfold kqn at h
 have hσ: ∀ i j:Nat,(fun i:Nat=>i) i=(fun i:Nat=>i) j→i=j:=fun _ _ e=>e
 exact kbk (ρ:=kqq l bl m bm (fun i=>i)) (xs:=kxb) (by kernel_rfl) rfl rfl (by kernel_rfl) (fun z0 S=>have H:=Tok.start hσ S 0 0 2 0 ([]) ([.im (List.map eC l) bl,.im (List.map eC m) bm]) [] (.c (OkF.im ka0 _ _) <| .c (OkF.im ka0 _ _) <| .n) .n (qcf l bl m bm _) (qcg l bl m bm _);reqE h (fun h0 h=>have H:=H.t 1 [.bool (eqC l m)]|>.s [(vf 0),(vf 1)] (vt 0) (k2b l m bl bm h0);H.e [] h))
end Go.Proofs.Hz
open Go Go.Proofs
namespace Go.Proofs.Hz
theorem qe9 (l m:List Cl) (bl bm:Bool) (h:l.length≤1000000):Spec FF 40 [.im (l.map eC) bl,.im (m.map eC) bm] (.bool (eqC l m)):=qcj l bl m bm (by unfold kqn;rw[if_pos h])
end Go.Proofs.Hz
open Go Go.Proofs
namespace Go.Proofs.Hz
structure Ro where
 c:List Cl
 b:Bool
def eR (r:Ro):List AV:=[.im (r.c.map eC) r.b]
theorem kau:Enc eR 1:=⟨fun _=>rfl,fun _=>rfl,fun r=>by
 have:=ka0.selfLL r.c
 simp only[eR,beqL,AV.beq,this,beq_self_eq_true,Bool.and_self]⟩
def eM (m:Mov):List AV:=[.int .i64 m.kind,.int .i64 m.n]
theorem kam:Enc eM 2:=⟨fun _=>rfl,fun _=>rfl,fun m=>by simp[eM,beqL,AV.beq]⟩
structure Td where
 n0:Int
 n1:Int
 n2:Int
 t:List Ro
 bt:Bool
 m:List Mov
 bm:Bool
def Td.av (x:Td):AV:= .agg [.int .i64 x.n0,.int .i64 x.n1,.int .i64 x.n2,.im (x.t.map eR) x.bt,.im (x.m.map eM) x.bm]
def Td.d (x:Td):Dt:=⟨x.n0,x.n1,x.n2,x.t.map Ro.c,x.m⟩
theorem Mov.ext' {c d:Mov} (h1:c.kind=d.kind) (h2:c.n=d.n):c=d:=by
 cases c;cases d
 simp only at h1 h2
 subst h1;subst h2;rfl
instance:DecidableEq Mov:=fun c d=>
 if h:c.kind=d.kind∧c.n=d.n then .isTrue (Mov.ext' h.1 h.2) else .isFalse fun e=>h (e ▸ ⟨rfl,rfl⟩)
def fewF (t:List Ro) (k m:Int):Bool:=decide ((t.length:Int)≤k) && t.all fun r=>decide ((r.c.length:Int)≤m)
def fewT (x:Td):Bool:=fewF x.t 18 102 && decide ((x.m.length:Int)≤1002)
def eqMv (l m:List Mov):Bool:=decide (l=m)
def eqTs (l m:List Ro):Bool:=decide (l.map Ro.c=m.map Ro.c)
def kgc (l:List Ro):Bool:=decide (l.length≤1000000) && l.all fun r=>decide (r.c.length≤1000000)
def kb2 (x:Td):Bool:=kgc x.t && decide (x.m.length≤1000000)
def kbj (x y:Td):Bool:=decide ((x.n0=y.n0∧x.n1=y.n1∧x.n2=y.n2)∧x.m=y.m∧x.t.map Ro.c=y.t.map Ro.c)
def ka6 (x:Td):Bool:=mayD x.d
def kag (s p:Bs):Bool:=decide (p.length≤s.length) && (s.take p.length == p)
def cutP (s p:Bs):Bs:=if kag s p=true then s.drop p.length else s
end Go.Proofs.Hz
