/-
  Chapter 20: all that a text tells, called. And: Chapter 20: what tool.Read answers, for those that call it.
  Conditions: none.
-/
import Derived.Test.YtamikoglpnoicaaGreatDoorT36
open Go Go.Proofs
namespace Go.Proofs.Hz
set_option maxRecDepth 20000
def thR:List AOper:=[⟨some 30,.mov (.t 0),none⟩,⟨some 31,.call (.c (.fn 52 [] [])) [.t 30],none⟩,⟨some 32,.un .not (.t 31),none⟩]
theorem kzv:(fnOf FF 23).body= .seq (.reg [⟨some 2,.mov (.c (.bool false)),none⟩]) (.seq (.seq (.reg hdR) (.block 0 (.loop hdX))) (.seq (.seq (.reg thR) (.cond (.t 32) (.seq (.reg [⟨some 2,.mov (.c (.bool false)),none⟩]) .ret) .skip)) (.seq (.block 2 (.loop (.seq alP mvY))) (.seq (.reg [⟨some 2,.mov (.c (.bool true)),none⟩]) .ret)))):=kzu
section
variable {i0 i2:Nat} {L:List Bs}
theorem HSt.toM {a:Nat} {h:Hd} {ts:List Nat} {ws:List AV} {z:St} (S:HSt i0 i2 L a h ts ws z):MSt i0 i2 a h L [] [] [] [] [] z:=by
 obtain⟨σ,S,hs⟩:=S
 exact .inl ⟨rfl,rfl,q0,σ,S.bare z.r,hs⟩
theorem HSt.regs {a:Nat} {h:Hd} {z:St} (S:HSt i0 i2 L a h [0] [.ptr 2 0] z):z.r.get 0=some (.ptr i2 0):=by
 obtain⟨σ,S,hs⟩:=S
 rw[←hs.2]
 exact S.regs 0 (.ptr 2 0) (by kernel_rfl)
theorem HSt.reg2 {a:Nat} {h:Hd} {b:Bool} {z:St} (S:HSt i0 i2 L a h [2] [.bool b] z):z.r.get 2=some (.bool b):=by
 obtain⟨σ,S,hs⟩:=S
 exact S.regs 2 (.bool b) (by kernel_rfl)
theorem HSt.heads {h:Hd} {z:St} (S:HSt i0 i2 L 0 h [0,7,8] [.ptr 2 0,wH,.int .i64 0] z) (hLn:L.length≤1000000) (hL: ∀ l ∈ L,l.length≤1000000):
  ((0≤kaq kak (L.getD 0 []) 999∧0≤kaq kal (L.getD 1 []) 999∧0≤kaq kao (L.getD 2 []) 999)∧ ∃ z1,Ev FF (.loop hdX) z (.ext 0) z1∧HSt i0 i2 L 3 ⟨kaq kak (L.getD 0 []) 999,kaq kal (L.getD 1 []) 999,kaq kao (L.getD 2 []) 999⟩ [0] [.ptr 2 0] z1)∨
  (∃ a,kc5 L=(none,a+1)∧ ∃ z1 h1,Ev FF (.loop hdX) z .ret z1∧HSt i0 i2 L a h1 [2] [.bool false] z1):=by
 by_cases c0:0≤kaq kak (L.getD 0 []) 999
 ·obtain⟨z1,e1,S1⟩:=(S.step0 hLn hL).1 c0
  by_cases c1:0≤kaq kal (L.getD 1 []) 999
  ·obtain⟨z2,e2,S2⟩:=(S1.step1 hLn hL).1 c1
   by_cases c2:0≤kaq kao (L.getD 2 []) 999
   ·obtain⟨z3,e3,S3⟩:=(S2.step2 hLn hL).1 c2
    obtain⟨σ,S3,hs⟩:=S3
    obtain⟨z4,e4,S4⟩:=k3g _ _ L [] q0 (σ:=σ) S3.heap.inj S3
    exact .inl ⟨⟨c0,c1,c2⟩,z4,e1.loop (e2.loop (e3.loop (Ev.loopJ e4 (by intro h;cases h)))),_,S4,hs⟩
   ·obtain⟨z3,e3,S3⟩:=(S2.step2 hLn hL).2 c2
    refine .inr ⟨2,?_,z3,_,e1.loop (e2.loop (Ev.loopJ e3 (by intro h;cases h))),S3⟩
    unfold kc5
    rw[if_neg (by omega),if_neg (by omega),if_pos (by omega)]
  ·obtain⟨z2,e2,S2⟩:=(S1.step1 hLn hL).2 c1
   refine .inr ⟨1,?_,z2,_,e1.loop (Ev.loopJ e2 (by intro h;cases h)),S2⟩
   unfold kc5
   rw[if_neg (by omega),if_pos (by omega)]
 ·obtain⟨z1,e1,S1⟩:=(S.step0 hLn hL).2 c0
  refine .inr ⟨0,?_,z1,_,Ev.loopJ e1 (by intro h;cases h),S1⟩
  unfold kc5
  rw[if_pos (by omega)]
theorem kzw {h:Hd} {ts:List Nat} {ws:List AV} {z:St} (S:HSt i0 i2 L 0 h ts ws z) (hn:L.length≤1000000) (hL: ∀ l ∈ L,kaj l=(l,[])∧l≠[]∧l.length≤1000000):
  (∃ d n,kc5 L=(some d,n)∧ ∃ z',CallEv FF 23 [.ptr i2 0] z (.bool true) z'∧z'.r=z.r∧MSt i0 i2 n ⟨d.n0,d.n1,d.n2⟩ L d.t d.m [] [] [] z')∨
  (∃ a,kc5 L=(none,a+1)∧ ∃ z' h' T' M',CallEv FF 23 [.ptr i2 0] z (.bool false) z'∧z'.r=z.r∧MSt i0 i2 a h' L T' M' [] [] [] z'):=by
 have hL3: ∀ l ∈ L,l.length≤1000000:=fun l hl=>(hL l hl).2.2
 have hres: ∀ {z1:St} {b:Bool},z1.r.get 2=some (.bool b)→resA (fnOf FF 23) z1=some (.bool b):=fun {z1 b} hb=>by
  have hr:(fnOf FF 23).res=[(2,none)]:=by kernel_rfl
  unfold resA
  rw[hr]
  simp only[mapO,kcu,kbd hb]
 have mk: ∀ {b:Bool} {z1:St},Ev FF (fnOf FF 23).body {r:=inits 0 [.ptr i2 0] .nil,h:=z.h,nx:=z.nx} .ret z1→z1.r.get 2=some (.bool b)→CallEv FF 23 [.ptr i2 0] z (.bool b) {r:=z.r,h:=z1.h,nx:=z1.nx}:=fun {b z1} he hb=>
  CallEv.mk (f:=23) (fn:=fnOf FF 23) (by kernel_rfl) (by kernel_rfl) he (.inr rfl) (hres hb)
 rw[kzv] at mk
 generalize hr0:(((inits 0 [.ptr i2 0] .nil).put 2 (some (.bool false))):T AV)=r1 at*
 have e0:Ev FF (.reg [⟨some 2,.mov (.c (.bool false)),none⟩]) {r:=inits 0 [.ptr i2 0] .nil,h:=z.h,nx:=z.nx} .nrm {r:=r1,h:=z.h,nx:=z.nx}:=by
  subst hr0
  exact Ev.reg (EvR.op (v:= .bool false) (s1:={r:=inits 0 [.ptr i2 0] .nil,h:=z.h,nx:=z.nx}) (fun _=>rfl) (EvR.nil _))
 have S0:HSt i0 i2 L 0 h [0] [.ptr 2 0] {r:=r1,h:=z.h,nx:=z.nx}:=by
  obtain⟨σ,S,hs⟩:=S
  refine⟨σ,(S.bare r1).begin [0] [.ptr 2 0] r1 (fun t u hu=> ?_),hs⟩
  have hm:=kbh (show(ofL ([0].zip [AV.ptr 2 0])).get t=some u from hu)
  simp only[List.zip,List.zipWith,List.mem_cons,Prod.mk.injEq,List.not_mem_nil,or_false] at hm
  obtain⟨rfl,rfl⟩:=hm
  rw[←hr0,T.get_put,←hs.2]
  rfl
 obtain⟨z1,e1,S1⟩: ∃ z1,Ev FF (.reg hdR) {r:=r1,h:=z.h,nx:=z.nx} .nrm z1∧HSt i0 i2 L 0 h [0,7,8] [.ptr 2 0,wH,.int .i64 0] z1:=by
  obtain⟨σ,S0,hs⟩:=S0
  obtain⟨z1,e1,S1⟩:=k28 0 h L [] q0 (σ:=σ) S0.heap.inj S0
  exact⟨z1,e1,_,S1,hs⟩
 rcases(S1.heads hn hL3).symm with⟨a,hr,z2,h2,e2,S2⟩ | ⟨⟨c0,c1,c2⟩,z2,e2,S2⟩
 ·exact .inr ⟨a,hr,_,h2,[],[],mk (e0.seq (Ev.seqJ (e1.seq (e2.block (id:=0))) (by intro h;cases h))) S2.reg2,rfl,S2.toM.bare z.r⟩
 have eH:Ev FF (.seq (.reg hdR) (.block 0 (.loop hdX))) {r:=r1,h:=z.h,nx:=z.nx} .nrm z2:=e1.seq (e2.block (id:=0))
 have g0:=S2.regs
 have hlen3:3≤L.length:=by
  rcases Nat.lt_or_ge 2 L.length with h |h
  ·exact h
  ·rw[show L.getD 2 []=[] by rw[List.getD_eq_getElem?_getD,List.getElem?_eq_none h];rfl,kmu] at c2
   omega
 have S2':HSt i0 i2 L 3 ⟨kaq kak (L.getD 0 []) 999,kaq kal (L.getD 1 []) 999,kaq kao (L.getD 2 []) 999⟩ [] [] (z2.set (some 30) (.ptr i2 0)):=by
  obtain⟨σ,S2,hs⟩:=S2
  exact⟨σ,S2.bare (z2.set (some 30) (.ptr i2 0)).r,hs⟩
 have rd: ∀ x,kco (L.drop 3) 3 []=x→kc5 L=(match x with
  |(none,a,_)=>(none,a+1)
  |(some T,a,ls)=>match mvGo ls a [] with
   |(none,a)=>(none,a+1)
   |(some M,a)=>(some ⟨kaq kak (L.getD 0 []) 999,kaq kal (L.getD 1 []) 999,kaq kao (L.getD 2 []) 999,T,M⟩,a)):=fun x hx=>by
  subst hx
  unfold kc5
  rw[if_neg (by omega),if_neg (by omega),if_neg (by omega)]
  rfl
 rcases qg6 S2' hn (by omega) hL with⟨T,a',ht,ha,z3,c3,r3,S3⟩ | ⟨a',ls,ht,z3,T',c3,r3,S3⟩
 ·have hreg:=kkb (d0:=30) (d1:=31) (d2:=32) g0 c3
  generalize hz4:((z3.set (some 31) (.bool true)).set (some 32) (.bool (!true)):St)=z4 at hreg
  have g32:z4.r.get 32=some (.bool false):=by rw[←hz4];exact kcl
  have g0':z4.r.get 0=some (.ptr i2 0):=by
   rw[←hz4,kcv (by decide),kcv (by decide),r3]
   show(z2.set (some 30) (.ptr i2 0)).r.get 0=_
   rw[kcv (by decide)];exact g0
  have S4:MSt i0 i2 a' ⟨kaq kak (L.getD 0 []) 999,kaq kal (L.getD 1 []) 999,kaq kao (L.getD 2 []) 999⟩ L T [] [] [0] [.ptr 2 0] z4:=by
   have:=S3.begin z4.r g0'
   rw[←hz4] at this ⊢
   exact this
  have eT:Ev FF (.seq (.reg thR) (.cond (.t 32) (.seq (.reg [⟨some 2,.mov (.c (.bool false)),none⟩]) .ret) .skip)) z2 .nrm z4:=Ev.seq (Ev.reg hreg) (Ev.cond (x:= .t 32) (t:=false) (kbd g32) (Ev.skip _))
  have hrd:=rd _ ht
  simp only at hrd
  rcases k6w _ T hn hL3 (L.length - a') a' [] (by omega) (by simp) S4 g0' with⟨M',b,z5,x1,x2,x3⟩ | ⟨M',b,z5,x1,x2,x3,x4⟩
  ·rw[x1] at hrd
   refine .inl ⟨_,b,hrd,_,mk (z1:={r:=z5.r.put 2 (some (.bool true)),h:=z5.h,nx:=z5.nx}) ?_ (by show(z5.r.put 2 _).get 2=_;rw[_root_.Go.Proofs.Hz.T.get_put,if_pos rfl]),rfl,x3.bare z.r⟩
   exact e0.seq (eH.seq (eT.seq (Ev.seq (x2.block (id:=2)) (Ev.seq (Ev.reg (EvR.op (v:= .bool true) (s1:=z5) (fun _=>rfl) (EvR.nil _))) (Ev.ret _)))))
  ·rw[x1] at hrd
   exact .inr ⟨b,hrd,_,_,T,M',mk (e0.seq (eH.seq (eT.seq (Ev.seqJ (x2.block (id:=2)) (by intro h;cases h))))) x3,rfl,x4.bare z.r⟩
 ·have hreg:=kkb (d0:=30) (d1:=31) (d2:=32) g0 c3
  generalize hz4:((z3.set (some 31) (.bool false)).set (some 32) (.bool (!false)):St)=z4 at hreg
  have g32:z4.r.get 32=some (.bool true):=by rw[←hz4];exact kcl
  have eT:Ev FF (.seq (.reg thR) (.cond (.t 32) (.seq (.reg [⟨some 2,.mov (.c (.bool false)),none⟩]) .ret) .skip)) z2 .ret (z4.set (some 2) (.bool false)):=Ev.seq (Ev.reg hreg) (Ev.cond (x:= .t 32) (t:=true) (kbd g32) (Ev.seq (Ev.reg (EvR.op (v:= .bool false) (s1:=z4) (fun _=>rfl) (EvR.nil _))) (Ev.ret _)))
  have hrd:=rd _ ht
  simp only at hrd
  refine .inr ⟨a',hrd,_,⟨kaq kak (L.getD 0 []) 999,kaq kal (L.getD 1 []) 999,kaq kao (L.getD 2 []) 999⟩,T',[],mk (e0.seq (eH.seq (Ev.seqJ eT (by intro h;cases h)))) kcl,rfl,?_⟩
  have:=S3.bare z.r
  rw[←hz4]
  exact this
end
end Go.Proofs.Hz
open Go Go.Proofs
namespace Go.Proofs.Hz
set_option maxRecDepth 20000
noncomputable def rdA:AC:=subA (fnOf FF 10).body
noncomputable def rdX:AC:=subB (subB (fnOf FF 10).body)
noncomputable def rdF:AC:=subA (subB (subA rdX))
noncomputable def rdD:AC:=subA (subB rdX)
def rdL1:List AOper:=[⟨some 6,.mov (.t 0),none⟩,⟨some 7,.call (.c (.fn 22 [] [])) [.t 6],none⟩]
def rdC:AOper:=⟨some 8,.call (.c (.fn 21 [] [])) [.t 7],none⟩
def rdL2:List AOper:=[⟨some 9,.build [.im [] true,.int .i64 0] [(0,(1,.t 8))],none⟩,⟨some 10,.build [.im [] true,.int .i64 0,.int .i64 0,.int .i64 0,.int .i64 0,.im [] true,.im [] true] [(0,(2,.t 9))],none⟩,⟨some 11,.box 64 (.t 10),none⟩,⟨some 5,.mov (.t 11),none⟩]
def rdR:List AOper:=[⟨some 12,.mov (.t 5),none⟩,⟨some 13,.call (.c (.fn 23 [] [])) [.t 12],none⟩,⟨some 14,.un .not (.t 13),none⟩]
theorem qeb:(fnOf FF 10).body= .seq rdA (.seq (.reg (rdL1++rdC::rdL2)) (.seq (.seq (.reg rdR) (.cond (.t 14) rdF .skip)) (.seq rdD .ret))):=by kernel_rfl
theorem rd1 (s:Bs) {z:St} (S:Sim (valL [.str s] [] [] (fun i=>i) 0) (tmpl [0] [vt 0] []) z): ∃ z1,Ev FF (.seq rdA (.reg rdL1)) z .nrm z1∧Sim (valL [.str s] [] [] (sig (fun i=>i) [0,1] 2) 2) (tmpl [2,7] [.ptr 0 0,.fn 49 [] [.ptr 1 0]] [tb,.cells [vt 0] false 9]) z1:=by
 have H:=Tok.start (G:=gl20) (F:=FF) (σ:=fun i=>i) (fun _ _ e=>e) S 0 1 0 0 [.str s] [] [] .n .n rfl rfl
 exact H.ev (.seq rdA (.reg rdL1)) .nrm [2,7] [0,1] [.ptr 0 0,.fn 49 [] [.ptr 1 0]] [tb,.cells [vt 0] false 9] 2 [.ptr 0 0,.fn 49 [] [.ptr 1 0]] [tb,.cells [vt 0] false 9] (valL [.str s] [] [] (sig (fun i=>i) [0,1] 2) 2)
theorem rd2 (L:List Bs) {z:St} {σ:Nat→Nat} (hσ: ∀ i j,σ i=σ j→i=j) (S:Sim (valL [] [] [(1,L.map eT)] σ 2) (tmpl [2,8] [.ptr 0 0,.sl 1 0 1000001 1 none] [tb,lnB]) z): ∃ z1,Ev FF (.reg rdL2) z .nrm z1∧Sim (ZE0 0 ⟨0,0,0⟩ L [] q0 [] (sig σ [0,1,2] 3)) (tmpl [2,5] [.ptr 0 0,.ptr 2 0] mE0) z1:=by
 have H:=Tok.start (G:=gl20) (F:=FF) hσ S 2 0 0 1 [] [] [(0,1,L.map eT)] .n (.c (OkO.own kaf _) .n) rfl rfl
 exact H.ev (.reg rdL2) .nrm [2,5] [0,1,2] [.ptr 0 0,.ptr 2 0] [tb,lnB,.cells [.sl 1 0 1000001 1 none,.int .i64 0,.int .i64 0,.int .i64 0,.int .i64 0,nil0,nil0] false 64] 3 [.ptr 0 0,.ptr 2 0] mE0 (ZE0 0 ⟨0,0,0⟩ L [] q0 [] (sig σ [0,1,2] 3))
theorem qd4 (a:Nat) (h:Hd) (L:List Bs) (M:List Mov) (q:Sh) {z:St} {σ:Nat→Nat} (hσ: ∀ i j,σ i=σ j→i=j) (S:Sim (ZE0 a h L M q [] σ) (tmpl [2,5] [.ptr 0 0,.ptr 2 0] mE0) z) (hw:w64 ((a:Int)+1)=((a+1:Nat):Int)): ∃ z1,Ev FF rdF z .ret z1∧Sim (valL [.int .i64 ((a+1:Nat):Int)] [] [] (sig σ [0] 13) 1) (tmpl [2,3,4] [.ptr 0 0,vt 0,.int .i64 1] [tb]) z1:=by
 have H:=Tok.start (G:=gl20) (F:=FF) hσ S 3 4 0 1 (hT a h++[]) [] [(0,1,L.map eT)] .n (.c (OkO.own kaf _) .n) rfl rfl
 have H:=H.t 5 [.int .i64 (w64 ((a:Int)+1))]|>.r [(.bin .add (cT 0) (cI 1),vt 4)]
 rw[hw] at H
 exact H.ev rdF .ret [2,3,4] [0] [.ptr 0 0,vt 4,.int .i64 1] [tb] 13 [.ptr 0 0,vt 0,.int .i64 1] [tb] (valL [.int .i64 ((a+1:Nat):Int)] [] [] (sig σ [0] 13) 1)
theorem qd5 (a:Nat) (h:Hd) (L:List Bs) (M:List Mov) (q:Sh) {z:St} {σ:Nat→Nat} (hσ: ∀ i j,σ i=σ j→i=j) (S:Sim (ZE1 a h L M q [] σ) (tmpl [2,5] [.ptr 0 0,.ptr 2 0] mE1) z) (hw:w64 ((a:Int)+1)=((a+1:Nat):Int)): ∃ z1,Ev FF rdF z .ret z1∧Sim (valL [.int .i64 ((a+1:Nat):Int)] [] [] (sig σ [0] 14) 1) (tmpl [2,3,4] [.ptr 0 0,vt 0,.int .i64 1] [tb]) z1:=by
 have H:=Tok.start (G:=gl20) (F:=FF) hσ S 4 4 0 2 (hT a h++[]) [] [(0,1,L.map eT),(1,2,M.map eM)] .n (.c (OkO.own kaf _) (.c (OkO.own kam _) .n)) rfl rfl
 have H:=H.t 5 [.int .i64 (w64 ((a:Int)+1))]|>.r [(.bin .add (cT 0) (cI 1),vt 4)]
 rw[hw] at H
 exact H.ev rdF .ret [2,3,4] [0] [.ptr 0 0,vt 4,.int .i64 1] [tb] 14 [.ptr 0 0,vt 0,.int .i64 1] [tb] (valL [.int .i64 ((a+1:Nat):Int)] [] [] (sig σ [0] 14) 1)
theorem qd2 (a:Nat) (h:Hd) (L:List Bs) (M:List Mov) (q:Sh) {z:St} {σ:Nat→Nat} (hσ: ∀ i j,σ i=σ j→i=j) (hq:OkF (.im [q.tc] false)) (S:Sim (ZC0 a h L M q [] σ) (tmpl [2,5] [.ptr 0 0,.ptr 2 0] mC0) z) (hw:w64 ((a:Int)+1)=((a+1:Nat):Int)): ∃ z1,Ev FF rdF z .ret z1∧Sim ({valL [.int .i64 ((a+1:Nat):Int)] [] [] (sig σ [0] 14) 1 with hid:=q.hid}) (tmpl [2,3,4] [.ptr 0 0,vt 0,.int .i64 1] [tb]) z1:=by
 have H:=Tok.startH (G:=gl20) (F:=FF) hσ S 4 4 1 2 (hT a h++[]) [.im [q.tc] false] [(0,1,L.map eT),(1,1,(un q.n).map eN)] q.hid (.c hq .n) (.c (OkO.own kaf _) (.c (OkO.own kbc _) .n)) rfl rfl
 have H:=H.t 5 [.int .i64 (w64 ((a:Int)+1))]|>.r [(.bin .add (cT 0) (cI 1),vt 4)]
 rw[hw] at H
 exact H.ev rdF .ret [2,3,4] [0] [.ptr 0 0,vt 4,.int .i64 1] [tb] 14 [.ptr 0 0,vt 0,.int .i64 1] [tb] ({valL [.int .i64 ((a+1:Nat):Int)] [] [] (sig σ [0] 14) 1 with hid:=q.hid})
theorem qd3 (a:Nat) (h:Hd) (L:List Bs) (M:List Mov) (q:Sh) {z:St} {σ:Nat→Nat} (hσ: ∀ i j,σ i=σ j→i=j) (hq:OkF (.im [q.tc] false)) (S:Sim (ZC1 a h L M q [] σ) (tmpl [2,5] [.ptr 0 0,.ptr 2 0] mC1) z) (hw:w64 ((a:Int)+1)=((a+1:Nat):Int)): ∃ z1,Ev FF rdF z .ret z1∧Sim ({valL [.int .i64 ((a+1:Nat):Int)] [] [] (sig σ [0] 15) 1 with hid:=q.hid}) (tmpl [2,3,4] [.ptr 0 0,vt 0,.int .i64 1] [tb]) z1:=by
 have H:=Tok.startH (G:=gl20) (F:=FF) hσ S 5 4 1 3 (hT a h++[]) [.im [q.tc] false] [(0,1,L.map eT),(1,1,(un q.n).map eN),(2,2,M.map eM)] q.hid (.c hq .n) (.c (OkO.own kaf _) (.c (OkO.own kbc _) (.c (OkO.own kam _) .n))) rfl rfl
 have H:=H.t 5 [.int .i64 (w64 ((a:Int)+1))]|>.r [(.bin .add (cT 0) (cI 1),vt 4)]
 rw[hw] at H
 exact H.ev rdF .ret [2,3,4] [0] [.ptr 0 0,vt 4,.int .i64 1] [tb] 15 [.ptr 0 0,vt 0,.int .i64 1] [tb] ({valL [.int .i64 ((a+1:Nat):Int)] [] [] (sig σ [0] 15) 1 with hid:=q.hid})
theorem kmg (n:Nat) (hid:List (Nat×Blk)) {z:St} {σ:Nat→Nat} (hσ: ∀ i j,σ i=σ j→i=j) (S:Sim ({valL [.int .i64 (n:Int)] [] [] σ 1 with hid:=hid}) (tmpl [2,3,4] [.ptr 0 0,vt 0,.int .i64 1] [tb]) z):J FF (fnOf FF 10) [] (.sig .ret) z (.tup [.agg [.int .i64 0,.int .i64 0,.int .i64 0,.im [] true,.im [] true],.int .i64 (n:Int),.int .i64 1]):=by
 have H:=Tok.startH (G:=gl20) (F:=FF) hσ S 1 1 0 0 [.int .i64 (n:Int)] [] [] hid .n .n rfl rfl
 exact H.e [] rfl
theorem qd9 (a:Nat) (h:Hd) (L:List Bs) (M:List Mov) (q:Sh) {z:St} {σ:Nat→Nat} (hσ: ∀ i j,σ i=σ j→i=j) (S:Sim (ZE0 a h L M q [] σ) (tmpl [2,5] [.ptr 0 0,.ptr 2 0] mE0) z):J FF (fnOf FF 10) [] (.code (.seq rdD .ret)) z (.tup [.agg [.int .i64 h.n0,.int .i64 h.n1,.int .i64 h.n2,.im [] true,.im [] true],.int .i64 (a:Int),.int .i64 0]):=by
 have H:=Tok.start (G:=gl20) (F:=FF) hσ S 3 4 0 1 (hT a h++[]) [] [(0,1,L.map eT)] .n (.c (OkO.own kaf _) .n) rfl rfl
 exact H.e [] rfl
theorem qea (a:Nat) (h:Hd) (L:List Bs) (M:List Mov) (q:Sh) {z:St} {σ:Nat→Nat} (hσ: ∀ i j,σ i=σ j→i=j) (S:Sim (ZE1 a h L M q [] σ) (tmpl [2,5] [.ptr 0 0,.ptr 2 0] mE1) z):J FF (fnOf FF 10) [] (.code (.seq rdD .ret)) z (.tup [.agg [.int .i64 h.n0,.int .i64 h.n1,.int .i64 h.n2,.im [] true,.im (List.map eM M) false],.int .i64 (a:Int),.int .i64 0]):=by
 have H:=Tok.start (G:=gl20) (F:=FF) hσ S 4 4 0 2 (hT a h++[]) [] [(0,1,L.map eT),(1,2,M.map eM)] .n (.c (OkO.own kaf _) (.c (OkO.own kam _) .n)) rfl rfl
 exact H.e [] rfl
def RC0 (a:Nat) (h:Hd) (q:Sh) (σ:Nat→Nat):Val:={valL (hT a h) [.im [q.tc] false] [(1,(un q.n).map eN)] σ 2 with hid:=q.hid}
def RC1 (a:Nat) (h:Hd) (M:List Mov) (q:Sh) (σ:Nat→Nat):Val:={valL (hT a h) [.im [q.tc] false] [(1,(un q.n).map eN),(2,M.map eM)] σ 3 with hid:=q.hid}
def rC0:List Blk:=[.cells [vt 1,vt 2,vt 3,.sl 1 0 1000001 1 none,nil0] false 26,.own 0 false 42]
def rC1:List Blk:=[.cells [vt 1,vt 2,vt 3,.sl 1 0 1000001 1 none,.sl 2 0 1001002 2 none] false 26,.own 0 false 42,.own 1001002 false 45]
theorem qd7 (a:Nat) (h:Hd) (L:List Bs) (M:List Mov) (q:Sh) {z:St} {σ:Nat→Nat} (hσ: ∀ i j,σ i=σ j→i=j) (hq:OkF (.im [q.tc] false)) (S:Sim (ZC0 a h L M q [] σ) (tmpl [2,5] [.ptr 0 0,.ptr 2 0] mC0) z): ∃ z1,Ev FF rdD z .nrm z1∧Sim (RC0 a h q (sig σ [0,3] 16)) (tmpl [2,3,4] [.ptr 0 0,vt 0,.int .i64 0] rC0) z1:=by
 have H:=Tok.startH (G:=gl20) (F:=FF) hσ S 4 4 1 2 (hT a h++[]) [.im [q.tc] false] [(0,1,L.map eT),(1,1,(un q.n).map eN)] q.hid (.c hq .n) (.c (OkO.own kaf _) (.c (OkO.own kbc _) .n)) rfl rfl
 exact H.ev rdD .nrm [2,3,4] [0,3] [.ptr 0 0,vt 0,.int .i64 0] [.cells [vt 1,vt 2,vt 3,.sl 3 0 1001001 1 none,nil0] false 26,.own 0 false 42] 16 [.ptr 0 0,vt 0,.int .i64 0] rC0 (RC0 a h q (sig σ [0,3] 16))
theorem qd8 (a:Nat) (h:Hd) (L:List Bs) (M:List Mov) (q:Sh) {z:St} {σ:Nat→Nat} (hσ: ∀ i j,σ i=σ j→i=j) (hq:OkF (.im [q.tc] false)) (S:Sim (ZC1 a h L M q [] σ) (tmpl [2,5] [.ptr 0 0,.ptr 2 0] mC1) z): ∃ z1,Ev FF rdD z .nrm z1∧Sim (RC1 a h M q (sig σ [0,3,4] 17)) (tmpl [2,3,4] [.ptr 0 0,vt 0,.int .i64 0] rC1) z1:=by
 have H:=Tok.startH (G:=gl20) (F:=FF) hσ S 5 4 1 3 (hT a h++[]) [.im [q.tc] false] [(0,1,L.map eT),(1,1,(un q.n).map eN),(2,2,M.map eM)] q.hid (.c hq .n) (.c (OkO.own kaf _) (.c (OkO.own kbc _) (.c (OkO.own kam _) .n))) rfl rfl
 exact H.ev rdD .nrm [2,3,4] [0,3,4] [.ptr 0 0,vt 0,.int .i64 0] [.cells [vt 1,vt 2,vt 3,.sl 3 0 1001001 1 none,.sl 4 0 1002002 2 none] false 26,.own 0 false 42,.own 1002002 false 45] 17 [.ptr 0 0,vt 0,.int .i64 0] rC1 (RC1 a h M q (sig σ [0,3,4] 17))
end Go.Proofs.Hz
open Go Go.Proofs
namespace Go.Proofs.Hz
set_option maxRecDepth 20000
def Dt.td (d:Dt):Td:=⟨d.n0,d.n1,d.n2,d.t.map fun c=>⟨c,c.isEmpty⟩,d.t.isEmpty,d.m,d.m.isEmpty⟩
def noTd:Td:=⟨0,0,0,[],true,[],true⟩
def kat (s:Bs):Td×Int×Int:=match kcn s with
 |(some d,n)=>(d.td,n,0)
 |(none,n)=>(noTd,n,1)
def rRes (p:Td×Int×Int):AV:= .tup [p.1.av,.int .i64 p.2.1,.int .i64 p.2.2]
theorem kuo {f:AV→Option AV} {g:List Cl→AV}: ∀ {tc:List AV} {T:List (List Cl)},tc.length=T.length→(∀ (i:Nat) v c,tc[i]? =some v→T[i]? =some c→f v=some (g c))→mapO f tc=some (T.map g)
 | [],[],_,_=>rfl
 | [],_::_,h,_=>by cases h
 |_::_,[],h,_=>by cases h
 |v::tc,c::T,h,hf=>by
  unfold mapO
  rw[hf 0 v c rfl rfl,kuo (by simpa using h) fun i v c h1 h2=>hf (i+1) v c (by simpa using h1) (by simpa using h2)]
  rfl
theorem k2z {h:T Blk} {id:Nat} {c:List Cl} (n:Nat) (hg:h.get id=some (.cells (c.map eC).flatten false 48)):frz h (n+2) (.sl id 0 c.length 3 none)=some (.im (c.map eC) false):=by
 have hl: ∀ e ∈ c.map eC,e.length=3:=fun e he=>by
  obtain⟨x,_,rfl⟩:=List.mem_map.1 he;rfl
 have h1:=ked hl
 rw[List.length_map] at h1
 have h2:mapO (frz h (n+1)) (c.map eC).flatten=some (c.map eC).flatten:=ki4 fun x hx=>by
  obtain⟨e,he,hx⟩:=List.mem_flatten.1 hx
  obtain⟨y,_,rfl⟩:=List.mem_map.1 he
  refine ki9 ?_ h n
  simp only[eC,List.mem_cons,List.not_mem_nil,or_false] at hx
  rcases hx with rfl |rfl |rfl <;> rfl
 have h3:=kij hl
 rw[List.length_map] at h3
 unfold frz
 simp only[hg,ke9 h1,h2,h3]
 rfl
theorem kog {h:T Blk} {t:Nat} {tc:List AV} {U:List (List Cl)} {hid:List (Nat×Blk)} (n:Nat) (hp:PcOk tc U hid) (hg:h.get t=some (.cells [tc].flatten false 42)) (hh: ∀ p ∈ hid,h.get p.1=some p.2):
  frz h (n+3) (.sl t 0 U.length 1 none)=some (.im (U.map fun c=>[.im (c.map eC) c.isEmpty]) false):=by
 have e1:[tc].flatten=tc:=by simp
 rw[e1] at hg
 have h2:mapO (frz h (n+2)) tc=some (U.map fun c=> .im (c.map eC) c.isEmpty):=kuo hp.1 fun i v c h1 h2=>by
  rcases hp.2 i v c h1 h2 with⟨rfl,rfl⟩ | ⟨id,hc,rfl,hm⟩
  ·rfl
  ·rw[k2z n (hh _ hm)]
   cases c with
   |nil=>exact absurd rfl hc
   |cons x c=>rfl
 have h3:kbt 1 U.length (U.map fun c=>AV.im (c.map eC) c.isEmpty)=U.map fun c=>[AV.im (c.map eC) c.isEmpty]:=by
  clear h2 hp
  induction U with
  |nil=>rfl
  |cons c U ih=>
   simp only[List.length_cons,List.map_cons,kbt,List.take_succ_cons,List.take_zero,List.drop_succ_cons,List.drop_zero]
   rw[ih]
 unfold frz
 simp only[hg,ke9 (show tc.length=U.length*1 by rw[hp.1];omega),h2,h3]
 rfl
theorem ksb {f:Nat} {z:St} {v r:AV} (hr:resA (fnOf FF f) z=some v) (hf:frz z.h DEEP v=some r):J FF (fnOf FF f) [] (.code .ret) z r:=⟨1,.ret,z,v,rfl,.inr rfl,hr,hf⟩
theorem k1b {i2 g d0 d1 d2:Nat} {z z1:St} {b:Bool} (h0:z.r.get 5=some (.ptr i2 0)) (hc:CallEv FF g [.ptr i2 0] (z.set (some d0) (.ptr i2 0)) (.bool b) z1):
  EvR FF [⟨some d0,.mov (.t 5),none⟩,⟨some d1,.call (.c (.fn g [] [])) [.t d0],none⟩,⟨some d2,.un .not (.t d1),none⟩] z ((z1.set (some d1) (.bool b)).set (some d2) (.bool (!b))):=by
 refine EvR.op (v:= .ptr i2 0) (s1:=z) (fun _=> ?_) ?_
 ·show some (z.rg 5,z)=_
  rw[kbd h0]
 refine EvR.call (g:=g) (first:=[]) (caps:=[]) (v:= .bool b) (s1:=z1) rfl ?_ ?_
 ·have e:(AO.t d0).ev (z.set (some d0) (.ptr i2 0))= .ptr i2 0:=kbd kcl
  rw[List.map_singleton,e]
  exact hc
 refine EvR.op (v:= .bool (!b)) (s1:=z1.set (some d1) (.bool b)) (fun _=> ?_) (EvR.nil _)
 show opA (z1.set (some d1) (.bool b)) (.un .not (.t d1))=_
 have e:(AO.t d1).ev (z1.set (some d1) (.bool b))= .bool b:=kbd kcl
 simp only[opA,e]
 rfl
theorem kf9 {ρ:Val} {bs:List Blk} {z:St} (S:Sim ρ (tmpl [] [] bs) z) {v w x y:AV} (r:T AV) (h2:r.get 2=some v) (h5:r.get 5=some w) (e2:gm ρ x=v) (e5:gm ρ y=w):Sim ρ (tmpl [2,5] [x,y] bs) {r:=r,h:=z.h,nx:=z.nx}:=by
 refine S.begin [2,5] [x,y] r (fun t u hu=> ?_)
 have hm:=kbh (show(ofL ([2,5].zip [x,y])).get t=some u from hu)
 simp only[List.zip,List.zipWith,List.mem_cons,Prod.mk.injEq,List.not_mem_nil,or_false] at hm
 rcases hm with⟨rfl,rfl⟩ | ⟨rfl,rfl⟩
 ·rw[h2,e2]
 ·rw[h5,e5]
theorem kx6 {z:St} {i0:Nat} {cs:List AV} {a e:AV} (h2:z.r.get 2=some (.ptr i0 0)) (h3:z.r.get 3=some a) (h4:z.r.get 4=some e) (hg:z.h.get i0=some (.cells cs false 26)) (hl:cs.length=5):resA (fnOf FF 10) z=some (.tup [.agg cs,a,e]):=by
 have hr:(fnOf FF 10).res=[(2,some (true,5)),(3,none),(4,none)]:=by kernel_rfl
 unfold resA
 rw[hr]
 simp only[mapO,kcu,kbd h2,kbd h3,kbd h4,rdH,hg,ke9 hl,kct,if_true]
section
variable {i0 i2 a:Nat} {h:Hd} {L:List Bs} {T:List (List Cl)} {M:List Mov} {z:St}
theorem qed (S:MSt i0 i2 a h L T M [] [] [] z) (h2:z.r.get 2=some (.ptr i0 0)) (h5:z.r.get 5=some (.ptr i2 0)) (ha:a≤1000000): ∃ z1,Ev FF rdF z .ret z1∧J FF (fnOf FF 10) [] (.sig .ret) z1 (rRes (noTd,((a+1:Nat):Int),1)):=by
 have hw:w64 ((a:Int)+1)=((a+1:Nat):Int):=by
  unfold w64 IntKind.wrap
  simp[IntKind.signed,IntKind.bits]
  omega
 rcases S with⟨hT,hM0,q,σ,S,hs⟩ | ⟨hT,hM0,q,σ,S,hs⟩ | ⟨hT,hM0,q,σ,hp,hn,S,hs⟩ | ⟨hT,hM0,q,σ,hp,hn,S,hs⟩
 ·obtain⟨z1,e1,S1⟩:=qd4 a h L M q (σ:=σ) S.heap.inj (kf9 S z.r h2 h5 (x:= .ptr 0 0) (y:= .ptr 2 0) (by rw[←hs.1];rfl) (by rw[←hs.2];rfl)) hw
  exact⟨z1,e1,kmg (a+1) [] (σ:=sig σ [0] 13) S1.heap.inj S1⟩
 ·obtain⟨z1,e1,S1⟩:=qd5 a h L M q (σ:=σ) S.heap.inj (kf9 S z.r h2 h5 (x:= .ptr 0 0) (y:= .ptr 2 0) (by rw[←hs.1];rfl) (by rw[←hs.2];rfl)) hw
  exact⟨z1,e1,kmg (a+1) [] (σ:=sig σ [0] 14) S1.heap.inj S1⟩
 ·obtain⟨z1,e1,S1⟩:=qd2 a h L M q (σ:=σ) S.heap.inj hp.okF (kf9 S z.r h2 h5 (x:= .ptr 0 0) (y:= .ptr 2 0) (by rw[←hs.1];rfl) (by rw[←hs.2];rfl)) hw
  exact⟨z1,e1,kmg (a+1) q.hid (σ:=sig σ [0] 14) S1.heap.inj S1⟩
 ·obtain⟨z1,e1,S1⟩:=qd3 a h L M q (σ:=σ) S.heap.inj hp.okF (kf9 S z.r h2 h5 (x:= .ptr 0 0) (y:= .ptr 2 0) (by rw[←hs.1];rfl) (by rw[←hs.2];rfl)) hw
  exact⟨z1,e1,kmg (a+1) q.hid (σ:=sig σ [0] 15) S1.heap.inj S1⟩
theorem kky {α:Type} {l:List α} (h:l≠[]):l.isEmpty=false:=by
 cases l with
 |nil=>exact absurd rfl h
 |cons x l=>rfl
theorem td_t (T:List (List Cl)):(T.map fun c=>(Ro.mk c c.isEmpty)).map eR=T.map fun c=>[.im (c.map eC) c.isEmpty]:=by
 rw[List.map_map];rfl
theorem qee (S:MSt i0 i2 a h L T M [] [] [] z) (h2:z.r.get 2=some (.ptr i0 0)) (h5:z.r.get 5=some (.ptr i2 0)):J FF (fnOf FF 10) [] (.code (.seq rdD .ret)) z (rRes ((Dt.mk h.n0 h.n1 h.n2 T M).td,(a:Int),0)):=by
 rcases S with⟨hT,hM0,q,σ,S,hs⟩ | ⟨hT,hM0,q,σ,S,hs⟩ | ⟨hT,hM0,q,σ,hp,hn,S,hs⟩ | ⟨hT,hM0,q,σ,hp,hn,S,hs⟩
 ·have:=qd9 a h L M q (σ:=σ) S.heap.inj (kf9 S z.r h2 h5 (x:= .ptr 0 0) (y:= .ptr 2 0) (by rw[←hs.1];rfl) (by rw[←hs.2];rfl))
  rw[hT,hM0]
  exact this
 ·have:=qea a h L M q (σ:=σ) S.heap.inj (kf9 S z.r h2 h5 (x:= .ptr 0 0) (y:= .ptr 2 0) (by rw[←hs.1];rfl) (by rw[←hs.2];rfl))
  rw[hT]
  unfold rRes Dt.td Td.av
  simp only[kky hM0]
  exact this
 ·obtain⟨z1,e1,S1⟩:=qd7 a h L M q (σ:=σ) S.heap.inj hp.okF (kf9 S z.r h2 h5 (x:= .ptr 0 0) (y:= .ptr 2 0) (by rw[←hs.1];rfl) (by rw[←hs.2];rfl))
  generalize hσ':sig σ [0,3] 16=σ' at S1
  have g2:z1.r.get 2=some (.ptr (σ' 0) 0):=S1.regs 2 (.ptr 0 0) (by kernel_rfl)
  have g3:z1.r.get 3=some (.int .i64 (a:Int)):=S1.regs 3 (vt 0) (by kernel_rfl)
  have g4:z1.r.get 4=some (.int .i64 0):=S1.regs 4 (.int .i64 0) (by kernel_rfl)
  have b0:z1.h.get (σ' 0)=some (.cells [.int .i64 h.n0,.int .i64 h.n1,.int .i64 h.n2,.sl (σ' 1) 0 ((un q.n).map eN).length 1 none,.im [] true] false 26):=S1.heap.get 0 (.cells [vt 1,vt 2,vt 3,.sl 1 0 1000001 1 none,nil0] false 26) (by kernel_rfl)
  have b1:z1.h.get (σ' 1)=some (.cells [q.tc].flatten false 42):=S1.heap.get 1 (.own 0 false 42) (by kernel_rfl)
  have hh: ∀ p ∈ q.hid,z1.h.get p.1=some p.2:=fun p hp=>(S1.heap.hid p hp).1
  rw[List.length_map,kbv,hn] at b0
  refine kdx e1 (ksb (kx6 g2 g3 g4 b0 rfl) ?_)
  have hT1:=kog 18 hp b1 hh
  have hT2:=kog 19 hp b1 hh
  show frz z1.h 24 (.tup [.agg [.int .i64 h.n0,.int .i64 h.n1,.int .i64 h.n2,.sl (σ' 1) 0 T.length 1 none,.im [] true],.int .i64 (a:Int),.int .i64 0])=_
  rw[hM0]
  unfold rRes Dt.td Td.av
  simp only[kky hT,td_t]
  rw[show frz z1.h 24 (.tup [.agg [.int .i64 h.n0,.int .i64 h.n1,.int .i64 h.n2,.sl (σ' 1) 0 T.length 1 none,.im [] true],.int .i64 (a:Int),.int .i64 0])=(mapO (frz z1.h 23) [.agg [.int .i64 h.n0,.int .i64 h.n1,.int .i64 h.n2,.sl (σ' 1) 0 T.length 1 none,.im [] true],.int .i64 (a:Int),.int .i64 0]).map .tup from rfl]
  have ha:frz z1.h 23 (.agg [.int .i64 h.n0,.int .i64 h.n1,.int .i64 h.n2,.sl (σ' 1) 0 T.length 1 none,.im [] true])=some (.agg [.int .i64 h.n0,.int .i64 h.n1,.int .i64 h.n2,.im (T.map fun c=>[.im (c.map eC) c.isEmpty]) false,.im [] true]):=by
   rw[show frz z1.h 23 (.agg [.int .i64 h.n0,.int .i64 h.n1,.int .i64 h.n2,.sl (σ' 1) 0 T.length 1 none,.im [] true])=(mapO (frz z1.h 22) [.int .i64 h.n0,.int .i64 h.n1,.int .i64 h.n2,.sl (σ' 1) 0 T.length 1 none,.im [] true]).map .agg from rfl]
   simp only[mapO,hT2]
   rfl
  simp only[mapO,ha]
  rfl
 ·obtain⟨z1,e1,S1⟩:=qd8 a h L M q (σ:=σ) S.heap.inj hp.okF (kf9 S z.r h2 h5 (x:= .ptr 0 0) (y:= .ptr 2 0) (by rw[←hs.1];rfl) (by rw[←hs.2];rfl))
  generalize hσ':sig σ [0,3,4] 17=σ' at S1
  have g2:z1.r.get 2=some (.ptr (σ' 0) 0):=S1.regs 2 (.ptr 0 0) (by kernel_rfl)
  have g3:z1.r.get 3=some (.int .i64 (a:Int)):=S1.regs 3 (vt 0) (by kernel_rfl)
  have g4:z1.r.get 4=some (.int .i64 0):=S1.regs 4 (.int .i64 0) (by kernel_rfl)
  have b0:z1.h.get (σ' 0)=some (.cells [.int .i64 h.n0,.int .i64 h.n1,.int .i64 h.n2,.sl (σ' 1) 0 ((un q.n).map eN).length 1 none,.sl (σ' 2) 0 (M.map eM).length 2 none] false 26):=S1.heap.get 0 (.cells [vt 1,vt 2,vt 3,.sl 1 0 1000001 1 none,.sl 2 0 1001002 2 none] false 26) (by kernel_rfl)
  have b1:z1.h.get (σ' 1)=some (.cells [q.tc].flatten false 42):=S1.heap.get 1 (.own 0 false 42) (by kernel_rfl)
  have b2:z1.h.get (σ' 2)=some (.cells (M.map eM).flatten false 45):=S1.heap.get 2 (.own 1001002 false 45) (by kernel_rfl)
  have hh: ∀ p ∈ q.hid,z1.h.get p.1=some p.2:=fun p hp=>(S1.heap.hid p hp).1
  rw[List.length_map,kbv,hn,List.length_map] at b0
  refine kdx e1 (ksb (kx6 g2 g3 g4 b0 rfl) ?_)
  have hT2:=kog 19 hp b1 hh
  have hM2:frz z1.h 22 (.sl (σ' 2) 0 M.length 2 none)=some (.im (M.map eM) false):=by
   have hl: ∀ e ∈ M.map eM,e.length=2:=fun e he=>by
    obtain⟨x,_,rfl⟩:=List.mem_map.1 he;rfl
   have h1:=ked hl
   rw[List.length_map] at h1
   have k2:mapO (frz z1.h 21) (M.map eM).flatten=some (M.map eM).flatten:=ki4 fun x hx=>by
    obtain⟨e,he,hx⟩:=List.mem_flatten.1 hx
    obtain⟨y,_,rfl⟩:=List.mem_map.1 he
    refine ki9 ?_ z1.h 20
    simp only[eM,List.mem_cons,List.not_mem_nil,or_false] at hx
    rcases hx with rfl |rfl <;> rfl
   have k3:=kij hl
   rw[List.length_map] at k3
   unfold frz
   simp only[b2,ke9 h1,k2,k3]
   rfl
  show frz z1.h 24 (.tup [.agg [.int .i64 h.n0,.int .i64 h.n1,.int .i64 h.n2,.sl (σ' 1) 0 T.length 1 none,.sl (σ' 2) 0 M.length 2 none],.int .i64 (a:Int),.int .i64 0])=_
  unfold rRes Dt.td Td.av
  simp only[kky hT,kky hM0,td_t]
  rw[show frz z1.h 24 (.tup [.agg [.int .i64 h.n0,.int .i64 h.n1,.int .i64 h.n2,.sl (σ' 1) 0 T.length 1 none,.sl (σ' 2) 0 M.length 2 none],.int .i64 (a:Int),.int .i64 0])=(mapO (frz z1.h 23) [.agg [.int .i64 h.n0,.int .i64 h.n1,.int .i64 h.n2,.sl (σ' 1) 0 T.length 1 none,.sl (σ' 2) 0 M.length 2 none],.int .i64 (a:Int),.int .i64 0]).map .tup from rfl]
  have ha:frz z1.h 23 (.agg [.int .i64 h.n0,.int .i64 h.n1,.int .i64 h.n2,.sl (σ' 1) 0 T.length 1 none,.sl (σ' 2) 0 M.length 2 none])=some (.agg [.int .i64 h.n0,.int .i64 h.n1,.int .i64 h.n2,.im (T.map fun c=>[.im (c.map eC) c.isEmpty]) false,.im (M.map eM) false]):=by
   rw[show frz z1.h 23 (.agg [.int .i64 h.n0,.int .i64 h.n1,.int .i64 h.n2,.sl (σ' 1) 0 T.length 1 none,.sl (σ' 2) 0 M.length 2 none])=(mapO (frz z1.h 22) [.int .i64 h.n0,.int .i64 h.n1,.int .i64 h.n2,.sl (σ' 1) 0 T.length 1 none,.sl (σ' 2) 0 M.length 2 none]).map .agg from rfl]
   simp only[mapO,hT2,hM2]
   rfl
  simp only[mapO,ha]
  rfl
end
end Go.Proofs.Hz
open Go Go.Proofs
namespace Go.Proofs.Hz
set_option maxRecDepth 20000
theorem qef:Spec FF 10 [.str []] (rRes (kat [])):=⟨400,by kernel_rfl⟩
theorem kue: ∀ (n:Nat) (s:Bs),s.length<n→(ka9 s).length≤s.length
 |0,_,h=>by omega
 |n+1,s,h=>by
  by_cases hs:s=[]
  ·subst hs;exact Nat.le_refl _
  ·have:=kdy s
   have:=keo hs
   have ih:=kue n (kaj s).2 (by omega)
   rw[kgw hs,List.length_cons]
   omega
theorem kuz: ∀ (L:List Bs) (a:Nat) (M:List Mov),a≤(mvGo L a M).2∧(mvGo L a M).2≤a+L.length
 | [],a,M=>⟨Nat.le_refl _,Nat.le_refl _⟩
 |l::L,a,M=>by
  rw[ki6]
  cases kb4 l with
  |none=>exact⟨Nat.le_refl _,by simp⟩
  |some m=>
   simp only
   split
   ·exact⟨Nat.le_refl _,by simp⟩
   ·obtain⟨h1,h2⟩:=kuz L (a+1) (M++[m])
    rw[List.length_cons]
    omega
theorem kyz: ∀ (L:List Bs) (a:Nat) (T:List (List Cl)),a≤(kco L a T).2.1∧(kco L a T).2.1+(kco L a T).2.2.length≤a+L.length
 | [],a,T=>⟨Nat.le_refl _,Nat.le_refl _⟩
 |l::L,a,T=>by
  rw[kms]
  split
  ·rw[List.length_cons];exact⟨by simp,by simp;omega⟩
  ·cases kcx l T with
   |none=>rw[List.length_cons];exact⟨Nat.le_refl _,by simp⟩
   |some U=>
    obtain⟨h1,h2⟩:=kyz L (a+1) U
    rw[List.length_cons]
    simp only
    omega
theorem qeh (L:List Bs) {a:Nat} (h:kc5 L=(none,a+1)):a≤L.length+3:=by
 unfold kc5 at h
 split at h
 ·cases h;omega
 split at h
 ·cases h;omega
 split at h
 ·cases h;omega
 have h1:=kyz (L.drop 3) 3 []
 rw[List.length_drop] at h1
 split at h
 ·rename_i b ls hx
  rw[hx] at h1
  cases h
  simp only at h1
  omega
 ·rename_i T b ls hx
  rw[hx] at h1
  simp only at h1
  have h2:=kuz ls b []
  split at h
  ·rename_i c hy
   rw[hy] at h2
   cases h
   simp only at h2
   omega
  ·cases h
theorem qhb (s:Bs) (hl:s.length≤900000):Spec FF 10 [.str s] (rRes (kat s)):=by
 by_cases hs:s=[]
 ·subst hs;exact qef
 have hcnt:=kue (s.length+1) s (by omega)
 have hL: ∀ l ∈ ka9 s,kaj l=(l,[])∧l≠[]∧l.length≤1000000:=fun l h=>by
  obtain⟨a,b,c⟩:=kug (s.length+1) s (by omega) l h
  exact⟨a,b,by omega⟩
 refine kbk (ρ:=valL [.str s] [] [] (fun i=>i) 0) (xs:=[vt 0]) (by kernel_rfl) rfl rfl (by kernel_rfl) (fun z S=> ?_)
 rw[qeb]
 obtain⟨z1,e1,S1⟩:=rd1 s S
 obtain⟨zA,kA,kB⟩:=e1.seqI
 generalize hσ1:sig (fun i=>i) [0,1] 2=σ1 at S1
 have g2:z1.r.get 2=some (.ptr (σ1 0) 0):=S1.regs 2 (.ptr 0 0) (by kernel_rfl)
 have g7:(AO.t 7).ev z1= .fn 49 [] [.ptr (σ1 1) 0]:=kbd (S1.regs 7 (.fn 49 [] [.ptr 1 0]) (by kernel_rfl))
 have S1b:Sim (valL [.str s] [] [] σ1 2) (tmpl [] [] [tb,.cells [vt 0] false 9]) z1:=S1.bare z1.r
 obtain⟨v,z2,hc,hr2,σ2,h0,hR⟩:=k1d s (by omega) S1b
 rcases hR with⟨hn,_⟩ | ⟨_,hv,S2⟩
 ·exact absurd hn hs
 have S3:Sim (valL [] [] [(1,(ka9 s).map eT)] σ2 2) (tmpl [2,8] [.ptr 0 0,.sl 1 0 1000001 1 none] [tb,lnB]) (z2.set (some 8) v):=by
  refine S2.begin [2,8] [.ptr 0 0,.sl 1 0 1000001 1 none] (z2.set (some 8) v).r (fun t u hu=> ?_)
  have hm:=kbh (show(ofL ([2,8].zip [AV.ptr 0 0,.sl 1 0 1000001 1 none])).get t=some u from hu)
  simp only[List.zip,List.zipWith,List.mem_cons,Prod.mk.injEq,List.not_mem_nil,or_false] at hm
  rcases hm with⟨rfl,rfl⟩ | ⟨rfl,rfl⟩
  ·rw[kcv (by decide),hr2,g2,←h0];rfl
  ·rw[kcl,hv]
   have:gm (valL [] [] [(1,(ka9 s).map eT)] σ2 2) (.sl 1 0 1000001 1 none)= .sl (σ2 1) 0 ((ka9 s).map eT).length 1 none:=by kernel_rfl
   rw[this,List.length_map]
 obtain⟨z3,e3,S4⟩:=rd2 (ka9 s) (σ:=σ2) S3.heap.inj S3
 generalize hσ3:sig σ2 [0,1,2] 3=σ3 at S4
 have eA1:Ev FF (.reg (rdL1++rdC::rdL2)) zA .nrm z3:=Ev.reg (EvR.app kB.regI (EvR.call (g:=21) (first:=[]) (caps:=[]) (v:=v) (s1:=z2) rfl (by rw[List.map_singleton,g7];exact hc) e3.regI))
 have r2:z3.r.get 2=some (.ptr (σ3 0) 0):=S4.regs 2 (.ptr 0 0) (by kernel_rfl)
 have r5:z3.r.get 5=some (.ptr (σ3 2) 0):=S4.regs 5 (.ptr 2 0) (by kernel_rfl)
 have SH:HSt (σ3 0) (σ3 2) (ka9 s) 0 ⟨0,0,0⟩ [] [] (z3.set (some 12) (.ptr (σ3 2) 0)):=⟨σ3,S4.bare (z3.set (some 12) (.ptr (σ3 2) 0)).r,rfl,rfl⟩
 have rest: ∀ {b:Bool} {z4:St},CallEv FF 23 [.ptr (σ3 2) 0] (z3.set (some 12) (.ptr (σ3 2) 0)) (.bool b) z4→z4.r=(z3.set (some 12) (.ptr (σ3 2) 0)).r→
   ∃ z5,EvR FF rdR z3 z5∧z5.r.get 14=some (.bool (!b))∧z5.r.get 2=some (.ptr (σ3 0) 0)∧z5.r.get 5=some (.ptr (σ3 2) 0)∧z5.h=z4.h∧z5.nx=z4.nx:=fun {b z4} hc4 hr4=>by
  refine⟨_,k1b (d0:=12) (d1:=13) (d2:=14) r5 hc4,kcl,?_,?_,rfl,rfl⟩
  ·rw[kcv (by decide),kcv (by decide),hr4,kcv (by decide)];exact r2
  ·rw[kcv (by decide),kcv (by decide),hr4,kcv (by decide)];exact r5
 rcases kzw SH (by omega) hL with⟨d,n,hd,z4,hc4,hr4,S5⟩ | ⟨a,hd,z4,h',T',M',hc4,hr4,S5⟩
 ·obtain⟨z5,e5,k14,k2,k5,kh,kn⟩:=rest hc4 hr4
  have S6:MSt (σ3 0) (σ3 2) n ⟨d.n0,d.n1,d.n2⟩ (ka9 s) d.t d.m [] [] [] z5:=by
   have:=S5.bare z5.r
   rw[←kh,←kn] at this
   exact this
  have hres:rRes (kat s)=rRes ((Dt.mk d.n0 d.n1 d.n2 d.t d.m).td,(n:Int),0):=by
   unfold kat kcn
   rw[hd]
  rw[hres]
  exact kdx kA (kdx eA1 (kdx (Ev.seq (Ev.reg e5) (Ev.cond (x:= .t 14) (t:=false) (kbd k14) (Ev.skip _))) (qee S6 k2 k5)))
 ·obtain⟨z5,e5,k14,k2,k5,kh,kn⟩:=rest hc4 hr4
  have S6:MSt (σ3 0) (σ3 2) a h' (ka9 s) T' M' [] [] [] z5:=by
   have:=S5.bare z5.r
   rw[←kh,←kn] at this
   exact this
  have hres:rRes (kat s)=rRes (noTd,((a+1:Nat):Int),1):=by
   unfold kat kcn
   rw[hd]
  have ha:a≤1000000:=by
   have:=qeh (ka9 s) (a:=a) hd
   omega
  obtain⟨z6,e6,j6⟩:=qed S6 k2 k5 ha
  rw[hres]
  exact kdx kA (kdx eA1 (ksc (e:= .ret) (Ev.seq (Ev.reg e5) (Ev.cond (x:= .t 14) (t:=true) (kbd k14) e6)) (by intro h;cases h) j6))
end Go.Proofs.Hz
open Go Go.Proofs
namespace Go.Proofs.Hz
theorem kb0 (s:Bs) (hl:s.length≤900000) {p:Td×Int×Int} (h:p=kat s):Spec FF 10 [.str s] (.tup [p.1.av,.int .i64 p.2.1,.int .i64 p.2.2]):=by
 subst h
 exact qhb s hl
end Go.Proofs.Hz
