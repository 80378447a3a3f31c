/-
  Chapter 20: all that a text tells, called.
  Conditions: none.
-/
import Derived.Test.YtamikoglpnoicaaGreatDoorT36
open Go Go.Proofs
namespace Go.Proofs.Hz
open List renaming length_map->yaa,length_cons->yab,not_mem_nil->yad,mem_cons->yaf,mem_map->yag,map_singleton->yai,zipWith->yaj,mem_flatten->yak,zip->yal
open Nat renaming le_refl->yae
open OkO renaming own->yac
open Prod.mk renaming injEq->yah
set_option maxRecDepth 20000
def thR:List AOper:=[⟨some 30,.mov (.t 0),none⟩,⟨some 31,.call (.c (.fn 52 [] [])) [.t 30],none⟩,⟨some 32,.un .not (.t 31),none⟩]
theorem k5y:(kai FF 23).body= .seq (.reg [⟨some 2,.mov (.c (.bool false)),none⟩]) (.seq (.seq (.reg hdR) (.block 0 (.loop hdX))) (.seq (.seq (.reg thR) (.cond (.t 32) (.seq (.reg [⟨some 2,.mov (.c (.bool false)),none⟩]) .ret) .skip)) (.seq (.block 2 (.loop (.seq alP mvY))) (.seq (.reg [⟨some 2,.mov (.c (.bool true)),none⟩]) .ret)))):=k5x
section
variable {i0 i2:Nat} {L:List Bs}
theorem HSt.toM {a:Nat} {h:Hd} {ts:List Nat} {ws:List AV} {z:St} (S:HSt i0 i2 L a h ts ws z):MSt i0 i2 a h L [] [] [] [] [] z:=by
 obtain⟨σ,S,hs⟩:=S;exact .inl ⟨rfl,rfl,q0,σ,S.bare z.r,hs⟩
theorem HSt.regs {a:Nat} {h:Hd} {z:St} (S:HSt i0 i2 L a h [0] [.ptr 2 0] z):z.r.get 0=some (.ptr i2 0):=by
 obtain⟨σ,S,hs⟩:=S;rw[←hs.2];exact S.regs 0 (.ptr 2 0) (by kernel_rfl)
theorem HSt.reg2 {a:Nat} {h:Hd} {b:Bool} {z:St} (S:HSt i0 i2 L a h [2] [.bool b] z):z.r.get 2=some (.bool b):=by
 obtain⟨σ,S,hs⟩:=S;exact S.regs 2 (.bool b) (by kernel_rfl)
theorem HSt.heads {h:Hd} {z:St} (S:HSt i0 i2 L 0 h [0,7,8] [.ptr 2 0,wH,.int .i64 0] z) (hLn:L.length<=1000000) (hL: ∀ l ∈ L,l.length<=1000000):
  ((0<=kah kaz (L.getD 0 []) 999/\0<=kah ka0 (L.getD 1 []) 999/\0<=kah ka1 (L.getD 2 []) 999)/\ ∃ z1,Ev FF (.loop hdX) z (.ext 0) z1/\HSt i0 i2 L 3 ⟨kah kaz (L.getD 0 []) 999,kah ka0 (L.getD 1 []) 999,kah ka1 (L.getD 2 []) 999⟩ [0] [.ptr 2 0] z1)\/
  (∃ a,kc3 L=(none,a+1)/\ ∃ z1 h1,Ev FF (.loop hdX) z .ret z1/\HSt i0 i2 L a h1 [2] [.bool false] z1):=by
 by_cases c0:0<=kah kaz (L.getD 0 []) 999
 ·obtain⟨z1,e1,S1⟩:=(S.step0 hLn hL).1 c0;by_cases c1:0<=kah ka0 (L.getD 1 []) 999
  ·obtain⟨z2,e2,S2⟩:=(S1.step1 hLn hL).1 c1;by_cases c2:0<=kah ka1 (L.getD 2 []) 999
   ·obtain⟨z3,e3,S3⟩:=(S2.step2 hLn hL).1 c2;obtain⟨σ,S3,hs⟩:=S3;obtain⟨z4,e4,S4⟩:=k9z _ _ L [] q0 (σ:=σ) S3.heap.inj S3;exact .inl ⟨⟨c0,c1,c2⟩,z4,e1.loop (e2.loop (e3.loop (Ev.loopJ e4 (by intro h;cases h)))),_,S4,hs⟩
   ·obtain⟨z3,e3,S3⟩:=(S2.step2 hLn hL).2 c2;refine .inr ⟨2,?_,z3,_,e1.loop (e2.loop (Ev.loopJ e3 (by intro h;cases h))),S3⟩;unfold kc3;rw[ir (by omega),ir (by omega),iq (by omega)]
  ·obtain⟨z2,e2,S2⟩:=(S1.step1 hLn hL).2 c1;refine .inr ⟨1,?_,z2,_,e1.loop (Ev.loopJ e2 (by intro h;cases h)),S2⟩;unfold kc3;rw[ir (by omega),iq (by omega)]
 ·obtain⟨z1,e1,S1⟩:=(S.step0 hLn hL).2 c0;refine .inr ⟨0,?_,z1,_,Ev.loopJ e1 (by intro h;cases h),S1⟩;unfold kc3;rw[iq (by omega)]
theorem k5z {h:Hd} {ts:List Nat} {ws:List AV} {z:St} (S:HSt i0 i2 L 0 h ts ws z) (hn:L.length<=1000000) (hL: ∀ l ∈ L,kap l=(l,[])/\l≠[]/\l.length<=1000000):
  (∃ d n,kc3 L=(some d,n)/\ ∃ z',CallEv FF 23 [.ptr i2 0] z (.bool true) z'/\z'.r=z.r/\MSt i0 i2 n ⟨d.n0,d.n1,d.n2⟩ L d.t d.m [] [] [] z')\/
  (∃ a,kc3 L=(none,a+1)/\ ∃ z' h' T' M',CallEv FF 23 [.ptr i2 0] z (.bool false) z'/\z'.r=z.r/\MSt i0 i2 a h' L T' M' [] [] [] z'):=by
 have hL3: ∀ l ∈ L,l.length<=1000000:=fun l hl=>(hL l hl).2.2
 have hres: ∀ {z1:St} {b:Bool},z1.r.get 2=some (.bool b)->kcg (kai FF 23) z1=some (.bool b):=fun {z1 b} hb=>by
  have hr:(kai FF 23).res=[(2,none)]:=by kernel_rfl
  unfold kcg;rw[hr];simp only[mapO,kdi,kbs hb]
 have mk: ∀ {b:Bool} {z1:St},Ev FF (kai FF 23).body {r:=inits 0 [.ptr i2 0] .nil,h:=z.h,nx:=z.nx} .ret z1->z1.r.get 2=some (.bool b)->CallEv FF 23 [.ptr i2 0] z (.bool b) {r:=z.r,h:=z1.h,nx:=z1.nx}:=fun {b z1} he hb=>
  CallEv.mk (f:=23) (fn:=kai FF 23) (by kernel_rfl) (by kernel_rfl) he (.inr rfl) (hres hb)
 rw[k5y] at mk;generalize hr0:(((inits 0 [.ptr i2 0] .nil).put 2 (some (.bool false))):T AV)=r1 at*;have e0:Ev FF (.reg [⟨some 2,.mov (.c (.bool false)),none⟩]) {r:=inits 0 [.ptr i2 0] .nil,h:=z.h,nx:=z.nx} .nrm {r:=r1,h:=z.h,nx:=z.nx}:=by
  subst hr0;exact Ev.reg (EvR.op (v:= .bool false) (s1:={r:=inits 0 [.ptr i2 0] .nil,h:=z.h,nx:=z.nx}) (fun _=>rfl) (EvR.nil _))
 have S0:HSt i0 i2 L 0 h [0] [.ptr 2 0] {r:=r1,h:=z.h,nx:=z.nx}:=by
  obtain⟨σ,S,hs⟩:=S;refine⟨σ,(S.bare r1).begin [0] [.ptr 2 0] r1 (fun t u hu=> ?_),hs⟩;have hm:=kbw (show(ofL ([0].zip [AV.ptr 2 0])).get t=some u from hu);simp only[yal,yaj,yaf,yah,yad,or_false] at hm;obtain⟨rfl,rfl⟩:=hm;rw[←hr0,T.get_put,←hs.2];rfl
 obtain⟨z1,e1,S1⟩: ∃ z1,Ev FF (.reg hdR) {r:=r1,h:=z.h,nx:=z.nx} .nrm z1/\HSt i0 i2 L 0 h [0,7,8] [.ptr 2 0,wH,.int .i64 0] z1:=by
  obtain⟨σ,S0,hs⟩:=S0;obtain⟨z1,e1,S1⟩:=k9i 0 h L [] q0 (σ:=σ) S0.heap.inj S0;exact⟨z1,e1,_,S1,hs⟩
 rcases(S1.heads hn hL3).symm with⟨a,hr,z2,h2,e2,S2⟩ | ⟨⟨c0,c1,c2⟩,z2,e2,S2⟩
 ·exact .inr ⟨a,hr,_,h2,[],[],mk (e0.seq (Ev.seqJ (e1.seq (e2.block (id:=0))) (by intro h;cases h))) S2.reg2,rfl,S2.toM.bare z.r⟩
 have eH:Ev FF (.seq (.reg hdR) (.block 0 (.loop hdX))) {r:=r1,h:=z.h,nx:=z.nx} .nrm z2:=e1.seq (e2.block (id:=0));have g0:=S2.regs;have hlen3:3<=L.length:=by
  rcases Nat.lt_or_ge 2 L.length with h |h
  ·exact h
  ·rw[show L.getD 2 []=[] by rw[List.getD_eq_getElem?_getD,List.getElem?_eq_none h];rfl,kii] at c2;omega
 have S2':HSt i0 i2 L 3 ⟨kah kaz (L.getD 0 []) 999,kah ka0 (L.getD 1 []) 999,kah ka1 (L.getD 2 []) 999⟩ [] [] (z2.set (some 30) (.ptr i2 0)):=by
  obtain⟨σ,S2,hs⟩:=S2;exact⟨σ,S2.bare (z2.set (some 30) (.ptr i2 0)).r,hs⟩
 have rd: ∀ x,kc4 (L.drop 3) 3 []=x->kc3 L=(match x with
  |(none,a,_)=>(none,a+1)
  |(some T,a,ls)=>match kdy ls a [] with
   |(none,a)=>(none,a+1)
   |(some M,a)=>(some ⟨kah kaz (L.getD 0 []) 999,kah ka0 (L.getD 1 []) 999,kah ka1 (L.getD 2 []) 999,T,M⟩,a)):=fun x hx=>by
  subst hx;unfold kc3;rw[ir (by omega),ir (by omega),ir (by omega)];rfl
 rcases qp5 S2' hn (by omega) hL with⟨T,a',ht,ha,z3,c3,r3,S3⟩ | ⟨a',ls,ht,z3,T',c3,r3,S3⟩
 ·have hreg:=kmp (d0:=30) (d1:=31) (d2:=32) g0 c3;generalize hz4:((z3.set (some 31) (.bool true)).set (some 32) (.bool (!true)):St)=z4 at hreg;have g32:z4.r.get 32=some (.bool false):=by rw[←hz4];exact kde
  have g0':z4.r.get 0=some (.ptr i2 0):=by
   rw[←hz4,kdp (by decide),kdp (by decide),r3];show(z2.set (some 30) (.ptr i2 0)).r.get 0=_;rw[kdp (by decide)];exact g0
  have S4:MSt i0 i2 a' ⟨kah kaz (L.getD 0 []) 999,kah ka0 (L.getD 1 []) 999,kah ka1 (L.getD 2 []) 999⟩ L T [] [] [0] [.ptr 2 0] z4:=by
   have:=S3.begin z4.r g0';rw[←hz4] at this ⊢;exact this
  have eT:Ev FF (.seq (.reg thR) (.cond (.t 32) (.seq (.reg [⟨some 2,.mov (.c (.bool false)),none⟩]) .ret) .skip)) z2 .nrm z4:=Ev.seq (Ev.reg hreg) (Ev.cond (x:= .t 32) (t:=false) (kbs g32) (Ev.skip _));have hrd:=rd _ ht;simp only at hrd;rcases qde _ T hn hL3 (L.length - a') a' [] (by omega) (by simp) S4 g0' with⟨M',b,z5,x1,x2,x3⟩ | ⟨M',b,z5,x1,x2,x3,x4⟩
  ·rw[x1] at hrd;refine .inl ⟨_,b,hrd,_,mk (z1:={r:=z5.r.put 2 (some (.bool true)),h:=z5.h,nx:=z5.nx}) ?_ (by show(z5.r.put 2 _).get 2=_;rw[_root_.Go.Proofs.Hz.T.get_put,iq rfl]),rfl,x3.bare z.r⟩;exact e0.seq (eH.seq (eT.seq (Ev.seq (x2.block (id:=2)) (Ev.seq (Ev.reg (EvR.op (v:= .bool true) (s1:=z5) (fun _=>rfl) (EvR.nil _))) (Ev.ret _)))))
  ·rw[x1] at hrd;exact .inr ⟨b,hrd,_,_,T,M',mk (e0.seq (eH.seq (eT.seq (Ev.seqJ (x2.block (id:=2)) (by intro h;cases h))))) x3,rfl,x4.bare z.r⟩
 ·have hreg:=kmp (d0:=30) (d1:=31) (d2:=32) g0 c3;generalize hz4:((z3.set (some 31) (.bool false)).set (some 32) (.bool (!false)):St)=z4 at hreg;have g32:z4.r.get 32=some (.bool true):=by rw[←hz4];exact kde
  have eT:Ev FF (.seq (.reg thR) (.cond (.t 32) (.seq (.reg [⟨some 2,.mov (.c (.bool false)),none⟩]) .ret) .skip)) z2 .ret (z4.set (some 2) (.bool false)):=Ev.seq (Ev.reg hreg) (Ev.cond (x:= .t 32) (t:=true) (kbs g32) (Ev.seq (Ev.reg (EvR.op (v:= .bool false) (s1:=z4) (fun _=>rfl) (EvR.nil _))) (Ev.ret _)));have hrd:=rd _ ht;simp only at hrd;refine .inr ⟨a',hrd,_,⟨kah kaz (L.getD 0 []) 999,kah ka0 (L.getD 1 []) 999,kah ka1 (L.getD 2 []) 999⟩,T',[],mk (e0.seq (eH.seq (Ev.seqJ eT (by intro h;cases h)))) kde,rfl,?_⟩;have:=S3.bare z.r;rw[←hz4];exact this
end
noncomputable def rdA:AC:=ka4 (kai FF 10).body
noncomputable def rdX:AC:=kat (kat (kai FF 10).body)
noncomputable def rdF:AC:=ka4 (kat (ka4 rdX))
noncomputable def rdD:AC:=ka4 (kat rdX)
def kvp:List AOper:=[⟨some 6,.mov (.t 0),none⟩,⟨some 7,.call (.c (.fn 22 [] [])) [.t 6],none⟩]
def rdC:AOper:=⟨some 8,.call (.c (.fn 21 [] [])) [.t 7],none⟩
def kvq:List AOper:=[⟨some 9,.build [.im [] true,.int .i64 0] [(0,(1,.t 8))],none⟩,⟨some 10,.build [.im [] true,.int .i64 0,.int .i64 0,.int .i64 0,.int .i64 0,.im [] true,.im [] true] [(0,(2,.t 9))],none⟩,⟨some 11,.box 64 (.t 10),none⟩,⟨some 5,.mov (.t 11),none⟩]
def rdR:List AOper:=[⟨some 12,.mov (.t 5),none⟩,⟨some 13,.call (.c (.fn 23 [] [])) [.t 12],none⟩,⟨some 14,.un .not (.t 13),none⟩]
theorem qm7:(kai FF 10).body= .seq rdA (.seq (.reg (kvp++rdC::kvq)) (.seq (.seq (.reg rdR) (.cond (.t 14) rdF .skip)) (.seq rdD .ret))):=by kernel_rfl
theorem rd1 (s:Bs) {z:St} (S:Sim (kal [.str s] [] [] (fun i=>i) 0) (kaa [0] [vt 0] []) z): ∃ z1,Ev FF (.seq rdA (.reg kvp)) z .nrm z1/\Sim (kal [.str s] [] [] (sig (fun i=>i) [0,1] 2) 2) (kaa [2,7] [.ptr 0 0,.fn 49 [] [.ptr 1 0]] [tb,.cells [vt 0] false 9]) z1:=by
 have H:=Tok.start (G:=gl20) (F:=FF) (σ:=fun i=>i) (fun _ _ e=>e) S 0 1 0 0 [.str s] [] [] .n .n rfl rfl;exact H.ev _ _ _ [0,1] [.ptr 0 0,.fn 49 [] [.ptr 1 0]] [tb,.cells [vt 0] false 9] 2 _ _ _
theorem rd2 (L:List Bs) {z:St} {σ:Nat->Nat} (hσ: ∀ i j,σ i=σ j->i=j) (S:Sim (kal [] [] [(1,L.map eT)] σ 2) (kaa [2,8] [.ptr 0 0,.sl 1 0 1000001 1 none] [tb,lnB]) z): ∃ z1,Ev FF (.reg kvq) z .nrm z1/\Sim (ZE0 0 ⟨0,0,0⟩ L [] q0 [] (sig σ [0,1,2] 3)) (kaa [2,5] [.ptr 0 0,.ptr 2 0] mE0) z1:=by
 have H:=Tok.start (G:=gl20) (F:=FF) hσ S 2 0 0 1 [] [] [(0,1,L.map eT)] .n (.c (yac kae _) .n) rfl rfl;exact H.ev _ _ _ [0,1,2] [.ptr 0 0,.ptr 2 0] [tb,lnB,.cells [.sl 1 0 1000001 1 none,.int .i64 0,.int .i64 0,.int .i64 0,.int .i64 0,kaj,kaj] false 64] 3 _ _ _
theorem qm0 (a:Nat) (h:Hd) (L:List Bs) (M:List Mov) (q:Sh) {z:St} {σ:Nat->Nat} (hσ: ∀ i j,σ i=σ j->i=j) (S:Sim (ZE0 a h L M q [] σ) (kaa [2,5] [.ptr 0 0,.ptr 2 0] mE0) z) (hw:w64 ((a:Int)+1)=((a+1:Nat):Int)): ∃ z1,Ev FF rdF z .ret z1/\Sim (kal [.int .i64 ((a+1:Nat):Int)] [] [] (sig σ [0] 13) 1) (kaa [2,3,4] [.ptr 0 0,vt 0,.int .i64 1] [tb]) z1:=by
 have H:=Tok.start (G:=gl20) (F:=FF) hσ S 3 4 0 1 (hT a h++[]) [] [(0,1,L.map eT)] .n (.c (yac kae _) .n) rfl rfl;have H:=H.p1 4 hw;exact H.ev _ _ _ [0] [.ptr 0 0,vt 4,.int .i64 1] [tb] 13 _ _ _
theorem qm1 (a:Nat) (h:Hd) (L:List Bs) (M:List Mov) (q:Sh) {z:St} {σ:Nat->Nat} (hσ: ∀ i j,σ i=σ j->i=j) (S:Sim (ZE1 a h L M q [] σ) (kaa [2,5] [.ptr 0 0,.ptr 2 0] mE1) z) (hw:w64 ((a:Int)+1)=((a+1:Nat):Int)): ∃ z1,Ev FF rdF z .ret z1/\Sim (kal [.int .i64 ((a+1:Nat):Int)] [] [] (sig σ [0] 14) 1) (kaa [2,3,4] [.ptr 0 0,vt 0,.int .i64 1] [tb]) z1:=by
 have H:=Tok.start (G:=gl20) (F:=FF) hσ S 4 4 0 2 (hT a h++[]) [] [(0,1,L.map eT),(1,2,M.map eM)] .n (.c (yac kae _) (.c (yac kax _) .n)) rfl rfl;have H:=H.p1 4 hw;exact H.ev _ _ _ [0] [.ptr 0 0,vt 4,.int .i64 1] [tb] 14 _ _ _
theorem qmy (a:Nat) (h:Hd) (L:List Bs) (M:List Mov) (q:Sh) {z:St} {σ:Nat->Nat} (hσ: ∀ i j,σ i=σ j->i=j) (hq:OkF (.im [q.tc] false)) (S:Sim (ZC0 a h L M q [] σ) (kaa [2,5] [.ptr 0 0,.ptr 2 0] mC0) z) (hw:w64 ((a:Int)+1)=((a+1:Nat):Int)): ∃ z1,Ev FF rdF z .ret z1/\Sim ({kal [.int .i64 ((a+1:Nat):Int)] [] [] (sig σ [0] 14) 1 with hid:=q.hid}) (kaa [2,3,4] [.ptr 0 0,vt 0,.int .i64 1] [tb]) z1:=by
 have H:=Tok.startH (G:=gl20) (F:=FF) hσ S 4 4 1 2 (hT a h++[]) [.im [q.tc] false] [(0,1,L.map eT),(1,1,(un q.n).map eN)] q.hid (.c hq .n) (.c (yac kae _) (.c (yac ka2 _) .n)) rfl rfl;have H:=H.p1 4 hw;exact H.ev _ _ _ [0] [.ptr 0 0,vt 4,.int .i64 1] [tb] 14 _ _ _
theorem qmz (a:Nat) (h:Hd) (L:List Bs) (M:List Mov) (q:Sh) {z:St} {σ:Nat->Nat} (hσ: ∀ i j,σ i=σ j->i=j) (hq:OkF (.im [q.tc] false)) (S:Sim (ZC1 a h L M q [] σ) (kaa [2,5] [.ptr 0 0,.ptr 2 0] mC1) z) (hw:w64 ((a:Int)+1)=((a+1:Nat):Int)): ∃ z1,Ev FF rdF z .ret z1/\Sim ({kal [.int .i64 ((a+1:Nat):Int)] [] [] (sig σ [0] 15) 1 with hid:=q.hid}) (kaa [2,3,4] [.ptr 0 0,vt 0,.int .i64 1] [tb]) z1:=by
 have H:=Tok.startH (G:=gl20) (F:=FF) hσ S 5 4 1 3 (hT a h++[]) [.im [q.tc] false] [(0,1,L.map eT),(1,1,(un q.n).map eN),(2,2,M.map eM)] q.hid (.c hq .n) (.c (yac kae _) (.c (yac ka2 _) (.c (yac kax _) .n))) rfl rfl;have H:=H.p1 4 hw;exact H.ev _ _ _ [0] [.ptr 0 0,vt 4,.int .i64 1] [tb] 15 _ _ _
theorem ko1 (n:Nat) (hid:List (Nat×Blk)) {z:St} {σ:Nat->Nat} (hσ: ∀ i j,σ i=σ j->i=j) (S:Sim ({kal [.int .i64 n] [] [] σ 1 with hid:=hid}) (kaa [2,3,4] [.ptr 0 0,vt 0,.int .i64 1] [tb]) z):J FF (kai FF 10) [] (.sig .ret) z (.tup [.agg [.int .i64 0,.int .i64 0,.int .i64 0,.im [] true,.im [] true],.int .i64 n,.int .i64 1]):=by
 have H:=Tok.startH (G:=gl20) (F:=FF) hσ S 1 1 0 0 [.int .i64 n] [] [] hid .n .n rfl rfl;exact H.e [] rfl
theorem qm5 (a:Nat) (h:Hd) (L:List Bs) (M:List Mov) (q:Sh) {z:St} {σ:Nat->Nat} (hσ: ∀ i j,σ i=σ j->i=j) (S:Sim (ZE0 a h L M q [] σ) (kaa [2,5] [.ptr 0 0,.ptr 2 0] mE0) z):J FF (kai FF 10) [] (.code (.seq rdD .ret)) z (.tup [.agg [.int .i64 h.n0,.int .i64 h.n1,.int .i64 h.n2,.im [] true,.im [] true],.int .i64 a,.int .i64 0]):=by
 have H:=Tok.start (G:=gl20) (F:=FF) hσ S 3 4 0 1 (hT a h++[]) [] [(0,1,L.map eT)] .n (.c (yac kae _) .n) rfl rfl;exact H.e [] rfl
theorem qm6 (a:Nat) (h:Hd) (L:List Bs) (M:List Mov) (q:Sh) {z:St} {σ:Nat->Nat} (hσ: ∀ i j,σ i=σ j->i=j) (S:Sim (ZE1 a h L M q [] σ) (kaa [2,5] [.ptr 0 0,.ptr 2 0] mE1) z):J FF (kai FF 10) [] (.code (.seq rdD .ret)) z (.tup [.agg [.int .i64 h.n0,.int .i64 h.n1,.int .i64 h.n2,.im [] true,.im (List.map eM M) false],.int .i64 a,.int .i64 0]):=by
 have H:=Tok.start (G:=gl20) (F:=FF) hσ S 4 4 0 2 (hT a h++[]) [] [(0,1,L.map eT),(1,2,M.map eM)] .n (.c (yac kae _) (.c (yac kax _) .n)) rfl rfl;exact H.e [] rfl
def RC0 (a:Nat) (h:Hd) (q:Sh) (σ:Nat->Nat):Val:={kal (hT a h) [.im [q.tc] false] [(1,(un q.n).map eN)] σ 2 with hid:=q.hid}
def RC1 (a:Nat) (h:Hd) (M:List Mov) (q:Sh) (σ:Nat->Nat):Val:={kal (hT a h) [.im [q.tc] false] [(1,(un q.n).map eN),(2,M.map eM)] σ 3 with hid:=q.hid}
def rC0:List Blk:=[.cells [vt 1,vt 2,vt 3,.sl 1 0 1000001 1 none,kaj] false 26,.own 0 false 42]
def rC1:List Blk:=[.cells [vt 1,vt 2,vt 3,.sl 1 0 1000001 1 none,.sl 2 0 1001002 2 none] false 26,.own 0 false 42,.own 1001002 false 45]
theorem qm3 (a:Nat) (h:Hd) (L:List Bs) (M:List Mov) (q:Sh) {z:St} {σ:Nat->Nat} (hσ: ∀ i j,σ i=σ j->i=j) (hq:OkF (.im [q.tc] false)) (S:Sim (ZC0 a h L M q [] σ) (kaa [2,5] [.ptr 0 0,.ptr 2 0] mC0) z): ∃ z1,Ev FF rdD z .nrm z1/\Sim (RC0 a h q (sig σ [0,3] 16)) (kaa [2,3,4] [.ptr 0 0,vt 0,.int .i64 0] rC0) z1:=by
 have H:=Tok.startH (G:=gl20) (F:=FF) hσ S 4 4 1 2 (hT a h++[]) [.im [q.tc] false] [(0,1,L.map eT),(1,1,(un q.n).map eN)] q.hid (.c hq .n) (.c (yac kae _) (.c (yac ka2 _) .n)) rfl rfl;exact H.ev _ _ _ [0,3] [.ptr 0 0,vt 0,.int .i64 0] [.cells [vt 1,vt 2,vt 3,.sl 3 0 1001001 1 none,kaj] false 26,.own 0 false 42] 16 _ _ _
theorem qm4 (a:Nat) (h:Hd) (L:List Bs) (M:List Mov) (q:Sh) {z:St} {σ:Nat->Nat} (hσ: ∀ i j,σ i=σ j->i=j) (hq:OkF (.im [q.tc] false)) (S:Sim (ZC1 a h L M q [] σ) (kaa [2,5] [.ptr 0 0,.ptr 2 0] mC1) z): ∃ z1,Ev FF rdD z .nrm z1/\Sim (RC1 a h M q (sig σ [0,3,4] 17)) (kaa [2,3,4] [.ptr 0 0,vt 0,.int .i64 0] rC1) z1:=by
 have H:=Tok.startH (G:=gl20) (F:=FF) hσ S 5 4 1 3 (hT a h++[]) [.im [q.tc] false] [(0,1,L.map eT),(1,1,(un q.n).map eN),(2,2,M.map eM)] q.hid (.c hq .n) (.c (yac kae _) (.c (yac ka2 _) (.c (yac kax _) .n))) rfl rfl;exact H.ev _ _ _ [0,3,4] [.ptr 0 0,vt 0,.int .i64 0] [.cells [vt 1,vt 2,vt 3,.sl 3 0 1001001 1 none,.sl 4 0 1002002 2 none] false 26,.own 0 false 42,.own 1002002 false 45] 17 _ _ _
def Dt.td (d:Dt):Td:=⟨d.n0,d.n1,d.n2,d.t.map fun c=>⟨c,c.isEmpty⟩,d.t.isEmpty,d.m,d.m.isEmpty⟩
def kjd:Td:=⟨0,0,0,[],true,[],true⟩
def kcn (s:Bs):Td×Int×Int:=match kfj s with
 |(some d,n)=>(d.td,n,0)
 |(none,n)=>(kjd,n,1)
def kd5 (p:Td×Int×Int):AV:= .tup [p.1.av,.int .i64 p.2.1,.int .i64 p.2.2]
theorem kzc {f:AV->Option AV} {g:List Cl->AV}: ∀ {tc:List AV} {T:List (List Cl)},tc.length=T.length->(∀ (i:Nat) v c,tc[i]? =some v->T[i]? =some c->f v=some (g c))->mapO f tc=some (T.map g)
 | [],[],_,_=>rfl
 | [],_::_,h,_=>by cases h
 |_::_,[],h,_=>by cases h
 |v::tc,c::T,h,hf=>by
  unfold mapO;rw[hf 0 v c rfl rfl,kzc (by simpa using h) fun i v c h1 h2=>hf (i+1) v c (by simpa using h1) (by simpa using h2)];rfl
theorem k83 {h:T Blk} {id:Nat} {c:List Cl} (n:Nat) (hg:h.get id=some (.cells (c.map eC).flatten false 48)):frz h (n+2) (.sl id 0 c.length 3 none)=some (.im (c.map eC) false):=by
 have hl: ∀ e ∈ c.map eC,e.length=3:=fun e he=>by
  obtain⟨x,_,rfl⟩:=yag.1 he;rfl
 have h1:=kfc hl;rw[yaa] at h1;have h2:mapO (frz h (n+1)) (c.map eC).flatten=some (c.map eC).flatten:=kkg fun x hx=>by
  obtain⟨e,he,hx⟩:=yak.1 hx;obtain⟨y,_,rfl⟩:=yag.1 he;refine kkl ?_ h n;simp only[eC,yaf,yad,or_false] at hx;rcases hx with rfl |rfl |rfl <;> rfl
 have h3:=kjw hl;rw[yaa] at h3;unfold frz;simp only[hg,kfy h1,h2,h3];rfl
theorem kj6 {h:T Blk} {t:Nat} {tc:List AV} {U:List (List Cl)} {hid:List (Nat×Blk)} (n:Nat) (hp:PcOk tc U hid) (hg:h.get t=some (.cells [tc].flatten false 42)) (hh: ∀ p ∈ hid,h.get p.1=some p.2):
  frz h (n+3) (.sl t 0 U.length 1 none)=some (.im (U.map fun c=>[.im (c.map eC) c.isEmpty]) false):=by
 have e1:[tc].flatten=tc:=by simp
 rw[e1] at hg;have h2:mapO (frz h (n+2)) tc=some (U.map fun c=> .im (c.map eC) c.isEmpty):=kzc hp.1 fun i v c h1 h2=>by
  rcases hp.2 i v c h1 h2 with⟨rfl,rfl⟩ | ⟨id,hc,rfl,hm⟩
  ·rfl
  ·rw[k83 n (hh _ hm)];cases c with
   |nil=>exact absurd rfl hc
   |cons x c=>rfl
 have h3:kb9 1 U.length (U.map fun c=>AV.im (c.map eC) c.isEmpty)=U.map fun c=>[AV.im (c.map eC) c.isEmpty]:=by
  clear h2 hp
  induction U with
  |nil=>rfl
  |cons c U ih=>
   simp only[yab,List.map_cons,kb9,List.take_succ_cons,List.take_zero,List.drop_succ_cons,List.drop_zero];rw[ih]
 unfold frz;simp only[hg,kfy (show tc.length=U.length*1 by rw[hp.1];omega),h2,h3];rfl
theorem kmi {f:Nat} {z:St} {v r:AV} (hr:kcg (kai FF f) z=some v) (hf:frz z.h kbu v=some r):J FF (kai FF f) [] (.code .ret) z r:=⟨1,.ret,z,v,rfl,.inr rfl,hr,hf⟩
theorem k63 {i2 g d0 d1 d2:Nat} {z z1:St} {b:Bool} (h0:z.r.get 5=some (.ptr i2 0)) (hc:CallEv FF g [.ptr i2 0] (z.set (some d0) (.ptr i2 0)) (.bool b) z1):
  EvR FF [⟨some d0,.mov (.t 5),none⟩,⟨some d1,.call (.c (.fn g [] [])) [.t d0],none⟩,⟨some d2,.un .not (.t d1),none⟩] z ((z1.set (some d1) (.bool b)).set (some d2) (.bool (!b))):=by
 refine EvR.op (v:= .ptr i2 0) (s1:=z) (fun _=> ?_) ?_
 ·show some (z.rg 5,z)=_;rw[kbs h0]
 refine EvR.call (g:=g) (first:=[]) (caps:=[]) (v:= .bool b) (s1:=z1) rfl ?_ ?_
 ·have e:(AO.t d0).ev (z.set (some d0) (.ptr i2 0))= .ptr i2 0:=kbs kde;rw[yai,e];exact hc
 refine EvR.op (v:= .bool (!b)) (s1:=z1.set (some d1) (.bool b)) (fun _=> ?_) (EvR.nil _);show opA (z1.set (some d1) (.bool b)) (.un .not (.t d1))=_;have e:(AO.t d1).ev (z1.set (some d1) (.bool b))= .bool b:=kbs kde;simp only[opA,e];rfl
theorem kic {ρ:Val} {bs:List Blk} {z:St} (S:Sim ρ (kaa [] [] bs) z) {v w x y:AV} (r:T AV) (h2:r.get 2=some v) (h5:r.get 5=some w) (e2:gm ρ x=v) (e5:gm ρ y=w):Sim ρ (kaa [2,5] [x,y] bs) {r:=r,h:=z.h,nx:=z.nx}:=by
 refine S.begin [2,5] [x,y] r (fun t u hu=> ?_);have hm:=kbw (show(ofL ([2,5].zip [x,y])).get t=some u from hu);simp only[yal,yaj,yaf,yah,yad,or_false] at hm;rcases hm with⟨rfl,rfl⟩ | ⟨rfl,rfl⟩
 ·rw[h2,e2]
 ·rw[h5,e5]
theorem k3z {z:St} {i0:Nat} {cs:List AV} {a e:AV} (h2:z.r.get 2=some (.ptr i0 0)) (h3:z.r.get 3=some a) (h4:z.r.get 4=some e) (hg:z.h.get i0=some (.cells cs false 26)) (hl:cs.length=5):kcg (kai FF 10) z=some (.tup [.agg cs,a,e]):=by
 have hr:(kai FF 10).res=[(2,some (true,5)),(3,none),(4,none)]:=by kernel_rfl
 unfold kcg;rw[hr];simp only[mapO,kdi,kbs h2,kbs h3,kbs h4,rdH,hg,kfy hl,kdh,if_true]
section
variable {i0 i2 a:Nat} {h:Hd} {L:List Bs} {T:List (List Cl)} {M:List Mov} {z:St}
theorem qnb (S:MSt i0 i2 a h L T M [] [] [] z) (h2:z.r.get 2=some (.ptr i0 0)) (h5:z.r.get 5=some (.ptr i2 0)) (ha:a<=1000000): ∃ z1,Ev FF rdF z .ret z1/\J FF (kai FF 10) [] (.sig .ret) z1 (kd5 (kjd,((a+1:Nat):Int),1)):=by
 have hw:w64 ((a:Int)+1)=((a+1:Nat):Int):=by
  unfold w64 IntKind.wrap;simp[IntKind.signed,IntKind.bits];omega
 rcases S with⟨hT,hM0,q,σ,S,hs⟩ | ⟨hT,hM0,q,σ,S,hs⟩ | ⟨hT,hM0,q,σ,hp,hn,S,hs⟩ | ⟨hT,hM0,q,σ,hp,hn,S,hs⟩
 ·obtain⟨z1,e1,S1⟩:=qm0 a h L M q (σ:=σ) S.heap.inj (kic S z.r h2 h5 (x:= .ptr 0 0) (y:= .ptr 2 0) (by rw[←hs.1];rfl) (by rw[←hs.2];rfl)) hw;exact⟨z1,e1,ko1 (a+1) [] (σ:=sig σ [0] 13) S1.heap.inj S1⟩
 ·obtain⟨z1,e1,S1⟩:=qm1 a h L M q (σ:=σ) S.heap.inj (kic S z.r h2 h5 (x:= .ptr 0 0) (y:= .ptr 2 0) (by rw[←hs.1];rfl) (by rw[←hs.2];rfl)) hw;exact⟨z1,e1,ko1 (a+1) [] (σ:=sig σ [0] 14) S1.heap.inj S1⟩
 ·obtain⟨z1,e1,S1⟩:=qmy a h L M q (σ:=σ) S.heap.inj hp.okF (kic S z.r h2 h5 (x:= .ptr 0 0) (y:= .ptr 2 0) (by rw[←hs.1];rfl) (by rw[←hs.2];rfl)) hw;exact⟨z1,e1,ko1 (a+1) q.hid (σ:=sig σ [0] 14) S1.heap.inj S1⟩
 ·obtain⟨z1,e1,S1⟩:=qmz a h L M q (σ:=σ) S.heap.inj hp.okF (kic S z.r h2 h5 (x:= .ptr 0 0) (y:= .ptr 2 0) (by rw[←hs.1];rfl) (by rw[←hs.2];rfl)) hw;exact⟨z1,e1,ko1 (a+1) q.hid (σ:=sig σ [0] 15) S1.heap.inj S1⟩
theorem kho {α:Type} {l:List α} (h:l≠[]):l.isEmpty=false:=by
 cases l with
 |nil=>exact absurd rfl h
 |cons x l=>rfl
theorem kpa (T:List (List Cl)):(T.map fun c=>(Ro.mk c c.isEmpty)).map eR=T.map fun c=>[.im (c.map eC) c.isEmpty]:=by
 rw[List.map_map];rfl
theorem qnc (S:MSt i0 i2 a h L T M [] [] [] z) (h2:z.r.get 2=some (.ptr i0 0)) (h5:z.r.get 5=some (.ptr i2 0)):J FF (kai FF 10) [] (.code (.seq rdD .ret)) z (kd5 ((Dt.mk h.n0 h.n1 h.n2 T M).td,(a:Int),0)):=by
 rcases S with⟨hT,hM0,q,σ,S,hs⟩ | ⟨hT,hM0,q,σ,S,hs⟩ | ⟨hT,hM0,q,σ,hp,hn,S,hs⟩ | ⟨hT,hM0,q,σ,hp,hn,S,hs⟩
 ·have:=qm5 a h L M q (σ:=σ) S.heap.inj (kic S z.r h2 h5 (x:= .ptr 0 0) (y:= .ptr 2 0) (by rw[←hs.1];rfl) (by rw[←hs.2];rfl));rw[hT,hM0];exact this
 ·have:=qm6 a h L M q (σ:=σ) S.heap.inj (kic S z.r h2 h5 (x:= .ptr 0 0) (y:= .ptr 2 0) (by rw[←hs.1];rfl) (by rw[←hs.2];rfl));rw[hT];unfold kd5 Dt.td Td.av;simp only[kho hM0];exact this
 ·obtain⟨z1,e1,S1⟩:=qm3 a h L M q (σ:=σ) S.heap.inj hp.okF (kic S z.r h2 h5 (x:= .ptr 0 0) (y:= .ptr 2 0) (by rw[←hs.1];rfl) (by rw[←hs.2];rfl));generalize hσ':sig σ [0,3] 16=σ' at S1;have g2:z1.r.get 2=some (.ptr (σ' 0) 0):=S1.regs 2 (.ptr 0 0) (by kernel_rfl);have g3:z1.r.get 3=some (.int .i64 (a:Int)):=S1.regs 3 (vt 0) (by kernel_rfl);have g4:z1.r.get 4=some (.int .i64 0):=S1.regs 4 (.int .i64 0) (by kernel_rfl);have b0:z1.h.get (σ' 0)=some (.cells [.int .i64 h.n0,.int .i64 h.n1,.int .i64 h.n2,.sl (σ' 1) 0 ((un q.n).map eN).length 1 none,.im [] true] false 26):=S1.heap.get 0 (.cells [vt 1,vt 2,vt 3,.sl 1 0 1000001 1 none,kaj] false 26) (by kernel_rfl);have b1:z1.h.get (σ' 1)=some (.cells [q.tc].flatten false 42):=S1.heap.get 1 (.own 0 false 42) (by kernel_rfl);have hh: ∀ p ∈ q.hid,z1.h.get p.1=some p.2:=fun p hp=>(S1.heap.hid p hp).1
  rw[yaa,kbe,hn] at b0;refine kc0 e1 (kmi (k3z g2 g3 g4 b0 rfl) ?_);have hT1:=kj6 18 hp b1 hh;have hT2:=kj6 19 hp b1 hh;show frz z1.h 24 (.tup [.agg [.int .i64 h.n0,.int .i64 h.n1,.int .i64 h.n2,.sl (σ' 1) 0 T.length 1 none,.im [] true],.int .i64 (a:Int),.int .i64 0])=_;rw[hM0];unfold kd5 Dt.td Td.av;simp only[kho hT,kpa];rw[show frz z1.h 24 (.tup [.agg [.int .i64 h.n0,.int .i64 h.n1,.int .i64 h.n2,.sl (σ' 1) 0 T.length 1 none,.im [] true],.int .i64 (a:Int),.int .i64 0])=(mapO (frz z1.h 23) [.agg [.int .i64 h.n0,.int .i64 h.n1,.int .i64 h.n2,.sl (σ' 1) 0 T.length 1 none,.im [] true],.int .i64 (a:Int),.int .i64 0]).map .tup from rfl];have ha:frz z1.h 23 (.agg [.int .i64 h.n0,.int .i64 h.n1,.int .i64 h.n2,.sl (σ' 1) 0 T.length 1 none,.im [] true])=some (.agg [.int .i64 h.n0,.int .i64 h.n1,.int .i64 h.n2,.im (T.map fun c=>[.im (c.map eC) c.isEmpty]) false,.im [] true]):=by
   rw[show frz z1.h 23 (.agg [.int .i64 h.n0,.int .i64 h.n1,.int .i64 h.n2,.sl (σ' 1) 0 T.length 1 none,.im [] true])=(mapO (frz z1.h 22) [.int .i64 h.n0,.int .i64 h.n1,.int .i64 h.n2,.sl (σ' 1) 0 T.length 1 none,.im [] true]).map .agg from rfl];simp only[mapO,hT2];rfl
  simp only[mapO,ha];rfl
 ·obtain⟨z1,e1,S1⟩:=qm4 a h L M q (σ:=σ) S.heap.inj hp.okF (kic S z.r h2 h5 (x:= .ptr 0 0) (y:= .ptr 2 0) (by rw[←hs.1];rfl) (by rw[←hs.2];rfl));generalize hσ':sig σ [0,3,4] 17=σ' at S1;have g2:z1.r.get 2=some (.ptr (σ' 0) 0):=S1.regs 2 (.ptr 0 0) (by kernel_rfl);have g3:z1.r.get 3=some (.int .i64 (a:Int)):=S1.regs 3 (vt 0) (by kernel_rfl);have g4:z1.r.get 4=some (.int .i64 0):=S1.regs 4 (.int .i64 0) (by kernel_rfl);have b0:z1.h.get (σ' 0)=some (.cells [.int .i64 h.n0,.int .i64 h.n1,.int .i64 h.n2,.sl (σ' 1) 0 ((un q.n).map eN).length 1 none,.sl (σ' 2) 0 (M.map eM).length 2 none] false 26):=S1.heap.get 0 (.cells [vt 1,vt 2,vt 3,.sl 1 0 1000001 1 none,.sl 2 0 1001002 2 none] false 26) (by kernel_rfl);have b1:z1.h.get (σ' 1)=some (.cells [q.tc].flatten false 42):=S1.heap.get 1 (.own 0 false 42) (by kernel_rfl);have b2:z1.h.get (σ' 2)=some (.cells (M.map eM).flatten false 45):=S1.heap.get 2 (.own 1001002 false 45) (by kernel_rfl);have hh: ∀ p ∈ q.hid,z1.h.get p.1=some p.2:=fun p hp=>(S1.heap.hid p hp).1
  rw[yaa,kbe,hn,yaa] at b0;refine kc0 e1 (kmi (k3z g2 g3 g4 b0 rfl) ?_);have hT2:=kj6 19 hp b1 hh;have hM2:frz z1.h 22 (.sl (σ' 2) 0 M.length 2 none)=some (.im (M.map eM) false):=by
   have hl: ∀ e ∈ M.map eM,e.length=2:=fun e he=>by
    obtain⟨x,_,rfl⟩:=yag.1 he;rfl
   have h1:=kfc hl;rw[yaa] at h1;have k2:mapO (frz z1.h 21) (M.map eM).flatten=some (M.map eM).flatten:=kkg fun x hx=>by
    obtain⟨e,he,hx⟩:=yak.1 hx;obtain⟨y,_,rfl⟩:=yag.1 he;refine kkl ?_ z1.h 20;simp only[eM,yaf,yad,or_false] at hx;rcases hx with rfl |rfl <;> rfl
   have k3:=kjw hl;rw[yaa] at k3;unfold frz;simp only[b2,kfy h1,k2,k3];rfl
  show frz z1.h 24 (.tup [.agg [.int .i64 h.n0,.int .i64 h.n1,.int .i64 h.n2,.sl (σ' 1) 0 T.length 1 none,.sl (σ' 2) 0 M.length 2 none],.int .i64 (a:Int),.int .i64 0])=_;unfold kd5 Dt.td Td.av;simp only[kho hT,kho hM0,kpa];rw[show frz z1.h 24 (.tup [.agg [.int .i64 h.n0,.int .i64 h.n1,.int .i64 h.n2,.sl (σ' 1) 0 T.length 1 none,.sl (σ' 2) 0 M.length 2 none],.int .i64 (a:Int),.int .i64 0])=(mapO (frz z1.h 23) [.agg [.int .i64 h.n0,.int .i64 h.n1,.int .i64 h.n2,.sl (σ' 1) 0 T.length 1 none,.sl (σ' 2) 0 M.length 2 none],.int .i64 (a:Int),.int .i64 0]).map .tup from rfl];have ha:frz z1.h 23 (.agg [.int .i64 h.n0,.int .i64 h.n1,.int .i64 h.n2,.sl (σ' 1) 0 T.length 1 none,.sl (σ' 2) 0 M.length 2 none])=some (.agg [.int .i64 h.n0,.int .i64 h.n1,.int .i64 h.n2,.im (T.map fun c=>[.im (c.map eC) c.isEmpty]) false,.im (M.map eM) false]):=by
   rw[show frz z1.h 23 (.agg [.int .i64 h.n0,.int .i64 h.n1,.int .i64 h.n2,.sl (σ' 1) 0 T.length 1 none,.sl (σ' 2) 0 M.length 2 none])=(mapO (frz z1.h 22) [.int .i64 h.n0,.int .i64 h.n1,.int .i64 h.n2,.sl (σ' 1) 0 T.length 1 none,.sl (σ' 2) 0 M.length 2 none]).map .agg from rfl];simp only[mapO,hT2,hM2];rfl
  simp only[mapO,ha];rfl
end
theorem qne:kak FF 10 [.str []] (kd5 (kcn [])):=⟨400,by kernel_rfl⟩
theorem kry: ∀ (n:Nat) (s:Bs),s.length<n->(kbf s).length<=s.length
 |0,_,h=>by omega
 |n+1,s,h=>by
  by_cases hs:s=[]
  ·subst hs;exact yae _
  ·have:=kev s;have:=kfs hs;have ih:=kry n (kap s).2 (by omega);rw[ki6 hs,yab];omega
theorem kzn: ∀ (L:List Bs) (a:Nat) (M:List Mov),a<=(kdy L a M).2/\(kdy L a M).2<=a+L.length
 | [],a,M=>⟨yae _,yae _⟩
 |l::L,a,M=>by
  rw[knw];cases kcc l with
  |none=>exact⟨yae _,by simp⟩
  |some m=>
   simp only;split
   ·exact⟨yae _,by simp⟩
   ·obtain⟨h1,h2⟩:=kzn L (a+1) (M++[m]);rw[yab];omega
theorem k4v: ∀ (L:List Bs) (a:Nat) (T:List (List Cl)),a<=(kc4 L a T).2.1/\(kc4 L a T).2.1+(kc4 L a T).2.2.length<=a+L.length
 | [],a,T=>⟨yae _,yae _⟩
 |l::L,a,T=>by
  rw[kpc];split
  ·rw[yab];exact⟨by simp,by simp;omega⟩
  ·cases kc8 l T with
   |none=>rw[yab];exact⟨yae _,by simp⟩
   |some U=>
    obtain⟨h1,h2⟩:=k4v L (a+1) U;rw[yab];simp only;omega
theorem qng (L:List Bs) {a:Nat} (h:kc3 L=(none,a+1)):a<=L.length+3:=by
 unfold kc3 at h;split at h
 ·cases h;omega
 split at h
 ·cases h;omega
 split at h
 ·cases h;omega
 have h1:=k4v (L.drop 3) 3 [];rw[List.length_drop] at h1;split at h
 ·rename_i b ls hx;rw[hx] at h1;cases h;simp only at h1;omega
 ·rename_i T b ls hx;rw[hx] at h1;simp only at h1;have h2:=kzn ls b [];split at h
  ·rename_i c hy;rw[hy] at h2;cases h;simp only at h2;omega
  ·cases h
theorem qqd (s:Bs) (hl:s.length<=900000):kak FF 10 [.str s] (kd5 (kcn s)):=by
 by_cases hs:s=[]
 ·subst hs;exact qne
 have hcnt:=kry (s.length+1) s (by omega);have hL: ∀ l ∈ kbf s,kap l=(l,[])/\l≠[]/\l.length<=1000000:=fun l h=>by
  obtain⟨a,b,c⟩:=krz (s.length+1) s (by omega) l h;exact⟨a,b,by omega⟩
 refine kbq (ρ:=kal [.str s] [] [] (fun i=>i) 0) (xs:=[vt 0]) (by kernel_rfl) rfl rfl (by kernel_rfl) (fun z S=> ?_);rw[qm7];obtain⟨z1,e1,S1⟩:=rd1 s S;obtain⟨zA,kA,kB⟩:=e1.seqI;generalize hσ1:sig (fun i=>i) [0,1] 2=σ1 at S1;have g2:z1.r.get 2=some (.ptr (σ1 0) 0):=S1.regs 2 (.ptr 0 0) (by kernel_rfl);have g7:(AO.t 7).ev z1= .fn 49 [] [.ptr (σ1 1) 0]:=kbs (S1.regs 7 (.fn 49 [] [.ptr 1 0]) (by kernel_rfl));have S1b:Sim (kal [.str s] [] [] σ1 2) (kaa [] [] [tb,.cells [vt 0] false 9]) z1:=S1.bare z1.r;obtain⟨v,z2,hc,hr2,σ2,h0,hR⟩:=k65 s (by omega) S1b;rcases hR with⟨hn,_⟩ | ⟨_,hv,S2⟩
 ·exact absurd hn hs
 have S3:Sim (kal [] [] [(1,(kbf s).map eT)] σ2 2) (kaa [2,8] [.ptr 0 0,.sl 1 0 1000001 1 none] [tb,lnB]) (z2.set (some 8) v):=by
  refine S2.begin [2,8] [.ptr 0 0,.sl 1 0 1000001 1 none] (z2.set (some 8) v).r (fun t u hu=> ?_);have hm:=kbw (show(ofL ([2,8].zip [AV.ptr 0 0,.sl 1 0 1000001 1 none])).get t=some u from hu);simp only[yal,yaj,yaf,yah,yad,or_false] at hm;rcases hm with⟨rfl,rfl⟩ | ⟨rfl,rfl⟩
  ·rw[kdp (by decide),hr2,g2,←h0];rfl
  ·rw[kde,hv];have:gm (kal [] [] [(1,(kbf s).map eT)] σ2 2) (.sl 1 0 1000001 1 none)= .sl (σ2 1) 0 ((kbf s).map eT).length 1 none:=by kernel_rfl
   rw[this,yaa]
 obtain⟨z3,e3,S4⟩:=rd2 (kbf s) (σ:=σ2) S3.heap.inj S3;generalize hσ3:sig σ2 [0,1,2] 3=σ3 at S4;have eA1:Ev FF (.reg (kvp++rdC::kvq)) zA .nrm z3:=Ev.reg (EvR.app kB.regI (EvR.call (g:=21) (first:=[]) (caps:=[]) (v:=v) (s1:=z2) rfl (by rw[yai,g7];exact hc) e3.regI));have r2:z3.r.get 2=some (.ptr (σ3 0) 0):=S4.regs 2 (.ptr 0 0) (by kernel_rfl);have r5:z3.r.get 5=some (.ptr (σ3 2) 0):=S4.regs 5 (.ptr 2 0) (by kernel_rfl);have SH:HSt (σ3 0) (σ3 2) (kbf s) 0 ⟨0,0,0⟩ [] [] (z3.set (some 12) (.ptr (σ3 2) 0)):=⟨σ3,S4.bare (z3.set (some 12) (.ptr (σ3 2) 0)).r,rfl,rfl⟩;have rest: ∀ {b:Bool} {z4:St},CallEv FF 23 [.ptr (σ3 2) 0] (z3.set (some 12) (.ptr (σ3 2) 0)) (.bool b) z4->z4.r=(z3.set (some 12) (.ptr (σ3 2) 0)).r->
   ∃ z5,EvR FF rdR z3 z5/\z5.r.get 14=some (.bool (!b))/\z5.r.get 2=some (.ptr (σ3 0) 0)/\z5.r.get 5=some (.ptr (σ3 2) 0)/\z5.h=z4.h/\z5.nx=z4.nx:=fun {b z4} hc4 hr4=>by
  refine⟨_,k63 (d0:=12) (d1:=13) (d2:=14) r5 hc4,kde,?_,?_,rfl,rfl⟩
  ·rw[kdp (by decide),kdp (by decide),hr4,kdp (by decide)];exact r2
  ·rw[kdp (by decide),kdp (by decide),hr4,kdp (by decide)];exact r5
 rcases k5z SH (by omega) hL with⟨d,n,hd,z4,hc4,hr4,S5⟩ | ⟨a,hd,z4,h',T',M',hc4,hr4,S5⟩
 ·obtain⟨z5,e5,k14,k2,k5,kh,kn⟩:=rest hc4 hr4;have S6:MSt (σ3 0) (σ3 2) n ⟨d.n0,d.n1,d.n2⟩ (kbf s) d.t d.m [] [] [] z5:=by
   have:=S5.bare z5.r;rw[←kh,←kn] at this;exact this
  have hres:kd5 (kcn s)=kd5 ((Dt.mk d.n0 d.n1 d.n2 d.t d.m).td,(n:Int),0):=by
   unfold kcn kfj;rw[hd]
  rw[hres];exact kc0 kA (kc0 eA1 (kc0 (Ev.seq (Ev.reg e5) (Ev.cond (x:= .t 14) (t:=false) (kbs k14) (Ev.skip _))) (qnc S6 k2 k5)))
 ·obtain⟨z5,e5,k14,k2,k5,kh,kn⟩:=rest hc4 hr4;have S6:MSt (σ3 0) (σ3 2) a h' (kbf s) T' M' [] [] [] z5:=by
   have:=S5.bare z5.r;rw[←kh,←kn] at this;exact this
  have hres:kd5 (kcn s)=kd5 (kjd,((a+1:Nat):Int),1):=by
   unfold kcn kfj;rw[hd]
  have ha:a<=1000000:=by
   have:=qng (kbf s) (a:=a) hd;omega
  obtain⟨z6,e6,j6⟩:=qnb S6 k2 k5 ha;rw[hres];exact kc0 kA (kc0 eA1 (kjt (e:= .ret) (Ev.seq (Ev.reg e5) (Ev.cond (x:= .t 14) (t:=true) (kbs k14) e6)) (by intro h;cases h) j6))
theorem k3s (s:Bs) (hl:s.length<=900000) {p:Td×Int×Int} (h:p=kcn s):kak FF 10 [.str s] (.tup [p.1.av,.int .i64 p.2.1,.int .i64 p.2.2]):=by
 subst h;exact qqd s hl
end Go.Proofs.Hz
