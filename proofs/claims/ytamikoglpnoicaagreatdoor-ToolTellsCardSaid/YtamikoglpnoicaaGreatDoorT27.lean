/-
  Chapter 15: call.Parse is parseF.
  Conditions: none.
-/
import Derived.Test.YtamikoglpnoicaaGreatDoorT26
open Go Go.Proofs
namespace Go.Proofs.Hz
open Int renaming toNat->yad
open Go.IntKind renaming signed->yap,wrap->yar,bits->yas
open Go.Lib renaming indexByte->yaa
open List renaming mem_cons->yab,not_mem_nil->yac,cons_append->yae,zipWith->yag,nil_append->yah,length_singleton->yai,drop->yaj,take->yak,length_pos_iff->yal,zip->yam,append_assoc->yan,flatten_cons->yao,length->yat
open OkO renaming own->yaq
open Prod.mk renaming injEq->yaf
set_option maxRecDepth 20000
noncomputable def lnX:AC:= .seq lnA (.block 1 (.seq ln3 (.seq lnM (.seq (.reg lnY) (.cond (.t 24) .ret .skip)))))
structure LOk (σ:Nat->Nat) (l:ALoop):Prop where
 st:l.st=0
 pend:l.pend=none
 ps:l.ps=[12]
 asg:l.asg=paG
 body:l.body=paH
 regs: ∀ j,j<5->l.r.get (j+2)=some (.ptr (σ j) 0)
def Agree (σ σ':Nat->Nat):Prop:=∀ j,j<7->σ' j=σ j
def AgreeE (σ σ':Nat->Nat):Prop:=σ' 0=σ 0/\σ' 1=σ 1/\σ' 2=σ 2/\σ' 3=σ 6
theorem lt7 {j:Nat} (h:j<7):j=0\/j=1\/j=2\/j=3\/j=4\/j=5\/j=6:=by omega
theorem LOk.agree {σ σ':Nat->Nat} {l:ALoop} (L:LOk σ l) (h:Agree σ σ'):LOk σ' l:=⟨L.st,L.pend,L.ps,L.asg,L.body,fun j hj=>by rw[h j (by omega)];exact L.regs j hj⟩
theorem Agree.trans {a b c:Nat->Nat} (h1:Agree a b) (h2:Agree b c):Agree a c:=fun j hj=>(h2 j hj).trans (h1 j hj)
theorem kbs {z:St} {t:Nat} {v:AV} (h:z.r.get t=some v):z.rg t=v:=by unfold St.rg;rw[h];rfl
theorem kdp {z:St} {d t:Nat} {v:AV} (h:t≠d):(z.set (some d) v).r.get t=z.r.get t:=by
 show(z.r.put d (some v)).get t=_;rw[T.get_put,ir (Ne.symm h)]
theorem kde {z:St} {d:Nat} {v:AV}:(z.set (some d) v).r.get d=some v:=by
 show(z.r.put d (some v)).get d=_;rw[T.get_put,iq rfl]
theorem kk3 {z s3:St} {id:Nat} {line:List UInt8} {b:Bool} (h0:z.r.get 0=some (.yld id)) (h3:z.r.get 3=some (.str line))
  (hR:Rnd FF id [.str line] ((z.set (some 21) (.yld id)).set (some 22) (.str line)) (.bool b) s3):Ev FF (.reg lnY) z .nrm ((s3.set (some 23) (.bool b)).set (some 24) (.bool (!b))):=by
 have e22:(AO.t 22).ev ((z.set (some 21) (.yld id)).set (some 22) (.str line))= .str line:=kbs kde;have e21:(AO.t 21).ev ((z.set (some 21) (.yld id)).set (some 22) (.str line))= .yld id:=kbs (by rw[kdp (by decide)];exact kde);refine Ev.reg (EvR.op (v:= .yld id) (s1:=z) (fun n=> ?_) (EvR.op (v:= .str line) (s1:=z.set (some 21) (.yld id)) (fun n=> ?_) (EvR.round (v:= .bool b) (id:=id) (s1:=s3) e21 ?_ (EvR.op (v:= .bool (!b)) (s1:=s3.set (some 23) (.bool b)) (fun n=> ?_) (EvR.nil _)))))
 ·show some (z.rg 0,z)=_;rw[kbs h0]
 ·show some ((z.set (some 21) (.yld id)).rg 3,_)=_;rw[kbs (by rw[kdp (by decide)];exact h3)]
 ·rw[show [AO.t 22].map (AO.ev ((z.set (some 21) (.yld id)).set (some 22) (.str line)))=[.str line] from by rw[List.map_singleton,e22]];exact hR
 ·show opA (s3.set (some 23) (.bool b)) (.un .not (.t 23))=_;have e23:(AO.t 23).ev (s3.set (some 23) (.bool b))= .bool b:=kbs kde;simp only[opA,e23];rfl
theorem khf {z s3:St} {x y v w:AV} {t:Nat} (h1:t≠21) (h2:t≠22) (h3:t≠23) (h4:t≠24) (hr:s3.r=((z.set (some 21) x).set (some 22) y).r):((s3.set (some 23) v).set (some 24) w).r.get t=z.r.get t:=by
 rw[kdp h4,kdp h3,hr,kdp h2,kdp h1]
theorem k46 {a n:Nat} (h:a+n<=1000000):w64 ((a:Int)+(n:Int))=((a+n:Nat):Int):=by
 unfold w64 yar;simp[yap,yas];omega
theorem kph {i:Int} {n:Nat} (h0:0<=i) (h:i<n) (hn:n<=1000000):w64 (i+1)=i+1:=by
 unfold w64 yar;simp[yap,yas];omega
theorem Sim.hp' {ρ:Val} {s c:St} (S:Sim ρ s c) (id:Nat) (l:ALoop) {i:Nat} (hi:ρ.σ id=i):Sim ρ {s with h:=s.h.put id (some (.loop l))} (c.hp i (.loop l)):=by
 subst hi;exact S.put' id (.loop l)
theorem kns {l:ALoop} (h1:l.st=0) (h2:l.pend=none):({({l with st:=1}:ALoop) with st:=0,pend:=none}:ALoop)=l:=by
 cases l;simp only at h1 h2;subst h1;subst h2;rfl
theorem qbh (out:List Cl) (a:Nat) (rest line:List UInt8) {z:St} {σ:Nat->Nat} (l:ALoop) (hσ: ∀ i j,σ i=σ j->i=j) (L:LOk σ l) (S:Sim (VL0 out a rest line σ) (kaa [0,1,3] [.yld 6,.ptr 5 0,vt 2] (bk0 l)) z) (hl:line.length<=1000000) (h0:kau line=true) (hw:a+line.length<=1000000):
  ∃ z' σ',Ev FF (.reg lnY) z .nrm z'/\z'.r.get 24=some (.bool false)/\Agree σ σ'/\Sim (V1 [kas line] (a+line.length) rest σ') (kaa [0,1] w01 (bk1 l)) z':=by
 have h0r:z.r.get 0=some (.yld (σ 6)):=S.regs 0 (.yld 6) (by kernel_rfl);have h1r:z.r.get 1=some (.ptr (σ 5) 0):=S.regs 1 (.ptr 5 0) (by kernel_rfl);have h3r:z.r.get 3=some (.str line):=S.regs 3 (vt 2) (by kernel_rfl);have hL:z.h.get (σ 6)=some (.loop l):=S.heap.get 6 (.loop l) (by kernel_rfl);have SA:Sim (VL0 out a rest line σ) (kaa [2,3,4,5,6,12] (wP++[vt 2]) (bk0 l)) {r:=kel l.r l.ps [.str line],h:=z.h,nx:=z.nx}:=by
  refine S.regs' (fun t u hu=> ?_) rfl rfl rfl rfl;have hm:=kbw (show(ofL ([2,3,4,5,6,12].zip (wP++[vt 2]))).get t=some u from hu);rw[L.ps];show(l.r.put 12 (some (.str line))).get t=_;rw[T.get_put];simp only[wP,yam,yag,yae,yah,yab,yaf,yac,or_false] at hm;rcases hm with⟨rfl,rfl⟩ | ⟨rfl,rfl⟩ | ⟨rfl,rfl⟩ | ⟨rfl,rfl⟩ | ⟨rfl,rfl⟩ | ⟨rfl,rfl⟩
  ·exact L.regs 0 (by decide)
  ·exact L.regs 1 (by decide)
  ·exact L.regs 2 (by decide)
  ·exact L.regs 3 (by decide)
  ·exact L.regs 4 (by decide)
  ·rfl
 obtain⟨zB,eB,SB⟩:=k0b out a rest line l hσ SA;have hB:zB.h.get (σ 6)=some (.loop l):=SB.heap.get 6 (.loop l) (by kernel_rfl);have SC:=SB.hp' 6 {l with st:=1} (i:=σ 6) (by kernel_rfl);rw[show({kaa [2,3,4,5,6,7] (wP++[vt 2]) (bk0 l) with h:=(kaa [2,3,4,5,6,7] (wP++[vt 2]) (bk0 l)).h.put 6 (some (.loop {l with st:=1}))}:St)=kaa [2,3,4,5,6,7] (wP++[vt 2]) (bk0 {l with st:=1}) by kernel_rfl] at SC;obtain⟨zC,eC,SD⟩:=qed out a rest line {l with st:=1} SB.heap.inj SC hl h0 (k46 hw);have hD:zC.h.get (σ 6)=some (.loop {l with st:=1}):=SD.heap.get 6 (.loop {l with st:=1}) (by kernel_rfl);have hR:=Rnd.mk (F:=FF) (id:=σ 6) (args:=[.str line]) (s:=(z.set (some 21) (.yld (σ 6))).set (some 22) (.str line)) (l:=l) (s1:=zB) (s2:=zC) (l1:=l) (l2:={l with st:=1}) (e:= .nrm) hL (by rw[L.ps];rfl) (by rw[L.asg];exact eB) hB L.st ((congrArg (fun b=>Ev FF b (zB.hp (σ 6) (.loop {l with st:=1})) .nrm zC) L.body).mpr eC) hD;have hy:=kk3 h0r h3r hR;refine⟨_,sig (sig σ [0,1,2,3,4,5,6] 7) [0,1,2,3,4,5,6,9] 10,hy,kde,?_,?_⟩
 ·intro j hj;rcases lt7 hj with rfl |rfl |rfl |rfl |rfl |rfl |rfl <;> rfl
 ·have SE:=SD.hp' 6 l (i:=σ 6) (by kernel_rfl);rw[show({kaa [] [] (bk1 {l with st:=1}) with h:=(kaa [] [] (bk1 {l with st:=1})).h.put 6 (some (.loop l))}:St)=kaa [] [] (bk1 l) by kernel_rfl] at SE;refine SE.regs' (fun t u hu=> ?_) rfl ?_ rfl rfl
  ·have hm:=kbw (show(ofL ([0,1].zip w01)).get t=some u from hu);simp only[w01,yam,yag,yab,yaf,yac,or_false] at hm;rcases hm with⟨rfl,rfl⟩ | ⟨rfl,rfl⟩
   ·exact(khf (z:=z) (x:= .yld (σ 6)) (y:= .str line) (by decide) (by decide) (by decide) (by decide) rfl).trans (h0r.trans (by kernel_rfl))
   ·exact(khf (z:=z) (x:= .yld (σ 6)) (y:= .str line) (by decide) (by decide) (by decide) (by decide) rfl).trans (h1r.trans (by kernel_rfl))
  ·show zC.h.put (σ 6) (some (.loop ({({l with st:=1}:ALoop) with st:=0,pend:=none}:ALoop)))=zC.h.put (σ 6) (some (.loop l));rw[kns L.st L.pend]
theorem qbd (out:List Cl) (a:Nat) (rest line:List UInt8) {z:St} {σ:Nat->Nat} (l:ALoop) (hσ: ∀ i j,σ i=σ j->i=j) (L:LOk σ l) (S:Sim (VL0 out a rest line σ) (kaa [0,1,3] [.yld 6,.ptr 5 0,vt 2] (bk0 l)) z) (hl:line.length<=1000000) (h0: ¬kau line=true):
  ∃ z' σ',Ev FF (.reg lnY) z .nrm z'/\z'.r.get 24=some (.bool true)/\AgreeE σ σ'/\Sim (VE4 a σ') (kaa [] [] (kdk {l with st:=2,pend:=some .ret})) z':=by
 have h0r:z.r.get 0=some (.yld (σ 6)):=S.regs 0 (.yld 6) (by kernel_rfl);have h1r:z.r.get 1=some (.ptr (σ 5) 0):=S.regs 1 (.ptr 5 0) (by kernel_rfl);have h3r:z.r.get 3=some (.str line):=S.regs 3 (vt 2) (by kernel_rfl);have hL:z.h.get (σ 6)=some (.loop l):=S.heap.get 6 (.loop l) (by kernel_rfl);have SA:Sim (VL0 out a rest line σ) (kaa [2,3,4,5,6,12] (wP++[vt 2]) (bk0 l)) {r:=kel l.r l.ps [.str line],h:=z.h,nx:=z.nx}:=by
  refine S.regs' (fun t u hu=> ?_) rfl rfl rfl rfl;have hm:=kbw (show(ofL ([2,3,4,5,6,12].zip (wP++[vt 2]))).get t=some u from hu);rw[L.ps];show(l.r.put 12 (some (.str line))).get t=_;rw[T.get_put];simp only[wP,yam,yag,yae,yah,yab,yaf,yac,or_false] at hm;rcases hm with⟨rfl,rfl⟩ | ⟨rfl,rfl⟩ | ⟨rfl,rfl⟩ | ⟨rfl,rfl⟩ | ⟨rfl,rfl⟩ | ⟨rfl,rfl⟩
  ·exact L.regs 0 (by decide)
  ·exact L.regs 1 (by decide)
  ·exact L.regs 2 (by decide)
  ·exact L.regs 3 (by decide)
  ·exact L.regs 4 (by decide)
  ·rfl
 obtain⟨zB,eB,SB⟩:=k0b out a rest line l hσ SA;have hB:zB.h.get (σ 6)=some (.loop l):=SB.heap.get 6 (.loop l) (by kernel_rfl);have SC:=SB.hp' 6 {l with st:=1} (i:=σ 6) (by kernel_rfl);rw[show({kaa [2,3,4,5,6,7] (wP++[vt 2]) (bk0 l) with h:=(kaa [2,3,4,5,6,7] (wP++[vt 2]) (bk0 l)).h.put 6 (some (.loop {l with st:=1}))}:St)=kaa [2,3,4,5,6,7] (wP++[vt 2]) (bk0 {l with st:=1}) by kernel_rfl] at SC;obtain⟨zC,eC,SD⟩:=qd8 out a rest line {l with st:=1} SB.heap.inj SC hl h0;have hD:zC.h.get (σ 6)=some (.loop {l with st:=1}):=SD.heap.get 3 (.loop {l with st:=1}) (by kernel_rfl);have hR:=Rnd.mk (F:=FF) (id:=σ 6) (args:=[.str line]) (s:=(z.set (some 21) (.yld (σ 6))).set (some 22) (.str line)) (l:=l) (s1:=zB) (s2:=zC) (l1:=l) (l2:={l with st:=1}) (e:= .ret) hL (by rw[L.ps];rfl) (by rw[L.asg];exact eB) hB L.st ((congrArg (fun b=>Ev FF b (zB.hp (σ 6) (.loop {l with st:=1})) .ret zC) L.body).mpr eC) hD;have hy:=kk3 h0r h3r hR;refine⟨_,sig (sig σ [0,1,2,3,4,5,6] 7) [0,1,2,6] 12,hy,kde,?_,?_⟩
 ·exact⟨rfl,rfl,rfl,rfl⟩
 ·have SE:=SD.hp' 3 {l with st:=2,pend:=some .ret} (i:=σ 6) (by kernel_rfl);rw[show({kaa [] [] (kdk {l with st:=1}) with h:=(kaa [] [] (kdk {l with st:=1})).h.put 3 (some (.loop {l with st:=2,pend:=some .ret}))}:St)=kaa [] [] (kdk {l with st:=2,pend:=some .ret}) by kernel_rfl] at SE;refine SE.regs' (fun t u hu=> ?_) rfl rfl rfl rfl;rw[show(kaa [] [] (kdk {l with st:=2,pend:=some .ret})).r.get t=none from T.get_nil _] at hu;cases hu
theorem qbl (out:List Cl) (a:Nat) (rest:List UInt8) {z:St} {σ:Nat->Nat} (l:ALoop) (hσ: ∀ i j,σ i=σ j->i=j) (S:Sim (V0 out a rest σ) (kaa [0,1] w01 (bk0 l)) z) (hne:rest≠[]) (hr:rest.length<=1000000):
  ∃ z1 σ1,Ev FF (.seq lnA (.seq ln3 lnM)) z .nrm z1/\Agree σ σ1/\Sim (VL0 out a (kap rest).2 (kap rest).1 σ1) (kaa [0,1,3] [.yld 6,.ptr 5 0,vt 2] (bk0 l)) z1:=by
 have h0:(yat rest:Int) > 0:=by
  have:=yal.2 hne;omega
 by_cases h1:yaa rest 10 ≥ 0
 ·have hlt:yaa rest 10<rest.length:=by
   rcases kll rest with h |h
   ·exact h
   ·exact absurd h hne
  have hw:=kph h1 hlt hr;obtain⟨z1,e1,S1⟩:=qbj out a rest l hσ S h0 h1 (by rw[hw];omega);rw[hw,(kgs h1).1,(kgs h1).2] at S1;exact⟨z1,_,e1,fun j hj=>by rcases lt7 hj with rfl |rfl |rfl |rfl |rfl |rfl |rfl <;> rfl,S1⟩
 ·obtain⟨z1,e1,S1⟩:=qbo out a rest l hσ S h0 h1;rw[klb h1];exact⟨z1,_,e1,fun j hj=>by rcases lt7 hj with rfl |rfl |rfl |rfl |rfl |rfl |rfl <;> rfl,S1⟩
theorem qbq (out:List Cl) (a:Nat) (rest:List UInt8) {z:St} {σ:Nat->Nat} (l:ALoop) (hσ: ∀ i j,σ i=σ j->i=j) (L:LOk σ l) (S:Sim (V0 out a rest σ) (kaa [0,1] w01 (bk0 l)) z) (hne:rest≠[]) (hr:a+rest.length<=1000000):
  (kau (kap rest).1=true-> ∃ z2 σ2,Ev FF lnX z .nrm z2/\Agree σ σ2/\Sim (V1 [kas (kap rest).1] (a+(kap rest).1.length) (kap rest).2 σ2) (kaa [0,1] w01 (bk1 l)) z2)/\
  (¬kau (kap rest).1=true-> ∃ z2 σ2,Ev FF lnX z .ret z2/\AgreeE σ σ2/\Sim (VE4 a σ2) (kaa [] [] (kdk {l with st:=2,pend:=some .ret})) z2):=by
 obtain⟨z1,σ1,e1,g1,S1⟩:=qbl out a rest l hσ S hne (by omega);obtain⟨z0,eA,e3⟩:=e1.seqI;have hlen:=kev rest;refine⟨fun h=> ?_,fun h=> ?_⟩
 ·obtain⟨z2,σ2,e2,h24,g2,S2⟩:=qbh out a _ _ l S1.heap.inj (L.agree g1) S1 (by omega) h (by omega);refine⟨z2,σ2,?_,g1.trans g2,S2⟩;exact eA.seq (Ev.block (id:=1) (e3.assoc (e2.seq (Ev.cond (x:= .t 24) (t:=false) (kbs h24) (Ev.skip _)))))
 ·obtain⟨z2,σ2,e2,h24,g2,S2⟩:=qbd out a _ _ l S1.heap.inj (L.agree g1) S1 (by omega) h;refine⟨z2,σ2,?_,⟨g2.1.trans (g1 0 (by decide)),g2.2.1.trans (g1 1 (by decide)),g2.2.2.1.trans (g1 2 (by decide)),g2.2.2.2.trans (g1 6 (by decide))⟩,S2⟩;exact eA.seq (Ev.block (id:=1) (e3.assoc (e2.seq (Ev.cond (x:= .t 24) (t:=true) (kbs h24) (Ev.ret _)))))
theorem qbi (out:List Cl) (a:Nat) (rest line:List UInt8) {z:St} {σ:Nat->Nat} (l:ALoop) (hσ: ∀ i j,σ i=σ j->i=j) (L:LOk σ l) (S:Sim (VL1 out a rest line σ) (kaa [0,1,3] [.yld 6,.ptr 5 0,vt 2] (bk1 l)) z) (hl:line.length<=1000000) (ho:out.length<=1000000) (h0:kau line=true) (hw:a+line.length<=1000000):
  ∃ z' σ',Ev FF (.reg lnY) z .nrm z'/\z'.r.get 24=some (.bool false)/\Agree σ σ'/\Sim (V1 (out++[kas line]) (a+line.length) rest σ') (kaa [0,1] w01 (bk1 l)) z':=by
 have h0r:z.r.get 0=some (.yld (σ 6)):=S.regs 0 (.yld 6) (by kernel_rfl);have h1r:z.r.get 1=some (.ptr (σ 5) 0):=S.regs 1 (.ptr 5 0) (by kernel_rfl);have h3r:z.r.get 3=some (.str line):=S.regs 3 (vt 2) (by kernel_rfl);have hL:z.h.get (σ 6)=some (.loop l):=S.heap.get 6 (.loop l) (by kernel_rfl);have SA:Sim (VL1 out a rest line σ) (kaa [2,3,4,5,6,12] (wP++[vt 2]) (bk1 l)) {r:=kel l.r l.ps [.str line],h:=z.h,nx:=z.nx}:=by
  refine S.regs' (fun t u hu=> ?_) rfl rfl rfl rfl;have hm:=kbw (show(ofL ([2,3,4,5,6,12].zip (wP++[vt 2]))).get t=some u from hu);rw[L.ps];show(l.r.put 12 (some (.str line))).get t=_;rw[T.get_put];simp only[wP,yam,yag,yae,yah,yab,yaf,yac,or_false] at hm;rcases hm with⟨rfl,rfl⟩ | ⟨rfl,rfl⟩ | ⟨rfl,rfl⟩ | ⟨rfl,rfl⟩ | ⟨rfl,rfl⟩ | ⟨rfl,rfl⟩
  ·exact L.regs 0 (by decide)
  ·exact L.regs 1 (by decide)
  ·exact L.regs 2 (by decide)
  ·exact L.regs 3 (by decide)
  ·exact L.regs 4 (by decide)
  ·rfl
 obtain⟨zB,eB,SB⟩:=k0c out a rest line l hσ SA;have hB:zB.h.get (σ 6)=some (.loop l):=SB.heap.get 6 (.loop l) (by kernel_rfl);have SC:=SB.hp' 6 {l with st:=1} (i:=σ 6) (by kernel_rfl);rw[show({kaa [2,3,4,5,6,7] (wP++[vt 2]) (bk1 l) with h:=(kaa [2,3,4,5,6,7] (wP++[vt 2]) (bk1 l)).h.put 6 (some (.loop {l with st:=1}))}:St)=kaa [2,3,4,5,6,7] (wP++[vt 2]) (bk1 {l with st:=1}) by kernel_rfl] at SC;obtain⟨zC,eC,SD⟩:=qee out a rest line {l with st:=1} SB.heap.inj SC hl ho h0 (k46 hw);have hD:zC.h.get (σ 6)=some (.loop {l with st:=1}):=SD.heap.get 6 (.loop {l with st:=1}) (by kernel_rfl);have hR:=Rnd.mk (F:=FF) (id:=σ 6) (args:=[.str line]) (s:=(z.set (some 21) (.yld (σ 6))).set (some 22) (.str line)) (l:=l) (s1:=zB) (s2:=zC) (l1:=l) (l2:={l with st:=1}) (e:= .nrm) hL (by rw[L.ps];rfl) (by rw[L.asg];exact eB) hB L.st ((congrArg (fun b=>Ev FF b (zB.hp (σ 6) (.loop {l with st:=1})) .nrm zC) L.body).mpr eC) hD;have hy:=kk3 h0r h3r hR;refine⟨_,sig (sig σ [0,1,2,3,4,5,6,7] 8) [0,1,2,3,4,5,6,10] 11,hy,kde,?_,?_⟩
 ·intro j hj;rcases lt7 hj with rfl |rfl |rfl |rfl |rfl |rfl |rfl <;> rfl
 ·have SE:=SD.hp' 6 l (i:=σ 6) (by kernel_rfl);rw[show({kaa [] [] (bk1 {l with st:=1}) with h:=(kaa [] [] (bk1 {l with st:=1})).h.put 6 (some (.loop l))}:St)=kaa [] [] (bk1 l) by kernel_rfl] at SE;refine SE.regs' (fun t u hu=> ?_) rfl ?_ rfl rfl
  ·have hm:=kbw (show(ofL ([0,1].zip w01)).get t=some u from hu);simp only[w01,yam,yag,yab,yaf,yac,or_false] at hm;rcases hm with⟨rfl,rfl⟩ | ⟨rfl,rfl⟩
   ·exact(khf (z:=z) (x:= .yld (σ 6)) (y:= .str line) (by decide) (by decide) (by decide) (by decide) rfl).trans (h0r.trans (by kernel_rfl))
   ·exact(khf (z:=z) (x:= .yld (σ 6)) (y:= .str line) (by decide) (by decide) (by decide) (by decide) rfl).trans (h1r.trans (by kernel_rfl))
  ·show zC.h.put (σ 6) (some (.loop ({({l with st:=1}:ALoop) with st:=0,pend:=none}:ALoop)))=zC.h.put (σ 6) (some (.loop l));rw[kns L.st L.pend]
theorem qbe (out:List Cl) (a:Nat) (rest line:List UInt8) {z:St} {σ:Nat->Nat} (l:ALoop) (hσ: ∀ i j,σ i=σ j->i=j) (L:LOk σ l) (S:Sim (VL1 out a rest line σ) (kaa [0,1,3] [.yld 6,.ptr 5 0,vt 2] (bk1 l)) z) (hl:line.length<=1000000) (h0: ¬kau line=true):
  ∃ z' σ',Ev FF (.reg lnY) z .nrm z'/\z'.r.get 24=some (.bool true)/\AgreeE σ σ'/\Sim (VE4 a σ') (kaa [] [] (kdk {l with st:=2,pend:=some .ret})) z':=by
 have h0r:z.r.get 0=some (.yld (σ 6)):=S.regs 0 (.yld 6) (by kernel_rfl);have h1r:z.r.get 1=some (.ptr (σ 5) 0):=S.regs 1 (.ptr 5 0) (by kernel_rfl);have h3r:z.r.get 3=some (.str line):=S.regs 3 (vt 2) (by kernel_rfl);have hL:z.h.get (σ 6)=some (.loop l):=S.heap.get 6 (.loop l) (by kernel_rfl);have SA:Sim (VL1 out a rest line σ) (kaa [2,3,4,5,6,12] (wP++[vt 2]) (bk1 l)) {r:=kel l.r l.ps [.str line],h:=z.h,nx:=z.nx}:=by
  refine S.regs' (fun t u hu=> ?_) rfl rfl rfl rfl;have hm:=kbw (show(ofL ([2,3,4,5,6,12].zip (wP++[vt 2]))).get t=some u from hu);rw[L.ps];show(l.r.put 12 (some (.str line))).get t=_;rw[T.get_put];simp only[wP,yam,yag,yae,yah,yab,yaf,yac,or_false] at hm;rcases hm with⟨rfl,rfl⟩ | ⟨rfl,rfl⟩ | ⟨rfl,rfl⟩ | ⟨rfl,rfl⟩ | ⟨rfl,rfl⟩ | ⟨rfl,rfl⟩
  ·exact L.regs 0 (by decide)
  ·exact L.regs 1 (by decide)
  ·exact L.regs 2 (by decide)
  ·exact L.regs 3 (by decide)
  ·exact L.regs 4 (by decide)
  ·rfl
 obtain⟨zB,eB,SB⟩:=k0c out a rest line l hσ SA;have hB:zB.h.get (σ 6)=some (.loop l):=SB.heap.get 6 (.loop l) (by kernel_rfl);have SC:=SB.hp' 6 {l with st:=1} (i:=σ 6) (by kernel_rfl);rw[show({kaa [2,3,4,5,6,7] (wP++[vt 2]) (bk1 l) with h:=(kaa [2,3,4,5,6,7] (wP++[vt 2]) (bk1 l)).h.put 6 (some (.loop {l with st:=1}))}:St)=kaa [2,3,4,5,6,7] (wP++[vt 2]) (bk1 {l with st:=1}) by kernel_rfl] at SC;obtain⟨zC,eC,SD⟩:=qd9 out a rest line {l with st:=1} SB.heap.inj SC hl h0;have hD:zC.h.get (σ 6)=some (.loop {l with st:=1}):=SD.heap.get 3 (.loop {l with st:=1}) (by kernel_rfl);have hR:=Rnd.mk (F:=FF) (id:=σ 6) (args:=[.str line]) (s:=(z.set (some 21) (.yld (σ 6))).set (some 22) (.str line)) (l:=l) (s1:=zB) (s2:=zC) (l1:=l) (l2:={l with st:=1}) (e:= .ret) hL (by rw[L.ps];rfl) (by rw[L.asg];exact eB) hB L.st ((congrArg (fun b=>Ev FF b (zB.hp (σ 6) (.loop {l with st:=1})) .ret zC) L.body).mpr eC) hD;have hy:=kk3 h0r h3r hR;refine⟨_,sig (sig σ [0,1,2,3,4,5,6,7] 8) [0,1,2,6] 13,hy,kde,?_,?_⟩
 ·exact⟨rfl,rfl,rfl,rfl⟩
 ·have SE:=SD.hp' 3 {l with st:=2,pend:=some .ret} (i:=σ 6) (by kernel_rfl);rw[show({kaa [] [] (kdk {l with st:=1}) with h:=(kaa [] [] (kdk {l with st:=1})).h.put 3 (some (.loop {l with st:=2,pend:=some .ret}))}:St)=kaa [] [] (kdk {l with st:=2,pend:=some .ret}) by kernel_rfl] at SE;refine SE.regs' (fun t u hu=> ?_) rfl rfl rfl rfl;rw[show(kaa [] [] (kdk {l with st:=2,pend:=some .ret})).r.get t=none from T.get_nil _] at hu;cases hu
theorem qbm (out:List Cl) (a:Nat) (rest:List UInt8) {z:St} {σ:Nat->Nat} (l:ALoop) (hσ: ∀ i j,σ i=σ j->i=j) (S:Sim (V1 out a rest σ) (kaa [0,1] w01 (bk1 l)) z) (hne:rest≠[]) (hr:rest.length<=1000000):
  ∃ z1 σ1,Ev FF (.seq lnA (.seq ln3 lnM)) z .nrm z1/\Agree σ σ1/\Sim (VL1 out a (kap rest).2 (kap rest).1 σ1) (kaa [0,1,3] [.yld 6,.ptr 5 0,vt 2] (bk1 l)) z1:=by
 have h0:(yat rest:Int) > 0:=by
  have:=yal.2 hne;omega
 by_cases h1:yaa rest 10 ≥ 0
 ·have hlt:yaa rest 10<rest.length:=by
   rcases kll rest with h |h
   ·exact h
   ·exact absurd h hne
  have hw:=kph h1 hlt hr;obtain⟨z1,e1,S1⟩:=qbk out a rest l hσ S h0 h1 (by rw[hw];omega);rw[hw,(kgs h1).1,(kgs h1).2] at S1;exact⟨z1,_,e1,fun j hj=>by rcases lt7 hj with rfl |rfl |rfl |rfl |rfl |rfl |rfl <;> rfl,S1⟩
 ·obtain⟨z1,e1,S1⟩:=qbp out a rest l hσ S h0 h1;rw[klb h1];exact⟨z1,_,e1,fun j hj=>by rcases lt7 hj with rfl |rfl |rfl |rfl |rfl |rfl |rfl <;> rfl,S1⟩
theorem qbr (out:List Cl) (a:Nat) (rest:List UInt8) {z:St} {σ:Nat->Nat} (l:ALoop) (hσ: ∀ i j,σ i=σ j->i=j) (L:LOk σ l) (S:Sim (V1 out a rest σ) (kaa [0,1] w01 (bk1 l)) z) (hne:rest≠[]) (hr:a+rest.length<=1000000) (ho:out.length<=1000000):
  (kau (kap rest).1=true-> ∃ z2 σ2,Ev FF lnX z .nrm z2/\Agree σ σ2/\Sim (V1 (out++[kas (kap rest).1]) (a+(kap rest).1.length) (kap rest).2 σ2) (kaa [0,1] w01 (bk1 l)) z2)/\
  (¬kau (kap rest).1=true-> ∃ z2 σ2,Ev FF lnX z .ret z2/\AgreeE σ σ2/\Sim (VE4 a σ2) (kaa [] [] (kdk {l with st:=2,pend:=some .ret})) z2):=by
 obtain⟨z1,σ1,e1,g1,S1⟩:=qbm out a rest l hσ S hne (by omega);obtain⟨z0,eA,e3⟩:=e1.seqI;have hlen:=kev rest;refine⟨fun h=> ?_,fun h=> ?_⟩
 ·obtain⟨z2,σ2,e2,h24,g2,S2⟩:=qbi out a _ _ l S1.heap.inj (L.agree g1) S1 (by omega) ho h (by omega);refine⟨z2,σ2,?_,g1.trans g2,S2⟩;exact eA.seq (Ev.block (id:=1) (e3.assoc (e2.seq (Ev.cond (x:= .t 24) (t:=false) (kbs h24) (Ev.skip _)))))
 ·obtain⟨z2,σ2,e2,h24,g2,S2⟩:=qbe out a _ _ l S1.heap.inj (L.agree g1) S1 (by omega) h;refine⟨z2,σ2,?_,⟨g2.1.trans (g1 0 (by decide)),g2.2.1.trans (g1 1 (by decide)),g2.2.2.1.trans (g1 2 (by decide)),g2.2.2.2.trans (g1 6 (by decide))⟩,S2⟩;exact eA.seq (Ev.block (id:=1) (e3.assoc (e2.seq (Ev.cond (x:= .t 24) (t:=true) (kbs h24) (Ev.ret _)))))
def kwr (res:List Cl×Nat×Int) (σ:Nat->Nat) (l:ALoop) (z:St):Prop:=
 (res.1≠[]/\res.2.2=0/\ ∃ z' σ' rest',Ev FF (.loop lnX) z (.ext 0) z'/\Agree σ σ'/\Sim (V1 res.1 res.2.1 rest' σ') (kaa [] [] (bk1 l)) z')\/
 (res.1=[]/\res.2.2=1/\ ∃ z' σ',Ev FF (.loop lnX) z .ret z'/\AgreeE σ σ'/\Sim (VE4 res.2.1 σ') (kaa [] [] (kdk {l with st:=2,pend:=some .ret})) z')
theorem AgreeE.of {a b c:Nat->Nat} (h1:Agree a b) (h2:AgreeE b c):AgreeE a c:=⟨h2.1.trans (h1 0 (by decide)),h2.2.1.trans (h1 1 (by decide)),h2.2.2.1.trans (h1 2 (by decide)),h2.2.2.2.trans (h1 6 (by decide))⟩
theorem qbn (l:ALoop): ∀ (n:Nat) (out:List Cl) (a:Nat) (rest:List UInt8) {z:St} {σ:Nat->Nat},out≠[]->rest.length<n->out.length+rest.length<=1000000->a+rest.length<=1000000->(∀ i j,σ i=σ j->i=j)->LOk σ l->
  Sim (V1 out a rest σ) (kaa [0,1] w01 (bk1 l)) z->kwr (kff n out a rest) σ l z:=by
 intro n
 induction n with
 |zero=>intro out a rest z σ _ h;omega
 |succ n ih=>
  intro out a rest z σ hout hn h1 h2 hσ L S;unfold kff;by_cases hr:rest=[]
  ·rw[iq hr];obtain⟨z1,e1,S1⟩:=qbg out a rest l hσ S (by rw[hr];simp);refine .inl ⟨hout,rfl,z1,_,_,Ev.loopJ (e1.seqJ (by intro h;cases h)) (by intro h;cases h),?_,S1⟩;intro j hj;rcases lt7 hj with rfl |rfl |rfl |rfl |rfl |rfl |rfl <;> rfl
  ·rw[ir hr];have hlen:=kev rest;have hpos:=kfs hr;obtain⟨hg,hb⟩:=qbr out a rest l hσ L S hr h2 (by omega);by_cases hk:kau (kap rest).1=true
   ·rw[iq hk];obtain⟨z2,σ2,e2,g2,S2⟩:=hg hk;rcases ih (out++[kas (kap rest).1]) (a+(kap rest).1.length) (kap rest).2 (by simp) (by omega) (by rw[List.length_append,yai];omega) (by omega) S2.heap.inj (L.agree g2) S2 with⟨x1,x2,z',σ',rest',x3,x4,x5⟩ | ⟨x1,x2,z',σ',x3,x4,x5⟩
    ·exact .inl ⟨x1,x2,z',σ',rest',e2.loop x3,g2.trans x4,x5⟩
    ·exact .inr ⟨x1,x2,z',σ',e2.loop x3,AgreeE.of g2 x4,x5⟩
   ·rw[ir hk];obtain⟨z2,σ2,e2,g2,S2⟩:=hb hk;exact .inr ⟨rfl,rfl,z2,σ2,Ev.loopJ e2 (by intro h;cases h),g2,S2⟩
abbrev Bs:=List UInt8
structure Mov where
 kind:Int
 n:Int
structure Dt where
 n0:Int
 n1:Int
 n2:Int
 t:List (List Cl)
 m:List Mov
def kaz:Bs:=[99,111,114,101,115]
def ka0:Bs:=[110,111,100,101,115]
def ka1:Bs:=[112,111,114,116,115]
def kee:Bs:=[112,105,99,107]
def keg:Bs:=[116,105,99,107]
def kef:Bs:=[114,101,115,116]
def goL:Bs:=[103,111,10]
def thrL:Bs:=[116,104,114,101,97,100,10]
def hdL (w:Bs) (n:Int):Bs:=w++([32]++(kab n++[10]))
def kan (k:Int):Bs:=if k=0 then kee else if k=1 then keg else kef
def mvL (m:Mov):Bs:=hdL (kan m.kind) m.n
def ki9 (w l:Bs):Bs:=(l.drop (w.length+1)).dropLast
def kah (w l:Bs) (most:Int):Int:=
 if(w++[32]).isPrefixOf l=true/\kao l=true/\kba (ki9 w l)=true/\0<=kam (ki9 w l)/\kam (ki9 w l)<=most then kam (ki9 w l) else -1
def kcc (l:Bs):Option Mov:=
 if 0<=kah kee l 9999 then some ⟨0,kah kee l 9999⟩
 else if 0<=kah keg l 9999 then some ⟨1,kah keg l 9999⟩
 else if 0<=kah kef l 9999 then some ⟨2,kah kef l 9999⟩ else none
def khr:Nat->Bs->List Bs
 |0,_=>[]
 |n+1,s=>if s=[] then [] else(kap s).1::khr n (kap s).2
def kbf (s:Bs):List Bs:=khr (s.length+1) s
def kc8 (l:Bs) (T:List (List Cl)):Option (List (List Cl)):=
 if l=thrL then(if T.length=16 then none else some (T++[[]]))
 else if T=[]\/kau l=false\/(T.getLastD []).length=100 then none
 else some (T.dropLast++[T.getLastD []++[kas l]])
def kc4:List Bs->Nat->List (List Cl)->Option (List (List Cl))×Nat×List Bs
 | [],a,_=>(none,a,[])
 |l::ls,a,T=>if l=goL then(some T,a+1,ls) else match kc8 l T with
  |none=>(none,a,ls)
  |some T'=>kc4 ls (a+1) T'
def kdy:List Bs->Nat->List Mov->Option (List Mov)×Nat
 | [],a,M=>(some M,a)
 |l::ls,a,M=>match kcc l with
  |none=>(none,a)
  |some m=>if M.length=1000 then(none,a) else kdy ls (a+1) (M++[m])
def kc3 (L:List Bs):Option Dt×Nat:=
 if kah kaz (L.getD 0 []) 999<0 then(none,1)
 else if kah ka0 (L.getD 1 []) 999<0 then(none,2)
 else if kah ka1 (L.getD 2 []) 999<0 then(none,3)
 else match kc4 (L.drop 3) 3 [] with
  |(none,a,_)=>(none,a+1)
  |(some T,a,ls)=>match kdy ls a [] with
   |(none,a)=>(none,a+1)
   |(some M,a)=>(some ⟨kah kaz (L.getD 0 []) 999,kah ka0 (L.getD 1 []) 999,kah ka1 (L.getD 2 []) 999,T,M⟩,a)
def kfj (s:Bs):Option Dt×Nat:=kc3 (kbf s)
def kd3 (n:Int):Prop:=0<=n/\n<=999
instance (n:Int):Decidable (kd3 n):=inferInstanceAs (Decidable (_/\_))
def kbx (l:List Cl):Bool:=kd9 l && decide (l.length<=100)
def kcd (m:Mov):Bool:=decide ((0<=m.kind/\m.kind<=2)/\(0<=m.n/\m.n<=9999))
def knt (x:Dt):Bool:=decide (kd3 x.n0/\kd3 x.n1/\kd3 x.n2) && x.t.all kbx && x.m.all kcd && decide (x.t.length<=16/\x.m.length<=1000)
def kky (l:List Cl):Bs:=thrL++kbr l
def kd7 (l:List Cl):List Bs:=thrL::l.map kbo
def kfu (x:Dt):List Bs:=[hdL kaz x.n0,hdL ka0 x.n1,hdL ka1 x.n2]
def ken (x:Dt):List Bs:=kfu x++((x.t.map kd7).flatten++(goL::x.m.map mvL))
def ke7 (x:Dt):Bs:=(ken x).flatten
def kim (l:Bs):Prop:=∃ p:Bs,l=p++[10]/\(10:UInt8) ∉ p
theorem kxd {p r:Bs} (h:(10:UInt8) ∉ p):kap (p++10::r)=(p++[10],r):=by
 induction p with
 |nil=>rfl
 |cons c p ih=>
  simp only[yab,not_or] at h;rw[yae];unfold kap;rw[ir (Ne.symm h.1),ih h.2];rfl
theorem kxe {p:Bs} (h:(10:UInt8) ∉ p):kap p=(p,[]):=by
 induction p with
 |nil=>rfl
 |cons c p ih=>
  simp only[yab,not_or] at h;unfold kap;rw[ir (Ne.symm h.1),ih h.2]
theorem kyz (n:Nat):khr n []=[]:=by
 cases n with
 |zero=>rfl
 |succ n=>unfold khr;rw[iq rfl]
theorem kyy: ∀ (n m:Nat) (s:Bs),s.length<n->s.length<m->khr n s=khr m s
 |0,_,_,h,_=>by omega
 |_+1,0,_,_,h=>by omega
 |n+1,m+1,s,h1,h2=>by
  by_cases hs:s=[]
  ·subst hs;rw[kyz,kyz]
  ·have:=kev s;have:=kfs hs;unfold khr;rw[ir hs,ir hs,kyy n m _ (by omega) (by omega)]
theorem kno:kbf []=[]:=rfl
theorem ki6 {s:Bs} (hs:s≠[]):kbf s=(kap s).1::kbf (kap s).2:=by
 have:=kev s;have:=kfs hs;unfold kbf;rw[khr,ir hs,kyy _ ((kap s).2.length+1) _ (by omega) (by omega)]
theorem ky1 {l:Bs} (h:kim l) (r:Bs):kbf (l++r)=l::kbf r:=by
 obtain⟨p,rfl,hp⟩:=h;rw[ki6 (by simp),yan,show [10]++r=10::r from rfl,kxd hp]
theorem ky2: ∀ {L:List Bs},(∀ l ∈ L,kim l)-> ∀ r,kbf (L.flatten++r)=L++kbf r
 | [],_,r=>rfl
 |l::L,h,r=>by
  rw[yao,yan,ky1 (h l (by simp)),ky2 (fun x hx=>h x (by simp[hx])) r];rfl
theorem qa6 {p:Bs} (h:(10:UInt8) ∉ p):kbf p=if p=[] then [] else [p]:=by
 by_cases hp:p=[]
 ·rw[iq hp,hp];rfl
 ·rw[ir hp,ki6 hp,kxe h];rfl
theorem ky0: ∀ (n:Nat) (s:Bs),s.length<n->(kbf s).flatten=s
 |0,_,h=>by omega
 |n+1,s,h=>by
  by_cases hs:s=[]
  ·subst hs;rfl
  ·have:=kev s;have:=kfs hs;rw[ki6 hs,yao,ky0 n _ (by omega),kla]
theorem qba (s:Bs):(kbf s).flatten=s:=ky0 (s.length+1) s (by omega)
theorem k7b (s:Bs):(∃ p,(kap s).1=p++[10]/\(10:UInt8) ∉ p)\/((10:UInt8) ∉ (kap s).1/\(kap s).2=[]):=by
 induction s with
 |nil=>exact .inr ⟨by simp[kap],rfl⟩
 |cons c s ih=>
  unfold kap;split
  ·exact .inl ⟨[],rfl,by simp⟩
  ·rename_i hc;rcases ih with⟨p,h1,h2⟩ | ⟨h1,h2⟩
   ·exact .inl ⟨c::p,by simp[h1],by simp[h2,Ne.symm hc]⟩
   ·exact .inr ⟨by simp[h1,Ne.symm hc],h2⟩
noncomputable def asA:AC:=ka4 (kai FF 48).body
noncomputable def asX:AC:=kat (kai FF 48).body
noncomputable def asB:AC:=ka4 (ka4 asX)
noncomputable def asE:AC:=kat asX
noncomputable def asG:AC:=ka4 (ka4 (kat (ka4 asX)))
noncomputable def asH:AC:=kat (ka4 (kat (ka4 asX)))
theorem k6i:(kai FF 48).body= .seq asA (.seq (.seq asB (.block 0 (.rngf 13 (.t 6) [7] asG asH))) asE):=by kernel_rfl
def tdZ:List AV:=[.int .i64 0,.int .i64 0,.int .i64 0,.im [] true,.im [] true]
def u01:List AV:=[.yld 3,.ptr 1 0]
def c0 (l:ALoop):List Blk:=[.cells tdZ false 26,.cells [vt 0] false 9,.cells [.im [] true] false 56,.loop l]
def c1 (l:ALoop):List Blk:=[.cells tdZ false 26,.cells [vt 0] false 9,.cells [.sl 4 0 1000001 1 none] false 56,.loop l,.own 1000001 false 9]
def U0 (_out:List Bs) (rest:Bs) (σ:Nat->Nat):Val:=kal [.str rest] [] [] σ 4
def U1 (out:List Bs) (rest:Bs) (σ:Nat->Nat):Val:=kal [.str rest] [] [(1,out.map eT)] σ 5
def UL0 (_out:List Bs) (rest line:Bs) (σ:Nat->Nat):Val:=kal [.str rest,.str line] [] [] σ 4
def UL1 (out:List Bs) (rest line:Bs) (σ:Nat->Nat):Val:=kal [.str rest,.str line] [] [(1,out.map eT)] σ 5
theorem qoj (out:List Bs) (rest:Bs) {z:St} {σ:Nat->Nat} (l:ALoop) (hσ: ∀ i j,σ i=σ j->i=j) (S:Sim (U0 out rest σ) (kaa [0,1] u01 (c0 l)) z) (h0: ¬(rest.length:Int) > 0): ∃ z1,Ev FF lnA z (.ext 0) z1/\Sim (U0 out rest (sig σ [0,1,2,3] 4)) (kaa [] [] (c0 l)) z1:=by
 have H:=Tok.start (G:=gl20) (F:=FF) hσ S 4 1 0 0 [.str rest] [] [] .n .n rfl rfl;have H:=H.t 3 [.int .i64 rest.length,.bool (decide ((rest.length:Int) > 0))]|>.q 1 (.len 1 (cT 0))|>.q 2 (.bin .gtr (cT 1) (cI 0))|>.w 2 h0;exact H.ev _ _ _ [0,1,2,3] [] [.cells tdZ false 26,.cells [vt 0] false 9,.cells [.im [] true] false 56,.loop l] 4 _ _ _
theorem qon (out:List Bs) (rest:Bs) {z:St} {σ:Nat->Nat} (l:ALoop) (hσ: ∀ i j,σ i=σ j->i=j) (S:Sim (U0 out rest σ) (kaa [0,1] u01 (c0 l)) z) (h0:(rest.length:Int) > 0) (h1:yaa rest 10 ≥ 0) (h2:0<=w64 (yaa rest 10+1)/\w64 (yaa rest 10+1)<=(rest.length:Int)): ∃ z1,Ev FF (.seq lnA (.seq ln3 lnM)) z .nrm z1/\Sim (UL0 out (yaj (yad (w64 (yaa rest 10+1))) rest) (yak (yad (w64 (yaa rest 10+1))) rest) (sig σ [0,1,2,3] 14)) (kaa [0,1,3] [.yld 3,.ptr 1 0,vt 1] (c0 l)) z1:=by
 have H:=Tok.start (G:=gl20) (F:=FF) hσ S 4 1 0 0 [.str rest] [] [] .n .n rfl rfl;have H:=H.t 4 [.int .i64 rest.length,.bool (decide ((rest.length:Int) > 0)),.int .i64 (yaa rest 10)]|>.q 1 (.len 1 (cT 0))|>.q 2 (.bin .gtr (cT 1) (cI 0))|>.y 2 h0|>.s [vt 0,.int .u8 10] (vt 3) (khm rest);have H:=H.t 6 [.bool (decide (yaa rest 10 ≥ 0)),.int .i64 (w64 (yaa rest 10+1))]|>.q 4 (.bin .geq (cT 3) (cI 0))|>.q 5 (.bin .add (cT 3) (cI 1))|>.y 4 h1;have H:=H.t 8 [.str (yak (yad (w64 (yaa rest 10+1))) rest),.str (yaj (yad (w64 (yaa rest 10+1))) rest)]|>.c (p:=(.slT (cT 0) none (some (cT 5)),vt 6)) (fun _ _ _=>kcu (l:=rest) (l':=(yak (yad (w64 (yaa rest 10+1))) rest)) (lo:=none) (hi:=(some ((vt 5),(w64 (yaa rest 10+1):Int)))) (by kernel_rfl) trivial ⟨.i64,by kernel_rfl⟩ (by simp only[ka3];omega) (by simp[ka3]) (by kernel_rfl))
  |>.c (p:=(.slT (cT 0) (some (cT 5)) none,vt 7)) (fun _ _ _=>kcu (l:=rest) (l':=(yaj (yad (w64 (yaa rest 10+1))) rest)) (lo:=(some ((vt 5),(w64 (yaa rest 10+1):Int)))) (hi:=none) (by kernel_rfl) ⟨.i64,by kernel_rfl⟩ trivial (by simp only[ka3];omega) (by simp only[ka3];exact khi _ _) (by kernel_rfl))
 exact H.ev _ _ _ [0,1,2,3] [.yld 3,.ptr 1 0,vt 6] [.cells tdZ false 26,.cells [vt 7] false 9,.cells [.im [] true] false 56,.loop l] 14 _ _ _
theorem qoq (out:List Bs) (rest:Bs) {z:St} {σ:Nat->Nat} (l:ALoop) (hσ: ∀ i j,σ i=σ j->i=j) (S:Sim (U0 out rest σ) (kaa [0,1] u01 (c0 l)) z) (h0:(rest.length:Int) > 0) (h1: ¬yaa rest 10 ≥ 0): ∃ z1,Ev FF (.seq lnA (.seq ln3 lnM)) z .nrm z1/\Sim (UL0 out [] rest (sig σ [0,1,2,3] 4)) (kaa [0,1,3] [.yld 3,.ptr 1 0,vt 1] (c0 l)) z1:=by
 have H:=Tok.start (G:=gl20) (F:=FF) hσ S 4 1 0 0 [.str rest] [] [] .n .n rfl rfl;have H:=H.t 4 [.int .i64 rest.length,.bool (decide ((rest.length:Int) > 0)),.int .i64 (yaa rest 10)]|>.q 1 (.len 1 (cT 0))|>.q 2 (.bin .gtr (cT 1) (cI 0))|>.y 2 h0|>.s [vt 0,.int .u8 10] (vt 3) (khm rest);have H:=H.t 5 [.bool (decide (yaa rest 10 ≥ 0))]|>.q 4 (.bin .geq (cT 3) (cI 0))|>.w 4 h1;exact H.ev _ _ _ [0,1,2,3] [.yld 3,.ptr 1 0,vt 0] [.cells tdZ false 26,.cells [.str []] false 9,.cells [.im [] true] false 56,.loop l] 4 _ _ _
theorem k6d (out:List Bs) (rest line:Bs) {z:St} {σ:Nat->Nat} (l:ALoop) (hσ: ∀ i j,σ i=σ j->i=j) (S:Sim (UL0 out rest line σ) (kaa [2,7] [.ptr 2 0,vt 1] (c0 l)) z): ∃ z1,Ev FF asG z .nrm z1/\Sim (UL0 out rest line (sig σ [0,1,2,3] 4)) (kaa [2,5] [.ptr 2 0,vt 1] (c0 l)) z1:=by
 have H:=Tok.start (G:=gl20) (F:=FF) hσ S 4 2 0 0 [.str rest,.str line] [] [] .n .n rfl rfl;exact H.ev _ _ _ [0,1,2,3] [.ptr 2 0,vt 1] [.cells tdZ false 26,.cells [vt 0] false 9,.cells [.im [] true] false 56,.loop l] 4 _ _ _
theorem k6f (out:List Bs) (rest line:Bs) {z:St} {σ:Nat->Nat} (l:ALoop) (hσ: ∀ i j,σ i=σ j->i=j) (S:Sim (UL0 out rest line σ) (kaa [2,5] [.ptr 2 0,vt 1] (c0 l)) z): ∃ z1,Ev FF asH z .nrm z1/\Sim (U1 [line] rest (sig σ [0,1,2,3,5] 6)) (kaa [] [] (c1 l)) z1:=by
 have H:=Tok.start (G:=gl20) (F:=FF) hσ S 4 2 0 0 [.str rest,.str line] [] [] .n .n rfl rfl;exact H.ev _ _ _ [0,1,2,3,5] [] [.cells tdZ false 26,.cells [vt 0] false 9,.cells [.sl 5 0 1 1 none] false 56,.loop l,.cells [vt 1] false 9] 6 _ _ _
theorem qok (out:List Bs) (rest:Bs) {z:St} {σ:Nat->Nat} (l:ALoop) (hσ: ∀ i j,σ i=σ j->i=j) (S:Sim (U1 out rest σ) (kaa [0,1] u01 (c1 l)) z) (h0: ¬(rest.length:Int) > 0): ∃ z1,Ev FF lnA z (.ext 0) z1/\Sim (U1 out rest (sig σ [0,1,2,3,4] 5)) (kaa [] [] (c1 l)) z1:=by
 have H:=Tok.start (G:=gl20) (F:=FF) hσ S 5 1 0 1 [.str rest] [] [(0,1,out.map eT)] .n (.c (yaq kae _) .n) rfl rfl;have H:=H.t 3 [.int .i64 rest.length,.bool (decide ((rest.length:Int) > 0))]|>.q 1 (.len 1 (cT 0))|>.q 2 (.bin .gtr (cT 1) (cI 0))|>.w 2 h0;exact H.ev _ _ _ [0,1,2,3,4] [] [.cells tdZ false 26,.cells [vt 0] false 9,.cells [.sl 4 0 1000001 1 none] false 56,.loop l,.own 1000001 false 9] 5 _ _ _
theorem qoo (out:List Bs) (rest:Bs) {z:St} {σ:Nat->Nat} (l:ALoop) (hσ: ∀ i j,σ i=σ j->i=j) (S:Sim (U1 out rest σ) (kaa [0,1] u01 (c1 l)) z) (h0:(rest.length:Int) > 0) (h1:yaa rest 10 ≥ 0) (h2:0<=w64 (yaa rest 10+1)/\w64 (yaa rest 10+1)<=(rest.length:Int)): ∃ z1,Ev FF (.seq lnA (.seq ln3 lnM)) z .nrm z1/\Sim (UL1 out (yaj (yad (w64 (yaa rest 10+1))) rest) (yak (yad (w64 (yaa rest 10+1))) rest) (sig σ [0,1,2,3,4] 15)) (kaa [0,1,3] [.yld 3,.ptr 1 0,vt 1] (c1 l)) z1:=by
 have H:=Tok.start (G:=gl20) (F:=FF) hσ S 5 1 0 1 [.str rest] [] [(0,1,out.map eT)] .n (.c (yaq kae _) .n) rfl rfl;have H:=H.t 4 [.int .i64 rest.length,.bool (decide ((rest.length:Int) > 0)),.int .i64 (yaa rest 10)]|>.q 1 (.len 1 (cT 0))|>.q 2 (.bin .gtr (cT 1) (cI 0))|>.y 2 h0|>.s [vt 0,.int .u8 10] (vt 3) (khm rest);have H:=H.t 6 [.bool (decide (yaa rest 10 ≥ 0)),.int .i64 (w64 (yaa rest 10+1))]|>.q 4 (.bin .geq (cT 3) (cI 0))|>.q 5 (.bin .add (cT 3) (cI 1))|>.y 4 h1;have H:=H.t 8 [.str (yak (yad (w64 (yaa rest 10+1))) rest),.str (yaj (yad (w64 (yaa rest 10+1))) rest)]|>.c (p:=(.slT (cT 0) none (some (cT 5)),vt 6)) (fun _ _ _=>kcu (l:=rest) (l':=(yak (yad (w64 (yaa rest 10+1))) rest)) (lo:=none) (hi:=(some ((vt 5),(w64 (yaa rest 10+1):Int)))) (by kernel_rfl) trivial ⟨.i64,by kernel_rfl⟩ (by simp only[ka3];omega) (by simp[ka3]) (by kernel_rfl))
  |>.c (p:=(.slT (cT 0) (some (cT 5)) none,vt 7)) (fun _ _ _=>kcu (l:=rest) (l':=(yaj (yad (w64 (yaa rest 10+1))) rest)) (lo:=(some ((vt 5),(w64 (yaa rest 10+1):Int)))) (hi:=none) (by kernel_rfl) ⟨.i64,by kernel_rfl⟩ trivial (by simp only[ka3];omega) (by simp only[ka3];exact khi _ _) (by kernel_rfl))
 exact H.ev _ _ _ [0,1,2,3,4] [.yld 3,.ptr 1 0,vt 6] [.cells tdZ false 26,.cells [vt 7] false 9,.cells [.sl 4 0 1000001 1 none] false 56,.loop l,.own 1000001 false 9] 15 _ _ _
theorem qor (out:List Bs) (rest:Bs) {z:St} {σ:Nat->Nat} (l:ALoop) (hσ: ∀ i j,σ i=σ j->i=j) (S:Sim (U1 out rest σ) (kaa [0,1] u01 (c1 l)) z) (h0:(rest.length:Int) > 0) (h1: ¬yaa rest 10 ≥ 0): ∃ z1,Ev FF (.seq lnA (.seq ln3 lnM)) z .nrm z1/\Sim (UL1 out [] rest (sig σ [0,1,2,3,4] 5)) (kaa [0,1,3] [.yld 3,.ptr 1 0,vt 1] (c1 l)) z1:=by
 have H:=Tok.start (G:=gl20) (F:=FF) hσ S 5 1 0 1 [.str rest] [] [(0,1,out.map eT)] .n (.c (yaq kae _) .n) rfl rfl;have H:=H.t 4 [.int .i64 rest.length,.bool (decide ((rest.length:Int) > 0)),.int .i64 (yaa rest 10)]|>.q 1 (.len 1 (cT 0))|>.q 2 (.bin .gtr (cT 1) (cI 0))|>.y 2 h0|>.s [vt 0,.int .u8 10] (vt 3) (khm rest);have H:=H.t 5 [.bool (decide (yaa rest 10 ≥ 0))]|>.q 4 (.bin .geq (cT 3) (cI 0))|>.w 4 h1;exact H.ev _ _ _ [0,1,2,3,4] [.yld 3,.ptr 1 0,vt 0] [.cells tdZ false 26,.cells [.str []] false 9,.cells [.sl 4 0 1000001 1 none] false 56,.loop l,.own 1000001 false 9] 5 _ _ _
theorem k6e (out:List Bs) (rest line:Bs) {z:St} {σ:Nat->Nat} (l:ALoop) (hσ: ∀ i j,σ i=σ j->i=j) (S:Sim (UL1 out rest line σ) (kaa [2,7] [.ptr 2 0,vt 1] (c1 l)) z): ∃ z1,Ev FF asG z .nrm z1/\Sim (UL1 out rest line (sig σ [0,1,2,3,4] 5)) (kaa [2,5] [.ptr 2 0,vt 1] (c1 l)) z1:=by
 have H:=Tok.start (G:=gl20) (F:=FF) hσ S 5 2 0 1 [.str rest,.str line] [] [(0,1,out.map eT)] .n (.c (yaq kae _) .n) rfl rfl;exact H.ev _ _ _ [0,1,2,3,4] [.ptr 2 0,vt 1] [.cells tdZ false 26,.cells [vt 0] false 9,.cells [.sl 4 0 1000001 1 none] false 56,.loop l,.own 1000001 false 9] 5 _ _ _
theorem k6g (out:List Bs) (rest line:Bs) {z:St} {σ:Nat->Nat} (l:ALoop) (hσ: ∀ i j,σ i=σ j->i=j) (S:Sim (UL1 out rest line σ) (kaa [2,5] [.ptr 2 0,vt 1] (c1 l)) z) (ho:out.length<=1000000): ∃ z1,Ev FF asH z .nrm z1/\Sim (U1 (out++[line]) rest (sig σ [0,1,2,3,6] 7)) (kaa [] [] (c1 l)) z1:=by
 have H:=Tok.start (G:=gl20) (F:=FF) hσ S 5 2 0 1 [.str rest,.str line] [] [(0,1,out.map eT)] .n (.c (yaq kae _) .n) rfl rfl;have H:=H.o 1 (1,List.map eT (out++[line])) (.own kae _)|>.a ⟨true,1,16,(vf 1000001),(.im [[vt 1]] true),1001001⟩ (fun _ _ _=>keh rfl rfl rfl (by simp only[kaq,yai];omega) (.inl rfl) (by decide) (by decide) (by decide));exact H.ev _ _ _ [0,1,2,3,6] [] [.cells tdZ false 26,.cells [vt 0] false 9,.cells [.sl 6 0 1001001 1 none] false 56,.loop l,.own 1001001 false 9] 7 _ _ _
end Go.Proofs.Hz
