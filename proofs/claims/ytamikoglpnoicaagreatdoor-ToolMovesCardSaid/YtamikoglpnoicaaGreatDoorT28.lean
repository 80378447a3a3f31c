/-
  Chapter 15: call.Parse is parseF. And: Chapter 20: texts of what is told, plainly: lines, heads, threads, moves; read and written. (Plain definitions and laws.)
  Conditions: none.
-/
import Derived.Test.YtamikoglpnoicaaGreatDoorT27
open Go Go.Proofs
namespace Go.Proofs.Hz
set_option maxRecDepth 20000
noncomputable def lnX:AC:= .seq lnA (.block 1 (.seq ln3 (.seq lnM (.seq (.reg lnY) (.cond (.t 24) .ret .skip)))))
structure LOk (σ:Nat→Nat) (l:ALoop):Prop where
 st:l.st=0
 pend:l.pend=none
 ps:l.ps=[12]
 asg:l.asg=paG
 body:l.body=paH
 regs: ∀ j,j<5→l.r.get (j+2)=some (.ptr (σ j) 0)
def Agree (σ σ':Nat→Nat):Prop:=∀ j,j<7→σ' j=σ j
def AgreeE (σ σ':Nat→Nat):Prop:=σ' 0=σ 0∧σ' 1=σ 1∧σ' 2=σ 2∧σ' 3=σ 6
theorem lt7 {j:Nat} (h:j<7):j=0∨j=1∨j=2∨j=3∨j=4∨j=5∨j=6:=by omega
theorem LOk.agree {σ σ':Nat→Nat} {l:ALoop} (L:LOk σ l) (h:Agree σ σ'):LOk σ' l:=⟨L.st,L.pend,L.ps,L.asg,L.body,fun j hj=>by rw[h j (by omega)];exact L.regs j hj⟩
theorem Agree.trans {a b c:Nat→Nat} (h1:Agree a b) (h2:Agree b c):Agree a c:=fun j hj=>(h2 j hj).trans (h1 j hj)
theorem kbd {z:St} {t:Nat} {v:AV} (h:z.r.get t=some v):z.rg t=v:=by unfold St.rg;rw[h];rfl
theorem kcv {z:St} {d t:Nat} {v:AV} (h:t≠d):(z.set (some d) v).r.get t=z.r.get t:=by
 show(z.r.put d (some v)).get t=_
 rw[T.get_put,if_neg (Ne.symm h)]
theorem kcl {z:St} {d:Nat} {v:AV}:(z.set (some d) v).r.get d=some v:=by
 show(z.r.put d (some v)).get d=_
 rw[T.get_put,if_pos rfl]
theorem yreg {z s3:St} {id:Nat} {line:List UInt8} {b:Bool} (h0:z.r.get 0=some (.yld id)) (h3:z.r.get 3=some (.str line))
  (hR:Rnd FF id [.str line] ((z.set (some 21) (.yld id)).set (some 22) (.str line)) (.bool b) s3):Ev FF (.reg lnY) z .nrm ((s3.set (some 23) (.bool b)).set (some 24) (.bool (!b))):=by
 have e22:(AO.t 22).ev ((z.set (some 21) (.yld id)).set (some 22) (.str line))= .str line:=kbd kcl
 have e21:(AO.t 21).ev ((z.set (some 21) (.yld id)).set (some 22) (.str line))= .yld id:=kbd (by rw[kcv (by decide)];exact kcl)
 refine Ev.reg (EvR.op (v:= .yld id) (s1:=z) (fun n=> ?_) (EvR.op (v:= .str line) (s1:=z.set (some 21) (.yld id)) (fun n=> ?_) (EvR.round (v:= .bool b) (id:=id) (s1:=s3) e21 ?_ (EvR.op (v:= .bool (!b)) (s1:=s3.set (some 23) (.bool b)) (fun n=> ?_) (EvR.nil _)))))
 ·show some (z.rg 0,z)=_
  rw[kbd h0]
 ·show some ((z.set (some 21) (.yld id)).rg 3,_)=_
  rw[kbd (by rw[kcv (by decide)];exact h3)]
 ·rw[show [AO.t 22].map (AO.ev ((z.set (some 21) (.yld id)).set (some 22) (.str line)))=[.str line] from by rw[List.map_singleton,e22]]
  exact hR
 ·show opA (s3.set (some 23) (.bool b)) (.un .not (.t 23))=_
  have e23:(AO.t 23).ev (s3.set (some 23) (.bool b))= .bool b:=kbd kcl
  simp only[opA,e23]
  rfl
theorem kfi {z s3:St} {x y v w:AV} {t:Nat} (h1:t≠21) (h2:t≠22) (h3:t≠23) (h4:t≠24) (hr:s3.r=((z.set (some 21) x).set (some 22) y).r):((s3.set (some 23) v).set (some 24) w).r.get t=z.r.get t:=by
 rw[kcv h4,kcv h3,hr,kcv h2,kcv h1]
theorem ky8 {a n:Nat} (h:a+n≤1000000):w64 ((a:Int)+(n:Int))=((a+n:Nat):Int):=by
 unfold w64 IntKind.wrap
 simp[IntKind.signed,IntKind.bits]
 omega
theorem kmx {i:Int} {n:Nat} (h0:0≤i) (h:i<n) (hn:n≤1000000):w64 (i+1)=i+1:=by
 unfold w64 IntKind.wrap
 simp[IntKind.signed,IntKind.bits]
 omega
theorem Sim.hp' {ρ:Val} {s c:St} (S:Sim ρ s c) (id:Nat) (l:ALoop) {i:Nat} (hi:ρ.σ id=i):Sim ρ {s with h:=s.h.put id (some (.loop l))} (c.hp i (.loop l)):=by
 subst hi
 exact S.put' id (.loop l)
theorem klb {l:ALoop} (h1:l.st=0) (h2:l.pend=none):({({l with st:=1}:ALoop) with st:=0,pend:=none}:ALoop)=l:=by
 cases l;simp only at h1 h2;subst h1;subst h2;rfl
theorem k4t (out:List Cl) (a:Nat) (rest line:List UInt8) {z:St} {σ:Nat→Nat} (l:ALoop) (hσ: ∀ i j,σ i=σ j→i=j) (L:LOk σ l) (S:Sim (VL0 out a rest line σ) (tmpl [0,1,3] [.yld 6,.ptr 5 0,vt 2] (bk0 l)) z) (hl:line.length≤1000000) (h0:kay line=true) (hw:a+line.length≤1000000):
  ∃ z' σ',Ev FF (.reg lnY) z .nrm z'∧z'.r.get 24=some (.bool false)∧Agree σ σ'∧Sim (V1 [kav line] (a+line.length) rest σ') (tmpl [0,1] w01 (bk1 l)) z':=by
 have h0r:z.r.get 0=some (.yld (σ 6)):=S.regs 0 (.yld 6) (by kernel_rfl)
 have h1r:z.r.get 1=some (.ptr (σ 5) 0):=S.regs 1 (.ptr 5 0) (by kernel_rfl)
 have h3r:z.r.get 3=some (.str line):=S.regs 3 (vt 2) (by kernel_rfl)
 have hL:z.h.get (σ 6)=some (.loop l):=S.heap.get 6 (.loop l) (by kernel_rfl)
 have SA:Sim (VL0 out a rest line σ) (tmpl [2,3,4,5,6,12] (wP++[vt 2]) (bk0 l)) {r:=kdd l.r l.ps [.str line],h:=z.h,nx:=z.nx}:=by
  refine S.regs' (fun t u hu=> ?_) rfl rfl rfl rfl
  have hm:=kbh (show(ofL ([2,3,4,5,6,12].zip (wP++[vt 2]))).get t=some u from hu)
  rw[L.ps]
  show(l.r.put 12 (some (.str line))).get t=_
  rw[T.get_put]
  simp only[wP,List.zip,List.zipWith,List.cons_append,List.nil_append,List.mem_cons,Prod.mk.injEq,List.not_mem_nil,or_false] at hm
  rcases hm with⟨rfl,rfl⟩ | ⟨rfl,rfl⟩ | ⟨rfl,rfl⟩ | ⟨rfl,rfl⟩ | ⟨rfl,rfl⟩ | ⟨rfl,rfl⟩
  ·exact L.regs 0 (by decide)
  ·exact L.regs 1 (by decide)
  ·exact L.regs 2 (by decide)
  ·exact L.regs 3 (by decide)
  ·exact L.regs 4 (by decide)
  ·rfl
 obtain⟨zB,eB,SB⟩:=kvd out a rest line l hσ SA
 have hB:zB.h.get (σ 6)=some (.loop l):=SB.heap.get 6 (.loop l) (by kernel_rfl)
 have SC:=SB.hp' 6 {l with st:=1} (i:=σ 6) (by kernel_rfl)
 rw[show({tmpl [2,3,4,5,6,7] (wP++[vt 2]) (bk0 l) with h:=(tmpl [2,3,4,5,6,7] (wP++[vt 2]) (bk0 l)).h.put 6 (some (.loop {l with st:=1}))}:St)=tmpl [2,3,4,5,6,7] (wP++[vt 2]) (bk0 {l with st:=1}) by kernel_rfl] at SC
 obtain⟨zC,eC,SD⟩:=k7a out a rest line {l with st:=1} SB.heap.inj SC hl h0 (ky8 hw)
 have hD:zC.h.get (σ 6)=some (.loop {l with st:=1}):=SD.heap.get 6 (.loop {l with st:=1}) (by kernel_rfl)
 have hR:=Rnd.mk (F:=FF) (id:=σ 6) (args:=[.str line]) (s:=(z.set (some 21) (.yld (σ 6))).set (some 22) (.str line)) (l:=l) (s1:=zB) (s2:=zC) (l1:=l) (l2:={l with st:=1}) (e:= .nrm) hL (by rw[L.ps];rfl) (by rw[L.asg];exact eB) hB L.st ((congrArg (fun b=>Ev FF b (zB.hp (σ 6) (.loop {l with st:=1})) .nrm zC) L.body).mpr eC) hD
 have hy:=yreg h0r h3r hR
 refine⟨_,sig (sig σ [0,1,2,3,4,5,6] 7) [0,1,2,3,4,5,6,9] 10,hy,kcl,?_,?_⟩
 ·intro j hj
  rcases lt7 hj with rfl |rfl |rfl |rfl |rfl |rfl |rfl <;> rfl
 ·have SE:=SD.hp' 6 l (i:=σ 6) (by kernel_rfl)
  rw[show({tmpl [] [] (bk1 {l with st:=1}) with h:=(tmpl [] [] (bk1 {l with st:=1})).h.put 6 (some (.loop l))}:St)=tmpl [] [] (bk1 l) by kernel_rfl] at SE
  refine SE.regs' (fun t u hu=> ?_) rfl ?_ rfl rfl
  ·have hm:=kbh (show(ofL ([0,1].zip w01)).get t=some u from hu)
   simp only[w01,List.zip,List.zipWith,List.mem_cons,Prod.mk.injEq,List.not_mem_nil,or_false] at hm
   rcases hm with⟨rfl,rfl⟩ | ⟨rfl,rfl⟩
   ·exact(kfi (z:=z) (x:= .yld (σ 6)) (y:= .str line) (by decide) (by decide) (by decide) (by decide) rfl).trans (h0r.trans (by kernel_rfl))
   ·exact(kfi (z:=z) (x:= .yld (σ 6)) (y:= .str line) (by decide) (by decide) (by decide) (by decide) rfl).trans (h1r.trans (by kernel_rfl))
  ·show zC.h.put (σ 6) (some (.loop ({({l with st:=1}:ALoop) with st:=0,pend:=none}:ALoop)))=zC.h.put (σ 6) (some (.loop l))
   rw[klb L.st L.pend]
theorem k4p (out:List Cl) (a:Nat) (rest line:List UInt8) {z:St} {σ:Nat→Nat} (l:ALoop) (hσ: ∀ i j,σ i=σ j→i=j) (L:LOk σ l) (S:Sim (VL0 out a rest line σ) (tmpl [0,1,3] [.yld 6,.ptr 5 0,vt 2] (bk0 l)) z) (hl:line.length≤1000000) (h0: ¬kay line=true):
  ∃ z' σ',Ev FF (.reg lnY) z .nrm z'∧z'.r.get 24=some (.bool true)∧AgreeE σ σ'∧Sim (VE4 a σ') (tmpl [] [] (bkE4 {l with st:=2,pend:=some .ret})) z':=by
 have h0r:z.r.get 0=some (.yld (σ 6)):=S.regs 0 (.yld 6) (by kernel_rfl)
 have h1r:z.r.get 1=some (.ptr (σ 5) 0):=S.regs 1 (.ptr 5 0) (by kernel_rfl)
 have h3r:z.r.get 3=some (.str line):=S.regs 3 (vt 2) (by kernel_rfl)
 have hL:z.h.get (σ 6)=some (.loop l):=S.heap.get 6 (.loop l) (by kernel_rfl)
 have SA:Sim (VL0 out a rest line σ) (tmpl [2,3,4,5,6,12] (wP++[vt 2]) (bk0 l)) {r:=kdd l.r l.ps [.str line],h:=z.h,nx:=z.nx}:=by
  refine S.regs' (fun t u hu=> ?_) rfl rfl rfl rfl
  have hm:=kbh (show(ofL ([2,3,4,5,6,12].zip (wP++[vt 2]))).get t=some u from hu)
  rw[L.ps]
  show(l.r.put 12 (some (.str line))).get t=_
  rw[T.get_put]
  simp only[wP,List.zip,List.zipWith,List.cons_append,List.nil_append,List.mem_cons,Prod.mk.injEq,List.not_mem_nil,or_false] at hm
  rcases hm with⟨rfl,rfl⟩ | ⟨rfl,rfl⟩ | ⟨rfl,rfl⟩ | ⟨rfl,rfl⟩ | ⟨rfl,rfl⟩ | ⟨rfl,rfl⟩
  ·exact L.regs 0 (by decide)
  ·exact L.regs 1 (by decide)
  ·exact L.regs 2 (by decide)
  ·exact L.regs 3 (by decide)
  ·exact L.regs 4 (by decide)
  ·rfl
 obtain⟨zB,eB,SB⟩:=kvd out a rest line l hσ SA
 have hB:zB.h.get (σ 6)=some (.loop l):=SB.heap.get 6 (.loop l) (by kernel_rfl)
 have SC:=SB.hp' 6 {l with st:=1} (i:=σ 6) (by kernel_rfl)
 rw[show({tmpl [2,3,4,5,6,7] (wP++[vt 2]) (bk0 l) with h:=(tmpl [2,3,4,5,6,7] (wP++[vt 2]) (bk0 l)).h.put 6 (some (.loop {l with st:=1}))}:St)=tmpl [2,3,4,5,6,7] (wP++[vt 2]) (bk0 {l with st:=1}) by kernel_rfl] at SC
 obtain⟨zC,eC,SD⟩:=k65 out a rest line {l with st:=1} SB.heap.inj SC hl h0
 have hD:zC.h.get (σ 6)=some (.loop {l with st:=1}):=SD.heap.get 3 (.loop {l with st:=1}) (by kernel_rfl)
 have hR:=Rnd.mk (F:=FF) (id:=σ 6) (args:=[.str line]) (s:=(z.set (some 21) (.yld (σ 6))).set (some 22) (.str line)) (l:=l) (s1:=zB) (s2:=zC) (l1:=l) (l2:={l with st:=1}) (e:= .ret) hL (by rw[L.ps];rfl) (by rw[L.asg];exact eB) hB L.st ((congrArg (fun b=>Ev FF b (zB.hp (σ 6) (.loop {l with st:=1})) .ret zC) L.body).mpr eC) hD
 have hy:=yreg h0r h3r hR
 refine⟨_,sig (sig σ [0,1,2,3,4,5,6] 7) [0,1,2,6] 12,hy,kcl,?_,?_⟩
 ·exact⟨rfl,rfl,rfl,rfl⟩
 ·have SE:=SD.hp' 3 {l with st:=2,pend:=some .ret} (i:=σ 6) (by kernel_rfl)
  rw[show({tmpl [] [] (bkE4 {l with st:=1}) with h:=(tmpl [] [] (bkE4 {l with st:=1})).h.put 3 (some (.loop {l with st:=2,pend:=some .ret}))}:St)=tmpl [] [] (bkE4 {l with st:=2,pend:=some .ret}) by kernel_rfl] at SE
  refine SE.regs' (fun t u hu=> ?_) rfl rfl rfl rfl
  rw[show(tmpl [] [] (bkE4 {l with st:=2,pend:=some .ret})).r.get t=none from T.get_nil _] at hu
  cases hu
theorem k4x (out:List Cl) (a:Nat) (rest:List UInt8) {z:St} {σ:Nat→Nat} (l:ALoop) (hσ: ∀ i j,σ i=σ j→i=j) (S:Sim (V0 out a rest σ) (tmpl [0,1] w01 (bk0 l)) z) (hne:rest≠[]) (hr:rest.length≤1000000):
  ∃ z1 σ1,Ev FF (.seq lnA (.seq ln3 lnM)) z .nrm z1∧Agree σ σ1∧Sim (VL0 out a (kaj rest).2 (kaj rest).1 σ1) (tmpl [0,1,3] [.yld 6,.ptr 5 0,vt 2] (bk0 l)) z1:=by
 have h0:(List.length rest:Int) > 0:=by
  have:=List.length_pos_iff.2 hne
  omega
 by_cases h1:Lib.indexByte rest 10 ≥ 0
 ·have hlt:Lib.indexByte rest 10<rest.length:=by
   rcases kit rest with h |h
   ·exact h
   ·exact absurd h hne
  have hw:=kmx h1 hlt hr
  obtain⟨z1,e1,S1⟩:=k4v out a rest l hσ S h0 h1 (by rw[hw];omega)
  rw[hw,(ke2 h1).1,(ke2 h1).2] at S1
  exact⟨z1,_,e1,fun j hj=>by rcases lt7 hj with rfl |rfl |rfl |rfl |rfl |rfl |rfl <;> rfl,S1⟩
 ·obtain⟨z1,e1,S1⟩:=k40 out a rest l hσ S h0 h1
  rw[kil h1]
  exact⟨z1,_,e1,fun j hj=>by rcases lt7 hj with rfl |rfl |rfl |rfl |rfl |rfl |rfl <;> rfl,S1⟩
theorem k42 (out:List Cl) (a:Nat) (rest:List UInt8) {z:St} {σ:Nat→Nat} (l:ALoop) (hσ: ∀ i j,σ i=σ j→i=j) (L:LOk σ l) (S:Sim (V0 out a rest σ) (tmpl [0,1] w01 (bk0 l)) z) (hne:rest≠[]) (hr:a+rest.length≤1000000):
  (kay (kaj rest).1=true→ ∃ z2 σ2,Ev FF lnX z .nrm z2∧Agree σ σ2∧Sim (V1 [kav (kaj rest).1] (a+(kaj rest).1.length) (kaj rest).2 σ2) (tmpl [0,1] w01 (bk1 l)) z2)∧
  (¬kay (kaj rest).1=true→ ∃ z2 σ2,Ev FF lnX z .ret z2∧AgreeE σ σ2∧Sim (VE4 a σ2) (tmpl [] [] (bkE4 {l with st:=2,pend:=some .ret})) z2):=by
 obtain⟨z1,σ1,e1,g1,S1⟩:=k4x out a rest l hσ S hne (by omega)
 obtain⟨z0,eA,e3⟩:=e1.seqI
 have hlen:=kdy rest
 refine⟨fun h=> ?_,fun h=> ?_⟩
 ·obtain⟨z2,σ2,e2,h24,g2,S2⟩:=k4t out a _ _ l S1.heap.inj (L.agree g1) S1 (by omega) h (by omega)
  refine⟨z2,σ2,?_,g1.trans g2,S2⟩
  exact eA.seq (Ev.block (id:=1) (e3.assoc (e2.seq (Ev.cond (x:= .t 24) (t:=false) (kbd h24) (Ev.skip _)))))
 ·obtain⟨z2,σ2,e2,h24,g2,S2⟩:=k4p out a _ _ l S1.heap.inj (L.agree g1) S1 (by omega) h
  refine⟨z2,σ2,?_,⟨g2.1.trans (g1 0 (by decide)),g2.2.1.trans (g1 1 (by decide)),g2.2.2.1.trans (g1 2 (by decide)),g2.2.2.2.trans (g1 6 (by decide))⟩,S2⟩
  exact eA.seq (Ev.block (id:=1) (e3.assoc (e2.seq (Ev.cond (x:= .t 24) (t:=true) (kbd h24) (Ev.ret _)))))
theorem k4u (out:List Cl) (a:Nat) (rest line:List UInt8) {z:St} {σ:Nat→Nat} (l:ALoop) (hσ: ∀ i j,σ i=σ j→i=j) (L:LOk σ l) (S:Sim (VL1 out a rest line σ) (tmpl [0,1,3] [.yld 6,.ptr 5 0,vt 2] (bk1 l)) z) (hl:line.length≤1000000) (ho:out.length≤1000000) (h0:kay line=true) (hw:a+line.length≤1000000):
  ∃ z' σ',Ev FF (.reg lnY) z .nrm z'∧z'.r.get 24=some (.bool false)∧Agree σ σ'∧Sim (V1 (out++[kav line]) (a+line.length) rest σ') (tmpl [0,1] w01 (bk1 l)) z':=by
 have h0r:z.r.get 0=some (.yld (σ 6)):=S.regs 0 (.yld 6) (by kernel_rfl)
 have h1r:z.r.get 1=some (.ptr (σ 5) 0):=S.regs 1 (.ptr 5 0) (by kernel_rfl)
 have h3r:z.r.get 3=some (.str line):=S.regs 3 (vt 2) (by kernel_rfl)
 have hL:z.h.get (σ 6)=some (.loop l):=S.heap.get 6 (.loop l) (by kernel_rfl)
 have SA:Sim (VL1 out a rest line σ) (tmpl [2,3,4,5,6,12] (wP++[vt 2]) (bk1 l)) {r:=kdd l.r l.ps [.str line],h:=z.h,nx:=z.nx}:=by
  refine S.regs' (fun t u hu=> ?_) rfl rfl rfl rfl
  have hm:=kbh (show(ofL ([2,3,4,5,6,12].zip (wP++[vt 2]))).get t=some u from hu)
  rw[L.ps]
  show(l.r.put 12 (some (.str line))).get t=_
  rw[T.get_put]
  simp only[wP,List.zip,List.zipWith,List.cons_append,List.nil_append,List.mem_cons,Prod.mk.injEq,List.not_mem_nil,or_false] at hm
  rcases hm with⟨rfl,rfl⟩ | ⟨rfl,rfl⟩ | ⟨rfl,rfl⟩ | ⟨rfl,rfl⟩ | ⟨rfl,rfl⟩ | ⟨rfl,rfl⟩
  ·exact L.regs 0 (by decide)
  ·exact L.regs 1 (by decide)
  ·exact L.regs 2 (by decide)
  ·exact L.regs 3 (by decide)
  ·exact L.regs 4 (by decide)
  ·rfl
 obtain⟨zB,eB,SB⟩:=kve out a rest line l hσ SA
 have hB:zB.h.get (σ 6)=some (.loop l):=SB.heap.get 6 (.loop l) (by kernel_rfl)
 have SC:=SB.hp' 6 {l with st:=1} (i:=σ 6) (by kernel_rfl)
 rw[show({tmpl [2,3,4,5,6,7] (wP++[vt 2]) (bk1 l) with h:=(tmpl [2,3,4,5,6,7] (wP++[vt 2]) (bk1 l)).h.put 6 (some (.loop {l with st:=1}))}:St)=tmpl [2,3,4,5,6,7] (wP++[vt 2]) (bk1 {l with st:=1}) by kernel_rfl] at SC
 obtain⟨zC,eC,SD⟩:=k7b out a rest line {l with st:=1} SB.heap.inj SC hl ho h0 (ky8 hw)
 have hD:zC.h.get (σ 6)=some (.loop {l with st:=1}):=SD.heap.get 6 (.loop {l with st:=1}) (by kernel_rfl)
 have hR:=Rnd.mk (F:=FF) (id:=σ 6) (args:=[.str line]) (s:=(z.set (some 21) (.yld (σ 6))).set (some 22) (.str line)) (l:=l) (s1:=zB) (s2:=zC) (l1:=l) (l2:={l with st:=1}) (e:= .nrm) hL (by rw[L.ps];rfl) (by rw[L.asg];exact eB) hB L.st ((congrArg (fun b=>Ev FF b (zB.hp (σ 6) (.loop {l with st:=1})) .nrm zC) L.body).mpr eC) hD
 have hy:=yreg h0r h3r hR
 refine⟨_,sig (sig σ [0,1,2,3,4,5,6,7] 8) [0,1,2,3,4,5,6,10] 11,hy,kcl,?_,?_⟩
 ·intro j hj
  rcases lt7 hj with rfl |rfl |rfl |rfl |rfl |rfl |rfl <;> rfl
 ·have SE:=SD.hp' 6 l (i:=σ 6) (by kernel_rfl)
  rw[show({tmpl [] [] (bk1 {l with st:=1}) with h:=(tmpl [] [] (bk1 {l with st:=1})).h.put 6 (some (.loop l))}:St)=tmpl [] [] (bk1 l) by kernel_rfl] at SE
  refine SE.regs' (fun t u hu=> ?_) rfl ?_ rfl rfl
  ·have hm:=kbh (show(ofL ([0,1].zip w01)).get t=some u from hu)
   simp only[w01,List.zip,List.zipWith,List.mem_cons,Prod.mk.injEq,List.not_mem_nil,or_false] at hm
   rcases hm with⟨rfl,rfl⟩ | ⟨rfl,rfl⟩
   ·exact(kfi (z:=z) (x:= .yld (σ 6)) (y:= .str line) (by decide) (by decide) (by decide) (by decide) rfl).trans (h0r.trans (by kernel_rfl))
   ·exact(kfi (z:=z) (x:= .yld (σ 6)) (y:= .str line) (by decide) (by decide) (by decide) (by decide) rfl).trans (h1r.trans (by kernel_rfl))
  ·show zC.h.put (σ 6) (some (.loop ({({l with st:=1}:ALoop) with st:=0,pend:=none}:ALoop)))=zC.h.put (σ 6) (some (.loop l))
   rw[klb L.st L.pend]
theorem k4q (out:List Cl) (a:Nat) (rest line:List UInt8) {z:St} {σ:Nat→Nat} (l:ALoop) (hσ: ∀ i j,σ i=σ j→i=j) (L:LOk σ l) (S:Sim (VL1 out a rest line σ) (tmpl [0,1,3] [.yld 6,.ptr 5 0,vt 2] (bk1 l)) z) (hl:line.length≤1000000) (h0: ¬kay line=true):
  ∃ z' σ',Ev FF (.reg lnY) z .nrm z'∧z'.r.get 24=some (.bool true)∧AgreeE σ σ'∧Sim (VE4 a σ') (tmpl [] [] (bkE4 {l with st:=2,pend:=some .ret})) z':=by
 have h0r:z.r.get 0=some (.yld (σ 6)):=S.regs 0 (.yld 6) (by kernel_rfl)
 have h1r:z.r.get 1=some (.ptr (σ 5) 0):=S.regs 1 (.ptr 5 0) (by kernel_rfl)
 have h3r:z.r.get 3=some (.str line):=S.regs 3 (vt 2) (by kernel_rfl)
 have hL:z.h.get (σ 6)=some (.loop l):=S.heap.get 6 (.loop l) (by kernel_rfl)
 have SA:Sim (VL1 out a rest line σ) (tmpl [2,3,4,5,6,12] (wP++[vt 2]) (bk1 l)) {r:=kdd l.r l.ps [.str line],h:=z.h,nx:=z.nx}:=by
  refine S.regs' (fun t u hu=> ?_) rfl rfl rfl rfl
  have hm:=kbh (show(ofL ([2,3,4,5,6,12].zip (wP++[vt 2]))).get t=some u from hu)
  rw[L.ps]
  show(l.r.put 12 (some (.str line))).get t=_
  rw[T.get_put]
  simp only[wP,List.zip,List.zipWith,List.cons_append,List.nil_append,List.mem_cons,Prod.mk.injEq,List.not_mem_nil,or_false] at hm
  rcases hm with⟨rfl,rfl⟩ | ⟨rfl,rfl⟩ | ⟨rfl,rfl⟩ | ⟨rfl,rfl⟩ | ⟨rfl,rfl⟩ | ⟨rfl,rfl⟩
  ·exact L.regs 0 (by decide)
  ·exact L.regs 1 (by decide)
  ·exact L.regs 2 (by decide)
  ·exact L.regs 3 (by decide)
  ·exact L.regs 4 (by decide)
  ·rfl
 obtain⟨zB,eB,SB⟩:=kve out a rest line l hσ SA
 have hB:zB.h.get (σ 6)=some (.loop l):=SB.heap.get 6 (.loop l) (by kernel_rfl)
 have SC:=SB.hp' 6 {l with st:=1} (i:=σ 6) (by kernel_rfl)
 rw[show({tmpl [2,3,4,5,6,7] (wP++[vt 2]) (bk1 l) with h:=(tmpl [2,3,4,5,6,7] (wP++[vt 2]) (bk1 l)).h.put 6 (some (.loop {l with st:=1}))}:St)=tmpl [2,3,4,5,6,7] (wP++[vt 2]) (bk1 {l with st:=1}) by kernel_rfl] at SC
 obtain⟨zC,eC,SD⟩:=k66 out a rest line {l with st:=1} SB.heap.inj SC hl h0
 have hD:zC.h.get (σ 6)=some (.loop {l with st:=1}):=SD.heap.get 3 (.loop {l with st:=1}) (by kernel_rfl)
 have hR:=Rnd.mk (F:=FF) (id:=σ 6) (args:=[.str line]) (s:=(z.set (some 21) (.yld (σ 6))).set (some 22) (.str line)) (l:=l) (s1:=zB) (s2:=zC) (l1:=l) (l2:={l with st:=1}) (e:= .ret) hL (by rw[L.ps];rfl) (by rw[L.asg];exact eB) hB L.st ((congrArg (fun b=>Ev FF b (zB.hp (σ 6) (.loop {l with st:=1})) .ret zC) L.body).mpr eC) hD
 have hy:=yreg h0r h3r hR
 refine⟨_,sig (sig σ [0,1,2,3,4,5,6,7] 8) [0,1,2,6] 13,hy,kcl,?_,?_⟩
 ·exact⟨rfl,rfl,rfl,rfl⟩
 ·have SE:=SD.hp' 3 {l with st:=2,pend:=some .ret} (i:=σ 6) (by kernel_rfl)
  rw[show({tmpl [] [] (bkE4 {l with st:=1}) with h:=(tmpl [] [] (bkE4 {l with st:=1})).h.put 3 (some (.loop {l with st:=2,pend:=some .ret}))}:St)=tmpl [] [] (bkE4 {l with st:=2,pend:=some .ret}) by kernel_rfl] at SE
  refine SE.regs' (fun t u hu=> ?_) rfl rfl rfl rfl
  rw[show(tmpl [] [] (bkE4 {l with st:=2,pend:=some .ret})).r.get t=none from T.get_nil _] at hu
  cases hu
theorem k4y (out:List Cl) (a:Nat) (rest:List UInt8) {z:St} {σ:Nat→Nat} (l:ALoop) (hσ: ∀ i j,σ i=σ j→i=j) (S:Sim (V1 out a rest σ) (tmpl [0,1] w01 (bk1 l)) z) (hne:rest≠[]) (hr:rest.length≤1000000):
  ∃ z1 σ1,Ev FF (.seq lnA (.seq ln3 lnM)) z .nrm z1∧Agree σ σ1∧Sim (VL1 out a (kaj rest).2 (kaj rest).1 σ1) (tmpl [0,1,3] [.yld 6,.ptr 5 0,vt 2] (bk1 l)) z1:=by
 have h0:(List.length rest:Int) > 0:=by
  have:=List.length_pos_iff.2 hne
  omega
 by_cases h1:Lib.indexByte rest 10 ≥ 0
 ·have hlt:Lib.indexByte rest 10<rest.length:=by
   rcases kit rest with h |h
   ·exact h
   ·exact absurd h hne
  have hw:=kmx h1 hlt hr
  obtain⟨z1,e1,S1⟩:=k4w out a rest l hσ S h0 h1 (by rw[hw];omega)
  rw[hw,(ke2 h1).1,(ke2 h1).2] at S1
  exact⟨z1,_,e1,fun j hj=>by rcases lt7 hj with rfl |rfl |rfl |rfl |rfl |rfl |rfl <;> rfl,S1⟩
 ·obtain⟨z1,e1,S1⟩:=k41 out a rest l hσ S h0 h1
  rw[kil h1]
  exact⟨z1,_,e1,fun j hj=>by rcases lt7 hj with rfl |rfl |rfl |rfl |rfl |rfl |rfl <;> rfl,S1⟩
theorem k43 (out:List Cl) (a:Nat) (rest:List UInt8) {z:St} {σ:Nat→Nat} (l:ALoop) (hσ: ∀ i j,σ i=σ j→i=j) (L:LOk σ l) (S:Sim (V1 out a rest σ) (tmpl [0,1] w01 (bk1 l)) z) (hne:rest≠[]) (hr:a+rest.length≤1000000) (ho:out.length≤1000000):
  (kay (kaj rest).1=true→ ∃ z2 σ2,Ev FF lnX z .nrm z2∧Agree σ σ2∧Sim (V1 (out++[kav (kaj rest).1]) (a+(kaj rest).1.length) (kaj rest).2 σ2) (tmpl [0,1] w01 (bk1 l)) z2)∧
  (¬kay (kaj rest).1=true→ ∃ z2 σ2,Ev FF lnX z .ret z2∧AgreeE σ σ2∧Sim (VE4 a σ2) (tmpl [] [] (bkE4 {l with st:=2,pend:=some .ret})) z2):=by
 obtain⟨z1,σ1,e1,g1,S1⟩:=k4y out a rest l hσ S hne (by omega)
 obtain⟨z0,eA,e3⟩:=e1.seqI
 have hlen:=kdy rest
 refine⟨fun h=> ?_,fun h=> ?_⟩
 ·obtain⟨z2,σ2,e2,h24,g2,S2⟩:=k4u out a _ _ l S1.heap.inj (L.agree g1) S1 (by omega) ho h (by omega)
  refine⟨z2,σ2,?_,g1.trans g2,S2⟩
  exact eA.seq (Ev.block (id:=1) (e3.assoc (e2.seq (Ev.cond (x:= .t 24) (t:=false) (kbd h24) (Ev.skip _)))))
 ·obtain⟨z2,σ2,e2,h24,g2,S2⟩:=k4q out a _ _ l S1.heap.inj (L.agree g1) S1 (by omega) h
  refine⟨z2,σ2,?_,⟨g2.1.trans (g1 0 (by decide)),g2.2.1.trans (g1 1 (by decide)),g2.2.2.1.trans (g1 2 (by decide)),g2.2.2.2.trans (g1 6 (by decide))⟩,S2⟩
  exact eA.seq (Ev.block (id:=1) (e3.assoc (e2.seq (Ev.cond (x:= .t 24) (t:=true) (kbd h24) (Ev.ret _)))))
def ksd (res:List Cl×Nat×Int) (σ:Nat→Nat) (l:ALoop) (z:St):Prop:=
 (res.1≠[]∧res.2.2=0∧ ∃ z' σ' rest',Ev FF (.loop lnX) z (.ext 0) z'∧Agree σ σ'∧Sim (V1 res.1 res.2.1 rest' σ') (tmpl [] [] (bk1 l)) z')∨
 (res.1=[]∧res.2.2=1∧ ∃ z' σ',Ev FF (.loop lnX) z .ret z'∧AgreeE σ σ'∧Sim (VE4 res.2.1 σ') (tmpl [] [] (bkE4 {l with st:=2,pend:=some .ret})) z')
theorem AgreeE.of {a b c:Nat→Nat} (h1:Agree a b) (h2:AgreeE b c):AgreeE a c:=⟨h2.1.trans (h1 0 (by decide)),h2.2.1.trans (h1 1 (by decide)),h2.2.2.1.trans (h1 2 (by decide)),h2.2.2.2.trans (h1 6 (by decide))⟩
theorem k4z (l:ALoop): ∀ (n:Nat) (out:List Cl) (a:Nat) (rest:List UInt8) {z:St} {σ:Nat→Nat},out≠[]→rest.length<n→out.length+rest.length≤1000000→a+rest.length≤1000000→(∀ i j,σ i=σ j→i=j)→LOk σ l→
  Sim (V1 out a rest σ) (tmpl [0,1] w01 (bk1 l)) z→ksd (kdu n out a rest) σ l z:=by
 intro n
 induction n with
 |zero=>intro out a rest z σ _ h;omega
 |succ n ih=>
  intro out a rest z σ hout hn h1 h2 hσ L S
  unfold kdu
  by_cases hr:rest=[]
  ·rw[if_pos hr]
   obtain⟨z1,e1,S1⟩:=k4s out a rest l hσ S (by rw[hr];simp)
   refine .inl ⟨hout,rfl,z1,_,_,Ev.loopJ (e1.seqJ (by intro h;cases h)) (by intro h;cases h),?_,S1⟩
   intro j hj
   rcases lt7 hj with rfl |rfl |rfl |rfl |rfl |rfl |rfl <;> rfl
  ·rw[if_neg hr]
   have hlen:=kdy rest
   have hpos:=keo hr
   obtain⟨hg,hb⟩:=k43 out a rest l hσ L S hr h2 (by omega)
   by_cases hk:kay (kaj rest).1=true
   ·rw[if_pos hk]
    obtain⟨z2,σ2,e2,g2,S2⟩:=hg hk
    rcases ih (out++[kav (kaj rest).1]) (a+(kaj rest).1.length) (kaj rest).2 (by simp) (by omega) (by rw[List.length_append,List.length_singleton];omega) (by omega) S2.heap.inj (L.agree g2) S2 with⟨x1,x2,z',σ',rest',x3,x4,x5⟩ | ⟨x1,x2,z',σ',x3,x4,x5⟩
    ·exact .inl ⟨x1,x2,z',σ',rest',e2.loop x3,g2.trans x4,x5⟩
    ·exact .inr ⟨x1,x2,z',σ',e2.loop x3,AgreeE.of g2 x4,x5⟩
   ·rw[if_neg hk]
    obtain⟨z2,σ2,e2,g2,S2⟩:=hb hk
    exact .inr ⟨rfl,rfl,z2,σ2,Ev.loopJ e2 (by intro h;cases h),g2,S2⟩
end Go.Proofs.Hz
open Go Go.Proofs
namespace Go.Proofs.Hz
abbrev Bs:=List UInt8
structure Mov where
 kind:Int
 n:Int
structure Dt where
 n0:Int
 n1:Int
 n2:Int
 t:List (List Cl)
 m:List Mov
def kak:Bs:=[99,111,114,101,115]
def kal:Bs:=[110,111,100,101,115]
def kao:Bs:=[112,111,114,116,115]
def keh:Bs:=[112,105,99,107]
def kek:Bs:=[116,105,99,107]
def kei:Bs:=[114,101,115,116]
def goL:Bs:=[103,111,10]
def thrL:Bs:=[116,104,114,101,97,100,10]
def hdL (w:Bs) (n:Int):Bs:=w++([32]++(kaa n++[10]))
def kab (k:Int):Bs:=if k=0 then keh else if k=1 then kek else kei
def mvL (m:Mov):Bs:=hdL (kab m.kind) m.n
def midL (w l:Bs):Bs:=(l.drop (w.length+1)).dropLast
def kaq (w l:Bs) (most:Int):Int:=
 if(w++[32]).isPrefixOf l=true∧kac l=true∧kaz (midL w l)=true∧0≤kad (midL w l)∧kad (midL w l)≤most then kad (midL w l) else -1
def kb4 (l:Bs):Option Mov:=
 if 0≤kaq keh l 9999 then some ⟨0,kaq keh l 9999⟩
 else if 0≤kaq kek l 9999 then some ⟨1,kaq kek l 9999⟩
 else if 0≤kaq kei l 9999 then some ⟨2,kaq kei l 9999⟩ else none
def kfs:Nat→Bs→List Bs
 |0,_=>[]
 |n+1,s=>if s=[] then [] else(kaj s).1::kfs n (kaj s).2
def ka9 (s:Bs):List Bs:=kfs (s.length+1) s
def kcx (l:Bs) (T:List (List Cl)):Option (List (List Cl)):=
 if l=thrL then(if T.length=16 then none else some (T++[[]]))
 else if T=[]∨kay l=false∨(T.getLastD []).length=100 then none
 else some (T.dropLast++[T.getLastD []++[kav l]])
def kco:List Bs→Nat→List (List Cl)→Option (List (List Cl))×Nat×List Bs
 | [],a,_=>(none,a,[])
 |l::ls,a,T=>if l=goL then(some T,a+1,ls) else match kcx l T with
  |none=>(none,a,ls)
  |some T'=>kco ls (a+1) T'
def mvGo:List Bs→Nat→List Mov→Option (List Mov)×Nat
 | [],a,M=>(some M,a)
 |l::ls,a,M=>match kb4 l with
  |none=>(none,a)
  |some m=>if M.length=1000 then(none,a) else mvGo ls (a+1) (M++[m])
def kc5 (L:List Bs):Option Dt×Nat:=
 if kaq kak (L.getD 0 []) 999<0 then(none,1)
 else if kaq kal (L.getD 1 []) 999<0 then(none,2)
 else if kaq kao (L.getD 2 []) 999<0 then(none,3)
 else match kco (L.drop 3) 3 [] with
  |(none,a,_)=>(none,a+1)
  |(some T,a,ls)=>match mvGo ls a [] with
   |(none,a)=>(none,a+1)
   |(some M,a)=>(some ⟨kaq kak (L.getD 0 []) 999,kaq kal (L.getD 1 []) 999,kaq kao (L.getD 2 []) 999,T,M⟩,a)
def kcn (s:Bs):Option Dt×Nat:=kc5 (ka9 s)
def kc3 (n:Int):Prop:=0≤n∧n≤999
instance (n:Int):Decidable (kc3 n):=inferInstanceAs (Decidable (_∧_))
def kbb (l:List Cl):Bool:=kcg l && decide (l.length≤100)
def mvOk (m:Mov):Bool:=decide ((0≤m.kind∧m.kind≤2)∧(0≤m.n∧m.n≤9999))
def mayD (x:Dt):Bool:=decide (kc3 x.n0∧kc3 x.n1∧kc3 x.n2) && x.t.all kbb && x.m.all mvOk && decide (x.t.length≤16∧x.m.length≤1000)
def thrT (l:List Cl):Bs:=thrL++ka1 l
def kcb (l:List Cl):List Bs:=thrL::l.map kbp
def kcs (x:Dt):List Bs:=[hdL kak x.n0,hdL kal x.n1,hdL kao x.n2]
def kb7 (x:Dt):List Bs:=kcs x++((x.t.map kcb).flatten++(goL::x.m.map mvL))
def kbl (x:Dt):Bs:=(kb7 x).flatten
def IsLn (l:Bs):Prop:=∃ p:Bs,l=p++[10]∧(10:UInt8) ∉ p
theorem ksx {p r:Bs} (h:(10:UInt8) ∉ p):kaj (p++10::r)=(p++[10],r):=by
 induction p with
 |nil=>rfl
 |cons c p ih=>
  simp only[List.mem_cons,not_or] at h
  rw[List.cons_append]
  unfold kaj
  rw[if_neg (Ne.symm h.1),ih h.2]
  rfl
theorem ksy {p:Bs} (h:(10:UInt8) ∉ p):kaj p=(p,[]):=by
 induction p with
 |nil=>rfl
 |cons c p ih=>
  simp only[List.mem_cons,not_or] at h
  unfold kaj
  rw[if_neg (Ne.symm h.1),ih h.2]
theorem kua (n:Nat):kfs n []=[]:=by
 cases n with
 |zero=>rfl
 |succ n=>unfold kfs;rw[if_pos rfl]
theorem kt9: ∀ (n m:Nat) (s:Bs),s.length<n→s.length<m→kfs n s=kfs m s
 |0,_,_,h,_=>by omega
 |_+1,0,_,_,h=>by omega
 |n+1,m+1,s,h1,h2=>by
  by_cases hs:s=[]
  ·subst hs;rw[kua,kua]
  ·have:=kdy s
   have:=keo hs
   unfold kfs
   rw[if_neg hs,if_neg hs,kt9 n m _ (by omega) (by omega)]
theorem kuc:ka9 []=[]:=rfl
theorem kgw {s:Bs} (hs:s≠[]):ka9 s=(kaj s).1::ka9 (kaj s).2:=by
 have:=kdy s
 have:=keo hs
 unfold ka9
 rw[kfs,if_neg hs,kt9 _ ((kaj s).2.length+1) _ (by omega) (by omega)]
theorem k39 {l:Bs} (h:IsLn l) (r:Bs):ka9 (l++r)=l::ka9 r:=by
 obtain⟨p,rfl,hp⟩:=h
 rw[kgw (by simp),List.append_assoc,show [10]++r=10::r from rfl,ksx hp]
theorem ko0: ∀ {L:List Bs},(∀ l ∈ L,IsLn l)→ ∀ r,ka9 (L.flatten++r)=L++ka9 r
 | [],_,r=>rfl
 |l::L,h,r=>by
  rw[List.flatten_cons,List.append_assoc,k39 (h l (by simp)),ko0 (fun x hx=>h x (by simp[hx])) r]
  rfl
theorem k4a {p:Bs} (h:(10:UInt8) ∉ p):ka9 p=if p=[] then [] else [p]:=by
 by_cases hp:p=[]
 ·rw[if_pos hp,hp];rfl
 ·rw[if_neg hp,kgw hp,ksy h];rfl
theorem kub: ∀ (n:Nat) (s:Bs),s.length<n→(ka9 s).flatten=s
 |0,_,h=>by omega
 |n+1,s,h=>by
  by_cases hs:s=[]
  ·subst hs;rfl
  ·have:=kdy s
   have:=keo hs
   rw[kgw hs,List.flatten_cons,kub n _ (by omega),knm]
theorem k4g (s:Bs):(ka9 s).flatten=s:=kub (s.length+1) s (by omega)
theorem k1k (s:Bs):(∃ p,(kaj s).1=p++[10]∧(10:UInt8) ∉ p)∨((10:UInt8) ∉ (kaj s).1∧(kaj s).2=[]):=by
 induction s with
 |nil=>exact .inr ⟨by simp[kaj],rfl⟩
 |cons c s ih=>
  unfold kaj
  split
  ·exact .inl ⟨[],rfl,by simp⟩
  ·rename_i hc
   rcases ih with⟨p,h1,h2⟩ | ⟨h1,h2⟩
   ·exact .inl ⟨c::p,by simp[h1],by simp[h2,Ne.symm hc]⟩
   ·exact .inr ⟨by simp[h1,Ne.symm hc],h2⟩
end Go.Proofs.Hz
