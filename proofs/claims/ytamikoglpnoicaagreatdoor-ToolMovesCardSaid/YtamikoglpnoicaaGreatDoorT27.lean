/-
  Chapter 15: syscalls' texts, parsed: plainly. (Plain definitions and laws.) And: Chapter 20: call.Parse, in pieces (a loop over the lines of a text), written by a program of our own (wip/tools).
  Conditions: none.
-/
import Derived.Test.YtamikoglpnoicaaGreatDoorT25
import Derived.Test.YtamikoglpnoicaaGreatDoorT26
import Derived.Lib.IndexLaws
open Go Go.Proofs
namespace Go.Proofs.Hz
def kaj:List UInt8→List UInt8×List UInt8
 | []=>([],[])
 |c::l=>if c=10 then([10],l) else(c::(kaj l).1,(kaj l).2)
def kdu:Nat→List Cl→Nat→List UInt8→List Cl×Nat×Int
 |0,out,a,_=>(out,a,0)
 |n+1,out,a,rest=>if rest=[] then(out,a,0) else
  if kay (kaj rest).1=true then kdu n (out++[kav (kaj rest).1]) (a+(kaj rest).1.length) (kaj rest).2 else([],a,1)
def kfv (s:List UInt8):List Cl×Nat×Int:=kdu (s.length+1) [] 0 s
theorem kit: ∀ (l:List UInt8),Lib.indexByte l 10<l.length∨l=[]
 | []=> .inr rfl
 |c::l=> .inl (by
  have:=kit l
  unfold Lib.indexByte
  split
  ·simp only[List.length_cons];omega
  ·split
   ·simp only[List.length_cons];omega
   ·rename_i h1 h2
    rcases this with h |h
    ·simp only[List.length_cons];omega
    ·subst h;exact absurd rfl h2)
theorem ke2: ∀ {l:List UInt8},0≤Lib.indexByte l 10→l.take (Lib.indexByte l 10+1).toNat=(kaj l).1∧l.drop (Lib.indexByte l 10+1).toNat=(kaj l).2
 | [],h=>by simp[Lib.indexByte] at h
 |c::l,h=>by
  unfold kaj
  by_cases hc:c=10
  ·subst hc
   have e:Lib.indexByte (10::l) 10=0:=by unfold Lib.indexByte;rfl
   rw[e,if_pos rfl]
   exact⟨rfl,rfl⟩
  ·rw[if_neg hc]
   have hb:(c == 10)=false:=beq_eq_false_iff_ne.2 hc
   unfold Lib.indexByte at h ⊢
   simp only[hb,Bool.false_eq_true,if_false] at h ⊢
   by_cases h1:Lib.indexByte l 10= -1
   ·rw[h1] at h;simp at h
   ·have hb1:(Lib.indexByte l 10 == -1)=false:=beq_eq_false_iff_ne.2 h1
    have hg:=Lib.indexByte_ge l 10
    obtain⟨e1,e2⟩:=ke2 (l:=l) (by omega)
    simp only[hb1,Bool.false_eq_true,if_false]
    have ht:(Lib.indexByte l 10+1+1).toNat=(Lib.indexByte l 10+1).toNat+1:=by omega
    rw[ht,List.take_succ_cons,List.drop_succ_cons,e1,e2]
    exact⟨rfl,rfl⟩
theorem kil: ∀ {l:List UInt8},¬0≤Lib.indexByte l 10→kaj l=(l,[])
 | [],_=>rfl
 |c::l,h=>by
  unfold kaj
  unfold Lib.indexByte at h
  by_cases hc:c=10
  ·subst hc;exact absurd (Int.le_refl 0) h
  ·have hb:(c == 10)=false:=beq_eq_false_iff_ne.2 hc
   simp only[hb,Bool.false_eq_true,if_false] at h
   rw[if_neg hc]
   have hl: ¬0≤Lib.indexByte l 10:=fun h0=>by
    have hb1:(Lib.indexByte l 10 == -1)=false:=beq_eq_false_iff_ne.2 (by omega)
    rw[hb1] at h
    simp only[Bool.false_eq_true,if_false] at h
    omega
   rw[kil hl]
theorem knm: ∀ (l:List UInt8),(kaj l).1++(kaj l).2=l
 | []=>rfl
 |c::l=>by
  unfold kaj
  split
  ·rename_i h;subst h;rfl
  ·simp only[List.cons_append,knm l]
theorem keo: ∀ {l:List UInt8},l≠[]→0<(kaj l).1.length
 | [],h=>absurd rfl h
 |c::l,_=>by
  unfold kaj
  split <;> simp
theorem kdy (l:List UInt8):(kaj l).1.length+(kaj l).2.length=l.length:=by
 conv=>rhs;rw[←knm l]
 simp
end Go.Proofs.Hz
open Go Go.Proofs
namespace Go.Proofs.Hz
def subA:AC→AC
 | .seq a _=>a
 | .block _ b=>b
 | .loop b=>b
 | .cond _ a _=>a
 | .rngf _ _ _ a _=>a
 |c=>c
def subB:AC→AC
 | .seq _ b=>b
 | .cond _ _ b=>b
 | .rngf _ _ _ _ b=>b
 |c=>c
noncomputable def lnL:AC:=subA (subA (fnOf FF 49).body)
noncomputable def lnA:AC:=subA lnL
noncomputable def ln3:AC:=subA (subA (subB lnL))
noncomputable def lnM:AC:=subA (subB (subA (subB lnL)))
def lnY:List AOper:=[⟨some 21,.mov (.t 0),none⟩,⟨some 22,.mov (.t 3),none⟩,⟨some 23,.call (.t 21) [.t 22],none⟩,⟨some 24,.un .not (.t 23),none⟩]
theorem k44:(fnOf FF 49).body= .block 0 (.loop (.seq lnA (.block 1 (.seq ln3 (.seq lnM (.seq (.reg lnY) (.cond (.t 24) .ret .skip))))))):=by kernel_rfl
noncomputable def paA:AC:=subA (fnOf FF 77).body
noncomputable def paB:AC:=subA (subB (fnOf FF 77).body)
noncomputable def paC:AC:=subA (subB (subB (fnOf FF 77).body))
noncomputable def paX:AC:=subB (subB (subB (fnOf FF 77).body))
noncomputable def paD:AC:=subA (subA paX)
noncomputable def paE:AC:=subB paX
noncomputable def paG:AC:=subA (subA (subB (subA paX)))
noncomputable def paH:AC:=subB (subA (subB (subA paX)))
theorem k7d:(fnOf FF 77).body= .seq paA (.seq paB (.seq paC (.seq (.seq paD (.block 0 (.rngf 31 (.t 11) [12] paG paH))) paE))):=by kernel_rfl
theorem kfo (s:List UInt8):Spec FF 50 [.str s,.int .u8 10] (.int .i64 (Lib.indexByte s 10)):=⟨10,by kernel_rfl⟩
def w01:List AV:=[.yld 6,.ptr 5 0]
def wP:List AV:=[.ptr 0 0,.ptr 1 0,.ptr 2 0,.ptr 3 0,.ptr 4 0]
def bk0 (l:ALoop):List Blk:=[.cells [.im [] true] false 42,.cells [.int .i64 0] false 3,.cells [.int .i64 0] false 29,.cells [.im [] true] false 42,.cells [vt 0] false 3,.cells [vt 1] false 9,.loop l]
def bk1 (l:ALoop):List Blk:=[.cells [.im [] true] false 42,.cells [.int .i64 0] false 3,.cells [.int .i64 0] false 29,.cells [.sl 7 0 1000003 3 none] false 42,.cells [vt 0] false 3,.cells [vt 1] false 9,.loop l,.own 1000003 false 48]
def bkE4 (l:ALoop):List Blk:=[.cells [.im [] true] false 42,.cells [vt 0] false 3,.cells [.int .i64 1] false 29,.loop l]
def V0 (_out:List Cl) (a:Nat) (rest:List UInt8) (σ:Nat→Nat):Val:=valL [.int .i64 (a:Int),.str rest] [] [] σ 7
def V1 (out:List Cl) (a:Nat) (rest:List UInt8) (σ:Nat→Nat):Val:=valL [.int .i64 (a:Int),.str rest] [] [(3,out.map eC)] σ 8
def VL0 (_out:List Cl) (a:Nat) (rest line:List UInt8) (σ:Nat→Nat):Val:=valL [.int .i64 (a:Int),.str rest,.str line] [] [] σ 7
def VL1 (out:List Cl) (a:Nat) (rest line:List UInt8) (σ:Nat→Nat):Val:=valL [.int .i64 (a:Int),.str rest,.str line] [] [(3,out.map eC)] σ 8
def VE4 (a:Nat) (σ:Nat→Nat):Val:=valL [.int .i64 (a:Int)] [] [] σ 4
theorem k4r (out:List Cl) (a:Nat) (rest:List UInt8) {z:St} {σ:Nat→Nat} (l:ALoop) (hσ: ∀ i j,σ i=σ j→i=j) (S:Sim (V0 out a rest σ) (tmpl [0,1] w01 (bk0 l)) z) (h0: ¬(List.length rest:Int) > 0): ∃ z1,Ev FF lnA z (.ext 0) z1∧Sim (V0 out a rest (sig σ [0,1,2,3,4,5,6] 7)) (tmpl [] [] (bk0 l)) z1:=by
 have H:=Tok.start (G:=gl20) (F:=FF) hσ S 7 2 0 0 [.int .i64 (a:Int),.str rest] [] [] .n .n rfl rfl
 have H:=H.t 4 [.int .i64 (List.length rest:Int),.bool (decide ((List.length rest:Int) > 0))]|>.r [(.len 1 (cT 1),vt 2),(.bin .gtr (cT 2) (cI 0),vt 3)]|>.m 3 false (decide_eq_false h0)
 exact H.ev lnA (.ext 0) [] [0,1,2,3,4,5,6] [] [.cells [.im [] true] false 42,.cells [.int .i64 0] false 3,.cells [.int .i64 0] false 29,.cells [.im [] true] false 42,.cells [vt 0] false 3,.cells [vt 1] false 9,.loop l] 7 [] (bk0 l) (V0 out a rest (sig σ [0,1,2,3,4,5,6] 7))
theorem k4v (out:List Cl) (a:Nat) (rest:List UInt8) {z:St} {σ:Nat→Nat} (l:ALoop) (hσ: ∀ i j,σ i=σ j→i=j) (S:Sim (V0 out a rest σ) (tmpl [0,1] w01 (bk0 l)) z) (h0:(List.length rest:Int) > 0) (h1:Lib.indexByte rest 10 ≥ 0) (h2:0≤w64 (Lib.indexByte rest 10+1)∧w64 (Lib.indexByte rest 10+1)≤(List.length rest:Int)): ∃ z1,Ev FF (.seq lnA (.seq ln3 lnM)) z .nrm z1∧Sim (VL0 out a (List.drop (Int.toNat (w64 (Lib.indexByte rest 10+1))) rest) (List.take (Int.toNat (w64 (Lib.indexByte rest 10+1))) rest) (sig σ [0,1,2,3,4,5,6] 17)) (tmpl [0,1,3] [.yld 6,.ptr 5 0,vt 2] (bk0 l)) z1:=by
 have H:=Tok.start (G:=gl20) (F:=FF) hσ S 7 2 0 0 [.int .i64 (a:Int),.str rest] [] [] .n .n rfl rfl
 have H:=H.t 5 [.int .i64 (List.length rest:Int),.bool (decide ((List.length rest:Int) > 0)),.int .i64 (Lib.indexByte rest 10)]|>.r [(.len 1 (cT 1),vt 2),(.bin .gtr (cT 2) (cI 0),vt 3)]|>.m 3 true (decide_eq_true h0)|>.s [vt 1,.int .u8 10] (vt 4) (kfo rest)
 have H:=H.t 7 [.bool (decide (Lib.indexByte rest 10 ≥ 0)),.int .i64 (w64 (Lib.indexByte rest 10+1))]|>.r [(.bin .geq (cT 4) (cI 0),vt 5),(.bin .add (cT 4) (cI 1),vt 6)]|>.m 5 true (decide_eq_true h1)
 have H:=H.t 9 [.str (List.take (Int.toNat (w64 (Lib.indexByte rest 10+1))) rest),.str (List.drop (Int.toNat (w64 (Lib.indexByte rest 10+1))) rest)]|>.c (p:=(.slT (cT 1) none (some (cT 6)),vt 7)) (fun _ _ _=>fSlT (l:=rest) (l':=(List.take (Int.toNat (w64 (Lib.indexByte rest 10+1))) rest)) (lo:=none) (hi:=(some ((vt 6),(w64 (Lib.indexByte rest 10+1):Int)))) (by kernel_rfl) trivial ⟨.i64,by kernel_rfl⟩ (by simp only[optN];omega) (by simp[optN]) (by kernel_rfl))
  |>.c (p:=(.slT (cT 1) (some (cT 6)) none,vt 8)) (fun _ _ _=>fSlT (l:=rest) (l':=(List.drop (Int.toNat (w64 (Lib.indexByte rest 10+1))) rest)) (lo:=(some ((vt 6),(w64 (Lib.indexByte rest 10+1):Int)))) (hi:=none) (by kernel_rfl) ⟨.i64,by kernel_rfl⟩ trivial (by simp only[optN];omega) (by simp only[optN];exact khj _ _) (by kernel_rfl))
 exact H.ev (.seq lnA (.seq ln3 lnM)) .nrm [0,1,3] [0,1,2,3,4,5,6] [.yld 6,.ptr 5 0,vt 7] [.cells [.im [] true] false 42,.cells [.int .i64 0] false 3,.cells [.int .i64 0] false 29,.cells [.im [] true] false 42,.cells [vt 0] false 3,.cells [vt 8] false 9,.loop l] 17 [.yld 6,.ptr 5 0,vt 2] (bk0 l) (VL0 out a (List.drop (Int.toNat (w64 (Lib.indexByte rest 10+1))) rest) (List.take (Int.toNat (w64 (Lib.indexByte rest 10+1))) rest) (sig σ [0,1,2,3,4,5,6] 17))
theorem k40 (out:List Cl) (a:Nat) (rest:List UInt8) {z:St} {σ:Nat→Nat} (l:ALoop) (hσ: ∀ i j,σ i=σ j→i=j) (S:Sim (V0 out a rest σ) (tmpl [0,1] w01 (bk0 l)) z) (h0:(List.length rest:Int) > 0) (h1: ¬Lib.indexByte rest 10 ≥ 0): ∃ z1,Ev FF (.seq lnA (.seq ln3 lnM)) z .nrm z1∧Sim (VL0 out a [] rest (sig σ [0,1,2,3,4,5,6] 7)) (tmpl [0,1,3] [.yld 6,.ptr 5 0,vt 2] (bk0 l)) z1:=by
 have H:=Tok.start (G:=gl20) (F:=FF) hσ S 7 2 0 0 [.int .i64 (a:Int),.str rest] [] [] .n .n rfl rfl
 have H:=H.t 5 [.int .i64 (List.length rest:Int),.bool (decide ((List.length rest:Int) > 0)),.int .i64 (Lib.indexByte rest 10)]|>.r [(.len 1 (cT 1),vt 2),(.bin .gtr (cT 2) (cI 0),vt 3)]|>.m 3 true (decide_eq_true h0)|>.s [vt 1,.int .u8 10] (vt 4) (kfo rest)
 have H:=H.t 6 [.bool (decide (Lib.indexByte rest 10 ≥ 0))]|>.r [(.bin .geq (cT 4) (cI 0),vt 5)]|>.m 5 false (decide_eq_false h1)
 exact H.ev (.seq lnA (.seq ln3 lnM)) .nrm [0,1,3] [0,1,2,3,4,5,6] [.yld 6,.ptr 5 0,vt 1] [.cells [.im [] true] false 42,.cells [.int .i64 0] false 3,.cells [.int .i64 0] false 29,.cells [.im [] true] false 42,.cells [vt 0] false 3,.cells [.str []] false 9,.loop l] 7 [.yld 6,.ptr 5 0,vt 2] (bk0 l) (VL0 out a [] rest (sig σ [0,1,2,3,4,5,6] 7))
theorem kvd (out:List Cl) (a:Nat) (rest line:List UInt8) {z:St} {σ:Nat→Nat} (l:ALoop) (hσ: ∀ i j,σ i=σ j→i=j) (S:Sim (VL0 out a rest line σ) (tmpl [2,3,4,5,6,12] (wP++[vt 2]) (bk0 l)) z): ∃ z1,Ev FF paG z .nrm z1∧Sim (VL0 out a rest line (sig σ [0,1,2,3,4,5,6] 7)) (tmpl [2,3,4,5,6,7] (wP++[vt 2]) (bk0 l)) z1:=by
 have H:=Tok.start (G:=gl20) (F:=FF) hσ S 7 3 0 0 [.int .i64 (a:Int),.str rest,.str line] [] [] .n .n rfl rfl
 exact H.ev paG .nrm [2,3,4,5,6,7] [0,1,2,3,4,5,6] (wP++[vt 2]) [.cells [.im [] true] false 42,.cells [.int .i64 0] false 3,.cells [.int .i64 0] false 29,.cells [.im [] true] false 42,.cells [vt 0] false 3,.cells [vt 1] false 9,.loop l] 7 (wP++[vt 2]) (bk0 l) (VL0 out a rest line (sig σ [0,1,2,3,4,5,6] 7))
theorem k65 (out:List Cl) (a:Nat) (rest line:List UInt8) {z:St} {σ:Nat→Nat} (l:ALoop) (hσ: ∀ i j,σ i=σ j→i=j) (S:Sim (VL0 out a rest line σ) (tmpl [2,3,4,5,6,7] (wP++[vt 2]) (bk0 l)) z) (hl:line.length≤1000000) (h0: ¬kay line=true): ∃ z1,Ev FF paH z .ret z1∧Sim (VE4 a (sig σ [0,1,2,6] 12)) (tmpl [] [] (bkE4 l)) z1:=by
 have H:=Tok.start (G:=gl20) (F:=FF) hσ S 7 3 0 0 [.int .i64 (a:Int),.str rest,.str line] [] [] .n .n rfl rfl
 have H:=H.t 8 [.int .i64 (kav line).no,.int .i64 (kav line).a,.int .i64 (kav line).b,.bool (kay line),.bool (!(kay line))]|>.s [vt 2] (.tup [.agg [vt 3,vt 4,vt 5],vt 6]) (kk5 line hl)|>.r [(.un .not (cT 6),vt 7)]|>.m 7 true (b:= !(kay line)) (by simp[h0])
 exact H.ev paH .ret [] [0,1,2,6] [] [.cells [.im [] true] false 42,.cells [vt 0] false 3,.cells [.int .i64 1] false 29,.loop l] 12 [] (bkE4 l) (VE4 a (sig σ [0,1,2,6] 12))
theorem k7a (out:List Cl) (a:Nat) (rest line:List UInt8) {z:St} {σ:Nat→Nat} (l:ALoop) (hσ: ∀ i j,σ i=σ j→i=j) (S:Sim (VL0 out a rest line σ) (tmpl [2,3,4,5,6,7] (wP++[vt 2]) (bk0 l)) z) (hl:line.length≤1000000) (h0:kay line=true) (hw:w64 ((a:Int)+(List.length line:Int))=((a+line.length:Nat):Int)): ∃ z1,Ev FF paH z .nrm z1∧Sim (V1 [kav line] (a+line.length) rest (sig σ [0,1,2,3,4,5,6,9] 10)) (tmpl [] [] (bk1 l)) z1:=by
 have H:=Tok.start (G:=gl20) (F:=FF) hσ S 7 3 0 0 [.int .i64 (a:Int),.str rest,.str line] [] [] .n .n rfl rfl
 have H:=H.t 8 [.int .i64 (kav line).no,.int .i64 (kav line).a,.int .i64 (kav line).b,.bool (kay line),.bool (!(kay line))]|>.s [vt 2] (.tup [.agg [vt 3,vt 4,vt 5],vt 6]) (kk5 line hl)|>.r [(.un .not (cT 6),vt 7)]|>.m 7 false (b:= !(kay line)) (by simp[h0])
 have H:=H.t 10 [.int .i64 (List.length line:Int),.int .i64 (w64 ((a:Int)+(List.length line:Int)))]|>.r [(.len 1 (cT 2),vt 8),(.bin .add (cT 0) (cT 8),vt 9)]
 rw[hw] at H
 exact H.ev paH .nrm [] [0,1,2,3,4,5,6,9] [] [.cells [.im [] true] false 42,.cells [.int .i64 0] false 3,.cells [.int .i64 0] false 29,.cells [.sl 9 0 1 3 none] false 42,.cells [vt 9] false 3,.cells [vt 1] false 9,.loop l,.cells [vt 3,vt 4,vt 5] false 48] 10 [] (bk1 l) (V1 [kav line] (a+line.length) rest (sig σ [0,1,2,3,4,5,6,9] 10))
theorem k67 (out:List Cl) (a:Nat) (rest:List UInt8) {z:St} {σ:Nat→Nat} (l:ALoop) (hσ: ∀ i j,σ i=σ j→i=j) (S:Sim (V0 out a rest σ) (tmpl [2,3,4,5,6] wP (bk0 l)) z):J FF (fnOf FF 77) [] (.code paE) z (.tup [(.im [] true),.int .i64 (a:Int),.int .i64 0]):=by
 have H:=Tok.start (G:=gl20) (F:=FF) hσ S 7 2 0 0 [.int .i64 (a:Int),.str rest] [] [] .n .n rfl rfl
 exact H.e [] rfl
theorem k4s (out:List Cl) (a:Nat) (rest:List UInt8) {z:St} {σ:Nat→Nat} (l:ALoop) (hσ: ∀ i j,σ i=σ j→i=j) (S:Sim (V1 out a rest σ) (tmpl [0,1] w01 (bk1 l)) z) (h0: ¬(List.length rest:Int) > 0): ∃ z1,Ev FF lnA z (.ext 0) z1∧Sim (V1 out a rest (sig σ [0,1,2,3,4,5,6,7] 8)) (tmpl [] [] (bk1 l)) z1:=by
 have H:=Tok.start (G:=gl20) (F:=FF) hσ S 8 2 0 1 [.int .i64 (a:Int),.str rest] [] [(0,3,out.map eC)] .n (.c (OkO.own ka0 _) .n) rfl rfl
 have H:=H.t 4 [.int .i64 (List.length rest:Int),.bool (decide ((List.length rest:Int) > 0))]|>.r [(.len 1 (cT 1),vt 2),(.bin .gtr (cT 2) (cI 0),vt 3)]|>.m 3 false (decide_eq_false h0)
 exact H.ev lnA (.ext 0) [] [0,1,2,3,4,5,6,7] [] [.cells [.im [] true] false 42,.cells [.int .i64 0] false 3,.cells [.int .i64 0] false 29,.cells [.sl 7 0 1000003 3 none] false 42,.cells [vt 0] false 3,.cells [vt 1] false 9,.loop l,.own 1000003 false 48] 8 [] (bk1 l) (V1 out a rest (sig σ [0,1,2,3,4,5,6,7] 8))
theorem k4w (out:List Cl) (a:Nat) (rest:List UInt8) {z:St} {σ:Nat→Nat} (l:ALoop) (hσ: ∀ i j,σ i=σ j→i=j) (S:Sim (V1 out a rest σ) (tmpl [0,1] w01 (bk1 l)) z) (h0:(List.length rest:Int) > 0) (h1:Lib.indexByte rest 10 ≥ 0) (h2:0≤w64 (Lib.indexByte rest 10+1)∧w64 (Lib.indexByte rest 10+1)≤(List.length rest:Int)): ∃ z1,Ev FF (.seq lnA (.seq ln3 lnM)) z .nrm z1∧Sim (VL1 out a (List.drop (Int.toNat (w64 (Lib.indexByte rest 10+1))) rest) (List.take (Int.toNat (w64 (Lib.indexByte rest 10+1))) rest) (sig σ [0,1,2,3,4,5,6,7] 18)) (tmpl [0,1,3] [.yld 6,.ptr 5 0,vt 2] (bk1 l)) z1:=by
 have H:=Tok.start (G:=gl20) (F:=FF) hσ S 8 2 0 1 [.int .i64 (a:Int),.str rest] [] [(0,3,out.map eC)] .n (.c (OkO.own ka0 _) .n) rfl rfl
 have H:=H.t 5 [.int .i64 (List.length rest:Int),.bool (decide ((List.length rest:Int) > 0)),.int .i64 (Lib.indexByte rest 10)]|>.r [(.len 1 (cT 1),vt 2),(.bin .gtr (cT 2) (cI 0),vt 3)]|>.m 3 true (decide_eq_true h0)|>.s [vt 1,.int .u8 10] (vt 4) (kfo rest)
 have H:=H.t 7 [.bool (decide (Lib.indexByte rest 10 ≥ 0)),.int .i64 (w64 (Lib.indexByte rest 10+1))]|>.r [(.bin .geq (cT 4) (cI 0),vt 5),(.bin .add (cT 4) (cI 1),vt 6)]|>.m 5 true (decide_eq_true h1)
 have H:=H.t 9 [.str (List.take (Int.toNat (w64 (Lib.indexByte rest 10+1))) rest),.str (List.drop (Int.toNat (w64 (Lib.indexByte rest 10+1))) rest)]|>.c (p:=(.slT (cT 1) none (some (cT 6)),vt 7)) (fun _ _ _=>fSlT (l:=rest) (l':=(List.take (Int.toNat (w64 (Lib.indexByte rest 10+1))) rest)) (lo:=none) (hi:=(some ((vt 6),(w64 (Lib.indexByte rest 10+1):Int)))) (by kernel_rfl) trivial ⟨.i64,by kernel_rfl⟩ (by simp only[optN];omega) (by simp[optN]) (by kernel_rfl))
  |>.c (p:=(.slT (cT 1) (some (cT 6)) none,vt 8)) (fun _ _ _=>fSlT (l:=rest) (l':=(List.drop (Int.toNat (w64 (Lib.indexByte rest 10+1))) rest)) (lo:=(some ((vt 6),(w64 (Lib.indexByte rest 10+1):Int)))) (hi:=none) (by kernel_rfl) ⟨.i64,by kernel_rfl⟩ trivial (by simp only[optN];omega) (by simp only[optN];exact khj _ _) (by kernel_rfl))
 exact H.ev (.seq lnA (.seq ln3 lnM)) .nrm [0,1,3] [0,1,2,3,4,5,6,7] [.yld 6,.ptr 5 0,vt 7] [.cells [.im [] true] false 42,.cells [.int .i64 0] false 3,.cells [.int .i64 0] false 29,.cells [.sl 7 0 1000003 3 none] false 42,.cells [vt 0] false 3,.cells [vt 8] false 9,.loop l,.own 1000003 false 48] 18 [.yld 6,.ptr 5 0,vt 2] (bk1 l) (VL1 out a (List.drop (Int.toNat (w64 (Lib.indexByte rest 10+1))) rest) (List.take (Int.toNat (w64 (Lib.indexByte rest 10+1))) rest) (sig σ [0,1,2,3,4,5,6,7] 18))
theorem k41 (out:List Cl) (a:Nat) (rest:List UInt8) {z:St} {σ:Nat→Nat} (l:ALoop) (hσ: ∀ i j,σ i=σ j→i=j) (S:Sim (V1 out a rest σ) (tmpl [0,1] w01 (bk1 l)) z) (h0:(List.length rest:Int) > 0) (h1: ¬Lib.indexByte rest 10 ≥ 0): ∃ z1,Ev FF (.seq lnA (.seq ln3 lnM)) z .nrm z1∧Sim (VL1 out a [] rest (sig σ [0,1,2,3,4,5,6,7] 8)) (tmpl [0,1,3] [.yld 6,.ptr 5 0,vt 2] (bk1 l)) z1:=by
 have H:=Tok.start (G:=gl20) (F:=FF) hσ S 8 2 0 1 [.int .i64 (a:Int),.str rest] [] [(0,3,out.map eC)] .n (.c (OkO.own ka0 _) .n) rfl rfl
 have H:=H.t 5 [.int .i64 (List.length rest:Int),.bool (decide ((List.length rest:Int) > 0)),.int .i64 (Lib.indexByte rest 10)]|>.r [(.len 1 (cT 1),vt 2),(.bin .gtr (cT 2) (cI 0),vt 3)]|>.m 3 true (decide_eq_true h0)|>.s [vt 1,.int .u8 10] (vt 4) (kfo rest)
 have H:=H.t 6 [.bool (decide (Lib.indexByte rest 10 ≥ 0))]|>.r [(.bin .geq (cT 4) (cI 0),vt 5)]|>.m 5 false (decide_eq_false h1)
 exact H.ev (.seq lnA (.seq ln3 lnM)) .nrm [0,1,3] [0,1,2,3,4,5,6,7] [.yld 6,.ptr 5 0,vt 1] [.cells [.im [] true] false 42,.cells [.int .i64 0] false 3,.cells [.int .i64 0] false 29,.cells [.sl 7 0 1000003 3 none] false 42,.cells [vt 0] false 3,.cells [.str []] false 9,.loop l,.own 1000003 false 48] 8 [.yld 6,.ptr 5 0,vt 2] (bk1 l) (VL1 out a [] rest (sig σ [0,1,2,3,4,5,6,7] 8))
theorem kve (out:List Cl) (a:Nat) (rest line:List UInt8) {z:St} {σ:Nat→Nat} (l:ALoop) (hσ: ∀ i j,σ i=σ j→i=j) (S:Sim (VL1 out a rest line σ) (tmpl [2,3,4,5,6,12] (wP++[vt 2]) (bk1 l)) z): ∃ z1,Ev FF paG z .nrm z1∧Sim (VL1 out a rest line (sig σ [0,1,2,3,4,5,6,7] 8)) (tmpl [2,3,4,5,6,7] (wP++[vt 2]) (bk1 l)) z1:=by
 have H:=Tok.start (G:=gl20) (F:=FF) hσ S 8 3 0 1 [.int .i64 (a:Int),.str rest,.str line] [] [(0,3,out.map eC)] .n (.c (OkO.own ka0 _) .n) rfl rfl
 exact H.ev paG .nrm [2,3,4,5,6,7] [0,1,2,3,4,5,6,7] (wP++[vt 2]) [.cells [.im [] true] false 42,.cells [.int .i64 0] false 3,.cells [.int .i64 0] false 29,.cells [.sl 7 0 1000003 3 none] false 42,.cells [vt 0] false 3,.cells [vt 1] false 9,.loop l,.own 1000003 false 48] 8 (wP++[vt 2]) (bk1 l) (VL1 out a rest line (sig σ [0,1,2,3,4,5,6,7] 8))
theorem k66 (out:List Cl) (a:Nat) (rest line:List UInt8) {z:St} {σ:Nat→Nat} (l:ALoop) (hσ: ∀ i j,σ i=σ j→i=j) (S:Sim (VL1 out a rest line σ) (tmpl [2,3,4,5,6,7] (wP++[vt 2]) (bk1 l)) z) (hl:line.length≤1000000) (h0: ¬kay line=true): ∃ z1,Ev FF paH z .ret z1∧Sim (VE4 a (sig σ [0,1,2,6] 13)) (tmpl [] [] (bkE4 l)) z1:=by
 have H:=Tok.start (G:=gl20) (F:=FF) hσ S 8 3 0 1 [.int .i64 (a:Int),.str rest,.str line] [] [(0,3,out.map eC)] .n (.c (OkO.own ka0 _) .n) rfl rfl
 have H:=H.t 8 [.int .i64 (kav line).no,.int .i64 (kav line).a,.int .i64 (kav line).b,.bool (kay line),.bool (!(kay line))]|>.s [vt 2] (.tup [.agg [vt 3,vt 4,vt 5],vt 6]) (kk5 line hl)|>.r [(.un .not (cT 6),vt 7)]|>.m 7 true (b:= !(kay line)) (by simp[h0])
 exact H.ev paH .ret [] [0,1,2,6] [] [.cells [.im [] true] false 42,.cells [vt 0] false 3,.cells [.int .i64 1] false 29,.loop l] 13 [] (bkE4 l) (VE4 a (sig σ [0,1,2,6] 13))
theorem k7b (out:List Cl) (a:Nat) (rest line:List UInt8) {z:St} {σ:Nat→Nat} (l:ALoop) (hσ: ∀ i j,σ i=σ j→i=j) (S:Sim (VL1 out a rest line σ) (tmpl [2,3,4,5,6,7] (wP++[vt 2]) (bk1 l)) z) (hl:line.length≤1000000) (ho:out.length≤1000000) (h0:kay line=true) (hw:w64 ((a:Int)+(List.length line:Int))=((a+line.length:Nat):Int)): ∃ z1,Ev FF paH z .nrm z1∧Sim (V1 (out++[kav line]) (a+line.length) rest (sig σ [0,1,2,3,4,5,6,10] 11)) (tmpl [] [] (bk1 l)) z1:=by
 have H:=Tok.start (G:=gl20) (F:=FF) hσ S 8 3 0 1 [.int .i64 (a:Int),.str rest,.str line] [] [(0,3,out.map eC)] .n (.c (OkO.own ka0 _) .n) rfl rfl
 have H:=H.t 8 [.int .i64 (kav line).no,.int .i64 (kav line).a,.int .i64 (kav line).b,.bool (kay line),.bool (!(kay line))]|>.s [vt 2] (.tup [.agg [vt 3,vt 4,vt 5],vt 6]) (kk5 line hl)|>.r [(.un .not (cT 6),vt 7)]|>.m 7 false (b:= !(kay line)) (by simp[h0])
 have H:=H.o 1 (3,List.map eC (out++[kav line])) (.own ka0 _)|>.a ⟨true,3,24,(vf 1000003),(.im [[vt 3,vt 4,vt 5]] true),1001003⟩ (fun _ _ _=>fApp (e:=eC) (l:=out) (m:=[kav line]) (cb:=false) (cx:=true) (by kernel_rfl) (by kernel_rfl) (by kernel_rfl) (by simp only[kah,List.length_singleton];omega) (.inl rfl) (by decide) (by decide) (by decide))
 have H:=H.t 10 [.int .i64 (List.length line:Int),.int .i64 (w64 ((a:Int)+(List.length line:Int)))]|>.r [(.len 1 (cT 2),vt 8),(.bin .add (cT 0) (cT 8),vt 9)]
 rw[hw] at H
 exact H.ev paH .nrm [] [0,1,2,3,4,5,6,10] [] [.cells [.im [] true] false 42,.cells [.int .i64 0] false 3,.cells [.int .i64 0] false 29,.cells [.sl 10 0 1001003 3 none] false 42,.cells [vt 9] false 3,.cells [vt 1] false 9,.loop l,.own 1001003 false 48] 11 [] (bk1 l) (V1 (out++[kav line]) (a+line.length) rest (sig σ [0,1,2,3,4,5,6,10] 11))
theorem k68 (out:List Cl) (a:Nat) (rest:List UInt8) {z:St} {σ:Nat→Nat} (l:ALoop) (hσ: ∀ i j,σ i=σ j→i=j) (S:Sim (V1 out a rest σ) (tmpl [2,3,4,5,6] wP (bk1 l)) z):J FF (fnOf FF 77) [] (.code paE) z (.tup [(.im (List.map eC out) false),.int .i64 (a:Int),.int .i64 0]):=by
 have H:=Tok.start (G:=gl20) (F:=FF) hσ S 8 2 0 1 [.int .i64 (a:Int),.str rest] [] [(0,3,out.map eC)] .n (.c (OkO.own ka0 _) .n) rfl rfl
 exact H.e [] rfl
theorem k69 (a:Nat) {z:St} {σ:Nat→Nat} (l:ALoop) (hσ: ∀ i j,σ i=σ j→i=j) (S:Sim (VE4 a σ) (tmpl [2,3,4] [.ptr 0 0,.ptr 1 0,.ptr 2 0] (bkE4 l)) z):J FF (fnOf FF 77) [] (.sig .ret) z (.tup [.im [] true,.int .i64 (a:Int),.int .i64 1]):=by
 have H:=Tok.start (G:=gl20) (F:=FF) hσ S 4 1 0 0 [.int .i64 (a:Int)] [] [] .n .n rfl rfl
 exact H.e [] rfl
theorem k7c (s:List UInt8) {z:St} (S:Sim (valL [.str s] [] [] (fun i=>i) 0) (tmpl (List.range 1) [vt 0] []) z): ∃ z1,Ev FF (.seq paA (.seq paB (.seq paC paD))) z .nrm z1∧Sim (valL [.int .i64 0,.str s] [] [] (sig (fun i=>i) [0,1,2,3,4,5] 6) 6) (tmpl [2,3,4,5,6,11] (wP++[.fn 49 [] [.ptr 5 0]]) [.cells [.im [] true] false 42,.cells [.int .i64 0] false 3,.cells [.int .i64 0] false 29,.cells [.im [] true] false 42,.cells [vt 0] false 3,.cells [vt 1] false 9]) z1:=by
 have H:=Tok.start (G:=gl20) (F:=FF) (fun _ _ e=>e) S 0 1 0 0 [.str s] [] [] .n .n rfl rfl
 exact H.ev (.seq paA (.seq paB (.seq paC paD))) .nrm [2,3,4,5,6,11] [0,1,2,3,4,5] (wP++[.fn 49 [] [.ptr 5 0]]) [.cells [.im [] true] false 42,.cells [.int .i64 0] false 3,.cells [.int .i64 0] false 29,.cells [.im [] true] false 42,.cells [.int .i64 0] false 3,.cells [vt 0] false 9] 6 (wP++[.fn 49 [] [.ptr 5 0]]) [.cells [.im [] true] false 42,.cells [.int .i64 0] false 3,.cells [.int .i64 0] false 29,.cells [.im [] true] false 42,.cells [vt 0] false 3,.cells [vt 1] false 9] (valL [.int .i64 0,.str s] [] [] (sig (fun i=>i) [0,1,2,3,4,5] 6) 6)
end Go.Proofs.Hz
