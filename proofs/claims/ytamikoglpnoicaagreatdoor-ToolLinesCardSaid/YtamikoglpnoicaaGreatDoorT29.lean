/-
  Chapter 20: slices.Collect over strings.Lines, in pieces, written by a program of our own (wip/tools). And: Chapter 20: calls in the caller's own memory; slices.Collect(strings.Lines(s)), called.
  Conditions: none.
-/
import Derived.Test.YtamikoglpnoicaaGreatDoorT28
open Go Go.Proofs
namespace Go.Proofs.Hz
noncomputable def asA:AC:=subA (fnOf FF 48).body
noncomputable def asX:AC:=subB (fnOf FF 48).body
noncomputable def asB:AC:=subA (subA asX)
noncomputable def asE:AC:=subB asX
noncomputable def asG:AC:=subA (subA (subB (subA asX)))
noncomputable def asH:AC:=subB (subA (subB (subA asX)))
theorem k0g:(fnOf FF 48).body= .seq asA (.seq (.seq asB (.block 0 (.rngf 13 (.t 6) [7] asG asH))) asE):=by kernel_rfl
def tdZ:List AV:=[.int .i64 0,.int .i64 0,.int .i64 0,.im [] true,.im [] true]
def u01:List AV:=[.yld 3,.ptr 1 0]
def c0 (l:ALoop):List Blk:=[.cells tdZ false 26,.cells [vt 0] false 9,.cells [.im [] true] false 56,.loop l]
def c1 (l:ALoop):List Blk:=[.cells tdZ false 26,.cells [vt 0] false 9,.cells [.sl 4 0 1000001 1 none] false 56,.loop l,.own 1000001 false 9]
def U0 (_out:List Bs) (rest:Bs) (σ:Nat→Nat):Val:=valL [.str rest] [] [] σ 4
def U1 (out:List Bs) (rest:Bs) (σ:Nat→Nat):Val:=valL [.str rest] [] [(1,out.map eT)] σ 5
def UL0 (_out:List Bs) (rest line:Bs) (σ:Nat→Nat):Val:=valL [.str rest,.str line] [] [] σ 4
def UL1 (out:List Bs) (rest line:Bs) (σ:Nat→Nat):Val:=valL [.str rest,.str line] [] [(1,out.map eT)] σ 5
theorem qfh (out:List Bs) (rest:Bs) {z:St} {σ:Nat→Nat} (l:ALoop) (hσ: ∀ i j,σ i=σ j→i=j) (S:Sim (U0 out rest σ) (tmpl [0,1] u01 (c0 l)) z) (h0: ¬(List.length rest:Int) > 0): ∃ z1,Ev FF lnA z (.ext 0) z1∧Sim (U0 out rest (sig σ [0,1,2,3] 4)) (tmpl [] [] (c0 l)) z1:=by
 have H:=Tok.start (G:=gl20) (F:=FF) hσ S 4 1 0 0 [.str rest] [] [] .n .n rfl rfl
 have H:=H.t 3 [.int .i64 (List.length rest:Int),.bool (decide ((List.length rest:Int) > 0))]|>.r [(.len 1 (cT 0),vt 1),(.bin .gtr (cT 1) (cI 0),vt 2)]|>.m 2 false (decide_eq_false h0)
 exact H.ev lnA (.ext 0) [] [0,1,2,3] [] [.cells tdZ false 26,.cells [vt 0] false 9,.cells [.im [] true] false 56,.loop l] 4 [] (c0 l) (U0 out rest (sig σ [0,1,2,3] 4))
theorem qfl (out:List Bs) (rest:Bs) {z:St} {σ:Nat→Nat} (l:ALoop) (hσ: ∀ i j,σ i=σ j→i=j) (S:Sim (U0 out rest σ) (tmpl [0,1] u01 (c0 l)) z) (h0:(List.length rest:Int) > 0) (h1:Lib.indexByte rest 10 ≥ 0) (h2:0≤w64 (Lib.indexByte rest 10+1)∧w64 (Lib.indexByte rest 10+1)≤(List.length rest:Int)): ∃ z1,Ev FF (.seq lnA (.seq ln3 lnM)) z .nrm z1∧Sim (UL0 out (List.drop (Int.toNat (w64 (Lib.indexByte rest 10+1))) rest) (List.take (Int.toNat (w64 (Lib.indexByte rest 10+1))) rest) (sig σ [0,1,2,3] 14)) (tmpl [0,1,3] [.yld 3,.ptr 1 0,vt 1] (c0 l)) z1:=by
 have H:=Tok.start (G:=gl20) (F:=FF) hσ S 4 1 0 0 [.str rest] [] [] .n .n rfl rfl
 have H:=H.t 4 [.int .i64 (List.length rest:Int),.bool (decide ((List.length rest:Int) > 0)),.int .i64 (Lib.indexByte rest 10)]|>.r [(.len 1 (cT 0),vt 1),(.bin .gtr (cT 1) (cI 0),vt 2)]|>.m 2 true (decide_eq_true h0)|>.s [vt 0,.int .u8 10] (vt 3) (kfo rest)
 have H:=H.t 6 [.bool (decide (Lib.indexByte rest 10 ≥ 0)),.int .i64 (w64 (Lib.indexByte rest 10+1))]|>.r [(.bin .geq (cT 3) (cI 0),vt 4),(.bin .add (cT 3) (cI 1),vt 5)]|>.m 4 true (decide_eq_true h1)
 have H:=H.t 8 [.str (List.take (Int.toNat (w64 (Lib.indexByte rest 10+1))) rest),.str (List.drop (Int.toNat (w64 (Lib.indexByte rest 10+1))) rest)]|>.c (p:=(.slT (cT 0) none (some (cT 5)),vt 6)) (fun _ _ _=>fSlT (l:=rest) (l':=(List.take (Int.toNat (w64 (Lib.indexByte rest 10+1))) rest)) (lo:=none) (hi:=(some ((vt 5),(w64 (Lib.indexByte rest 10+1):Int)))) (by kernel_rfl) trivial ⟨.i64,by kernel_rfl⟩ (by simp only[optN];omega) (by simp[optN]) (by kernel_rfl))
  |>.c (p:=(.slT (cT 0) (some (cT 5)) none,vt 7)) (fun _ _ _=>fSlT (l:=rest) (l':=(List.drop (Int.toNat (w64 (Lib.indexByte rest 10+1))) rest)) (lo:=(some ((vt 5),(w64 (Lib.indexByte rest 10+1):Int)))) (hi:=none) (by kernel_rfl) ⟨.i64,by kernel_rfl⟩ trivial (by simp only[optN];omega) (by simp only[optN];exact khj _ _) (by kernel_rfl))
 exact H.ev (.seq lnA (.seq ln3 lnM)) .nrm [0,1,3] [0,1,2,3] [.yld 3,.ptr 1 0,vt 6] [.cells tdZ false 26,.cells [vt 7] false 9,.cells [.im [] true] false 56,.loop l] 14 [.yld 3,.ptr 1 0,vt 1] (c0 l) (UL0 out (List.drop (Int.toNat (w64 (Lib.indexByte rest 10+1))) rest) (List.take (Int.toNat (w64 (Lib.indexByte rest 10+1))) rest) (sig σ [0,1,2,3] 14))
theorem qfo (out:List Bs) (rest:Bs) {z:St} {σ:Nat→Nat} (l:ALoop) (hσ: ∀ i j,σ i=σ j→i=j) (S:Sim (U0 out rest σ) (tmpl [0,1] u01 (c0 l)) z) (h0:(List.length rest:Int) > 0) (h1: ¬Lib.indexByte rest 10 ≥ 0): ∃ z1,Ev FF (.seq lnA (.seq ln3 lnM)) z .nrm z1∧Sim (UL0 out [] rest (sig σ [0,1,2,3] 4)) (tmpl [0,1,3] [.yld 3,.ptr 1 0,vt 1] (c0 l)) z1:=by
 have H:=Tok.start (G:=gl20) (F:=FF) hσ S 4 1 0 0 [.str rest] [] [] .n .n rfl rfl
 have H:=H.t 4 [.int .i64 (List.length rest:Int),.bool (decide ((List.length rest:Int) > 0)),.int .i64 (Lib.indexByte rest 10)]|>.r [(.len 1 (cT 0),vt 1),(.bin .gtr (cT 1) (cI 0),vt 2)]|>.m 2 true (decide_eq_true h0)|>.s [vt 0,.int .u8 10] (vt 3) (kfo rest)
 have H:=H.t 5 [.bool (decide (Lib.indexByte rest 10 ≥ 0))]|>.r [(.bin .geq (cT 3) (cI 0),vt 4)]|>.m 4 false (decide_eq_false h1)
 exact H.ev (.seq lnA (.seq ln3 lnM)) .nrm [0,1,3] [0,1,2,3] [.yld 3,.ptr 1 0,vt 0] [.cells tdZ false 26,.cells [.str []] false 9,.cells [.im [] true] false 56,.loop l] 4 [.yld 3,.ptr 1 0,vt 1] (c0 l) (UL0 out [] rest (sig σ [0,1,2,3] 4))
theorem k0b (out:List Bs) (rest line:Bs) {z:St} {σ:Nat→Nat} (l:ALoop) (hσ: ∀ i j,σ i=σ j→i=j) (S:Sim (UL0 out rest line σ) (tmpl [2,7] [.ptr 2 0,vt 1] (c0 l)) z): ∃ z1,Ev FF asG z .nrm z1∧Sim (UL0 out rest line (sig σ [0,1,2,3] 4)) (tmpl [2,5] [.ptr 2 0,vt 1] (c0 l)) z1:=by
 have H:=Tok.start (G:=gl20) (F:=FF) hσ S 4 2 0 0 [.str rest,.str line] [] [] .n .n rfl rfl
 exact H.ev asG .nrm [2,5] [0,1,2,3] [.ptr 2 0,vt 1] [.cells tdZ false 26,.cells [vt 0] false 9,.cells [.im [] true] false 56,.loop l] 4 [.ptr 2 0,vt 1] (c0 l) (UL0 out rest line (sig σ [0,1,2,3] 4))
theorem k0d (out:List Bs) (rest line:Bs) {z:St} {σ:Nat→Nat} (l:ALoop) (hσ: ∀ i j,σ i=σ j→i=j) (S:Sim (UL0 out rest line σ) (tmpl [2,5] [.ptr 2 0,vt 1] (c0 l)) z): ∃ z1,Ev FF asH z .nrm z1∧Sim (U1 [line] rest (sig σ [0,1,2,3,5] 6)) (tmpl [] [] (c1 l)) z1:=by
 have H:=Tok.start (G:=gl20) (F:=FF) hσ S 4 2 0 0 [.str rest,.str line] [] [] .n .n rfl rfl
 exact H.ev asH .nrm [] [0,1,2,3,5] [] [.cells tdZ false 26,.cells [vt 0] false 9,.cells [.sl 5 0 1 1 none] false 56,.loop l,.cells [vt 1] false 9] 6 [] (c1 l) (U1 [line] rest (sig σ [0,1,2,3,5] 6))
theorem qfi (out:List Bs) (rest:Bs) {z:St} {σ:Nat→Nat} (l:ALoop) (hσ: ∀ i j,σ i=σ j→i=j) (S:Sim (U1 out rest σ) (tmpl [0,1] u01 (c1 l)) z) (h0: ¬(List.length rest:Int) > 0): ∃ z1,Ev FF lnA z (.ext 0) z1∧Sim (U1 out rest (sig σ [0,1,2,3,4] 5)) (tmpl [] [] (c1 l)) z1:=by
 have H:=Tok.start (G:=gl20) (F:=FF) hσ S 5 1 0 1 [.str rest] [] [(0,1,out.map eT)] .n (.c (OkO.own kaf _) .n) rfl rfl
 have H:=H.t 3 [.int .i64 (List.length rest:Int),.bool (decide ((List.length rest:Int) > 0))]|>.r [(.len 1 (cT 0),vt 1),(.bin .gtr (cT 1) (cI 0),vt 2)]|>.m 2 false (decide_eq_false h0)
 exact H.ev lnA (.ext 0) [] [0,1,2,3,4] [] [.cells tdZ false 26,.cells [vt 0] false 9,.cells [.sl 4 0 1000001 1 none] false 56,.loop l,.own 1000001 false 9] 5 [] (c1 l) (U1 out rest (sig σ [0,1,2,3,4] 5))
theorem qfm (out:List Bs) (rest:Bs) {z:St} {σ:Nat→Nat} (l:ALoop) (hσ: ∀ i j,σ i=σ j→i=j) (S:Sim (U1 out rest σ) (tmpl [0,1] u01 (c1 l)) z) (h0:(List.length rest:Int) > 0) (h1:Lib.indexByte rest 10 ≥ 0) (h2:0≤w64 (Lib.indexByte rest 10+1)∧w64 (Lib.indexByte rest 10+1)≤(List.length rest:Int)): ∃ z1,Ev FF (.seq lnA (.seq ln3 lnM)) z .nrm z1∧Sim (UL1 out (List.drop (Int.toNat (w64 (Lib.indexByte rest 10+1))) rest) (List.take (Int.toNat (w64 (Lib.indexByte rest 10+1))) rest) (sig σ [0,1,2,3,4] 15)) (tmpl [0,1,3] [.yld 3,.ptr 1 0,vt 1] (c1 l)) z1:=by
 have H:=Tok.start (G:=gl20) (F:=FF) hσ S 5 1 0 1 [.str rest] [] [(0,1,out.map eT)] .n (.c (OkO.own kaf _) .n) rfl rfl
 have H:=H.t 4 [.int .i64 (List.length rest:Int),.bool (decide ((List.length rest:Int) > 0)),.int .i64 (Lib.indexByte rest 10)]|>.r [(.len 1 (cT 0),vt 1),(.bin .gtr (cT 1) (cI 0),vt 2)]|>.m 2 true (decide_eq_true h0)|>.s [vt 0,.int .u8 10] (vt 3) (kfo rest)
 have H:=H.t 6 [.bool (decide (Lib.indexByte rest 10 ≥ 0)),.int .i64 (w64 (Lib.indexByte rest 10+1))]|>.r [(.bin .geq (cT 3) (cI 0),vt 4),(.bin .add (cT 3) (cI 1),vt 5)]|>.m 4 true (decide_eq_true h1)
 have H:=H.t 8 [.str (List.take (Int.toNat (w64 (Lib.indexByte rest 10+1))) rest),.str (List.drop (Int.toNat (w64 (Lib.indexByte rest 10+1))) rest)]|>.c (p:=(.slT (cT 0) none (some (cT 5)),vt 6)) (fun _ _ _=>fSlT (l:=rest) (l':=(List.take (Int.toNat (w64 (Lib.indexByte rest 10+1))) rest)) (lo:=none) (hi:=(some ((vt 5),(w64 (Lib.indexByte rest 10+1):Int)))) (by kernel_rfl) trivial ⟨.i64,by kernel_rfl⟩ (by simp only[optN];omega) (by simp[optN]) (by kernel_rfl))
  |>.c (p:=(.slT (cT 0) (some (cT 5)) none,vt 7)) (fun _ _ _=>fSlT (l:=rest) (l':=(List.drop (Int.toNat (w64 (Lib.indexByte rest 10+1))) rest)) (lo:=(some ((vt 5),(w64 (Lib.indexByte rest 10+1):Int)))) (hi:=none) (by kernel_rfl) ⟨.i64,by kernel_rfl⟩ trivial (by simp only[optN];omega) (by simp only[optN];exact khj _ _) (by kernel_rfl))
 exact H.ev (.seq lnA (.seq ln3 lnM)) .nrm [0,1,3] [0,1,2,3,4] [.yld 3,.ptr 1 0,vt 6] [.cells tdZ false 26,.cells [vt 7] false 9,.cells [.sl 4 0 1000001 1 none] false 56,.loop l,.own 1000001 false 9] 15 [.yld 3,.ptr 1 0,vt 1] (c1 l) (UL1 out (List.drop (Int.toNat (w64 (Lib.indexByte rest 10+1))) rest) (List.take (Int.toNat (w64 (Lib.indexByte rest 10+1))) rest) (sig σ [0,1,2,3,4] 15))
theorem qfp (out:List Bs) (rest:Bs) {z:St} {σ:Nat→Nat} (l:ALoop) (hσ: ∀ i j,σ i=σ j→i=j) (S:Sim (U1 out rest σ) (tmpl [0,1] u01 (c1 l)) z) (h0:(List.length rest:Int) > 0) (h1: ¬Lib.indexByte rest 10 ≥ 0): ∃ z1,Ev FF (.seq lnA (.seq ln3 lnM)) z .nrm z1∧Sim (UL1 out [] rest (sig σ [0,1,2,3,4] 5)) (tmpl [0,1,3] [.yld 3,.ptr 1 0,vt 1] (c1 l)) z1:=by
 have H:=Tok.start (G:=gl20) (F:=FF) hσ S 5 1 0 1 [.str rest] [] [(0,1,out.map eT)] .n (.c (OkO.own kaf _) .n) rfl rfl
 have H:=H.t 4 [.int .i64 (List.length rest:Int),.bool (decide ((List.length rest:Int) > 0)),.int .i64 (Lib.indexByte rest 10)]|>.r [(.len 1 (cT 0),vt 1),(.bin .gtr (cT 1) (cI 0),vt 2)]|>.m 2 true (decide_eq_true h0)|>.s [vt 0,.int .u8 10] (vt 3) (kfo rest)
 have H:=H.t 5 [.bool (decide (Lib.indexByte rest 10 ≥ 0))]|>.r [(.bin .geq (cT 3) (cI 0),vt 4)]|>.m 4 false (decide_eq_false h1)
 exact H.ev (.seq lnA (.seq ln3 lnM)) .nrm [0,1,3] [0,1,2,3,4] [.yld 3,.ptr 1 0,vt 0] [.cells tdZ false 26,.cells [.str []] false 9,.cells [.sl 4 0 1000001 1 none] false 56,.loop l,.own 1000001 false 9] 5 [.yld 3,.ptr 1 0,vt 1] (c1 l) (UL1 out [] rest (sig σ [0,1,2,3,4] 5))
theorem k0c (out:List Bs) (rest line:Bs) {z:St} {σ:Nat→Nat} (l:ALoop) (hσ: ∀ i j,σ i=σ j→i=j) (S:Sim (UL1 out rest line σ) (tmpl [2,7] [.ptr 2 0,vt 1] (c1 l)) z): ∃ z1,Ev FF asG z .nrm z1∧Sim (UL1 out rest line (sig σ [0,1,2,3,4] 5)) (tmpl [2,5] [.ptr 2 0,vt 1] (c1 l)) z1:=by
 have H:=Tok.start (G:=gl20) (F:=FF) hσ S 5 2 0 1 [.str rest,.str line] [] [(0,1,out.map eT)] .n (.c (OkO.own kaf _) .n) rfl rfl
 exact H.ev asG .nrm [2,5] [0,1,2,3,4] [.ptr 2 0,vt 1] [.cells tdZ false 26,.cells [vt 0] false 9,.cells [.sl 4 0 1000001 1 none] false 56,.loop l,.own 1000001 false 9] 5 [.ptr 2 0,vt 1] (c1 l) (UL1 out rest line (sig σ [0,1,2,3,4] 5))
theorem k0e (out:List Bs) (rest line:Bs) {z:St} {σ:Nat→Nat} (l:ALoop) (hσ: ∀ i j,σ i=σ j→i=j) (S:Sim (UL1 out rest line σ) (tmpl [2,5] [.ptr 2 0,vt 1] (c1 l)) z) (ho:out.length≤1000000): ∃ z1,Ev FF asH z .nrm z1∧Sim (U1 (out++[line]) rest (sig σ [0,1,2,3,6] 7)) (tmpl [] [] (c1 l)) z1:=by
 have H:=Tok.start (G:=gl20) (F:=FF) hσ S 5 2 0 1 [.str rest,.str line] [] [(0,1,out.map eT)] .n (.c (OkO.own kaf _) .n) rfl rfl
 have H:=H.o 1 (1,List.map eT (out++[line])) (.own kaf _)|>.a ⟨true,1,16,(vf 1000001),(.im [[vt 1]] true),1001001⟩ (fun _ _ _=>fApp (e:=eT) (l:=out) (m:=[line]) (cb:=false) (cx:=true) (by kernel_rfl) (by kernel_rfl) (by kernel_rfl) (by simp only[kah,List.length_singleton];omega) (.inl rfl) (by decide) (by decide) (by decide))
 exact H.ev asH .nrm [] [0,1,2,3,6] [] [.cells tdZ false 26,.cells [vt 0] false 9,.cells [.sl 6 0 1001001 1 none] false 56,.loop l,.own 1001001 false 9] 7 [] (c1 l) (U1 (out++[line]) rest (sig σ [0,1,2,3,6] 7))
end Go.Proofs.Hz
open Go Go.Proofs
namespace Go.Proofs.Hz
set_option maxRecDepth 20000
theorem kui:(fnOf FF 49).body= .block 0 (.loop lnX):=by
 rw[k44];rfl
theorem Sim.up {ρ ρ':Val} {ts:List Nat} {ws:List AV} {cs:List Blk} {Y:List Blk} {s c:St} (S:Sim ρ s c) (hr: ∀ t v,(tmpl ts ws cs).r.get t=some v→c.r.get t=some (gm ρ' v)) (hh:s.h=(tmpl ts ws cs).h) (hn:s.nx=cs.length) (hσ:ρ'.σ=ρ.σ) (hlo:ρ.lo≤ρ'.lo) (hl:ρ'.lo≤cs.length) (hb1:cs.map (gB ρ)=Y) (hb2:cs.map (gB ρ')=Y) (hd:ρ'.hid=ρ.hid:=by rfl):Sim ρ' (tmpl ts ws cs) c:=by
 have hb:=hb1.trans hb2.symm
 refine⟨hr,⟨fun id k hk=> ?_,fun id h1 h2=> ?_,by rw[hσ];exact S.heap.inj,by rw[hσ,hd];exact S.heap.hid⟩,fun i=> ?_,hl⟩
 ·have hm:=kbh (show(ofL (idx 0 cs)).get id=some k from hk)
  obtain⟨_,hj⟩:=kiu hm
  have e1:=congrArg (·[id - 0]?) hb
  simp only[List.getElem?_map,hj,Option.map_some,Option.some.injEq] at e1
  rw[hσ,S.heap.get id k (by rw[hh];exact hk),e1]
 ·rw[hσ];exact S.heap.absent id (by omega) (by rw[hh];exact h2)
 ·rw[hσ,←S.nxs i,hn];rfl
def pRes (p:List Cl×Nat×Int):AV:= .tup [.im (p.1.map eC) p.1.isEmpty,.int .i64 (p.2.1:Int),.int .i64 p.2.2]
abbrev σ6:Nat→Nat:=sig (fun i=>i) [0,1,2,3,4,5] 6
def bkS:List Blk:=[.cells [.im [] true] false 42,.cells [.int .i64 0] false 3,.cells [.int .i64 0] false 29,.cells [.im [] true] false 42,.cells [vt 0] false 3,.cells [vt 1] false 9]
theorem k7e (s:List UInt8) (hl:s.length≤1000000) {z:St} {σ:Nat→Nat} (l:ALoop) (hσ: ∀ i j,σ i=σ j→i=j) (L:LOk σ l) (S:Sim (V0 [] 0 s σ) (tmpl [0,1] w01 (bk0 l)) z):
  (s=[]∧ ∃ z' σ',Ev FF (.loop lnX) z (.ext 0) z'∧Agree σ σ'∧Sim (V0 [] 0 s σ') (tmpl [] [] (bk0 l)) z')∨ksd (kfv s) σ l z:=by
 by_cases hs:s=[]
 ·obtain⟨z1,e1,S1⟩:=k4r [] 0 s l hσ S (by rw[hs];simp)
  refine .inl ⟨hs,z1,_,Ev.loopJ (e1.seqJ (by intro h;cases h)) (by intro h;cases h),?_,S1⟩
  intro j hj
  rcases lt7 hj with rfl |rfl |rfl |rfl |rfl |rfl |rfl <;> rfl
 ·have hlen:=kdy s
  have hpos:=keo hs
  obtain⟨hg,hb⟩:=k42 [] 0 s l hσ L S hs (by omega)
  refine .inr ?_
  unfold kfv
  rw[kdu,if_neg hs]
  by_cases hk:kay (kaj s).1=true
  ·rw[if_pos hk,List.nil_append]
   obtain⟨z2,σ2,e2,g2,S2⟩:=hg hk
   rcases k4z l s.length [kav (kaj s).1] (0+(kaj s).1.length) (kaj s).2 (by simp) (by omega) (by rw[List.length_singleton];omega) (by omega) S2.heap.inj (L.agree g2) S2 with⟨x1,x2,z',σ',rest',x3,x4,x5⟩ | ⟨x1,x2,z',σ',x3,x4,x5⟩
   ·exact .inl ⟨x1,x2,z',σ',rest',e2.loop x3,g2.trans x4,x5⟩
   ·exact .inr ⟨x1,x2,z',σ',e2.loop x3,AgreeE.of g2 x4,x5⟩
  ·rw[if_neg hk]
   obtain⟨z2,σ2,e2,g2,S2⟩:=hb hk
   exact .inr ⟨rfl,rfl,z2,σ2,Ev.loopJ e2 (by intro h;cases h),g2,S2⟩
theorem kvh (s:List UInt8) (hl:s.length≤1000000):Spec FF 77 [.str s] (pRes (kfv s)):=by
 refine kbk (ρ:=valL [.str s] [] [] (fun i=>i) 0) (xs:=[vt 0]) (by kernel_rfl) rfl rfl (by kernel_rfl) (fun z S=> ?_)
 rw[k7d]
 obtain⟨z1,e1,S1⟩:=k7c s S
 obtain⟨zA,kA,e2⟩:=e1.seqI
 obtain⟨zB,kB,e3⟩:=e2.seqI
 obtain⟨zC,kC,kD⟩:=e3.seqI
 refine kdx kA (kdx kB (kdx kC ?_))
 have hnx:σ6 6=z1.nx:=S1.nxs 0
 have hnx':z1.nx=6:=by rw[←hnx];rfl
 have h11:(AO.t 11).ev z1= .fn 49 [] [.ptr (σ6 5) 0]:=kbd ((S1.regs 11 (.fn 49 [] [.ptr 5 0]) (by kernel_rfl)).trans (by kernel_rfl))
 have hregs: ∀ j,j<5→z1.r.get (j+2)=some (.ptr (σ6 j) 0):=fun j hj=>by
  have:j=0∨j=1∨j=2∨j=3∨j=4:=by omega
  rcases this with rfl |rfl |rfl |rfl |rfl
  ·exact(S1.regs 2 (.ptr 0 0) (by kernel_rfl)).trans (by kernel_rfl)
  ·exact(S1.regs 3 (.ptr 1 0) (by kernel_rfl)).trans (by kernel_rfl)
  ·exact(S1.regs 4 (.ptr 2 0) (by kernel_rfl)).trans (by kernel_rfl)
  ·exact(S1.regs 5 (.ptr 3 0) (by kernel_rfl)).trans (by kernel_rfl)
  ·exact(S1.regs 6 (.ptr 4 0) (by kernel_rfl)).trans (by kernel_rfl)
 have L:LOk σ6 {st:=0,pend:=none,r:=z1.r,ps:=[12],asg:=paG,body:=paH,nt:=31}:=⟨rfl,rfl,rfl,rfl,rfl,hregs⟩
 generalize hl0:({st:=0,pend:=none,r:=z1.r,ps:=[12],asg:=paG,body:=paH,nt:=31}:ALoop)=l0 at L
 have SI:Sim (V0 [] 0 s σ6) (tmpl [0,1] w01 (bk0 l0)) {r:=inits 0 (.yld z1.nx::[.ptr (σ6 5) 0]) .nil,h:=z1.h.put z1.nx (some (.loop l0)),nx:=z1.nx+1}:=by
  have S2:Sim _ ((tmpl [2,3,4,5,6,11] (wP++[.fn 49 [] [.ptr 5 0]]) bkS).new (.loop l0)) (z1.new (.loop l0)):=Sim.new S1 (.loop l0)
  have S3:=S2.regs' (s':=(tmpl [2,3,4,5,6,11] (wP++[.fn 49 [] [.ptr 5 0]]) bkS).new (.loop l0)) (c':=z1.new (.loop l0)) S2.regs rfl rfl rfl rfl
  have S4:Sim (valL [.int .i64 0,.str s] [] [] σ6 6) {r:= .nil,h:=((tmpl [2,3,4,5,6,11] (wP++[.fn 49 [] [.ptr 5 0]]) bkS).new (.loop l0)).h,nx:=7} {r:=inits 0 (.yld z1.nx::[.ptr (σ6 5) 0]) .nil,h:=z1.h.put z1.nx (some (.loop l0)),nx:=z1.nx+1}:=
   S3.regs' (fun t u hu=>by rw[show(({r:= .nil,h:=((tmpl [2,3,4,5,6,11] (wP++[.fn 49 [] [.ptr 5 0]]) bkS).new (.loop l0)).h,nx:=7}:St)).r.get t=none from T.get_nil _] at hu;cases hu) rfl rfl rfl rfl
  refine S4.up (fun t u hu=> ?_) (by kernel_rfl) rfl rfl (Nat.le_succ 6) (Nat.le_refl 7) rfl (by kernel_rfl)
  have hm:=kbh (show(ofL ([0,1].zip w01)).get t=some u from hu)
  simp only[w01,List.zip,List.zipWith,List.mem_cons,Prod.mk.injEq,List.not_mem_nil,or_false] at hm
  show(inits 0 (.yld z1.nx::[.ptr (σ6 5) 0]) .nil).get t=_
  rw[kgt,hnx']
  rcases hm with⟨rfl,rfl⟩ | ⟨rfl,rfl⟩
  ·exact(by kernel_rfl:some (AV.yld 6)=some (gm (V0 [] 0 s σ6) (.yld 6)))
  ·exact(by kernel_rfl:some (AV.ptr (σ6 5) 0)=some (gm (V0 [] 0 s σ6) (.ptr 5 0)))
 have ring: ∀ {e1:AE} {z':St} {l1:ALoop},Ev FF (.loop lnX) {r:=inits 0 (.yld z1.nx::[.ptr (σ6 5) 0]) .nil,h:=z1.h.put z1.nx (some (.loop l0)),nx:=z1.nx+1} e1 z'→(e1.out 0= .nrm∨e1.out 0= .ret)→z'.h.get z1.nx=some (.loop l1)→l1.st≠1→
   Ev FF (.rngf 31 (.t 11) [12] paG paH) z1 (AE.after l1.pend) {r:=z1.r,h:=z'.h.put z1.nx (some (.loop {l1 with st:=3})),nx:=z'.nx}:=fun {e1 z' l1} he ho hz hs=>by
  subst hl0
  exact Ev.rngf (fn:=fnOf FF 49) h11 (by kernel_rfl) (by kernel_rfl) (by kernel_rfl) (by rw[kui];exact he.block) ho hz hs
 have sim6: ∀ {σ':Nat→Nat},Agree σ6 σ'→σ' 6=z1.nx:=fun g=>(g 6 (by decide)).trans hnx
 have outer: ∀ {σ':Nat→Nat} {ρ:Val} {t:Nat} {u:AV},Agree σ6 σ'→gm ρ (.ptr 0 0)= .ptr (σ' 0) 0→gm ρ (.ptr 1 0)= .ptr (σ' 1) 0→gm ρ (.ptr 2 0)= .ptr (σ' 2) 0→gm ρ (.ptr 3 0)= .ptr (σ' 3) 0→gm ρ (.ptr 4 0)= .ptr (σ' 4) 0→
   (ofL ([2,3,4,5,6].zip wP)).get t=some u→z1.r.get t=some (gm ρ u):=fun {σ' ρ t u} g a0 a1 a2 a3 a4 hu=>by
  have hm:=kbh hu
  simp only[wP,List.zip,List.zipWith,List.mem_cons,Prod.mk.injEq,List.not_mem_nil,or_false] at hm
  rcases hm with⟨rfl,rfl⟩ | ⟨rfl,rfl⟩ | ⟨rfl,rfl⟩ | ⟨rfl,rfl⟩ | ⟨rfl,rfl⟩
  ·rw[a0,g 0 (by decide)];exact hregs 0 (by decide)
  ·rw[a1,g 1 (by decide)];exact hregs 1 (by decide)
  ·rw[a2,g 2 (by decide)];exact hregs 2 (by decide)
  ·rw[a3,g 3 (by decide)];exact hregs 3 (by decide)
  ·rw[a4,g 4 (by decide)];exact hregs 4 (by decide)
 have hpend:AE.after l0.pend= .nrm:=by rw[L.pend];rfl
 rcases k7e s hl (σ:=σ6) l0 SI.heap.inj L SI with⟨hs,z',σ',x3,x4,x5⟩ | ⟨x1,x2,z',σ',rest',x3,x4,x5⟩ | ⟨x1,x2,z',σ',x3,x4,x5⟩
 ·have hz:z'.h.get z1.nx=some (.loop l0):=by
   rw[←sim6 x4]
   exact x5.heap.get 6 (.loop l0) (by kernel_rfl)
  have he:=(ring x3 (.inl rfl) hz (by rw[L.st];decide)).block (id:=0)
  rw[hpend] at he
  have S6:=x5.hp' 6 {l0 with st:=3} (sim6 x4)
  rw[show({tmpl [] [] (bk0 l0) with h:=(tmpl [] [] (bk0 l0)).h.put 6 (some (.loop {l0 with st:=3}))}:St)=tmpl [] [] (bk0 {l0 with st:=3}) by kernel_rfl] at S6
  have hr:pRes (kfv s)= .tup [.im [] true,.int .i64 ((0:Nat):Int),.int .i64 0]:=by rw[hs];rfl
  rw[hr]
  refine kdx (kD.seq he) (k67 [] 0 s {l0 with st:=3} x5.heap.inj (S6.regs' (fun t u hu=> ?_) rfl rfl rfl rfl))
  exact outer x4 (by kernel_rfl) (by kernel_rfl) (by kernel_rfl) (by kernel_rfl) (by kernel_rfl) hu
 ·have hz:z'.h.get z1.nx=some (.loop l0):=by
   rw[←sim6 x4]
   exact x5.heap.get 6 (.loop l0) (by kernel_rfl)
  have he:=(ring x3 (.inl rfl) hz (by rw[L.st];decide)).block (id:=0)
  rw[hpend] at he
  generalize kfv s=res at x1 x2 x5 ⊢
  obtain⟨out,a,er⟩:=res
  simp only at x1 x2 x5
  subst x2
  have S6:=x5.hp' 6 {l0 with st:=3} (sim6 x4)
  rw[show({tmpl [] [] (bk1 l0) with h:=(tmpl [] [] (bk1 l0)).h.put 6 (some (.loop {l0 with st:=3}))}:St)=tmpl [] [] (bk1 {l0 with st:=3}) by kernel_rfl] at S6
  have hr:pRes (out,a,0)= .tup [.im (out.map eC) false,.int .i64 (a:Int),.int .i64 0]:=by
   unfold pRes
   cases out with
   |nil=>exact absurd rfl x1
   |cons c o=>rfl
  rw[hr]
  refine kdx (kD.seq he) (k68 out a rest' {l0 with st:=3} x5.heap.inj (S6.regs' (fun t u hu=> ?_) rfl rfl rfl rfl))
  exact outer x4 (by kernel_rfl) (by kernel_rfl) (by kernel_rfl) (by kernel_rfl) (by kernel_rfl) hu
 ·have h6:σ' 3=z1.nx:=x4.2.2.2.trans hnx
  have hz:z'.h.get z1.nx=some (.loop {l0 with st:=2,pend:=some .ret}):=by
   rw[←h6]
   exact x5.heap.get 3 (.loop {l0 with st:=2,pend:=some .ret}) (by kernel_rfl)
  have he:=(ring x3 (.inr rfl) hz (by show(2:Nat)≠1;decide)).block (id:=0)
  generalize kfv s=res at x1 x2 x5 ⊢
  obtain⟨out,a,er⟩:=res
  simp only at x1 x2 x5
  subst x1;subst x2
  have S6:=x5.hp' 3 {({l0 with st:=2,pend:=some .ret}:ALoop) with st:=3} h6
  rw[show({tmpl [] [] (bkE4 {l0 with st:=2,pend:=some .ret}) with h:=(tmpl [] [] (bkE4 {l0 with st:=2,pend:=some .ret})).h.put 3 (some (.loop {({l0 with st:=2,pend:=some .ret}:ALoop) with st:=3}))}:St)=tmpl [] [] (bkE4 {({l0 with st:=2,pend:=some .ret}:ALoop) with st:=3}) by kernel_rfl] at S6
  refine ksc (e:= .ret) (kD.seq he) (by intro h;cases h) (k69 a {({l0 with st:=2,pend:=some .ret}:ALoop) with st:=3} x5.heap.inj (S6.regs' (fun t u hu=> ?_) rfl rfl rfl rfl))
  have hm:=kbh (show(ofL ([2,3,4].zip [AV.ptr 0 0,.ptr 1 0,.ptr 2 0])).get t=some u from hu)
  simp only[List.zip,List.zipWith,List.mem_cons,Prod.mk.injEq,List.not_mem_nil,or_false] at hm
  obtain⟨g0,g1,g2,_⟩:=x4
  rcases hm with⟨rfl,rfl⟩ | ⟨rfl,rfl⟩ | ⟨rfl,rfl⟩
  ·exact(hregs 0 (by decide)).trans (by rw[show gm (VE4 a σ') (.ptr 0 0)= .ptr (σ' 0) 0 by kernel_rfl,g0])
  ·exact(hregs 1 (by decide)).trans (by rw[show gm (VE4 a σ') (.ptr 1 0)= .ptr (σ' 1) 0 by kernel_rfl,g1])
  ·exact(hregs 2 (by decide)).trans (by rw[show gm (VE4 a σ') (.ptr 2 0)= .ptr (σ' 2) 0 by kernel_rfl,g2])
end Go.Proofs.Hz
open Go Go.Proofs
namespace Go.Proofs.Hz
set_option maxRecDepth 20000
structure UOk (σ:Nat→Nat) (l:ALoop):Prop where
 st:l.st=0
 pend:l.pend=none
 ps:l.ps=[7]
 asg:l.asg=asG
 body:l.body=asH
 reg:l.r.get 2=some (.ptr (σ 2) 0)
def Agree4 (σ σ':Nat→Nat):Prop:=∀ j,j<4→σ' j=σ j
theorem lt4 {j:Nat} (h:j<4):j=0∨j=1∨j=2∨j=3:=by omega
theorem UOk.agree {σ σ':Nat→Nat} {l:ALoop} (L:UOk σ l) (h:Agree4 σ σ'):UOk σ' l:=⟨L.st,L.pend,L.ps,L.asg,L.body,by rw[h 2 (by omega)];exact L.reg⟩
theorem Agree4.trans {a b c:Nat→Nat} (h1:Agree4 a b) (h2:Agree4 b c):Agree4 a c:=fun j hj=>(h2 j hj).trans (h1 j hj)
theorem qfj (out:List Bs) (rest line:Bs) {z:St} {σ:Nat→Nat} (l:ALoop) (hσ: ∀ i j,σ i=σ j→i=j) (L:UOk σ l) (S:Sim (UL0 out rest line σ) (tmpl [0,1,3] [.yld 3,.ptr 1 0,vt 1] (c0 l)) z):
  ∃ z' σ',Ev FF (.reg lnY) z .nrm z'∧z'.r.get 24=some (.bool false)∧Agree4 σ σ'∧Sim (U1 [line] rest σ') (tmpl [0,1] u01 (c1 l)) z':=by
 have h0r:z.r.get 0=some (.yld (σ 3)):=S.regs 0 (.yld 3) (by kernel_rfl)
 have h1r:z.r.get 1=some (.ptr (σ 1) 0):=S.regs 1 (.ptr 1 0) (by kernel_rfl)
 have h3r:z.r.get 3=some (.str line):=S.regs 3 (vt 1) (by kernel_rfl)
 have hL:z.h.get (σ 3)=some (.loop l):=S.heap.get 3 (.loop l) (by kernel_rfl)
 have SA:Sim (UL0 out rest line σ) (tmpl [2,7] [.ptr 2 0,vt 1] (c0 l)) {r:=kdd l.r l.ps [.str line],h:=z.h,nx:=z.nx}:=by
  refine S.regs' (fun t u hu=> ?_) rfl rfl rfl rfl
  have hm:=kbh (show(ofL ([2,7].zip [.ptr 2 0,vt 1])).get t=some u from hu)
  rw[L.ps]
  show(l.r.put 7 (some (.str line))).get t=_
  rw[T.get_put]
  simp only[List.zip,List.zipWith,List.mem_cons,Prod.mk.injEq,List.not_mem_nil,or_false] at hm
  rcases hm with⟨rfl,rfl⟩ | ⟨rfl,rfl⟩
  ·exact L.reg
  ·rfl
 obtain⟨zB,eB,SB⟩:=k0b out rest line l hσ SA
 have hB:zB.h.get (σ 3)=some (.loop l):=SB.heap.get 3 (.loop l) (by kernel_rfl)
 have SC:=SB.hp' 3 {l with st:=1} (i:=σ 3) (by kernel_rfl)
 rw[show({tmpl [2,5] [.ptr 2 0,vt 1] (c0 l) with h:=(tmpl [2,5] [.ptr 2 0,vt 1] (c0 l)).h.put 3 (some (.loop {l with st:=1}))}:St)=tmpl [2,5] [.ptr 2 0,vt 1] (c0 {l with st:=1}) by kernel_rfl] at SC
 obtain⟨zC,eC,SD⟩:=k0d out rest line {l with st:=1} SB.heap.inj SC
 have hD:zC.h.get (σ 3)=some (.loop {l with st:=1}):=SD.heap.get 3 (.loop {l with st:=1}) (by kernel_rfl)
 have hR:=Rnd.mk (F:=FF) (id:=σ 3) (args:=[.str line]) (s:=(z.set (some 21) (.yld (σ 3))).set (some 22) (.str line)) (l:=l) (s1:=zB) (s2:=zC) (l1:=l) (l2:={l with st:=1}) (e:= .nrm) hL (by rw[L.ps];rfl) (by rw[L.asg];exact eB) hB L.st ((congrArg (fun b=>Ev FF b (zB.hp (σ 3) (.loop {l with st:=1})) .nrm zC) L.body).mpr eC) hD
 have hy:=yreg h0r h3r hR
 refine⟨_,sig (sig σ [0,1,2,3] 4) [0,1,2,3,5] 6,hy,kcl,?_,?_⟩
 ·intro j hj
  rcases lt4 hj with rfl |rfl |rfl |rfl <;> rfl
 ·have SE:=SD.hp' 3 l (i:=σ 3) (by kernel_rfl)
  rw[show({tmpl [] [] (c1 {l with st:=1}) with h:=(tmpl [] [] (c1 {l with st:=1})).h.put 3 (some (.loop l))}:St)=tmpl [] [] (c1 l) by kernel_rfl] at SE
  refine SE.regs' (fun t u hu=> ?_) rfl ?_ rfl rfl
  ·have hm:=kbh (show(ofL ([0,1].zip u01)).get t=some u from hu)
   simp only[u01,List.zip,List.zipWith,List.mem_cons,Prod.mk.injEq,List.not_mem_nil,or_false] at hm
   rcases hm with⟨rfl,rfl⟩ | ⟨rfl,rfl⟩
   ·exact(kfi (z:=z) (x:= .yld (σ 3)) (y:= .str line) (by decide) (by decide) (by decide) (by decide) rfl).trans (h0r.trans (by kernel_rfl))
   ·exact(kfi (z:=z) (x:= .yld (σ 3)) (y:= .str line) (by decide) (by decide) (by decide) (by decide) rfl).trans (h1r.trans (by kernel_rfl))
  ·show zC.h.put (σ 3) (some (.loop ({({l with st:=1}:ALoop) with st:=0,pend:=none}:ALoop)))=zC.h.put (σ 3) (some (.loop l))
   rw[klb L.st L.pend]
theorem qfq (out:List Bs) (rest:Bs) {z:St} {σ:Nat→Nat} (l:ALoop) (hσ: ∀ i j,σ i=σ j→i=j) (L:UOk σ l) (S:Sim (U0 out rest σ) (tmpl [0,1] u01 (c0 l)) z) (hne:rest≠[]) (hr:rest.length≤1000000):
  ∃ z2 σ2,Ev FF lnX z .nrm z2∧Agree4 σ σ2∧Sim (U1 [(kaj rest).1] (kaj rest).2 σ2) (tmpl [0,1] u01 (c1 l)) z2:=by
 have hline: ∃ z1 σ1,Ev FF (.seq lnA (.seq ln3 lnM)) z .nrm z1∧Agree4 σ σ1∧Sim (UL0 out (kaj rest).2 (kaj rest).1 σ1) (tmpl [0,1,3] [.yld 3,.ptr 1 0,vt 1] (c0 l)) z1:=by
  have h0:(List.length rest:Int) > 0:=by
   have:=List.length_pos_iff.2 hne
   omega
  by_cases h1:Lib.indexByte rest 10 ≥ 0
  ·have hlt:Lib.indexByte rest 10<rest.length:=by
    rcases kit rest with h |h
    ·exact h
    ·exact absurd h hne
   have hw:=kmx h1 hlt hr
   obtain⟨z1,e1,S1⟩:=qfl out rest l hσ S h0 h1 (by rw[hw];omega)
   rw[hw,(ke2 h1).1,(ke2 h1).2] at S1
   exact⟨z1,_,e1,fun j hj=>by rcases lt4 hj with rfl |rfl |rfl |rfl <;> rfl,S1⟩
  ·obtain⟨z1,e1,S1⟩:=qfo out rest l hσ S h0 h1
   rw[kil h1]
   exact⟨z1,_,e1,fun j hj=>by rcases lt4 hj with rfl |rfl |rfl |rfl <;> rfl,S1⟩
 obtain⟨z1,σ1,e1,g1,S1⟩:=hline
 obtain⟨z0,eA,e3⟩:=e1.seqI
 obtain⟨z2,σ2,e2,h24,g2,S2⟩:=qfj out _ _ l S1.heap.inj (L.agree g1) S1
 refine⟨z2,σ2,?_,g1.trans g2,S2⟩
 exact eA.seq (Ev.block (id:=1) (e3.assoc (e2.seq (Ev.cond (x:= .t 24) (t:=false) (kbd h24) (Ev.skip _)))))
theorem qfk (out:List Bs) (rest line:Bs) {z:St} {σ:Nat→Nat} (l:ALoop) (hσ: ∀ i j,σ i=σ j→i=j) (L:UOk σ l) (S:Sim (UL1 out rest line σ) (tmpl [0,1,3] [.yld 3,.ptr 1 0,vt 1] (c1 l)) z) (ho:out.length≤1000000):
  ∃ z' σ',Ev FF (.reg lnY) z .nrm z'∧z'.r.get 24=some (.bool false)∧Agree4 σ σ'∧Sim (U1 (out++[line]) rest σ') (tmpl [0,1] u01 (c1 l)) z':=by
 have h0r:z.r.get 0=some (.yld (σ 3)):=S.regs 0 (.yld 3) (by kernel_rfl)
 have h1r:z.r.get 1=some (.ptr (σ 1) 0):=S.regs 1 (.ptr 1 0) (by kernel_rfl)
 have h3r:z.r.get 3=some (.str line):=S.regs 3 (vt 1) (by kernel_rfl)
 have hL:z.h.get (σ 3)=some (.loop l):=S.heap.get 3 (.loop l) (by kernel_rfl)
 have SA:Sim (UL1 out rest line σ) (tmpl [2,7] [.ptr 2 0,vt 1] (c1 l)) {r:=kdd l.r l.ps [.str line],h:=z.h,nx:=z.nx}:=by
  refine S.regs' (fun t u hu=> ?_) rfl rfl rfl rfl
  have hm:=kbh (show(ofL ([2,7].zip [.ptr 2 0,vt 1])).get t=some u from hu)
  rw[L.ps]
  show(l.r.put 7 (some (.str line))).get t=_
  rw[T.get_put]
  simp only[List.zip,List.zipWith,List.mem_cons,Prod.mk.injEq,List.not_mem_nil,or_false] at hm
  rcases hm with⟨rfl,rfl⟩ | ⟨rfl,rfl⟩
  ·exact L.reg
  ·rfl
 obtain⟨zB,eB,SB⟩:=k0c out rest line l hσ SA
 have hB:zB.h.get (σ 3)=some (.loop l):=SB.heap.get 3 (.loop l) (by kernel_rfl)
 have SC:=SB.hp' 3 {l with st:=1} (i:=σ 3) (by kernel_rfl)
 rw[show({tmpl [2,5] [.ptr 2 0,vt 1] (c1 l) with h:=(tmpl [2,5] [.ptr 2 0,vt 1] (c1 l)).h.put 3 (some (.loop {l with st:=1}))}:St)=tmpl [2,5] [.ptr 2 0,vt 1] (c1 {l with st:=1}) by kernel_rfl] at SC
 obtain⟨zC,eC,SD⟩:=k0e out rest line {l with st:=1} SB.heap.inj SC ho
 have hD:zC.h.get (σ 3)=some (.loop {l with st:=1}):=SD.heap.get 3 (.loop {l with st:=1}) (by kernel_rfl)
 have hR:=Rnd.mk (F:=FF) (id:=σ 3) (args:=[.str line]) (s:=(z.set (some 21) (.yld (σ 3))).set (some 22) (.str line)) (l:=l) (s1:=zB) (s2:=zC) (l1:=l) (l2:={l with st:=1}) (e:= .nrm) hL (by rw[L.ps];rfl) (by rw[L.asg];exact eB) hB L.st ((congrArg (fun b=>Ev FF b (zB.hp (σ 3) (.loop {l with st:=1})) .nrm zC) L.body).mpr eC) hD
 have hy:=yreg h0r h3r hR
 refine⟨_,sig (sig σ [0,1,2,3,4] 5) [0,1,2,3,6] 7,hy,kcl,?_,?_⟩
 ·intro j hj
  rcases lt4 hj with rfl |rfl |rfl |rfl <;> rfl
 ·have SE:=SD.hp' 3 l (i:=σ 3) (by kernel_rfl)
  rw[show({tmpl [] [] (c1 {l with st:=1}) with h:=(tmpl [] [] (c1 {l with st:=1})).h.put 3 (some (.loop l))}:St)=tmpl [] [] (c1 l) by kernel_rfl] at SE
  refine SE.regs' (fun t u hu=> ?_) rfl ?_ rfl rfl
  ·have hm:=kbh (show(ofL ([0,1].zip u01)).get t=some u from hu)
   simp only[u01,List.zip,List.zipWith,List.mem_cons,Prod.mk.injEq,List.not_mem_nil,or_false] at hm
   rcases hm with⟨rfl,rfl⟩ | ⟨rfl,rfl⟩
   ·exact(kfi (z:=z) (x:= .yld (σ 3)) (y:= .str line) (by decide) (by decide) (by decide) (by decide) rfl).trans (h0r.trans (by kernel_rfl))
   ·exact(kfi (z:=z) (x:= .yld (σ 3)) (y:= .str line) (by decide) (by decide) (by decide) (by decide) rfl).trans (h1r.trans (by kernel_rfl))
  ·show zC.h.put (σ 3) (some (.loop ({({l with st:=1}:ALoop) with st:=0,pend:=none}:ALoop)))=zC.h.put (σ 3) (some (.loop l))
   rw[klb L.st L.pend]
theorem qfr (out:List Bs) (rest:Bs) {z:St} {σ:Nat→Nat} (l:ALoop) (hσ: ∀ i j,σ i=σ j→i=j) (L:UOk σ l) (S:Sim (U1 out rest σ) (tmpl [0,1] u01 (c1 l)) z) (hne:rest≠[]) (hr:rest.length≤1000000) (ho:out.length≤1000000):
  ∃ z2 σ2,Ev FF lnX z .nrm z2∧Agree4 σ σ2∧Sim (U1 (out++[(kaj rest).1]) (kaj rest).2 σ2) (tmpl [0,1] u01 (c1 l)) z2:=by
 have hline: ∃ z1 σ1,Ev FF (.seq lnA (.seq ln3 lnM)) z .nrm z1∧Agree4 σ σ1∧Sim (UL1 out (kaj rest).2 (kaj rest).1 σ1) (tmpl [0,1,3] [.yld 3,.ptr 1 0,vt 1] (c1 l)) z1:=by
  have h0:(List.length rest:Int) > 0:=by
   have:=List.length_pos_iff.2 hne
   omega
  by_cases h1:Lib.indexByte rest 10 ≥ 0
  ·have hlt:Lib.indexByte rest 10<rest.length:=by
    rcases kit rest with h |h
    ·exact h
    ·exact absurd h hne
   have hw:=kmx h1 hlt hr
   obtain⟨z1,e1,S1⟩:=qfm out rest l hσ S h0 h1 (by rw[hw];omega)
   rw[hw,(ke2 h1).1,(ke2 h1).2] at S1
   exact⟨z1,_,e1,fun j hj=>by rcases lt4 hj with rfl |rfl |rfl |rfl <;> rfl,S1⟩
  ·obtain⟨z1,e1,S1⟩:=qfp out rest l hσ S h0 h1
   rw[kil h1]
   exact⟨z1,_,e1,fun j hj=>by rcases lt4 hj with rfl |rfl |rfl |rfl <;> rfl,S1⟩
 obtain⟨z1,σ1,e1,g1,S1⟩:=hline
 obtain⟨z0,eA,e3⟩:=e1.seqI
 obtain⟨z2,σ2,e2,h24,g2,S2⟩:=qfk out _ _ l S1.heap.inj (L.agree g1) S1 ho
 refine⟨z2,σ2,?_,g1.trans g2,S2⟩
 exact eA.seq (Ev.block (id:=1) (e3.assoc (e2.seq (Ev.cond (x:= .t 24) (t:=false) (kbd h24) (Ev.skip _)))))
theorem qfn (l:ALoop): ∀ (n:Nat) (out:List Bs) (rest:Bs) {z:St} {σ:Nat→Nat},rest.length<n→out.length+rest.length≤1000000→(∀ i j,σ i=σ j→i=j)→UOk σ l→
  Sim (U1 out rest σ) (tmpl [0,1] u01 (c1 l)) z→ ∃ z' σ' rest',Ev FF (.loop lnX) z (.ext 0) z'∧Agree4 σ σ'∧Sim (U1 (out++ka9 rest) rest' σ') (tmpl [] [] (c1 l)) z':=by
 intro n
 induction n with
 |zero=>intro out rest z σ h;omega
 |succ n ih=>
  intro out rest z σ hn h1 hσ L S
  by_cases hr:rest=[]
  ·obtain⟨z1,e1,S1⟩:=qfi out rest l hσ S (by rw[hr];simp)
   refine⟨z1,sig σ [0,1,2,3,4] 5,rest,Ev.loopJ (e1.seqJ (by intro h;cases h)) (by intro h;cases h),?_,?_⟩
   ·intro j hj
    rcases lt4 hj with rfl |rfl |rfl |rfl <;> rfl
   ·rw[hr,kuc,List.append_nil,←hr];exact S1
  ·have hlen:=kdy rest
   have hpos:=keo hr
   obtain⟨z2,σ2,e2,g2,S2⟩:=qfr out rest l hσ L S hr (by omega) (by omega)
   obtain⟨z',σ',rest',x3,x4,x5⟩:=ih (out++[(kaj rest).1]) (kaj rest).2 (by omega) (by rw[List.length_append,List.length_singleton];omega) S2.heap.inj (L.agree g2) S2
   refine⟨z',σ',rest',e2.loop x3,g2.trans x4,?_⟩
   rw[kgw hr]
   rw[List.append_assoc] at x5
   exact x5
end Go.Proofs.Hz
open Go Go.Proofs
namespace Go.Proofs.Hz
set_option maxRecDepth 20000
def CallEv [Gl] (F:Nat→Option AFn) (f:Nat) (args:List AV) (s:St) (v:AV) (s':St):Prop:=∃ n,kbi F (KN F n) (exA F (KN F n) n) f args s=some (v,s')
section
variable {G:Gl} {F:Nat→Option AFn}
theorem CallEv.mk {f:Nat} {fn:AFn} {args:List AV} {s s1:St} {e:AE} {v:AV} (hF:F f=some fn) (hp:fn.pure=false) (hb:Ev F fn.body {r:=inits 0 args .nil,h:=s.h,nx:=s.nx} e s1) (he:e= .nrm∨e= .ret) (hr:resA fn s1=some v):
  CallEv F f args s v {r:=s.r,h:=s1.h,nx:=s1.nx}:=by
 obtain⟨n,hb⟩:=hb
 refine⟨n,?_⟩
 unfold kbi
 simp only[hF,hp,Bool.false_eq_true,if_false,hb]
 rcases he with rfl |rfl
 ·simp only[hr]
 ·simp only[hr]
theorem EvR.call {f:AO} {g:Nat} {first caps:List AV} {xs:List AO} {d:Option Nat} {ops:List AOper} {s s1 s2:St} {v:AV} (hf:f.ev s= .fn g first caps) (hc:CallEv F g (first++xs.map (AO.ev s)++caps) s v s1) (h:EvR F ops (s1.set d v) s2):EvR F (⟨d,.call f xs,none⟩::ops) s s2:=by
 obtain⟨n,h⟩:=h
 obtain⟨m,hc⟩:=hc
 refine⟨max n m,?_⟩
 have x1:=knd (kbf (F:=F) (show m≤max n m by omega)) (kbg (F:=F) (kbf (F:=F) (show m≤max n m by omega)) (show m≤max n m by omega)) hc
 have x2:=kfa (kbf (F:=F) (show n≤max n m by omega)) (kbg (F:=F) (kbf (F:=F) (show n≤max n m by omega)) (show n≤max n m by omega)) h
 simp only[regA,kbs,if_true,ka2,kdl,hf,x1]
 exact x2
theorem krf (K:Nat→List AV→Option AV) (ex:AC→St→Option (AE×St)): ∀ (l1 l2:List AOper) (s:St),regA F K ex (l1++l2) s=match regA F K ex l1 s with
  |some s1=>regA F K ex l2 s1
  |none=>none
 | [],_,_=>rfl
 |o::l1,l2,s=>by
  simp only[List.cons_append,regA]
  by_cases hw:kbs s o.guard=true
  ·rw[if_pos hw,if_pos hw]
   cases ka2 F K ex o.op s with
   |none=>rfl
   |some q=>exact krf K ex l1 l2 _
  ·rw[if_neg hw,if_neg hw]
   exact krf K ex l1 l2 _
theorem EvR.app {l1 l2:List AOper} {s s1 s2:St} (h1:EvR F l1 s s1) (h2:EvR F l2 s1 s2):EvR F (l1++l2) s s2:=by
 obtain⟨n,h1⟩:=h1
 obtain⟨m,h2⟩:=h2
 refine⟨max n m,?_⟩
 have x1:=kfa (kbf (F:=F) (show n≤max n m by omega)) (kbg (F:=F) (kbf (F:=F) (show n≤max n m by omega)) (show n≤max n m by omega)) h1
 have x2:=kfa (kbf (F:=F) (show m≤max n m by omega)) (kbg (F:=F) (kbf (F:=F) (show m≤max n m by omega)) (show m≤max n m by omega)) h2
 rw[krf,x1]
 exact x2
theorem Ev.regI {l:List AOper} {s s1:St} {e:AE} (h:Ev F (.reg l) s e s1):EvR F l s s1:=by
 obtain⟨n,h⟩:=h
 cases n with
 |zero=>cases h
 |succ n=>
  simp only[exA] at h
  split at h
  ·rename_i s2 hx
   cases h
   exact⟨n+1,kfa (fun _ _ _ h=>h) (kbg (F:=F) (fun _ _ _ h=>h) (Nat.le_succ n)) hx⟩
  ·cases h
end
end Go.Proofs.Hz
