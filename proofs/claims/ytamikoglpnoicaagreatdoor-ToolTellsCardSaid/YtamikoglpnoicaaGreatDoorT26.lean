/-
  Chapter 15: syscalls' texts, parsed: plainly. (Plain definitions and laws.)
  Conditions: none.
-/
import Derived.Test.YtamikoglpnoicaaGreatDoorT24
import Derived.Test.YtamikoglpnoicaaGreatDoorT25
import Derived.Lib.IndexLaws
open Go Go.Proofs
namespace Go.Proofs.Hz
open Bool renaming false_eq_true->yac
open Int renaming toNat->yab
open Go.Lib renaming indexByte->yaa
open List renaming length_cons->yad,drop->yae,take->yaf
open OkO renaming own->yag
def kap:List UInt8->List UInt8×List UInt8
 | []=>([],[])
 |c::l=>if c=10 then([10],l) else(c::(kap l).1,(kap l).2)
def kff:Nat->List Cl->Nat->List UInt8->List Cl×Nat×Int
 |0,out,a,_=>(out,a,0)
 |n+1,out,a,rest=>if rest=[] then(out,a,0) else
  if kau (kap rest).1=true then kff n (out++[kas (kap rest).1]) (a+(kap rest).1.length) (kap rest).2 else([],a,1)
def kfw (s:List UInt8):List Cl×Nat×Int:=kff (s.length+1) [] 0 s
theorem kll: ∀ (l:List UInt8),yaa l 10<l.length\/l=[]
 | []=> .inr rfl
 |c::l=> .inl (by
  have:=kll l;unfold yaa;split
  ·simp only[yad];omega
  ·split
   ·simp only[yad];omega
   ·rename_i h1 h2;rcases this with h |h
    ·simp only[yad];omega
    ·subst h;exact absurd rfl h2)
theorem kgs: ∀ {l:List UInt8},0<=yaa l 10->l.take (yaa l 10+1).toNat=(kap l).1/\l.drop (yaa l 10+1).toNat=(kap l).2
 | [],h=>by simp[yaa] at h
 |c::l,h=>by
  unfold kap;by_cases hc:c=10
  ·subst hc;have e:yaa (10::l) 10=0:=by unfold yaa;rfl
   rw[e,iq rfl];exact⟨rfl,rfl⟩
  ·rw[ir hc];have hb:(c == 10)=false:=beq_eq_false_iff_ne.2 hc;unfold yaa at h ⊢;simp only[hb,yac,if_false] at h ⊢;by_cases h1:yaa l 10= -1
   ·rw[h1] at h;simp at h
   ·have hb1:(yaa l 10 == -1)=false:=beq_eq_false_iff_ne.2 h1;have hg:=Lib.indexByte_ge l 10;obtain⟨e1,e2⟩:=kgs (l:=l) (by omega);simp only[hb1,yac,if_false];have ht:(yaa l 10+1+1).toNat=(yaa l 10+1).toNat+1:=by omega
    rw[ht,List.take_succ_cons,List.drop_succ_cons,e1,e2];exact⟨rfl,rfl⟩
theorem klb: ∀ {l:List UInt8},¬0<=yaa l 10->kap l=(l,[])
 | [],_=>rfl
 |c::l,h=>by
  unfold kap;unfold yaa at h;by_cases hc:c=10
  ·subst hc;exact absurd (Int.le_refl 0) h
  ·have hb:(c == 10)=false:=beq_eq_false_iff_ne.2 hc;simp only[hb,yac,if_false] at h;rw[ir hc];have hl: ¬0<=yaa l 10:=fun h0=>by
    have hb1:(yaa l 10 == -1)=false:=beq_eq_false_iff_ne.2 (by omega);rw[hb1] at h;simp only[yac,if_false] at h;omega
   rw[klb hl]
theorem kla: ∀ (l:List UInt8),(kap l).1++(kap l).2=l
 | []=>rfl
 |c::l=>by
  unfold kap;split
  ·rename_i h;subst h;rfl
  ·simp only[List.cons_append,kla l]
theorem kfs: ∀ {l:List UInt8},l≠[]->0<(kap l).1.length
 | [],h=>absurd rfl h
 |c::l,_=>by
  unfold kap;split <;> simp
theorem kev (l:List UInt8):(kap l).1.length+(kap l).2.length=l.length:=by
 conv=>rhs;rw[←kla l]
 simp
def ka4:AC->AC
 | .seq a _=>a
 | .block _ b=>b
 | .loop b=>b
 | .cond _ a _=>a
 | .rngf _ _ _ a _=>a
 |c=>c
def kat:AC->AC
 | .seq _ b=>b
 | .cond _ _ b=>b
 | .rngf _ _ _ _ b=>b
 |c=>c
noncomputable def lnL:AC:=ka4 (ka4 (kai FF 49).body)
noncomputable def lnA:AC:=ka4 lnL
noncomputable def ln3:AC:=ka4 (ka4 (kat lnL))
noncomputable def lnM:AC:=ka4 (kat (ka4 (kat lnL)))
def lnY:List AOper:=[⟨some 21,.mov (.t 0),none⟩,⟨some 22,.mov (.t 3),none⟩,⟨some 23,.call (.t 21) [.t 22],none⟩,⟨some 24,.un .not (.t 23),none⟩]
theorem qbs:(kai FF 49).body= .block 0 (.loop (.seq lnA (.block 1 (.seq ln3 (.seq lnM (.seq (.reg lnY) (.cond (.t 24) .ret .skip))))))):=by kernel_rfl
noncomputable def paA:AC:=ka4 (kai FF 77).body
noncomputable def paB:AC:=ka4 (kat (kai FF 77).body)
noncomputable def paC:AC:=ka4 (kat (kat (kai FF 77).body))
noncomputable def paX:AC:=kat (kat (kat (kai FF 77).body))
noncomputable def paD:AC:=ka4 (ka4 paX)
noncomputable def paE:AC:=kat paX
noncomputable def paG:AC:=ka4 (ka4 (kat (ka4 paX)))
noncomputable def paH:AC:=kat (ka4 (kat (ka4 paX)))
theorem qeg:(kai FF 77).body= .seq paA (.seq paB (.seq paC (.seq (.seq paD (.block 0 (.rngf 31 (.t 11) [12] paG paH))) paE))):=by kernel_rfl
theorem khm (s:List UInt8):kak FF 50 [.str s,.int .u8 10] (.int .i64 (yaa s 10)):=⟨10,by kernel_rfl⟩
def w01:List AV:=[.yld 6,.ptr 5 0]
def wP:List AV:=[.ptr 0 0,.ptr 1 0,.ptr 2 0,.ptr 3 0,.ptr 4 0]
def bk0 (l:ALoop):List Blk:=[.cells [.im [] true] false 42,.cells [.int .i64 0] false 3,.cells [.int .i64 0] false 29,.cells [.im [] true] false 42,.cells [vt 0] false 3,.cells [vt 1] false 9,.loop l]
def bk1 (l:ALoop):List Blk:=[.cells [.im [] true] false 42,.cells [.int .i64 0] false 3,.cells [.int .i64 0] false 29,.cells [.sl 7 0 1000003 3 none] false 42,.cells [vt 0] false 3,.cells [vt 1] false 9,.loop l,.own 1000003 false 48]
def kdk (l:ALoop):List Blk:=[.cells [.im [] true] false 42,.cells [vt 0] false 3,.cells [.int .i64 1] false 29,.loop l]
def V0 (_out:List Cl) (a:Nat) (rest:List UInt8) (σ:Nat->Nat):Val:=kal [.int .i64 a,.str rest] [] [] σ 7
def V1 (out:List Cl) (a:Nat) (rest:List UInt8) (σ:Nat->Nat):Val:=kal [.int .i64 a,.str rest] [] [(3,out.map eC)] σ 8
def VL0 (_out:List Cl) (a:Nat) (rest line:List UInt8) (σ:Nat->Nat):Val:=kal [.int .i64 a,.str rest,.str line] [] [] σ 7
def VL1 (out:List Cl) (a:Nat) (rest line:List UInt8) (σ:Nat->Nat):Val:=kal [.int .i64 a,.str rest,.str line] [] [(3,out.map eC)] σ 8
def VE4 (a:Nat) (σ:Nat->Nat):Val:=kal [.int .i64 a] [] [] σ 4
theorem qbf (out:List Cl) (a:Nat) (rest:List UInt8) {z:St} {σ:Nat->Nat} (l:ALoop) (hσ: ∀ i j,σ i=σ j->i=j) (S:Sim (V0 out a rest σ) (kaa [0,1] w01 (bk0 l)) z) (h0: ¬(rest.length:Int) > 0): ∃ z1,Ev FF lnA z (.ext 0) z1/\Sim (V0 out a rest (sig σ [0,1,2,3,4,5,6] 7)) (kaa [] [] (bk0 l)) z1:=by
 have H:=Tok.start (G:=gl20) (F:=FF) hσ S 7 2 0 0 [.int .i64 a,.str rest] [] [] .n .n rfl rfl;have H:=H.t 4 [.int .i64 rest.length,.bool (decide ((rest.length:Int) > 0))]|>.q 2 (.len 1 (cT 1))|>.q 3 (.bin .gtr (cT 2) (cI 0))|>.w 3 h0;exact H.ev _ _ _ [0,1,2,3,4,5,6] [] [.cells [.im [] true] false 42,.cells [.int .i64 0] false 3,.cells [.int .i64 0] false 29,.cells [.im [] true] false 42,.cells [vt 0] false 3,.cells [vt 1] false 9,.loop l] 7 _ _ _
theorem qbj (out:List Cl) (a:Nat) (rest:List UInt8) {z:St} {σ:Nat->Nat} (l:ALoop) (hσ: ∀ i j,σ i=σ j->i=j) (S:Sim (V0 out a rest σ) (kaa [0,1] w01 (bk0 l)) z) (h0:(rest.length:Int) > 0) (h1:yaa rest 10 ≥ 0) (h2:0<=w64 (yaa rest 10+1)/\w64 (yaa rest 10+1)<=(rest.length:Int)): ∃ z1,Ev FF (.seq lnA (.seq ln3 lnM)) z .nrm z1/\Sim (VL0 out a (yae (yab (w64 (yaa rest 10+1))) rest) (yaf (yab (w64 (yaa rest 10+1))) rest) (sig σ [0,1,2,3,4,5,6] 17)) (kaa [0,1,3] [.yld 6,.ptr 5 0,vt 2] (bk0 l)) z1:=by
 have H:=Tok.start (G:=gl20) (F:=FF) hσ S 7 2 0 0 [.int .i64 a,.str rest] [] [] .n .n rfl rfl;have H:=H.t 5 [.int .i64 rest.length,.bool (decide ((rest.length:Int) > 0)),.int .i64 (yaa rest 10)]|>.q 2 (.len 1 (cT 1))|>.q 3 (.bin .gtr (cT 2) (cI 0))|>.y 3 h0|>.s [vt 1,.int .u8 10] (vt 4) (khm rest);have H:=H.t 7 [.bool (decide (yaa rest 10 ≥ 0)),.int .i64 (w64 (yaa rest 10+1))]|>.q 5 (.bin .geq (cT 4) (cI 0))|>.q 6 (.bin .add (cT 4) (cI 1))|>.y 5 h1;have H:=H.t 9 [.str (yaf (yab (w64 (yaa rest 10+1))) rest),.str (yae (yab (w64 (yaa rest 10+1))) rest)]|>.c (p:=(.slT (cT 1) none (some (cT 6)),vt 7)) (fun _ _ _=>kcu (l:=rest) (l':=(yaf (yab (w64 (yaa rest 10+1))) rest)) (lo:=none) (hi:=(some ((vt 6),(w64 (yaa rest 10+1):Int)))) (by kernel_rfl) trivial ⟨.i64,by kernel_rfl⟩ (by simp only[ka3];omega) (by simp[ka3]) (by kernel_rfl))
  |>.c (p:=(.slT (cT 1) (some (cT 6)) none,vt 8)) (fun _ _ _=>kcu (l:=rest) (l':=(yae (yab (w64 (yaa rest 10+1))) rest)) (lo:=(some ((vt 6),(w64 (yaa rest 10+1):Int)))) (hi:=none) (by kernel_rfl) ⟨.i64,by kernel_rfl⟩ trivial (by simp only[ka3];omega) (by simp only[ka3];exact khi _ _) (by kernel_rfl))
 exact H.ev _ _ _ [0,1,2,3,4,5,6] [.yld 6,.ptr 5 0,vt 7] [.cells [.im [] true] false 42,.cells [.int .i64 0] false 3,.cells [.int .i64 0] false 29,.cells [.im [] true] false 42,.cells [vt 0] false 3,.cells [vt 8] false 9,.loop l] 17 _ _ _
theorem qbo (out:List Cl) (a:Nat) (rest:List UInt8) {z:St} {σ:Nat->Nat} (l:ALoop) (hσ: ∀ i j,σ i=σ j->i=j) (S:Sim (V0 out a rest σ) (kaa [0,1] w01 (bk0 l)) z) (h0:(rest.length:Int) > 0) (h1: ¬yaa rest 10 ≥ 0): ∃ z1,Ev FF (.seq lnA (.seq ln3 lnM)) z .nrm z1/\Sim (VL0 out a [] rest (sig σ [0,1,2,3,4,5,6] 7)) (kaa [0,1,3] [.yld 6,.ptr 5 0,vt 2] (bk0 l)) z1:=by
 have H:=Tok.start (G:=gl20) (F:=FF) hσ S 7 2 0 0 [.int .i64 a,.str rest] [] [] .n .n rfl rfl;have H:=H.t 5 [.int .i64 rest.length,.bool (decide ((rest.length:Int) > 0)),.int .i64 (yaa rest 10)]|>.q 2 (.len 1 (cT 1))|>.q 3 (.bin .gtr (cT 2) (cI 0))|>.y 3 h0|>.s [vt 1,.int .u8 10] (vt 4) (khm rest);have H:=H.t 6 [.bool (decide (yaa rest 10 ≥ 0))]|>.q 5 (.bin .geq (cT 4) (cI 0))|>.w 5 h1;exact H.ev _ _ _ [0,1,2,3,4,5,6] [.yld 6,.ptr 5 0,vt 1] [.cells [.im [] true] false 42,.cells [.int .i64 0] false 3,.cells [.int .i64 0] false 29,.cells [.im [] true] false 42,.cells [vt 0] false 3,.cells [.str []] false 9,.loop l] 7 _ _ _
theorem k0b (out:List Cl) (a:Nat) (rest line:List UInt8) {z:St} {σ:Nat->Nat} (l:ALoop) (hσ: ∀ i j,σ i=σ j->i=j) (S:Sim (VL0 out a rest line σ) (kaa [2,3,4,5,6,12] (wP++[vt 2]) (bk0 l)) z): ∃ z1,Ev FF paG z .nrm z1/\Sim (VL0 out a rest line (sig σ [0,1,2,3,4,5,6] 7)) (kaa [2,3,4,5,6,7] (wP++[vt 2]) (bk0 l)) z1:=by
 have H:=Tok.start (G:=gl20) (F:=FF) hσ S 7 3 0 0 [.int .i64 a,.str rest,.str line] [] [] .n .n rfl rfl;exact H.ev _ _ _ [0,1,2,3,4,5,6] (wP++[vt 2]) [.cells [.im [] true] false 42,.cells [.int .i64 0] false 3,.cells [.int .i64 0] false 29,.cells [.im [] true] false 42,.cells [vt 0] false 3,.cells [vt 1] false 9,.loop l] 7 _ _ _
theorem qd8 (out:List Cl) (a:Nat) (rest line:List UInt8) {z:St} {σ:Nat->Nat} (l:ALoop) (hσ: ∀ i j,σ i=σ j->i=j) (S:Sim (VL0 out a rest line σ) (kaa [2,3,4,5,6,7] (wP++[vt 2]) (bk0 l)) z) (hl:line.length<=1000000) (h0: ¬kau line=true): ∃ z1,Ev FF paH z .ret z1/\Sim (VE4 a (sig σ [0,1,2,6] 12)) (kaa [] [] (kdk l)) z1:=by
 have H:=Tok.start (G:=gl20) (F:=FF) hσ S 7 3 0 0 [.int .i64 a,.str rest,.str line] [] [] .n .n rfl rfl;have H:=H.t 8 [.int .i64 (kas line).no,.int .i64 (kas line).a,.int .i64 (kas line).b,.bool (kau line),.bool (!(kau line))]|>.s [vt 2] (.tup [.agg [vt 3,vt 4,vt 5],vt 6]) (knn line hl)|>.q 7 (.un .not (cT 6))|>.m 7 true (b:= !(kau line)) (by simp[h0]);exact H.ev _ _ _ [0,1,2,6] [] [.cells [.im [] true] false 42,.cells [vt 0] false 3,.cells [.int .i64 1] false 29,.loop l] 12 _ _ _
theorem qed (out:List Cl) (a:Nat) (rest line:List UInt8) {z:St} {σ:Nat->Nat} (l:ALoop) (hσ: ∀ i j,σ i=σ j->i=j) (S:Sim (VL0 out a rest line σ) (kaa [2,3,4,5,6,7] (wP++[vt 2]) (bk0 l)) z) (hl:line.length<=1000000) (h0:kau line=true) (hw:w64 ((a:Int)+(line.length:Int))=((a+line.length:Nat):Int)): ∃ z1,Ev FF paH z .nrm z1/\Sim (V1 [kas line] (a+line.length) rest (sig σ [0,1,2,3,4,5,6,9] 10)) (kaa [] [] (bk1 l)) z1:=by
 have H:=Tok.start (G:=gl20) (F:=FF) hσ S 7 3 0 0 [.int .i64 a,.str rest,.str line] [] [] .n .n rfl rfl;have H:=H.t 8 [.int .i64 (kas line).no,.int .i64 (kas line).a,.int .i64 (kas line).b,.bool (kau line),.bool (!(kau line))]|>.s [vt 2] (.tup [.agg [vt 3,vt 4,vt 5],vt 6]) (knn line hl)|>.q 7 (.un .not (cT 6))|>.m 7 false (b:= !(kau line)) (by simp[h0]);have H:=H.t 10 [.int .i64 line.length,.int .i64 (w64 ((a:Int)+(line.length:Int)))]|>.q 8 (.len 1 (cT 2))|>.q 9 (.bin .add (cT 0) (cT 8));rw[hw] at H;exact H.ev _ _ _ [0,1,2,3,4,5,6,9] [] [.cells [.im [] true] false 42,.cells [.int .i64 0] false 3,.cells [.int .i64 0] false 29,.cells [.sl 9 0 1 3 none] false 42,.cells [vt 9] false 3,.cells [vt 1] false 9,.loop l,.cells [vt 3,vt 4,vt 5] false 48] 10 _ _ _
theorem qea (out:List Cl) (a:Nat) (rest:List UInt8) {z:St} {σ:Nat->Nat} (l:ALoop) (hσ: ∀ i j,σ i=σ j->i=j) (S:Sim (V0 out a rest σ) (kaa [2,3,4,5,6] wP (bk0 l)) z):J FF (kai FF 77) [] (.code paE) z (.tup [(.im [] true),.int .i64 a,.int .i64 0]):=by
 have H:=Tok.start (G:=gl20) (F:=FF) hσ S 7 2 0 0 [.int .i64 a,.str rest] [] [] .n .n rfl rfl;exact H.e [] rfl
theorem qbg (out:List Cl) (a:Nat) (rest:List UInt8) {z:St} {σ:Nat->Nat} (l:ALoop) (hσ: ∀ i j,σ i=σ j->i=j) (S:Sim (V1 out a rest σ) (kaa [0,1] w01 (bk1 l)) z) (h0: ¬(rest.length:Int) > 0): ∃ z1,Ev FF lnA z (.ext 0) z1/\Sim (V1 out a rest (sig σ [0,1,2,3,4,5,6,7] 8)) (kaa [] [] (bk1 l)) z1:=by
 have H:=Tok.start (G:=gl20) (F:=FF) hσ S 8 2 0 1 [.int .i64 a,.str rest] [] [(0,3,out.map eC)] .n (.c (yag ka5 _) .n) rfl rfl;have H:=H.t 4 [.int .i64 rest.length,.bool (decide ((rest.length:Int) > 0))]|>.q 2 (.len 1 (cT 1))|>.q 3 (.bin .gtr (cT 2) (cI 0))|>.w 3 h0;exact H.ev _ _ _ [0,1,2,3,4,5,6,7] [] [.cells [.im [] true] false 42,.cells [.int .i64 0] false 3,.cells [.int .i64 0] false 29,.cells [.sl 7 0 1000003 3 none] false 42,.cells [vt 0] false 3,.cells [vt 1] false 9,.loop l,.own 1000003 false 48] 8 _ _ _
theorem qbk (out:List Cl) (a:Nat) (rest:List UInt8) {z:St} {σ:Nat->Nat} (l:ALoop) (hσ: ∀ i j,σ i=σ j->i=j) (S:Sim (V1 out a rest σ) (kaa [0,1] w01 (bk1 l)) z) (h0:(rest.length:Int) > 0) (h1:yaa rest 10 ≥ 0) (h2:0<=w64 (yaa rest 10+1)/\w64 (yaa rest 10+1)<=(rest.length:Int)): ∃ z1,Ev FF (.seq lnA (.seq ln3 lnM)) z .nrm z1/\Sim (VL1 out a (yae (yab (w64 (yaa rest 10+1))) rest) (yaf (yab (w64 (yaa rest 10+1))) rest) (sig σ [0,1,2,3,4,5,6,7] 18)) (kaa [0,1,3] [.yld 6,.ptr 5 0,vt 2] (bk1 l)) z1:=by
 have H:=Tok.start (G:=gl20) (F:=FF) hσ S 8 2 0 1 [.int .i64 a,.str rest] [] [(0,3,out.map eC)] .n (.c (yag ka5 _) .n) rfl rfl;have H:=H.t 5 [.int .i64 rest.length,.bool (decide ((rest.length:Int) > 0)),.int .i64 (yaa rest 10)]|>.q 2 (.len 1 (cT 1))|>.q 3 (.bin .gtr (cT 2) (cI 0))|>.y 3 h0|>.s [vt 1,.int .u8 10] (vt 4) (khm rest);have H:=H.t 7 [.bool (decide (yaa rest 10 ≥ 0)),.int .i64 (w64 (yaa rest 10+1))]|>.q 5 (.bin .geq (cT 4) (cI 0))|>.q 6 (.bin .add (cT 4) (cI 1))|>.y 5 h1;have H:=H.t 9 [.str (yaf (yab (w64 (yaa rest 10+1))) rest),.str (yae (yab (w64 (yaa rest 10+1))) rest)]|>.c (p:=(.slT (cT 1) none (some (cT 6)),vt 7)) (fun _ _ _=>kcu (l:=rest) (l':=(yaf (yab (w64 (yaa rest 10+1))) rest)) (lo:=none) (hi:=(some ((vt 6),(w64 (yaa rest 10+1):Int)))) (by kernel_rfl) trivial ⟨.i64,by kernel_rfl⟩ (by simp only[ka3];omega) (by simp[ka3]) (by kernel_rfl))
  |>.c (p:=(.slT (cT 1) (some (cT 6)) none,vt 8)) (fun _ _ _=>kcu (l:=rest) (l':=(yae (yab (w64 (yaa rest 10+1))) rest)) (lo:=(some ((vt 6),(w64 (yaa rest 10+1):Int)))) (hi:=none) (by kernel_rfl) ⟨.i64,by kernel_rfl⟩ trivial (by simp only[ka3];omega) (by simp only[ka3];exact khi _ _) (by kernel_rfl))
 exact H.ev _ _ _ [0,1,2,3,4,5,6,7] [.yld 6,.ptr 5 0,vt 7] [.cells [.im [] true] false 42,.cells [.int .i64 0] false 3,.cells [.int .i64 0] false 29,.cells [.sl 7 0 1000003 3 none] false 42,.cells [vt 0] false 3,.cells [vt 8] false 9,.loop l,.own 1000003 false 48] 18 _ _ _
theorem qbp (out:List Cl) (a:Nat) (rest:List UInt8) {z:St} {σ:Nat->Nat} (l:ALoop) (hσ: ∀ i j,σ i=σ j->i=j) (S:Sim (V1 out a rest σ) (kaa [0,1] w01 (bk1 l)) z) (h0:(rest.length:Int) > 0) (h1: ¬yaa rest 10 ≥ 0): ∃ z1,Ev FF (.seq lnA (.seq ln3 lnM)) z .nrm z1/\Sim (VL1 out a [] rest (sig σ [0,1,2,3,4,5,6,7] 8)) (kaa [0,1,3] [.yld 6,.ptr 5 0,vt 2] (bk1 l)) z1:=by
 have H:=Tok.start (G:=gl20) (F:=FF) hσ S 8 2 0 1 [.int .i64 a,.str rest] [] [(0,3,out.map eC)] .n (.c (yag ka5 _) .n) rfl rfl;have H:=H.t 5 [.int .i64 rest.length,.bool (decide ((rest.length:Int) > 0)),.int .i64 (yaa rest 10)]|>.q 2 (.len 1 (cT 1))|>.q 3 (.bin .gtr (cT 2) (cI 0))|>.y 3 h0|>.s [vt 1,.int .u8 10] (vt 4) (khm rest);have H:=H.t 6 [.bool (decide (yaa rest 10 ≥ 0))]|>.q 5 (.bin .geq (cT 4) (cI 0))|>.w 5 h1;exact H.ev _ _ _ [0,1,2,3,4,5,6,7] [.yld 6,.ptr 5 0,vt 1] [.cells [.im [] true] false 42,.cells [.int .i64 0] false 3,.cells [.int .i64 0] false 29,.cells [.sl 7 0 1000003 3 none] false 42,.cells [vt 0] false 3,.cells [.str []] false 9,.loop l,.own 1000003 false 48] 8 _ _ _
theorem k0c (out:List Cl) (a:Nat) (rest line:List UInt8) {z:St} {σ:Nat->Nat} (l:ALoop) (hσ: ∀ i j,σ i=σ j->i=j) (S:Sim (VL1 out a rest line σ) (kaa [2,3,4,5,6,12] (wP++[vt 2]) (bk1 l)) z): ∃ z1,Ev FF paG z .nrm z1/\Sim (VL1 out a rest line (sig σ [0,1,2,3,4,5,6,7] 8)) (kaa [2,3,4,5,6,7] (wP++[vt 2]) (bk1 l)) z1:=by
 have H:=Tok.start (G:=gl20) (F:=FF) hσ S 8 3 0 1 [.int .i64 a,.str rest,.str line] [] [(0,3,out.map eC)] .n (.c (yag ka5 _) .n) rfl rfl;exact H.ev _ _ _ [0,1,2,3,4,5,6,7] (wP++[vt 2]) [.cells [.im [] true] false 42,.cells [.int .i64 0] false 3,.cells [.int .i64 0] false 29,.cells [.sl 7 0 1000003 3 none] false 42,.cells [vt 0] false 3,.cells [vt 1] false 9,.loop l,.own 1000003 false 48] 8 _ _ _
theorem qd9 (out:List Cl) (a:Nat) (rest line:List UInt8) {z:St} {σ:Nat->Nat} (l:ALoop) (hσ: ∀ i j,σ i=σ j->i=j) (S:Sim (VL1 out a rest line σ) (kaa [2,3,4,5,6,7] (wP++[vt 2]) (bk1 l)) z) (hl:line.length<=1000000) (h0: ¬kau line=true): ∃ z1,Ev FF paH z .ret z1/\Sim (VE4 a (sig σ [0,1,2,6] 13)) (kaa [] [] (kdk l)) z1:=by
 have H:=Tok.start (G:=gl20) (F:=FF) hσ S 8 3 0 1 [.int .i64 a,.str rest,.str line] [] [(0,3,out.map eC)] .n (.c (yag ka5 _) .n) rfl rfl;have H:=H.t 8 [.int .i64 (kas line).no,.int .i64 (kas line).a,.int .i64 (kas line).b,.bool (kau line),.bool (!(kau line))]|>.s [vt 2] (.tup [.agg [vt 3,vt 4,vt 5],vt 6]) (knn line hl)|>.q 7 (.un .not (cT 6))|>.m 7 true (b:= !(kau line)) (by simp[h0]);exact H.ev _ _ _ [0,1,2,6] [] [.cells [.im [] true] false 42,.cells [vt 0] false 3,.cells [.int .i64 1] false 29,.loop l] 13 _ _ _
theorem qee (out:List Cl) (a:Nat) (rest line:List UInt8) {z:St} {σ:Nat->Nat} (l:ALoop) (hσ: ∀ i j,σ i=σ j->i=j) (S:Sim (VL1 out a rest line σ) (kaa [2,3,4,5,6,7] (wP++[vt 2]) (bk1 l)) z) (hl:line.length<=1000000) (ho:out.length<=1000000) (h0:kau line=true) (hw:w64 ((a:Int)+(line.length:Int))=((a+line.length:Nat):Int)): ∃ z1,Ev FF paH z .nrm z1/\Sim (V1 (out++[kas line]) (a+line.length) rest (sig σ [0,1,2,3,4,5,6,10] 11)) (kaa [] [] (bk1 l)) z1:=by
 have H:=Tok.start (G:=gl20) (F:=FF) hσ S 8 3 0 1 [.int .i64 a,.str rest,.str line] [] [(0,3,out.map eC)] .n (.c (yag ka5 _) .n) rfl rfl;have H:=H.t 8 [.int .i64 (kas line).no,.int .i64 (kas line).a,.int .i64 (kas line).b,.bool (kau line),.bool (!(kau line))]|>.s [vt 2] (.tup [.agg [vt 3,vt 4,vt 5],vt 6]) (knn line hl)|>.q 7 (.un .not (cT 6))|>.m 7 false (b:= !(kau line)) (by simp[h0]);have H:=H.o 1 (3,List.map eC (out++[kas line])) (.own ka5 _)|>.a ⟨true,3,24,(vf 1000003),(.im [[vt 3,vt 4,vt 5]] true),1001003⟩ (fun _ _ _=>keh rfl rfl rfl (by simp only[kaq,List.length_singleton];omega) (.inl rfl) (by decide) (by decide) (by decide));have H:=H.t 10 [.int .i64 line.length,.int .i64 (w64 ((a:Int)+(line.length:Int)))]|>.q 8 (.len 1 (cT 2))|>.q 9 (.bin .add (cT 0) (cT 8));rw[hw] at H;exact H.ev _ _ _ [0,1,2,3,4,5,6,10] [] [.cells [.im [] true] false 42,.cells [.int .i64 0] false 3,.cells [.int .i64 0] false 29,.cells [.sl 10 0 1001003 3 none] false 42,.cells [vt 9] false 3,.cells [vt 1] false 9,.loop l,.own 1001003 false 48] 11 _ _ _
theorem qeb (out:List Cl) (a:Nat) (rest:List UInt8) {z:St} {σ:Nat->Nat} (l:ALoop) (hσ: ∀ i j,σ i=σ j->i=j) (S:Sim (V1 out a rest σ) (kaa [2,3,4,5,6] wP (bk1 l)) z):J FF (kai FF 77) [] (.code paE) z (.tup [(.im (List.map eC out) false),.int .i64 a,.int .i64 0]):=by
 have H:=Tok.start (G:=gl20) (F:=FF) hσ S 8 2 0 1 [.int .i64 a,.str rest] [] [(0,3,out.map eC)] .n (.c (yag ka5 _) .n) rfl rfl;exact H.e [] rfl
theorem qec (a:Nat) {z:St} {σ:Nat->Nat} (l:ALoop) (hσ: ∀ i j,σ i=σ j->i=j) (S:Sim (VE4 a σ) (kaa [2,3,4] [.ptr 0 0,.ptr 1 0,.ptr 2 0] (kdk l)) z):J FF (kai FF 77) [] (.sig .ret) z (.tup [.im [] true,.int .i64 a,.int .i64 1]):=by
 have H:=Tok.start (G:=gl20) (F:=FF) hσ S 4 1 0 0 [.int .i64 a] [] [] .n .n rfl rfl;exact H.e [] rfl
theorem qef (s:List UInt8) {z:St} (S:Sim (kal [.str s] [] [] (fun i=>i) 0) (kaa (List.range 1) [vt 0] []) z): ∃ z1,Ev FF (.seq paA (.seq paB (.seq paC paD))) z .nrm z1/\Sim (kal [.int .i64 0,.str s] [] [] (sig (fun i=>i) [0,1,2,3,4,5] 6) 6) (kaa [2,3,4,5,6,11] (wP++[.fn 49 [] [.ptr 5 0]]) [.cells [.im [] true] false 42,.cells [.int .i64 0] false 3,.cells [.int .i64 0] false 29,.cells [.im [] true] false 42,.cells [vt 0] false 3,.cells [vt 1] false 9]) z1:=by
 have H:=Tok.start (G:=gl20) (F:=FF) (fun _ _ e=>e) S 0 1 0 0 [.str s] [] [] .n .n rfl rfl;exact H.ev _ _ _ [0,1,2,3,4,5] (wP++[.fn 49 [] [.ptr 5 0]]) [.cells [.im [] true] false 42,.cells [.int .i64 0] false 3,.cells [.int .i64 0] false 29,.cells [.im [] true] false 42,.cells [.int .i64 0] false 3,.cells [vt 0] false 9] 6 _ _ _
end Go.Proofs.Hz
