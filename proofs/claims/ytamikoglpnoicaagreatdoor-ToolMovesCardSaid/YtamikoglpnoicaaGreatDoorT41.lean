/-
  Chapter 20: the document's example, step by step: read, write, rest (written by a program of our own: wip/tools). And: Chapter 20: what the statements' walks lean on.
  Conditions: none.
-/
import Derived.Test.YtamikoglpnoicaaGreatDoorT40
open Go Go.Proofs
namespace Go.Proofs.Hz
theorem kzn {F:Nat→Option AFn} {ρ:Val} {Φ:Facts} (H:Hold F ρ Φ) {n:Nat} {fn:AFn} {a:AC} {s c:St} {r:AV} (S:Sim ρ s c)
  (h:endS fn ((exS Φ F (kdb Φ.calls) n a s).map fun p=> .fin p.1 p.2)=some r):J F fn [] (.code a) c (gm ρ r):=by
 unfold endS at h
 split at h
 ·rename_i e s1 hx
  have hx':exS Φ F (kdb Φ.calls) n a s=some (e,s1):=by
   cases hq:exS Φ F (kdb Φ.calls) n a s with
   |none=>rw[hq] at hx;cases hx
   |some p=>rw[hq] at hx;cases hx;rfl
  have key:(e= .nrm∨e= .ret)→(match ke0.resS fn s1 with
   |some v=>frzS s1.h DEEP v
   |none=>none)=some r→J F fn [] (.code a) c (gm ρ r):=fun he h=>by
   obtain⟨N,hN⟩:=kkv H.calls
   have hex:=kn7 (F:=F) H.good H.ops H.apps H.apns (KS:=kdb Φ.calls) (K:=KN F N) (fun f g r h=>hN _ (kk8 h))
   obtain⟨c1,hc1,h2⟩:=hex n _ _ _ _ _ hx' S
   have hc2:=kbg (F:=F) (kbf (F:=F) (show N≤max N n by omega)) (show n≤max N n by omega) _ _ _ hc1
   split at h
   ·rename_i v hv
    refine⟨max N n,e,c1,_,?_,he,kmj h2 hv,kgr H.good.1 h2.heap h⟩
    unfold run
    simp only[hc2]
    rfl
   ·cases h
  split at h
  ·exact key (.inl rfl) h
  ·exact key (.inr rfl) h
  ·cases h
 ·cases h
def finX (ρ:Val) (fn:AFn) (st:Option (AE×St)):Option AV:=match endS fn (st.map fun p=> .fin p.1 p.2) with
 |some v=>some (gm ρ v)
 |none=>none
theorem Tok.x {F:Nat→Option AFn} {σ:Nat→Nat} {lo:Nat} {s0 z:St} {A:As} {Φ:Facts} {f:Nat} {a:AC} {R r:AV} (H:Tok F σ lo s0 z A Φ) (h:some R=some r)
  (q:finX (A.val0 σ lo) (fnOf F f) (exS Φ F (kdb Φ.calls) 4000 a s0)=some R:=by as_aux_lemma=>kernel_rfl):J F (fnOf F f) [] (.code a) z r:=by
 cases h
 unfold finX at q
 split at q
 ·rename_i v hv
  cases q
  exact kzn H.all.1 H.all.2 hv
 ·cases q
def sx1:AV:=(.agg [(.int .i64 1),(.int .i64 9),(.int .i64 1),(.im [[(.im [[(.int .i64 2),(.int .i64 0),(.int .i64 0)]] false)]] false),(.im [[(.int .i64 2),(.int .i64 99)]] false)])
def sx0:AV:=(.agg [(.int .i64 0),(.int .i64 0),(.int .i64 0),(.im [] true),(.im [] true)])
def sdo:AV:=(.tup [(.str [48,32,116,114,121,32,48,32,48,32,61,32,48,32,51,10,113,117,105,101,116,10]),(.int .i64 14),(.int .i64 0)])
theorem sr0:Spec FF 10 [stx] (.tup [sx1,.int .i64 7,.int .i64 0]):=⟨100,by kernel_rfl⟩
theorem sr1:Spec FF 10 [stb] (.tup [sx0,.int .i64 2,.int .i64 1]):=⟨100,by kernel_rfl⟩
theorem sw:Spec FF 12 [sx1] (.tup [stx,.int .i64 0]):=⟨100,by kernel_rfl⟩
theorem ss0:Spec FF 15 [sx1,sx1] (.bool true):=⟨100,by kernel_rfl⟩
theorem ss1:Spec FF 15 [sx1,sx0] (.bool false):=⟨100,by kernel_rfl⟩
def qrs:Option AV:=some (.tup [SK14,(.int .i64 14),(.bool true)])
def qrsW:List AV:=[SK0,(.int .i64 99)]
def qrsV (σ:Nat→Nat):Val:=(valL ([]) ([]) [] σ 0)
def qrsX (_σ:Nat→Nat):List AV:=[SK0,(.int .i64 99)]
def qrsY (_σ:Nat→Nat):List Blk:=[]
theorem qrsE (σ:Nat→Nat):qrsW.map (gm (qrsV σ))=qrsX σ:=by kernel_rfl
theorem qrsG (σ:Nat→Nat):([]:List Blk).map (gB (qrsV σ))=qrsY σ:=by kernel_rfl
theorem qb9 {r0:AV} (h:qrs=some r0):Spec FF 45 [SK0,(.int .i64 99)] r0:=by
 unfold qrs at h
 have hσ: ∀ i j:Nat,(fun i:Nat=>i) i=(fun i:Nat=>i) j→i=j:=fun _ _ e=>e
 exact kbk (ρ:=qrsV (fun i=>i)) (xs:=qrsW) (by kernel_rfl) rfl rfl (by kernel_rfl) (fun z0 S=>have H:=Tok.start hσ S 0 0 0 0 ([]) ([]) [] (.n) .n (qrsE _) (qrsG _);have H:=H.s [SK0] (.bool false) (qu0)|>.s [SK0,(.int .i64 0),(.bool false)] SK1 (pk0)|>.s [SK1] (.bool false) (qu1)|>.s [SK1,(.int .i64 0),(.bool false)] SK2 (pk1)|>.s [SK2] (.bool false) (qu2)|>.s [SK2,(.int .i64 0),(.bool false)] SK3 (pk2)|>.s [SK3] (.bool false) (qu3)|>.s [SK3,(.int .i64 0),(.bool false)] SK4 (pk3)|>.s [SK4] (.bool false) (qu4)|>.s [SK4,(.int .i64 0),(.bool false)] SK5 (pk4)|>.s [SK5] (.bool false) (qu5)|>.s [SK5,(.int .i64 0),(.bool false)] SK6 (pk5)|>.s [SK6] (.bool false) (qu6)|>.s [SK6,(.int .i64 0),(.bool false)] SK7 (pk6)|>.s [SK7] (.bool false) (qu7)|>.s [SK7,(.int .i64 0),(.bool false)] SK8 (pk7)|>.s [SK8] (.bool false) (qu8)|>.s [SK8,(.int .i64 0),(.bool false)] SK9 (pk8)|>.s [SK9] (.bool false) (qu9)|>.s [SK9,(.int .i64 0),(.bool false)] SK10 (pk9)|>.s [SK10] (.bool false) (qu10)|>.s [SK10,(.int .i64 0),(.bool false)] SK11 (pk10)|>.s [SK11] (.bool false) (qu11)|>.s [SK11,(.int .i64 0),(.bool false)] SK12 (pk11)|>.s [SK12] (.bool false) (qu12)|>.s [SK12,(.int .i64 0),(.bool false)] SK13 (pk12)|>.s [SK13] (.bool false) (qu13)|>.s [SK13,(.int .i64 0),(.bool false)] SK14 (pk13)|>.s [SK14] (.bool true) (qu14);H.x h)
theorem rs:Spec FF 45 [SK0,.int .i64 99] (.tup [SK14,(.int .i64 14),(.bool true)]):=qb9 rfl
end Go.Proofs.Hz
open Go Go.Proofs
namespace Go.Proofs.Hz
def qdo:Option AV:=some sdo
def qdoW:List AV:=[stx]
def qdoV (σ:Nat→Nat):Val:=(valL ([]) ([]) [] σ 0)
def qdoX (_σ:Nat→Nat):List AV:=[stx]
def qdoY (_σ:Nat→Nat):List Blk:=[]
theorem qdoE (σ:Nat→Nat):qdoW.map (gm (qdoV σ))=qdoX σ:=by kernel_rfl
theorem qdoG (σ:Nat→Nat):([]:List Blk).map (gB (qdoV σ))=qdoY σ:=by kernel_rfl
theorem k84 {r0:AV} (h:qdo=some r0):Spec FF 19 [stx] r0:=by
 unfold qdo at h
 have hσ: ∀ i j:Nat,(fun i:Nat=>i) i=(fun i:Nat=>i) j→i=j:=fun _ _ e=>e
 exact kbk (ρ:=qdoV (fun i=>i)) (xs:=qdoW) (by kernel_rfl) rfl rfl (by kernel_rfl) (fun z0 S=>have H:=Tok.start hσ S 0 0 0 0 ([]) ([]) [] (.n) .n (qdoE _) (qdoG _);have H:=H.s [stx] (.tup [sx1,(.int .i64 7),(.int .i64 0)]) (sr0)|>.s [(.int .i64 1),(.int .i64 9),(.int .i64 1),sxt] (.tup [SK0,(.int .i64 0)]) (nw)|>.s [SK0,(.int .i64 99)] (.tup [SK14,(.int .i64 14),(.bool true)]) (rs)|>.s [SK14] (.bool true) (qu14)|>.s [SK14] rep (rp);H.e [] h)
theorem sd:Spec FF 19 [stx] sdo:=k84 rfl
def qsh:Option AV:=some (.bool true)
def qshW:List AV:=[]
def qshV (σ:Nat→Nat):Val:=(valL ([]) ([]) [] σ 0)
def qshX (_σ:Nat→Nat):List AV:=[]
def qshY (_σ:Nat→Nat):List Blk:=[]
theorem qshE (σ:Nat→Nat):qshW.map (gm (qshV σ))=qshX σ:=by kernel_rfl
theorem qshG (σ:Nat→Nat):([]:List Blk).map (gB (qshV σ))=qshY σ:=by kernel_rfl
theorem qc4 {r0:AV} (h:qsh=some r0):Spec FF 8 [] r0:=by
 unfold qsh at h
 have hσ: ∀ i j:Nat,(fun i:Nat=>i) i=(fun i:Nat=>i) j→i=j:=fun _ _ e=>e
 exact kbk (ρ:=qshV (fun i=>i)) (xs:=qshW) (by kernel_rfl) rfl rfl (by kernel_rfl) (fun z0 S=>have H:=Tok.start hσ S 0 0 0 0 ([]) ([]) [] (.n) .n (qshE _) (qshG _);have H:=H.s [stx] (.tup [sx1,(.int .i64 7),(.int .i64 0)]) (sr0)|>.s [sx1] (.tup [stx,(.int .i64 0)]) (sw)|>.s [stx] sdo (sd)|>.s [stb] (.tup [sx0,(.int .i64 2),(.int .i64 1)]) (sr1)|>.s [sx1,sx1] (.bool true) (ss0)|>.s [sx1,sx0] (.bool false) (ss1);H.e [] h)
theorem kmo:Spec FF 8 [] (.bool true):=qc4 rfl
end Go.Proofs.Hz
open Go Go.Proofs
namespace Go.Proofs.Hz
theorem qgg {d:Dt} (h:May d):ka6 d.td=true:=by rw[kdc,td_d];exact h
theorem kjy {d:Dt} (h:May d):fewT d.td=true:=by
 have h1:=h.tl
 have h2:=h.ml
 simp only[fewT,fewF,Dt.td,Bool.and_eq_true,decide_eq_true_eq,List.all_eq_true,List.length_map,List.mem_map,forall_exists_index,and_imp,forall_apply_eq_imp_iff₂]
 refine⟨⟨by omega,fun c hc=> ?_⟩,?_⟩
 ·have:=List.all_eq_true.1 h.t c hc
  simp only[kbb,Bool.and_eq_true,decide_eq_true_eq] at this
  omega
 ·exact decide_eq_true (by show(d.m.length:Int)≤1002;omega)
theorem qgh {d:Dt} (h:May d):kcy d.td=true:=by
 simp only[kcy,Dt.td,Bool.and_eq_true,List.all_eq_true,List.mem_map,forall_exists_index,and_imp,forall_apply_eq_imp_iff₂]
 refine⟨⟨⟨⟨kd2 h.n0.1 (by have:=h.n0.2;omega),kd2 h.n1.1 (by have:=h.n1.2;omega)⟩,kd2 h.n2.1 (by have:=h.n2.2;omega)⟩,fun c hc x hx=> ?_⟩,fun m hm=> ?_⟩
 ·have:=List.all_eq_true.1 h.t c hc
  simp only[kbb,Bool.and_eq_true] at this
  have:=kr7 (List.all_eq_true.1 this.1 x hx)
  simp only[okC,Bool.and_eq_true] at this
  simp only[valC,Bool.and_eq_true]
  exact this.2
 ·have:=List.all_eq_true.1 h.m m hm
  simp only[mvOk,decide_eq_true_eq] at this
  exact kd2 this.2.1 this.2.2
theorem qgf {d:Dt} (h:May d):kbx d.td=true:=by
 unfold kbx
 rw[kjy h,qgh h];rfl
theorem kio {x:Td} (h:fewT x=true) (hv:kcy x=true):kbx x=true:=by
 unfold kbx
 rw[h,hv];rfl
theorem qec (s:Bs):(∃ d,kat s=(d.td,((4+thrN d.t+d.m.length:Nat):Int),0)∧May d∧kbl d=s)∨(∃ n:Nat,kat s=(noTd,(n:Int),1)∧1≤n∧kcn s=(none,n)):=by
 rcases h:kcn s with⟨_ |d,n⟩
 ·refine .inr ⟨n,?_,qeg h,rfl⟩
  unfold kat;rw[h]
 ·obtain⟨h1,h2,_,h3⟩:=kx2 h
  refine .inl ⟨d,?_,h1,h2⟩
  unfold kat;rw[h,h3]
theorem kej {x:Td} (h:ka6 x=true):wS x=kbl x.d:=if_pos h
theorem kif {x:Td} (h:ka6 x=true):wE x=0:=if_pos h
theorem qhk {x:Td} (h: ¬ka6 x=true):wS x=[]:=if_neg h
theorem ky9 {x:Td} (h: ¬ka6 x=true):wE x=1:=if_neg h
theorem khb (x:Td):(wS x).length≤200000:=by
 by_cases h:ka6 x=true
 ·rw[kej h];exact qhz (kdc.1 h)
 ·rw[qhk h];simp
theorem kh2 {d:Dt} (h:May d):kat (kbl d)=(d.td,((4+thrN d.t+d.m.length:Nat):Int),0):=by
 unfold kat
 rw[kre h]
theorem kx0 {s:Bs} {n:Nat} (h:kcn s=(none,n)):kat s=(noTd,(n:Int),1):=by
 unfold kat
 rw[h]
theorem k61:kbx noTd=true:=by decide
theorem qfb (x:Td):kbj x x.d.td=true:=(kh5 _ _).2 (td_d _).symm
end Go.Proofs.Hz
