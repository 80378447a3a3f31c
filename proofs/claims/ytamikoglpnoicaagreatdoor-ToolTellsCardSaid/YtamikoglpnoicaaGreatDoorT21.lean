/-
  Symbolic runs, told step by step: what stands for the unknown grows along a run; facts hold whatever comes later.
  Conditions: none.
-/
import Derived.Test.YtamikoglpnoicaaGreatDoorT20
import Derived.Test.YtamikoglpnoicaaGreatDoorT17
import Derived.ProofKit
import Derived.OpenShut
namespace Go.Proofs.Hz
open AO renaming gmO->yav
open Bool renaming and_eq_true->yad
open Ids renaming none->yaf
open List renaming getElem?_eq_getElem->yaa,getElem?_eq_some_iff->yac,mem_singleton->yae,mem_cons->yaj,drop_of_length_le->yal,take_append_drop->yam,range->yan,mem_cons_of_mem->yao,mem_cons_self->yap,mem_append->yaq,drop_drop->yas,mem_range->yat,mem_map->yaw
open Nat renaming ble->yab,eq_of_beq_eq_true->yah,beq->yai,le_of_ble_eq_true->yak,zero_le->yar,beq_refl->yau,blt->yax
open Ren renaming none->yag
structure As where
 nt:Nat
 T:List (Nat×List AV)
 nf:Nat
 F:List (Nat×List AV)
 no:Nat
 O:List (Nat×(Nat×List (List AV)))
 hid:List (Nat×Blk):=[]
def chL (d:AV):List (Nat×List AV)->Nat->AV
 | [],_=>d
 |(n,l)::r,i=>bif yab n i then l.getD (i - n) d else chL d r i
def kgy:List (Nat×(Nat×List (List AV)))->Nat->Nat×List (List AV)
 | [],_=>(0,[])
 |(n,p)::r,i=>bif yai n i then p else kgy r i
theorem kw5 (d:AV) (n:Nat) (l:List AV) (r:List (Nat×List AV)) (i:Nat):chL d ((n,l)::r) i=bif yab n i then l.getD (i - n) d else chL d r i:=rfl
theorem ky8 (n:Nat) (p:Nat×List (List AV)) (r:List (Nat×(Nat×List (List AV)))) (i:Nat):kgy ((n,p)::r) i=bif yai n i then p else kgy r i:=rfl
def kjg (p:Nat×List (List AV)) (i:Nat):AV:=bif yai (i % 1000) p.1 then .im p.2 false else .im [] false
def kji (i:Nat) (x y:AV):AV:=bif yax i BIG then x else y
def As.val (A:As) (ft ff:Nat->AV) (fo:Nat->Nat×List (List AV)) (σ:Nat->Nat) (lo:Nat):Val where
 v:=fun fl i=>bif fl then(bif yab A.nt i then ft i else chL (.bool false) A.T i)
  else kji i (bif yab A.nf i then ff i else chL .nilp A.F i) (kjg (bif yab A.no ((i - BIG) / 1000) then fo ((i - BIG) / 1000) else kgy A.O ((i - BIG) / 1000)) i)
 σ:=σ
 lo:=lo
 hid:=A.hid
def kpp (P:AV->Prop) (cs:List (Nat×List AV)):Prop:=∀ p ∈ cs,AllP P p.2
def kws (os:List (Nat×(Nat×List (List AV)))):Prop:=∀ p ∈ os,OkO p.2
theorem kp9 {P:AV->Prop} {d:AV} (hd:P d): ∀ {cs:List (Nat×List AV)} {i:Nat},kpp P cs->P (chL d cs i)
 | [],_,_=>hd
 |(n,l)::r,i,h=>by
  unfold chL;cases yab n i with
  |true=>exact kri hd (h _ yap) _
  |false=>exact kp9 hd fun p hp=>h p (yao _ hp)
theorem kzz (n:Nat):OkO (n,[]):=⟨fun e he=>(by cases he),rfl,rfl⟩
theorem ky9: ∀ {os:List (Nat×(Nat×List (List AV)))} {i:Nat},kws os->OkO (kgy os i)
 | [],_,_=>kzz 0
 |(n,p)::r,i,h=>by
  unfold kgy;cases yai n i with
  |true=>exact h _ yap
  |false=>exact ky9 fun p hp=>h p (yao _ hp)
structure Tails (ft ff:Nat->AV) (fo:Nat->Nat×List (List AV)):Prop where
 t: ∀ i,OkT (ft i)
 f: ∀ i,OkF (ff i)
 o: ∀ i,OkO (fo i)
structure OkAs (A:As):Prop where
 t:kpp OkT A.T
 f:kpp OkF A.F
 o:kws A.O
theorem kr8:OkF .nilp:=⟨rfl,rfl,rfl⟩
theorem k0a {p:Nat×List (List AV)} (h:OkO p) (i:Nat):OkF (kjg p i)/\ ∃ els,kjg p i= .im els false/\(∀ e ∈ els,e.length=i % 1000)/\els.flatten.all kda=true:=by
 unfold kjg;cases e:yai (i % 1000) p.1 with
 |true=>
  have e:=yah e;exact⟨⟨rfl,rfl,by simp only[cond_true,AV.beq,yad,beq_self_eq_true,and_true];exact h.2.2⟩,p.2,rfl,by rw[e];exact h.1,h.2.1⟩
 |false=>exact⟨⟨rfl,rfl,rfl⟩,[],rfl,fun e he=>(by cases he),rfl⟩
theorem As.good {A:As} {ft ff:Nat->AV} {fo:Nat->Nat×List (List AV)} {σ:Nat->Nat} {lo:Nat} (hσ: ∀ i j,σ i=σ j->i=j) (hA:OkAs A) (h:Tails ft ff fo):khc (A.val ft ff fo σ lo):=by
 have ho: ∀ j,OkO (bif yab A.no j then fo j else kgy A.O j):=fun j=>by
  cases yab A.no j with
  |true=>exact h.o _
  |false=>exact ky9 hA.o
 have hv: ∀ fl i,kda ((A.val ft ff fo σ lo).v fl i)=true/\((A.val ft ff fo σ lo).v fl i).flat=fl/\AV.beq ((A.val ft ff fo σ lo).v fl i) ((A.val ft ff fo σ lo).v fl i)=true:=fun fl i=>by
  cases fl with
  |true=>
   show OkT (bif yab A.nt i then ft i else chL (.bool false) A.T i);cases yab A.nt i with
   |true=>exact h.t _
   |false=>exact kp9 (OkT.bool false) hA.t
  |false=>
   show OkF (kji i (bif yab A.nf i then ff i else chL .nilp A.F i) (kjg _ i));unfold kji;cases yax i BIG with
   |true=>
    cases yab A.nf i with
    |true=>exact h.f _
    |false=>exact kp9 kr8 hA.f
   |false=>exact(k0a (ho _) i).1
 refine⟨⟨fun fl i=>⟨(hv fl i).1,(hv fl i).2.1⟩,hσ,fun k hk=> ?_⟩,fun fl i=>(hv fl i).2.2⟩;have hb:yax k BIG=false:=by
  cases e:yax k BIG with
  |false=>rfl
  |true=>have:=yak e;omega
 show ∃ els,kji k _ (kjg _ k)=_/\_;unfold kji;rw[hb];exact(k0a (ho _) k).2
structure Tok [Gl] (F:Nat->Option AFn) (σ:Nat->Nat) (lo:Nat) (s z:St) (A:As) (Φ:Facts):Prop where
 inj: ∀ i j,σ i=σ j->i=j
 ok:OkAs A
 hold: ∀ {ft ff fo},Tails ft ff fo->kcq (A.val ft ff fo σ lo) Φ.ops/\kdf (A.val ft ff fo σ lo) Φ.apps/\kfq (A.val ft ff fo σ lo) Φ.apns/\kpn F (A.val ft ff fo σ lo) Φ.calls
 sim: ∀ {ft ff fo},Tails ft ff fo->Sim (A.val ft ff fo σ lo) s z
def As.t (A:As) (n:Nat) (l:List AV):As:=⟨n,(A.nt,l)::A.T,A.nf,A.F,A.no,A.O,A.hid⟩
def As.f (A:As) (n:Nat) (l:List AV):As:=⟨A.nt,A.T,n,(A.nf,l)::A.F,A.no,A.O,A.hid⟩
def As.o (A:As) (n:Nat) (p:Nat×List (List AV)):As:=⟨A.nt,A.T,A.nf,A.F,n+1,(n,p)::A.O,A.hid⟩
section
variable {G:Gl} {F:Nat->Option AFn} {σ:Nat->Nat} {lo:Nat} {s0 z:St} {A:As} {Φ:Facts}
theorem kir {n i:Nat} (h: ¬n<=i):yab n i=false:=by
 cases e:yab n i with
 |false=>rfl
 |true=>exact absurd (yak e) h
theorem kk7 {n i:Nat} (h:n<=i):yab n i=true:=Nat.ble_eq_true_of_le h
theorem k4m {d:AV} {a n:Nat} {l:List AV} {f:Nat->AV} {cs:List (Nat×List AV)} (h:yab a n=true) (i:Nat):(bif yab n i then f i else chL d ((a,l)::cs) i)=bif yab a i then(bif yab n i then f i else l.getD (i - a) d) else chL d cs i:=by
 have h:=yak h;by_cases h1:a<=i
 ·rw[kk7 h1];by_cases h2:n<=i
  ·rw[kk7 h2];rfl
  ·rw[kir h2];rw[kw5,kk7 h1];rfl
 ·rw[kir h1,kir (show ¬n<=i by omega)];rw[kw5,kir h1];rfl
theorem As.val_t {n:Nat} {l:List AV} (h:yab A.nt n=true) (ft ff:Nat->AV) (fo:Nat->Nat×List (List AV)):(A.t n l).val ft ff fo σ lo=A.val (fun i=>bif yab n i then ft i else l.getD (i - A.nt) (.bool false)) ff fo σ lo:=by
 unfold As.val;congr 1;funext fl i;cases fl with
 |true=>rw[cond_true,cond_true];exact k4m h i
 |false=>rw[cond_false,cond_false];rfl
theorem As.val_f {n:Nat} {l:List AV} (h:yab A.nf n=true) (ft ff:Nat->AV) (fo:Nat->Nat×List (List AV)):(A.f n l).val ft ff fo σ lo=A.val ft (fun i=>bif yab n i then ff i else l.getD (i - A.nf) .nilp) fo σ lo:=by
 unfold As.val As.f;dsimp only;congr 1;funext fl i;cases fl with
 |true=>rw[cond_true,cond_true]
 |false=>
  rw[cond_false,cond_false];exact congrArg (fun x=>kji i x _) (k4m h i)
theorem As.val_o {n:Nat} {p:Nat×List (List AV)} (h:yai A.no n=true) (ft ff:Nat->AV) (fo:Nat->Nat×List (List AV)):(A.o n p).val ft ff fo σ lo=A.val ft ff (fun j=>bif yai n j then p else fo j) σ lo:=by
 have h:=yah h;have key: ∀ j,(bif yab (n+1) j then fo j else kgy ((n,p)::A.O) j)=(bif yab A.no j then(bif yai n j then p else fo j) else kgy A.O j):=fun j=>by
  rw[h];by_cases h1:n<=j
  ·rw[kk7 h1];by_cases h2:n+1<=j
   ·rw[kk7 h2];have:yai n j=false:=by
     cases e:yai n j with
     |false=>rfl
     |true=>have:=yah e;omega
    rw[this];rfl
   ·have e:n=j:=by omega
    subst e;rw[kir h2,yau];rw[ky8,yau];rfl
  ·rw[kir h1,kir (show ¬n+1<=j by omega)];rw[ky8];have:yai n j=false:=by
    cases e:yai n j with
    |false=>rfl
    |true=>have:=yah e;omega
   rw[this];rfl
 unfold As.val As.o;dsimp only;congr 1;funext fl i;cases fl with
 |true=>rw[cond_true,cond_true]
 |false=>
  rw[cond_false,cond_false];exact congrArg (fun x=>kji i _ (kjg x i)) (key _)
theorem Tok.t (H:Tok F σ lo s0 z A Φ) (n:Nat) (l:List AV) (hl:l.all isT=true:=by kernel_rfl) (h:yab A.nt n=true:=by kernel_rfl):Tok F σ lo s0 z (A.t n l) Φ:=by
 have hl:=okL hl;have tl: ∀ {ft ff fo},Tails ft ff fo->Tails (fun i=>bif yab n i then ft i else l.getD (i - A.nt) (.bool false)) ff fo:=fun k=>⟨fun i=>by
  cases yab n i with
  |true=>exact k.t i
  |false=>exact kri (P:=OkT) (OkT.bool false) hl _,k.f,k.o⟩
 refine⟨H.inj,⟨fun p hp=> ?_,H.ok.f,H.ok.o⟩,fun k=> ?_,fun k=> ?_⟩
 ·rcases yaj.1 hp with rfl |hp
  ·exact hl
  ·exact H.ok.t p hp
 ·rw[As.val_t h];exact H.hold (tl k)
 ·rw[As.val_t h];exact H.sim (tl k)
theorem Tok.f (H:Tok F σ lo s0 z A Φ) (n:Nat) (l:List AV) (hl:AllP OkF l) (h:yab A.nf n=true:=by kernel_rfl):Tok F σ lo s0 z (A.f n l) Φ:=by
 have tl: ∀ {ft ff fo},Tails ft ff fo->Tails ft (fun i=>bif yab n i then ff i else l.getD (i - A.nf) .nilp) fo:=fun k=>⟨k.t,fun i=>by
  cases yab n i with
  |true=>exact k.f i
  |false=>exact kri (P:=OkF) kr8 hl _,k.o⟩
 refine⟨H.inj,⟨H.ok.t,fun p hp=> ?_,H.ok.o⟩,fun k=> ?_,fun k=> ?_⟩
 ·rcases yaj.1 hp with rfl |hp
  ·exact hl
  ·exact H.ok.f p hp
 ·rw[As.val_f h];exact H.hold (tl k)
 ·rw[As.val_f h];exact H.sim (tl k)
theorem Tok.o (H:Tok F σ lo s0 z A Φ) (n:Nat) (p:Nat×List (List AV)) (hp:OkO p) (h:yai A.no n=true:=by kernel_rfl):Tok F σ lo s0 z (A.o n p) Φ:=by
 have tl: ∀ {ft ff fo},Tails ft ff fo->Tails ft ff (fun j=>bif yai n j then p else fo j):=fun k=>⟨k.t,k.f,fun j=>by
  cases yai n j with
  |true=>exact hp
  |false=>exact k.o j⟩
 refine⟨H.inj,⟨H.ok.t,H.ok.f,fun q hq=> ?_⟩,fun k=> ?_,fun k=> ?_⟩
 ·rcases yaj.1 hq with rfl |hq
  ·exact hp
  ·exact H.ok.o q hq
 ·rw[As.val_o h];exact H.hold (tl k)
 ·rw[As.val_o h];exact H.sim (tl k)
def Facts.op (Φ:Facts) (l:List (AOp×AV)):Facts:=⟨l++Φ.ops,Φ.apps,Φ.apns,Φ.calls⟩
theorem Tok.r (H:Tok F σ lo s0 z A Φ) (l:List (AOp×AV)) (h: ∀ ft ff fo (s:St),l.map (fun p=>opA s (p.1.gmO (A.val ft ff fo σ lo)))=l.map (fun p=>some (gm (A.val ft ff fo σ lo) p.2,s)):=by intros;kernel_rfl):Tok F σ lo s0 z A (Φ.op l):=
 ⟨H.inj,H.ok,fun k=>⟨fun p hp=>by
  rcases yaq.1 hp with hp |hp
  ·exact k97 (k33 (h _ _ _)) p hp
  ·exact(H.hold k).1 p hp,(H.hold k).2⟩,H.sim⟩
theorem Tok.c (H:Tok F σ lo s0 z A Φ) {p:AOp×AV} (h: ∀ ft ff fo,FOp (A.val ft ff fo σ lo) p):Tok F σ lo s0 z A (Φ.op [p]):=
 ⟨H.inj,H.ok,fun k=>⟨fun q hq=>by
  rcases yaq.1 hq with hq |hq
  ·rw[yae.1 hq];exact h _ _ _
  ·exact(H.hold k).1 q hq,(H.hold k).2⟩,H.sim⟩
theorem Tok.m (H:Tok F σ lo s0 z A Φ) (i:Nat) (c:Bool) {b:Bool} (h:b=c) (hi: ∀ ft ff fo,gm (A.val ft ff fo σ lo) (vt i)= .bool b:=by intros;kernel_rfl):Tok F σ lo s0 z A (Φ.op [(.mov (cT i),.bool c)]):=
 H.c fun _ _ _=>fT (hi _ _ _) h
def Facts.call (Φ:Facts) (p:Nat×List AV×AV):Facts:=⟨Φ.ops,Φ.apps,Φ.apns,p::Φ.calls⟩
theorem Tok.s (H:Tok F σ lo s0 z A Φ) (as:List AV) (r:AV) {f:Nat} {bs:List AV} {q:AV} (h:kak F f bs q) (h1: ∀ ft ff fo,as.map (gm (A.val ft ff fo σ lo))=bs:=by intros;kernel_rfl) (h2: ∀ ft ff fo,gm (A.val ft ff fo σ lo) r=q:=by intros;kernel_rfl):Tok F σ lo s0 z A (Φ.call (f,as,r)):=
 ⟨H.inj,H.ok,fun k=>⟨(H.hold k).1,(H.hold k).2.1,(H.hold k).2.2.1,fun q hq=>by
  rcases yaj.1 hq with hq |hq
  ·rw[hq];exact sC h (h1 _ _ _) (h2 _ _ _)
  ·exact(H.hold k).2.2.2 q hq⟩,H.sim⟩
def Facts.app (Φ:Facts) (p:AFact):Facts:=⟨Φ.ops,p::Φ.apps,Φ.apns,Φ.calls⟩
theorem Tok.a (H:Tok F σ lo s0 z A Φ) (p:AFact) (h: ∀ ft ff fo,kpm (A.val ft ff fo σ lo) p):Tok F σ lo s0 z A (Φ.app p):=
 ⟨H.inj,H.ok,fun k=>⟨(H.hold k).1,fun q hq=>by
  rcases yaj.1 hq with hq |hq
  ·rw[hq];exact h _ _ _
  ·exact(H.hold k).2.1 q hq,(H.hold k).2.2⟩,H.sim⟩
def Facts.apn (Φ:Facts) (p:NFact):Facts:=⟨Φ.ops,Φ.apps,p::Φ.apns,Φ.calls⟩
theorem Tok.n (H:Tok F σ lo s0 z A Φ) (p:NFact) (h: ∀ ft ff fo,k5m (A.val ft ff fo σ lo) p):Tok F σ lo s0 z A (Φ.apn p):=
 ⟨H.inj,H.ok,fun k=>⟨(H.hold k).1,(H.hold k).2.1,fun q hq=>by
  rcases yaj.1 hq with hq |hq
  ·rw[hq];exact h _ _ _
  ·exact(H.hold k).2.2.1 q hq,(H.hold k).2.2.2⟩,H.sim⟩
def As.val0 (A:As) (σ:Nat->Nat) (lo:Nat):Val:=A.val (fun _=> .bool false) (fun _=> .nilp) (fun _=>(0,[])) σ lo
theorem kkw:Tails (fun _=> .bool false) (fun _=> .nilp) (fun _=>(0,[])):=⟨fun _=>OkT.bool _,fun _=>kr8,fun _=>kzz 0⟩
theorem Tok.all (H:Tok F σ lo s0 z A Φ):Hold F (A.val0 σ lo) Φ/\Sim (A.val0 σ lo) s0 z:=
 ⟨⟨As.good H.inj H.ok kkw,(H.hold kkw).1,(H.hold kkw).2.1,(H.hold kkw).2.2.1,(H.hold kkw).2.2.2⟩,H.sim kkw⟩
def As.nul (nt nf no:Nat) (ts fs:List AV) (os:List (Nat×(Nat×List (List AV)))) (hid:List (Nat×Blk):=[]):As:=⟨nt,[(0,ts)],nf,[(0,fs)],no,os,hid⟩
theorem Tok.start {ρ:Val} {ts:List Nat} {ws:List AV} {cs:List Blk} {X:List AV} {Y:List Blk} (hσ: ∀ i j,σ i=σ j->i=j) (S:Sim ρ (kaa ts ws cs) z) (lo nt nf no:Nat) (lt lf:List AV) (os:List (Nat×(Nat×List (List AV)))) (h1:AllP OkF lf) (h2:AllP (fun p:Nat×(Nat×List (List AV))=>OkO p.2) os) (h3:ws.map (gm ρ)=X) (h4:cs.map (gB ρ)=Y)
  (h0:lt.all isT=true:=by kernel_rfl) (hs:ρ.σ=σ:=by kernel_rfl) (hl:ρ.lo=lo:=by kernel_rfl)
  (h5: ∀ ft ff fo,ws.map (gm ((As.nul nt nf no lt lf os).val ft ff fo σ lo))=X:=by intros;kernel_rfl) (h6: ∀ ft ff fo,cs.map (gB ((As.nul nt nf no lt lf os).val ft ff fo σ lo))=Y:=by intros;kernel_rfl) (hh:ρ.hid=[]:=by rfl):Tok F σ lo (kaa ts ws cs) z (As.nul nt nf no lt lf os) ⟨[],[],[],[]⟩:=by
 refine⟨hσ,⟨fun p hp=> ?_,fun p hp=> ?_,h2.mem⟩,fun _=>⟨fun _ h=>(by cases h),fun _ h=>(by cases h),fun _ h=>(by cases h),fun _ h=>(by cases h)⟩,fun _=>S.more hs rfl hl rfl hh.symm h3 h4 (h5 _ _ _) (h6 _ _ _)⟩
 ·rw[yae.1 hp];exact okL h0
 ·rw[yae.1 hp];exact h1
theorem Tok.startH {ρ:Val} {ts:List Nat} {ws:List AV} {cs:List Blk} {X:List AV} {Y:List Blk} (hσ: ∀ i j,σ i=σ j->i=j) (S:Sim ρ (kaa ts ws cs) z) (lo nt nf no:Nat) (lt lf:List AV) (os:List (Nat×(Nat×List (List AV)))) (hid:List (Nat×Blk)) (h1:AllP OkF lf) (h2:AllP (fun p:Nat×(Nat×List (List AV))=>OkO p.2) os) (h3:ws.map (gm ρ)=X) (h4:cs.map (gB ρ)=Y)
  (h0:lt.all isT=true:=by kernel_rfl) (hs:ρ.σ=σ:=by kernel_rfl) (hl:ρ.lo=lo:=by kernel_rfl)
  (h5: ∀ ft ff fo,ws.map (gm ((As.nul nt nf no lt lf os hid).val ft ff fo σ lo))=X:=by intros;kernel_rfl) (h6: ∀ ft ff fo,cs.map (gB ((As.nul nt nf no lt lf os hid).val ft ff fo σ lo))=Y:=by intros;kernel_rfl) (hh:ρ.hid=hid:=by rfl):Tok F σ lo (kaa ts ws cs) z (As.nul nt nf no lt lf os hid) ⟨[],[],[],[]⟩:=by
 refine⟨hσ,⟨fun p hp=> ?_,fun p hp=> ?_,h2.mem⟩,fun _=>⟨fun _ h=>(by cases h),fun _ h=>(by cases h),fun _ h=>(by cases h),fun _ h=>(by cases h)⟩,fun _=>S.more hs rfl hl rfl hh.symm h3 h4 (h5 _ _ _) (h6 _ _ _)⟩
 ·rw[yae.1 hp];exact okL h0
 ·rw[yae.1 hp];exact h1
def kx2 (ρ:Val) (fn:AFn) (st:Option Stop):Option AV:=match kj3 fn st with
 |some v=>some (gm ρ v)
 |none=>none
theorem Tok.e {f:Nat} {k:List Fr} {cfg:Cfg} {R r:AV} (H:Tok F σ lo s0 z A Φ) (stops:List Nat) (h:some R=some r) (q:kx2 (A.val0 σ lo) (kai F f) (kby Φ F stops 4000 k cfg s0)=some R:=by as_aux_lemma=>kernel_rfl):J F (kai F f) k cfg z r:=by
 cases h;unfold kx2 at q;split at q
 ·rename_i v hv;cases q;exact k5p H.all.1 H.all.2 hv
 ·cases q
theorem Tok.k {f:Nat} {k k1:List Fr} {cfg:Cfg} {a:AC} {r:AV} {ws:List AV} {cs:List Blk} {X:List AV} {Y:List Blk} (H:Tok F σ lo s0 z A Φ) (stops ts ids:List Nat) (vs:List AV) (bs:List Blk) (nx:Nat)
  (ρ':Val) (hv2:ws.map (gm ρ')=X) (hb2:cs.map (gB ρ')=Y)
  (hj: ∀ c1,(∀ i j,sig σ ids nx i=sig σ ids nx j->i=j)->Sim ρ' (kaa ts ws cs) c1->J F (kai F f) k1 (.code a) c1 r)
  (h:krp ts ids (kby Φ F stops 4000 k cfg s0)=some (k1,a,vs,bs,nx):=by as_aux_lemma=>kernel_rfl)
  (hσ:ρ'.σ=sig σ ids nx:=by kernel_rfl) (hlo:ρ'.lo=cs.length:=by kernel_rfl) (hv1:vs.map (gm (A.val0 σ lo))=X:=by as_aux_lemma=>kernel_rfl) (hb1:bs.map (gB (A.val0 σ lo))=Y:=by as_aux_lemma=>kernel_rfl) (hh:ρ'.hid=A.hid:=by rfl):J F (kai F f) k cfg z r:=
 k5r H.all.1 H.all.2 h ws cs ρ' hσ hlo hh hv1 hv2 hb1 hb2 fun c1 hi S=>hj c1 (by rw[hσ] at hi;exact hi) S
end
section
variable {ρ:Val}
theorem kix {x i r:AV} {b:List UInt8} {k:IntKind} {n:Int} {y:UInt8} (hx:gm ρ x= .str b) (hi:gm ρ i= .int k n) (h0:0<=n) (hy:b[n.toNat]? =some y) (hr:gm ρ r= .int .u8 y.toNat):FOp ρ (.ixS (.c x) (.c i),r):=fun s=>by
 simp only[AOp.gmO,AOp.mapO,yav,opA,AO.ev,hx,hi,hr,kcz,iq h0,hy,Option.map_some]
theorem kcu {x r:AV} {l l':List UInt8} {lo hi:Option (AV×Int)} (hx:gm ρ x= .str l) (hlo:kpq ρ lo) (hhi:kpq ρ hi)
  (h:0<=ka3 lo 0/\ka3 lo 0<=ka3 hi l.length/\ka3 hi l.length<=l.length)
  (hl:l'=(l.drop (ka3 lo 0).toNat).take ((ka3 hi l.length).toNat - (ka3 lo 0).toNat)) (hr:gm ρ r= .str l'):FOp ρ (.slT (.c x) (kki lo) (kki hi),r):=fun s=>by
 obtain⟨h1,h2,h3⟩:=h;have e1:kcv s 0 ((kki lo).map (yav ρ))=some (ka3 lo 0).toNat:=kzo (d:=0) hlo h1 s;have e2:=kzo (d:=l.length) hhi (by omega) s;have e3:kcv s l.length none=some l.length:=rfl;simp only[AOp.gmO,AOp.mapO,opA,yav,AO.ev,hx,kck,e1,e2,e3];rw[iq ⟨by omega,by omega,by omega,by simp⟩];simp only[hr,hl]
theorem kxv {α:Type} {e:α->List AV} {id off j z:Nat} {l:List α} (hj:BIG<=j) (hv:ρ.v false j= .im (l.map e) false) (hl:l≠[]):FOp ρ (.usd (.c (.sl id off j z none)),.ptr id off):=fun s=>by
 have h0:0<l.length:=List.length_pos_iff.2 hl;simp only[AOp.gmO,AOp.mapO,yav,opA,AO.ev,gm,kc9 hj hv,List.length_map,iq h0]
theorem kf9 {sz id off n j:Nat} {q:Option Nat} {i:AV} {k:IntKind} {m:Int} (hi:gm ρ i= .int k m) (h:m=(j:Nat)) (hj:j<n) (hn:n<BIG):FOp ρ (.iaS sz (.c (.sl id off n sz q)) (.c i),.ptr id (off+j*sz)):=fun s=>by
 subst h;simp[AOp.gmO,AOp.mapO,yav,opA,AO.ev,gm,hi,kcz,hj,kci hn]
theorem ke9 {x:AV} {n:Int} (hx:gm ρ x= .int .i64 n) (h:0<n):FOp ρ (.bin .gtr (.c x) (.c (.int .i64 0)),.bool true):=fun s=>by
 simp[AOp.gmO,AOp.mapO,yav,opA,AO.ev,gm,hx,kd0,ke1,kei,h]
end
section
variable {F:Nat->Option AFn} [G:Gl] {σ:Nat->Nat} {lo:Nat} {s0 z:St} {A:As} {Φ:Facts}
theorem Tok.L (H:Tok F σ lo s0 z A Φ) (x:AV) (i:Nat) {α:Type} {e:α->List AV} {l:List α} {b:Bool} (hx: ∀ ft ff fo,gm (A.val ft ff fo σ lo) x= .im (l.map e) b:=by intros;rfl)
 (hr: ∀ ft ff fo,gm (A.val ft ff fo σ lo) (vt i)= .int .i64 (l.length:Int):=by intros;rfl):Tok F σ lo s0 z A (Φ.op [(.len 0 (.c x),vt i)]):=H.c fun ft ff fo=>k8h (hx ft ff fo) (hr ft ff fo)
theorem Tok.O (H:Tok F σ lo s0 z A Φ) (id j k i:Nat) {α:Type} {e:α->List AV} {l:List α} (hj:BIG<=j:=by decide) (hx: ∀ ft ff fo,(A.val ft ff fo σ lo).v false j= .im (l.map e) false:=by intros;rfl)
 (hr: ∀ ft ff fo,gm (A.val ft ff fo σ lo) (vt i)= .int .i64 (l.length:Int):=by intros;rfl):Tok F σ lo s0 z A (Φ.op [(.len 0 (.c (.sl id 0 j k none)),vt i)]):=H.c fun ft ff fo=>kga hj (hx ft ff fo) (hr ft ff fo)
theorem Tok.I (H:Tok F σ lo s0 z A Φ) (x i:AV) (r:List AV) {sz:Nat} {α:Type} {e:α->List AV} {l:List α} {y:α} {b:Bool} {k:IntKind} {n:Int} (he:Enc e sz) (h0:0<=n) (hy:l[n.toNat]? =some y)
 (hx: ∀ ft ff fo,gm (A.val ft ff fo σ lo) x= .im (l.map e) b:=by intros;rfl) (hi: ∀ ft ff fo,gm (A.val ft ff fo σ lo) i= .int k n:=by intros;rfl) (hr: ∀ ft ff fo,gm (A.val ft ff fo σ lo) (.ip r 0)= .ip (e y) 0:=by intros;kernel_rfl):
 Tok F σ lo s0 z A (Φ.op [(.iaS sz (.c x) (.c i),.ip r 0)]):=H.c fun ft ff fo=>fIa he (hx ft ff fo) (hi ft ff fo) h0 hy (hr ft ff fo)
theorem Tok.K (H:Tok F σ lo s0 z A Φ) (x y:AV) (i:Nat) {a b:List UInt8} (h:a.length+b.length<=140737488355328) (hx: ∀ ft ff fo,gm (A.val ft ff fo σ lo) x= .str a:=by intros;kernel_rfl) (hy: ∀ ft ff fo,gm (A.val ft ff fo σ lo) y= .str b:=by intros;kernel_rfl)
 (hr: ∀ ft ff fo,gm (A.val ft ff fo σ lo) (vt i)= .str (a++b):=by intros;kernel_rfl):Tok F σ lo s0 z A (Φ.op [(.bin .add (.c x) (.c y),vt i)]):=H.c fun ft ff fo=>kbm (hx ft ff fo) (hy ft ff fo) h (hr ft ff fo)
theorem Tok.jj (H:Tok F σ lo s0 z A Φ) (x y:AV) (i:Nat) {a b:List UInt8} (h:a.length+b.length<=140737488355328) (hn:yab A.nt (i+1)=true:=by kernel_rfl) (hx: ∀ ft ff fo,gm ((A.t (i+1) [.str (a++b)]).val ft ff fo σ lo) x= .str a:=by intros;kernel_rfl)
 (hy: ∀ ft ff fo,gm ((A.t (i+1) [.str (a++b)]).val ft ff fo σ lo) y= .str b:=by intros;kernel_rfl) (hr: ∀ ft ff fo,gm ((A.t (i+1) [.str (a++b)]).val ft ff fo σ lo) (vt i)= .str (a++b):=by intros;kernel_rfl):
 Tok F σ lo s0 z (A.t (i+1) [.str (a++b)]) (Φ.op [(.bin .add (.c x) (.c y),vt i)]):=(H.t (i+1) [.str (a++b)] (by kernel_rfl) hn).K x y i h hx hy hr
theorem Tok.q (H:Tok F σ lo s0 z A Φ) (i:Nat) (o:AOp) (h: ∀ ft ff fo (s:St),[(o,vt i)].map (fun p=>opA s (p.1.gmO (A.val ft ff fo σ lo)))=[(o,vt i)].map (fun p=>some (gm (A.val ft ff fo σ lo) p.2,s)):=by intros;kernel_rfl):Tok F σ lo s0 z A (Φ.op [(o,vt i)]):=H.r _ h
theorem Tok.y (H:Tok F σ lo s0 z A Φ) (i:Nat) {p:Prop} [Decidable p] (h:p) (hi: ∀ ft ff fo,gm (A.val ft ff fo σ lo) (vt i)= .bool (decide p):=by intros;kernel_rfl):Tok F σ lo s0 z A (Φ.op [(.mov (cT i),.bool true)]):=H.m i true (decide_eq_true h) hi
theorem Tok.w (H:Tok F σ lo s0 z A Φ) (i:Nat) {p:Prop} [Decidable p] (h: ¬p) (hi: ∀ ft ff fo,gm (A.val ft ff fo σ lo) (vt i)= .bool (decide p):=by intros;kernel_rfl):Tok F σ lo s0 z A (Φ.op [(.mov (cT i),.bool false)]):=H.m i false (decide_eq_false h) hi
end
open Go.ChangeShapes Go.WideShapes Go.RowKit
def SH (P:Program):Nat->TypeId->List AV->Prop
 |0,_,_=>False
 |n+1,t,xs=>match P.underlying t with
  |some .bool=>∃ b,xs=[.bool b]
  |some (.int k)=>∃ m,xs=[.int k m]/\(Lit.int k m).wf=true
  |some .string=>∃ s:List UInt8,xs=[.str s]/\s.length<=maxLen
  |some (.slice e)=>∃ els c,xs=[.im els c]/\els.length<=maxLen/\ ∀ el ∈ els,SH P n e el
  |some (.struct fs)=>∃ parts:List (List AV),xs=parts.flatten/\parts.length=fs.size/\ ∀ (i:Nat) (f:Field) (p:List AV),fs[i]? =some f->parts[i]? =some p->SH P n f.type p
  |some (.array k e)=>∃ parts:List (List AV),xs=parts.flatten/\parts.length=k/\ ∀ p ∈ parts,SH P n e p
  |_=>False
def khu (P:Program):Nat->List Field->Nat->Bool
 |acc,[],n=>decide (acc=n)
 |acc,f::fs,n=>decide (f.offset=acc) && khu P (acc+P.cellsOf f.type) fs n
def kjj (P:Program):Nat->TypeId->Bool
 |0,_=>false
 |n+1,t=>match P.underlying t with
  |some .bool=>true
  |some (.int _)=>true
  |some .string=>true
  |some (.slice e)=>decide (0<P.cellsOf e) && kjj P n e
  |some (.struct fs)=>fs.toList.all (fun f=>kjj P n f.type) && khu P 0 fs.toList (P.cellsOf t)
  |some (.array k e)=>kjj P n e && decide (k*P.cellsOf e=P.cellsOf t)
  |_=>false
section
variable {H:Type} {enc:TypeId×Value->H} {P:Program} {w:World} {held:Bool}
theorem k0j {D:Nat->Prop}: ∀ (fs:List Field) (acc n:Nat) (cs:List Value) (parts:List (List AV)),khu P acc fs n=true->cs.length=n->acc<=n->parts.length=fs.length->
  (∀ (i:Nat) (f:Field) (p:List AV),fs[i]? =some f->parts[i]? =some p->RL D w yaf yag p ((cs.drop f.offset).take (P.cellsOf f.type)))->RL D w yaf yag parts.flatten (cs.drop acc)
 | [],acc,n,cs,parts,ho,hl,ha,hp,_=>by
   have:parts=[]:=List.eq_nil_of_length_eq_zero (by simpa using hp);subst this;simp only[khu,decide_eq_true_eq] at ho;subst ho;rw[yal (by omega)];exact RL.nil
 |f::fs,acc,n,cs,parts,ho,hl,ha,hp,h=>by
  simp only[khu,yad,decide_eq_true_eq] at ho;cases parts with
  |nil=>simp at hp
  |cons p ps=>
   have h0:=h 0 f p rfl rfl;rw[ho.1] at h0;have hle:acc+P.cellsOf f.type<=n:=by
    have key: ∀ (gs:List Field) (a:Nat),khu P a gs n=true->a<=n:=by
     intro gs
     induction gs with
     |nil=>intro a h;simp only[khu,decide_eq_true_eq] at h;omega
     |cons g gs ih=>intro a h;simp only[khu,yad,decide_eq_true_eq] at h;have:=ih _ h.2;omega
    exact key _ _ ho.2
   have h1:=k0j fs (acc+P.cellsOf f.type) n cs ps ho.2 hl hle (by simpa using hp) (fun i g q hg hq=>h (i+1) g q (by simpa using hg) (by simpa using hq));have:=h0.append h1;rw[←yas,yam] at this;simpa using this
theorem k0i {D:Nat->Prop} (sz:Nat): ∀ (parts:List (List AV)) (i:Nat) (cs:List Value),cs.length=(i+parts.length)*sz->
  (∀ (j:Nat) (p:List AV),parts[j]? =some p->RL D w yaf yag p ((cs.drop ((i+j)*sz)).take sz))->RL D w yaf yag parts.flatten (cs.drop (i*sz))
 | [],i,cs,hl,_=>by
   rw[yal (by simp at hl;omega)];exact RL.nil
 |p::ps,i,cs,hl,h=>by
  have h0:=h 0 p rfl;have h1:=k0i sz ps (i+1) cs (by rw[hl];simp only[List.length_cons];congr 1;omega) (fun j q hq=>by
   have:=h (j+1) q (by simpa using hq);rwa[show i+1+j=i+(j+1) by omega])
  have:=h0.append h1;rw[Nat.add_zero,show(i+1)*sz=i*sz+sz by rw[Nat.add_mul];omega,←yas,yam] at this;simpa using this
theorem qqe: ∀ (n:Nat) (fuel:Nat) (t:TypeId) (cs:List Value) (x:DataW H×List MemPlace),kjj P n t=true->DataW.trod enc P w 0 (fun _=>true) held fuel t cs=some x->
  ∃ xs:List AV,RL (fun b=>b<w.heap.size) w yaf yag xs cs/\SH P n t xs:=by
 intro n
 induction n with
 |zero=>intro fuel t cs x h;cases h
 |succ n ih=>
  intro fuel t cs x hp hx;unfold kjj at hp;split at hp
  ·rename_i ht;obtain⟨b,rfl,_⟩:=DataW.trod_bool ht hx;exact⟨[.bool b],RL.cons (.bool b) RL.nil,by unfold SH;rw[ht];exact⟨b,rfl⟩⟩
  ·rename_i k ht;obtain⟨m,rfl,_,hw⟩:=DataW.trod_int ht hx;exact⟨[.int k m],RL.cons (.int k m) RL.nil,by unfold SH;rw[ht];exact⟨m,rfl,hw⟩⟩
  ·rename_i ht;obtain⟨s,rfl,_,hl⟩:=DataW.trod_string ht hx;refine⟨[.str s.data.toList],RL.cons (.str s rfl) RL.nil,?_⟩;unfold SH;rw[ht];exact⟨_,rfl,by simpa using hl⟩
  ·rename_i e ht;rcases DataW.trod_slice ht hx with⟨rfl,_⟩ | ⟨a,len,cap,elems,rest,m,_,rfl,_,_,hlc,hcm,hel,hels,hrest,_⟩
   ·refine⟨[.im [] true],RL.cons (.imn (fun _=>rfl) (fun _=>rfl)) RL.nil,?_⟩;unfold SH;rw[ht];exact⟨[],true,rfl,yar _,fun el h=>by cases h⟩
   ·simp only[yad,decide_eq_true_eq] at hp;obtain⟨hsz,hp⟩:=hp;by_cases hl0:len=0
    ·subst hl0;refine⟨[.im [] (decide (cap=0))],RL.cons (.imn (fun h=>by simpa using h) (fun h=>by cases h)) RL.nil,?_⟩;unfold SH;rw[ht];exact⟨[],_,rfl,yar _,fun el h=>by cases h⟩
    ·
     have hab:a.spot=none/\a.block<w.heap.size:=by
      have h1:=hels 0 (by omega);rw[yaa (by omega)] at h1;cases hc:w.cells? 0 (a.add (0*P.cellsOf e)) (P.cellsOf e) with
      |none=>rw[hc] at h1;cases h1
      |some cs=>
       obtain⟨_,hl,hg⟩:=World.cells?_some hc;have:=hg 0 hsz;rw[yaa (by omega)] at this;rw[show(a.add (0*P.cellsOf e)).add 0=a by simp[Addr.add]] at this;unfold World.cell? at this;split at this
       ·rename_i hh;split at this
        ·cases this
        ·rename_i h;exact⟨by simpa using h,(Array.getElem?_eq_some_iff.1 hh).1⟩
       ·cases this
     obtain⟨ab,ao,asp⟩:=a;obtain⟨h1,hblk⟩:=hab;simp only at h1 hblk;subst h1;have one: ∀ i,i<len-> ∃ xs:List AV,SH P n e xs/\xs.length=P.cellsOf e/\ ∀ (j:Nat),j<P.cellsOf e-> ∃ v,w.cell? ⟨ab,ao+(i*P.cellsOf e+j),none⟩=some v/\ ∀ y,xs[j]? =some y->R (fun b=>b<w.heap.size) w yaf yag y v:=fun i hi=>by
      have h1:=hels i hi;rw[yaa (by omega)] at h1;cases hc:w.cells? 0 ((⟨ab,ao,none⟩:Addr).add (i*P.cellsOf e)) (P.cellsOf e) with
      |none=>rw[hc] at h1;cases h1
      |some cs=>
       rw[hc] at h1;obtain⟨_,hl,hg⟩:=World.cells?_some hc;obtain⟨xs,hR,hS⟩:=ih m e cs _ hp h1;refine⟨xs,hS,by rw[hR.1,hl],fun j hj=>⟨cs[j],?_,fun y hy=>hR.2 j y _ hy (yaa (by omega))⟩⟩;have:=hg j hj;rw[yaa (by omega),kdj,kdj,Nat.add_assoc] at this;exact this
     have ⟨f,hf⟩: ∃ f:Nat->List AV,∀ i,i<len->SH P n e (f i)/\(f i).length=P.cellsOf e/\ ∀ (j:Nat),j<P.cellsOf e-> ∃ v,w.cell? ⟨ab,ao+(i*P.cellsOf e+j),none⟩=some v/\ ∀ y,(f i)[j]? =some y->R (fun b=>b<w.heap.size) w yaf yag y v:=
      ⟨fun i=>if h:i<len then(one i h).choose else [],fun i hi=>by simp only[dif_pos hi];exact(one i hi).choose_spec⟩
     let els:=(yan len).map f;have hle:els.length=len:=by simp[els]
     have hgt: ∀ i,i<len->els[i]? =some (f i):=fun i hi=>by simp[els,hi]
     have hmem: ∀ el ∈ els,∃ i,i<len/\el=f i:=fun el he=>by
      obtain⟨i,hi,rfl⟩:=yaw.1 he;exact⟨i,yat.1 hi,rfl⟩
     have hS:SH P (n+1) t [.im els (decide (cap=len))]:=by
      unfold SH;rw[ht];exact⟨els,_,rfl,by rw[hle];omega,fun el he=>by obtain⟨i,hi,rfl⟩:=hmem el he;exact(hf i hi).1⟩
     refine⟨_,?_,hS⟩;refine RL.cons ?_ RL.nil;have:=R.im (D:=fun b=>b<w.heap.size) (w:=w) (V:=yaf) (ρ:=yag) (els:=els) (clip:=decide (cap=len)) (b:=ab) (o:=ao) (sz:=P.cellsOf e) (cap:=cap)
      (fun i j=>(w.cell? ⟨ab,ao+(i*P.cellsOf e+j),none⟩).getD (.bool false)) (by omega) (fun h=>by simpa[hle] using h) hblk (fun el he=>by obtain⟨i,hi,rfl⟩:=hmem el he;exact(hf i hi).2.1)
      (fun i j hi hj=>by
       obtain⟨v,hv,_⟩:=(hf i (by omega)).2.2 j hj;rw[hv];rfl)
      (fun i j el y he hy=>by
       have hi:i<len:=by rw[←hle];exact(yac.1 he).1
       rw[hgt i hi] at he;cases he;have hj:j<P.cellsOf e:=by rw[←(hf i hi).2.1];exact(yac.1 hy).1
       obtain⟨v,hv,h1⟩:=(hf i hi).2.2 j hj;rw[hv];exact h1 y hy)
     rw[hle] at this;exact this
  ·rename_i fs ht;simp only[yad] at hp;obtain⟨xs,m,_,_,hl,hxl,hxs⟩:=DataW.trod_struct ht hx;have one: ∀ i (hi:i<fs.size),∃ p:List AV,RL (fun b=>b<w.heap.size) w yaf yag p ((cs.drop fs[i].offset).take (P.cellsOf fs[i].type))/\SH P n fs[i].type p:=fun i hi=>by
    have h1:=hxs i fs[i] (Array.getElem?_eq_getElem hi);rw[yaa (by omega)] at h1;exact ih m _ _ _ (List.all_eq_true.1 hp.1 fs[i] (by simp)) h1
   have ⟨f,hf⟩: ∃ f:Nat->List AV,∀ i (hi:i<fs.size),RL (fun b=>b<w.heap.size) w yaf yag (f i) ((cs.drop fs[i].offset).take (P.cellsOf fs[i].type))/\SH P n fs[i].type (f i):=
    ⟨fun i=>if h:i<fs.size then(one i h).choose else [],fun i hi=>by simp only[dif_pos hi];exact(one i hi).choose_spec⟩
   refine⟨((yan fs.size).map f).flatten,?_,?_⟩
   ·have:=k0j (P:=P) (w:=w) (D:=fun b=>b<w.heap.size) fs.toList 0 (P.cellsOf t) cs ((yan fs.size).map f) hp.2 hl (yar _) (by simp) (fun i g p hg hq=>by
     have hi:i<fs.size:=by have:=(yac.1 hg).1;simpa using this
     have e1:fs[i]=g:=by
      have:=(yac.1 hg).2;simpa using this
     have e2:f i=p:=by simpa[hi] using hq
     rw[←e1,←e2];exact(hf i hi).1)
    simpa using this
   ·unfold SH;rw[ht];refine⟨_,rfl,by simp,fun i g p hg hq=> ?_⟩;obtain⟨hi,e1⟩:=Array.getElem?_eq_some_iff.1 hg;have e2:f i=p:=by simpa[hi] using hq
    rw[←e1,←e2];exact(hf i hi).2
  ·rename_i k e ht;simp only[yad,decide_eq_true_eq] at hp;obtain⟨xs,m,_,_,hl,hxl,hxs⟩:=DataW.trod_array ht hx;have one: ∀ i,i<k-> ∃ p:List AV,RL (fun b=>b<w.heap.size) w yaf yag p ((cs.drop (i*P.cellsOf e)).take (P.cellsOf e))/\SH P n e p:=fun i hi=>by
    have h1:=hxs i hi;rw[yaa (by omega)] at h1;exact ih m _ _ _ hp.1 h1
   have ⟨f,hf⟩: ∃ f:Nat->List AV,∀ i,i<k->RL (fun b=>b<w.heap.size) w yaf yag (f i) ((cs.drop (i*P.cellsOf e)).take (P.cellsOf e))/\SH P n e (f i):=
    ⟨fun i=>if h:i<k then(one i h).choose else [],fun i hi=>by simp only[dif_pos hi];exact(one i hi).choose_spec⟩
   refine⟨((yan k).map f).flatten,?_,?_⟩
   ·have:=k0i (w:=w) (D:=fun b=>b<w.heap.size) (P.cellsOf e) ((yan k).map f) 0 cs (by rw[hl,←hp.2];simp) (fun j p hq=>by
     have hj:j<k:=by have:=(yac.1 hq).1;simpa using this
     have e2:f j=p:=by simpa[hj] using hq
     rw[←e2,Nat.zero_add];exact(hf j hj).1)
    simpa using this
   ·unfold SH;rw[ht];refine⟨_,rfl,by simp,fun p hp'=> ?_⟩;obtain⟨i,hi,rfl⟩:=yaw.1 hp';exact(hf i (yat.1 hi)).2
  ·cases hp
def kk6 (P:Program) (t:TypeId) (xs:List AV):AV:=match P.underlying t with
 |some (.struct _)=> .agg xs
 |some (.array _ _)=> .agg xs
 |_=>xs.headD .nilp
theorem kwx {n:Nat} {t:TypeId} {v:Value} {d:DataW H} {ps:List MemPlace} {base:Nat} (hp:kjj P n t=true) (hval:Value.okWide P w .any base t v) (h:DataW.Trod enc P w 0 (fun _=>true) held t v d ps):
  ∃ xs:List AV,SH P n t xs/\R (fun b=>b<w.heap.size) w yaf yag (kk6 P t xs) v:=by
 obtain⟨fuel,hf⟩:=h;obtain⟨xs,hR,hS⟩:=qqe n fuel t _ _ hp hf;refine⟨xs,hS,?_⟩;cases n with
 |zero=>cases hp
 |succ n=>
  unfold kjj at hp;unfold Value.okWide at hval;unfold kk6;have single: ∀ {x:AV},xs=[x]->(∀ cs,v≠ .agg cs)->R (fun b=>b<w.heap.size) w yaf yag (xs.headD .nilp) v:=fun {x} hx hne=>by
   subst hx;have hc:v.cells.toList=[v]:=by cases v <;> first |rfl |exact absurd rfl (hne _)
   rw[hc] at hR;exact hR.2 0 _ _ rfl rfl
  have noagg: ∀ {q:TypeDesc},P.underlying t=some q->(match q with | .struct _=>False | .array _ _=>False |_=>True)->(∀ cs,v≠ .agg cs):=fun {q} hq hn cs hv=>by
   subst hv;rw[hq] at hval;unfold SH at hS;rw[hq] at hS hp;cases q <;> first |exact hn.elim |(exact hS.elim) |(simp[Cell.okWide,Cell.ok,hq] at hval)
  cases hu:P.underlying t with
  |none=>rw[hu] at hp;cases hp
  |some q=>
   rw[hu] at hp;have hna:=noagg hu;unfold SH at hS;rw[hu] at hS hval;cases q <;> first |(cases hp;done) |skip
   case bool=>obtain⟨b,hx⟩:=hS;exact single hx (hna trivial)
   case int k=>obtain⟨m,hx,_⟩:=hS;exact single hx (hna trivial)
   case string=>obtain⟨m,hx,_⟩:=hS;exact single hx (hna trivial)
   case slice e=>obtain⟨els,c,hx,_⟩:=hS;exact single hx (hna trivial)
   case struct fs=>
    obtain⟨cs,rfl,_,_⟩:=hval;exact .agg (by simpa[Value.cells] using hR.1) (fun j x u hx hu'=>hR.2 j x u hx (by simpa[Value.cells,Array.getElem?_toList] using hu'))
   case array k e=>
    obtain⟨cs,rfl,_,_⟩:=hval;exact .agg (by simpa[Value.cells] using hR.1) (fun j x u hx hu'=>hR.2 j x u hx (by simpa[Value.cells,Array.getElem?_toList] using hu'))
theorem k41 {W W':World} (hl:laidOutB P=true) (hb:Below W.heap.size W W'): ∀ {ts:List TypeId} {vs:List Value} {ds:List (DataW H)} {ps:List MemPlace},ts.all (fun t=>P.readableRec t && decide (t<P.types.size))=true->
  DataW.TrodAll enc P W 0 (fun _=>true) true ts vs ds ps->(∀ x ∈ ps,x.block<W.heap.size)->DataW.TrodAll enc P W' 0 (fun b=>decide (b<W.heap.size)) true ts vs ds ps
 | [],[],[],_,_,h,_=>h
 |t::ts,v::vs,d::ds,ps,hr,⟨p,q,h1,h2,e⟩,hlt=>by
  simp only[List.all_cons,yad,decide_eq_true_eq] at hr;exact⟨p,q,Below.trod hl hr.1.1 hr.1.2 h1 hb (fun x hx=>hlt x (by rw[e];simp[hx])),k41 hl hb hr.2 h2 (fun x hx=>hlt x (by rw[e];simp[hx])),e⟩
 | [],[],_::_,_,_,h,_=>h.elim
 | [],_::_,_,_,_,h,_=>h.elim
 |_::_,[],_,_,_,h,_=>h.elim
 |_::_,_::_,[],_,_,h,_=>h.elim
theorem qa0 {fn:Func} {s:ChangeSpec} {W W':World} {args:Array Value} {ds:List (DataW H)} {before:List MemPlace} {tb:TypeId} (hl:laidOutB P=true) (hsv:s.vars=[])
  (hW:DataW.Whole enc P fn.params.toList s.vars false W args.toList ds [] before) (htr:DataW.TrodAll enc P W 0 (fun _=>true) true fn.params.toList args.toList ds before)
  (hs:s.fn H (ds++[])={results:=[.lit (.bool true)],args:=ds}) (hr:fn.params.toList.all (fun t=>P.readableRec t && decide (t<P.types.size))=true)
  (hres:fn.resultTypes= #[tb]) (hb:P.underlying tb=some .bool) (hbl:Below W.heap.size W W'):s.post enc P fn false true false false W args (.bool true) W':=by
 refine⟨ds,[],before,[],before,[],hW,?_,?_,?_,hbl.frame _,fun h=>by cases h⟩
 ·rw[hs,hres];exact trodAll_mk1 ⟨1,by simp[DataW.trod,Value.cells,hb]⟩
 ·rw[hs];exact k41 hl hbl hr htr (fun x hx=>by simpa using hW.lt x hx)
 ·rw[hs,hsv];rfl
theorem qaz {G:Gl} {F:Nat->Option AFn} {pu:Nat->Nat} (hF:FOk P pu F) (hX: ∀ f k,Gl.X f=some k->kgo P f k) (gl:GOk (fun b=>b<w.heap.size) w) {f:Nat} {args:List AV} {vals:List Value} (hs:kak F f args (.bool true)) (hR:RL (fun b=>b<w.heap.size) w yaf yag args vals):
  Calls P f vals.toArray w fun e w'=>e= .returned (.bool true)/\Below w.heap.size w w':=by
 obtain⟨n,hn⟩:=hs;refine(qn3 hF (X:=Gl.X) hX hn (fun b hb=>hb) gl hR).mono fun e w' ⟨val,D',h1,h2,h3⟩=> ?_
 cases h2;exact⟨h1,h3.os,h3.tape,h3.output,h3.size,fun k hk=>h3.frame k hk (.inl hk)⟩
end
end Go.Proofs.Hz
