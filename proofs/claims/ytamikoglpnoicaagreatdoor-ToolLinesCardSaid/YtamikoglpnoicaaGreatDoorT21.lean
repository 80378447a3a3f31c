/-
  Runs with cuts: a symbolic run may stop ahead of a loop and go on from there. What a function answers ('Spec'), and what is still to be answered at a place of it ('J'). And: Symbolic runs, put to use: what stands for the unknown, given by lists; facts; a cut's state under new names.
  Conditions: none.
-/
import Derived.Test.YtamikoglpnoicaaGreatDoorT20
import Derived.KernelRfl
namespace Go.Proofs.Hz
inductive Fr where
 |sq (b:AC) |bl (id:Nat) |lp (b:AC)
inductive Cfg where
 |code (c:AC) |sig (e:AE)
inductive Stop where
 |fin (e:AE) (s:St)
 |cut (k:List Fr) (c:AC) (s:St)
section
variable (F:Nat→Option AFn)
def KN [Gl] (n:Nat):Nat→List AV→Option AV:=kba F Gl.X n
def unw (K:Nat→List AV→Option AV) (m:Nat):List Fr→AE→St→Option (AE×St)
 | [],e,s=>some (e,s)
 | .sq b::k,e,s=>match e with
   | .nrm=>match exA F K m b s with
     |some (e1,s1)=>unw K m k e1 s1
     |none=>none
   |e=>unw K m k e s
 | .bl id::k,e,s=>match e with
   | .ext j=>if j=id then unw K m k .nrm s else unw K m k (.ext j) s
   |e=>unw K m k e s
 | .lp b::k,e,s=>match e with
   | .nrm=>match exA F K m (.loop b) s with
     |some (e1,s1)=>unw K m k e1 s1
     |none=>none
   |e=>unw K m k e s
def run [Gl] (n:Nat) (k:List Fr) (cfg:Cfg) (s:St):Option (AE×St):=
 match cfg with
 | .code c=>match exA F (KN F n) n c s with
   |some (e,s1)=>unw F (KN F n) n k e s1
   |none=>none
 | .sig e=>unw F (KN F n) n k e s
end
def qfz (stops:List Nat):List Fr→Bool
 | .bl id::_=>stops.contains id
 |_=>false
section
variable (Φ:Facts) (F:Nat→Option AFn) (stops:List Nat)
def kbe:Nat→List Fr→Cfg→St→Option Stop
 |0,_,_,_=>none
 |n+1,k,.code c,s=>match c with
  | .seq a b=>kbe n (.sq b::k) (.code a) s
  | .block id b=>kbe n (.bl id::k) (.code b) s
  | .loop b=>if qfz stops k then some (.cut k (.loop b) s) else kbe n (.lp b::k) (.code b) s
  | .cond x a b=>if ke5 s x.tm && x.cl then match kie Φ (x.ev s) with
    |some t=>if t then kbe n k (.code a) s else kbe n k (.code b) s
    |none=>none
    else none
  | .exit id=>kbe n k (.sig (.ext id)) s
  | .ret=>kbe n k (.sig .ret) s
  | .skip=>kbe n k (.sig .nrm) s
  | .reg ops=>match exS Φ F (kdb Φ.calls) n (.reg ops) s with
    |some (e,s1)=>kbe n k (.sig e) s1
    |none=>none
  | .drw m ops=>match exS Φ F (kdb Φ.calls) n (.drw m ops) s with
    |some (e,s1)=>kbe n k (.sig e) s1
    |none=>none
  |_=>none
 |n+1,k,.sig e,s=>match k with
  | []=>some (.fin e s)
  | .sq b::k=>match e with
    | .nrm=>kbe n k (.code b) s
    |e=>kbe n k (.sig e) s
  | .bl id::k=>match e with
    | .ext j=>if j=id then kbe n k (.sig .nrm) s else kbe n k (.sig (.ext j)) s
    |e=>kbe n k (.sig e) s
  | .lp b::k=>match e with
    | .nrm=>kbe n k (.code (.loop b)) s
    |e=>kbe n k (.sig e) s
end
def Spec [Gl] (F:Nat→Option AFn) (f:Nat) (as:List AV) (r:AV):Prop:=∃ n,kba F Gl.X n f as=some r
def kmz [Gl] (F:Nat→Option AFn) (ρ:Val) (l:List (Nat×List AV×AV)):Prop:=∀ p ∈ l,Spec F p.1 (p.2.1.map (gm ρ)) (gm ρ p.2.2)
def J [Gl] (F:Nat→Option AFn) (fn:AFn) (k:List Fr) (cfg:Cfg) (c:St) (r:AV):Prop:=
 ∃ n e c' v,run F n k cfg c=some (e,c')∧(e= .nrm∨e= .ret)∧resA fn c'=some v∧frz c'.h DEEP v=some r
section
variable {G:Gl} {F:Nat→Option AFn} {ρ:Val} {Φ:Facts} {stops:List Nat}
theorem kbf {n m:Nat} (h:n≤m):KLe (KN F n) (KN F m):=kne h
theorem kbw {n m:Nat} (h:n≤m) {r:AE×St}: ∀ {k:List Fr} {e:AE} {s:St},unw F (KN F n) n k e s=some r→unw F (KN F m) m k e s=some r
 | [],e,s,hr=>hr
 | .sq b::k,e,s,hr=>by
   unfold unw at hr ⊢
   split at hr
   ·split at hr
    ·rename_i e1 s1 hx
     try simp only
     rw[kbg (kbf h) h _ _ _ hx]
     exact kbw h hr
    ·cases hr
   ·rename_i hne
    cases e with
    |nrm=>exact absurd rfl hne
    |ext i=>exact kbw h hr
    |gto l=>exact kbw h hr
    |ret=>exact kbw h hr
 | .bl id::k,e,s,hr=>by
   unfold unw at hr ⊢
   split at hr
   ·split at hr
    ·rename_i hj
     try simp only
     rw[if_pos hj]
     exact kbw h hr
    ·rename_i hj
     try simp only
     rw[if_neg hj]
     exact kbw h hr
   ·rename_i hne
    cases e with
    |nrm=>exact kbw h hr
    |ext i=>exact absurd rfl (hne i)
    |gto l=>exact kbw h hr
    |ret=>exact kbw h hr
 | .lp b::k,e,s,hr=>by
   unfold unw at hr ⊢
   split at hr
   ·split at hr
    ·rename_i e1 s1 hx
     try simp only
     rw[kbg (kbf h) h _ _ _ hx]
     exact kbw h hr
    ·cases hr
   ·rename_i hne
    cases e with
    |nrm=>exact absurd rfl hne
    |ext i=>exact kbw h hr
    |gto l=>exact kbw h hr
    |ret=>exact kbw h hr
theorem qe1 {n m:Nat} (h:n≤m) {k:List Fr} {cfg:Cfg} {s:St} {r:AE×St} (hr:run F n k cfg s=some r):run F m k cfg s=some r:=by
 unfold run at hr ⊢
 cases cfg with
 |code c=>
  simp only at hr ⊢
  split at hr
  ·rename_i e s1 hx
   rw[kbg (kbf h) h _ _ _ hx]
   exact kbw h hr
  ·cases hr
 |sig e=>exact kbw h hr
theorem kyh {m:Nat} {a b:AC} {k:List Fr} {s:St} {r:AE×St} (h:run F m (.sq b::k) (.code a) s=some r):run F (m+1) k (.code (.seq a b)) s=some r:=by
 unfold run at h ⊢
 simp only at h ⊢
 split at h
 ·rename_i e s1 hx
  have hx':=kbg (F:=F) (kbf (F:=F) (Nat.le_succ m)) (Nat.le_refl m) _ _ _ hx
  simp only[exA]
  rw[hx']
  unfold unw at h
  cases e with
  |nrm=>
   simp only at h ⊢
   split at h
   ·rename_i e1 s2 hy
    rw[kbg (F:=F) (kbf (F:=F) (Nat.le_succ m)) (Nat.le_refl m) _ _ _ hy]
    exact kbw (Nat.le_succ m) h
   ·cases h
  |ext i=>exact kbw (Nat.le_succ m) h
  |gto l=>exact kbw (Nat.le_succ m) h
  |ret=>exact kbw (Nat.le_succ m) h
 ·cases h
theorem kyg {m:Nat} {b:AC} {k:List Fr} {s:St} {r:AE×St} (h:run F m (.lp b::k) (.code b) s=some r):run F (m+1) k (.code (.loop b)) s=some r:=by
 unfold run at h ⊢
 simp only at h ⊢
 split at h
 ·rename_i e s1 hx
  have hx':=kbg (F:=F) (kbf (F:=F) (Nat.le_succ m)) (Nat.le_refl m) _ _ _ hx
  rw[show exA F (KN F (m+1)) (m+1) (.loop b) s=(match exA F (KN F (m+1)) m b s with
   |some (.nrm,s1)=>exA F (KN F (m+1)) m (.loop b) s1
   |r=>r) from rfl,hx']
  unfold unw at h
  cases e with
  |nrm=>
   simp only at h ⊢
   split at h
   ·rename_i e1 s2 hy
    rw[kbg (F:=F) (kbf (F:=F) (Nat.le_succ m)) (Nat.le_refl m) _ _ _ hy]
    exact kbw (Nat.le_succ m) h
   ·cases h
  |ext i=>exact kbw (Nat.le_succ m) h
  |gto l=>exact kbw (Nat.le_succ m) h
  |ret=>exact kbw (Nat.le_succ m) h
 ·cases h
theorem qex {m id:Nat} {b:AC} {k:List Fr} {s:St} {r:AE×St} (h:run F m (.bl id::k) (.code b) s=some r):run F (m+1) k (.code (.block id b)) s=some r:=by
 unfold run at h ⊢
 simp only at h ⊢
 split at h
 ·rename_i e s1 hx
  have hx':=kbg (F:=F) (kbf (F:=F) (Nat.le_succ m)) (Nat.le_refl m) _ _ _ hx
  simp only[exA]
  rw[hx']
  unfold unw at h
  cases e with
  |ext i=>
   simp only at h ⊢
   split at h
   ·rename_i hj;rw[if_pos hj];exact kbw (Nat.le_succ m) h
   ·rename_i hj;rw[if_neg hj];exact kbw (Nat.le_succ m) h
  |nrm=>exact kbw (Nat.le_succ m) h
  |gto l=>exact kbw (Nat.le_succ m) h
  |ret=>exact kbw (Nat.le_succ m) h
 ·cases h
theorem qey {m:Nat} {x:AO} {a b:AC} {t:Bool} {k:List Fr} {s:St} {r:AE×St} (hx:x.ev s= .bool t) (h:run F m k (.code (if t then a else b)) s=some r):run F (m+1) k (.code (.cond x a b)) s=some r:=by
 unfold run at h ⊢
 simp only at h ⊢
 split at h
 ·rename_i e s1 hy
  simp only[exA,hx]
  have hy':=kbg (F:=F) (kbf (F:=F) (Nat.le_succ m)) (Nat.le_refl m) _ _ _ hy
  cases t with
  |true=>simp only[if_true] at hy' ⊢;rw[hy'];exact kbw (Nat.le_succ m) h
  |false=>simp only[Bool.false_eq_true,if_false] at hy' ⊢;rw[hy'];exact kbw (Nat.le_succ m) h
 ·cases h
theorem kh3 {N n m:Nat} {a:AC} {k:List Fr} {s s1:St} {e:AE} {r:AE×St} (hx:exA F (KN F N) n a s=some (e,s1)) (h:run F m k (.sig e) s1=some r): ∃ m',run F m' k (.code a) s=some r:=by
 refine⟨max N (max n m),?_⟩
 have h1:=kbg (F:=F) (kbf (F:=F) (show N≤max N (max n m) by omega)) (show n≤max N (max n m) by omega) _ _ _ hx
 have h2:=qe1 (show m≤max N (max n m) by omega) h
 unfold run at h2 ⊢
 simp only at h2 ⊢
 rw[h1]
 exact h2
theorem kkv: ∀ {l:List (Nat×List AV×AV)},kmz F ρ l→ ∃ N,kzk ρ (KN F N) l
 | [],_=>⟨0,fun p hp=>by cases hp⟩
 |q::l,h=>by
  obtain⟨n,hn⟩:=h q (by simp)
  obtain⟨m,hm⟩:=kkv (l:=l) fun p hp=>h p (by simp[hp])
  refine⟨max n m,fun p hp=> ?_⟩
  rcases List.mem_cons.1 hp with rfl |hp
  ·exact kne (show n≤max n m by omega) _ _ _ hn
  ·exact kne (show m≤max n m by omega) _ _ _ (hm p hp)
structure Hold [Gl] (F:Nat→Option AFn) (ρ:Val) (Φ:Facts):Prop where
 good:kfg ρ
 ops:kb5 ρ Φ.ops
 apps:kcm ρ Φ.apps
 apns:keb ρ Φ.apns
 calls:kmz F ρ Φ.calls
def km0 [Gl] (F:Nat→Option AFn) (k:List Fr) (cfg:Cfg) (c:St) (k1:List Fr) (cfg1:Cfg) (c1:St):Prop:=∀ m r,run F m k1 cfg1 c1=some r→ ∃ m',run F m' k cfg c=some r
def StopPost [Gl] (F:Nat→Option AFn) (ρ:Val) (k:List Fr) (cfg:Cfg) (c:St):Stop→Prop
 | .fin e s1=>∃ c1,Sim ρ s1 c1∧ ∃ m,run F m k cfg c=some (e,c1)
 | .cut k1 a s1=>∃ c1,Sim ρ s1 c1∧km0 F k cfg c k1 (.code a) c1
theorem StopPost.back {k k':List Fr} {cfg cfg':Cfg} {c c':St} (L:km0 F k cfg c k' cfg' c') {st:Stop} (h:StopPost F ρ k' cfg' c' st):StopPost F ρ k cfg c st:=by
 cases st with
 |fin e s1=>obtain⟨c1,h1,m,h2⟩:=h;exact⟨c1,h1,L _ _ h2⟩
 |cut k1 a s1=>obtain⟨c1,h1,h2⟩:=h;exact⟨c1,h1,fun m r hr=>by obtain⟨m',hm⟩:=h2 m r hr;exact L _ _ hm⟩
theorem kyn (H:Hold F ρ Φ): ∀ {n:Nat} {k:List Fr} {cfg:Cfg} {s:St} {st:Stop},kbe Φ F stops n k cfg s=some st→ ∀ {c:St},Sim ρ s c→StopPost F ρ k cfg c st:=by
 obtain⟨N,hN⟩:=kkv H.calls
 have hex:=kn7 (F:=F) H.good H.ops H.apps H.apns (KS:=kdb Φ.calls) (K:=KN F N) (fun f as r h=>hN _ (kk8 h))
 intro n
 induction n with
 |zero=>intro k cfg s st h;cases h
 |succ n ih=>
  intro k cfg s st h c S
  have sigs: ∀ {a:AC} {e:AE} {s1:St},exS Φ F (kdb Φ.calls) n a s=some (e,s1)→kbe Φ F stops n k (.sig e) s1=some st→StopPost F ρ k (.code a) c st:=fun {a e s1} hx h1=>by
   obtain⟨c1,h2,h3⟩:=hex n _ _ _ _ _ hx S
   exact StopPost.back (fun m r hr=>kh3 h2 hr) (ih h1 h3)
  cases cfg with
  |code a=>
   cases a with
   |seq a b=>exact StopPost.back (fun m r hr=>⟨m+1,kyh hr⟩) (ih (by simpa only[kbe] using h) S)
   |block id b=>exact StopPost.back (fun m r hr=>⟨m+1,qex hr⟩) (ih (by simpa only[kbe] using h) S)
   |loop b=>
    simp only[kbe] at h
    split at h
    ·cases h;exact⟨c,S,fun m r hr=>⟨m,hr⟩⟩
    ·exact StopPost.back (fun m r hr=>⟨m+1,kyg hr⟩) (ih h S)
   |cond x a b=>
    simp only[kbe] at h
    split at h
    ·rename_i hcond
     simp only[Bool.and_eq_true] at hcond
     split at h
     ·rename_i t ht
      have e1:=kae S (kfr hcond.1) hcond.2
      rw[kmv H.ops ht] at e1
      refine StopPost.back (fun m r hr=>⟨m+1,qey (t:=t) e1 hr⟩) (ih ?_ S)
      cases t <;> simpa using h
     ·cases h
    ·cases h
   |exit id=>exact StopPost.back (fun m r hr=>kh3 (F:=F) (N:=0) (n:=1) (by rfl) hr) (ih (by simpa only[kbe] using h) S)
   |ret=>exact StopPost.back (fun m r hr=>kh3 (F:=F) (N:=0) (n:=1) (by rfl) hr) (ih (by simpa only[kbe] using h) S)
   |skip=>exact StopPost.back (fun m r hr=>kh3 (F:=F) (N:=0) (n:=1) (by rfl) hr) (ih (by simpa only[kbe] using h) S)
   |reg ops=>
    simp only[kbe] at h
    split at h
    ·rename_i e s1 hx;exact sigs hx h
    ·cases h
   |drw m ops=>
    simp only[kbe] at h
    split at h
    ·rename_i e s1 hx;exact sigs hx h
    ·cases h
   |label l=>cases h
   |goto l=>cases h
   |scope a b=>cases h
   |rngf nt f ps a b=>cases h
  |sig e=>
   cases k with
   |nil=>cases h;exact⟨c,S,0,rfl⟩
   |cons fr k=>
    cases fr with
    |sq b=>
     simp only[kbe] at h
     cases e with
     |nrm=>exact StopPost.back (fun m r hr=>⟨m,hr⟩) (ih h S)
     |ext i=>exact StopPost.back (fun m r hr=>⟨m,hr⟩) (ih h S)
     |gto l=>exact StopPost.back (fun m r hr=>⟨m,hr⟩) (ih h S)
     |ret=>exact StopPost.back (fun m r hr=>⟨m,hr⟩) (ih h S)
    |bl id=>
     simp only[kbe] at h
     cases e with
     |ext i=>
      simp only at h
      split at h
      ·rename_i hj;exact StopPost.back (fun m r hr=>⟨m,by unfold run unw;simp only;rw[if_pos hj];exact hr⟩) (ih h S)
      ·rename_i hj;exact StopPost.back (fun m r hr=>⟨m,by unfold run unw;simp only;rw[if_neg hj];exact hr⟩) (ih h S)
     |nrm=>exact StopPost.back (fun m r hr=>⟨m,hr⟩) (ih h S)
     |gto l=>exact StopPost.back (fun m r hr=>⟨m,hr⟩) (ih h S)
     |ret=>exact StopPost.back (fun m r hr=>⟨m,hr⟩) (ih h S)
    |lp b=>
     simp only[kbe] at h
     cases e with
     |nrm=>exact StopPost.back (fun m r hr=>⟨m,hr⟩) (ih h S)
     |ext i=>exact StopPost.back (fun m r hr=>⟨m,hr⟩) (ih h S)
     |gto l=>exact StopPost.back (fun m r hr=>⟨m,hr⟩) (ih h S)
     |ret=>exact StopPost.back (fun m r hr=>⟨m,hr⟩) (ih h S)
theorem kj4 {fn:AFn} {k k1:List Fr} {cfg cfg1:Cfg} {c c1:St} {r:AV} (L:km0 F k cfg c k1 cfg1 c1) (h:J F fn k1 cfg1 c1 r):J F fn k cfg c r:=by
 obtain⟨n,e,c',v,h1,h2⟩:=h
 obtain⟨m,hm⟩:=L n _ h1
 exact⟨m,e,c',v,hm,h2⟩
theorem kzl (H:Hold F ρ Φ) {n:Nat} {fn:AFn} {k k1:List Fr} {cfg:Cfg} {a:AC} {s s1 c:St} {r:AV} (S:Sim ρ s c) (h:kbe Φ F stops n k cfg s=some (.cut k1 a s1)) (hj: ∀ c1,Sim ρ s1 c1→J F fn k1 (.code a) c1 r):J F fn k cfg c r:=by
 obtain⟨c1,h1,h2⟩:=kyn H h S
 exact kj4 h2 (hj c1 h1)
def endS (fn:AFn):Option Stop→Option AV
 |some (.fin e s)=>match e with
  | .nrm=>match ke0.resS fn s with
    |some v=>frzS s.h DEEP v
    |none=>none
  | .ret=>match ke0.resS fn s with
    |some v=>frzS s.h DEEP v
    |none=>none
  |_=>none
 |_=>none
theorem kzm (H:Hold F ρ Φ) {n:Nat} {fn:AFn} {k:List Fr} {cfg:Cfg} {s c:St} {r:AV} (S:Sim ρ s c) (h:endS fn (kbe Φ F stops n k cfg s)=some r):J F fn k cfg c (gm ρ r):=by
 unfold endS at h
 split at h
 ·rename_i e s1 hx
  have key:(e= .nrm∨e= .ret)→(match ke0.resS fn s1 with
   |some v=>frzS s1.h DEEP v
   |none=>none)=some r→J F fn k cfg c (gm ρ r):=fun he h=>by
   obtain⟨c1,h1,m,h2⟩:=kyn H hx S
   split at h
   ·rename_i v hv
    exact⟨m,e,c1,_,h2,he,kmj h1 hv,kgr H.good.1 h1.heap h⟩
   ·cases h
  split at h
  ·exact key (.inl rfl) h
  ·exact key (.inr rfl) h
  ·cases h
 ·cases h
theorem kcq {fn:AFn} {k:List Fr} {b:AC} {c:St} {r:AV} (h:J F fn (.lp b::k) (.code b) c r):J F fn k (.code (.loop b)) c r:=
 kj4 (fun m _ hr=>⟨m+1,kyg hr⟩) h
theorem qfs {f:Nat} {fn:AFn} (hF:F f=some fn) (hX:Gl.X f=none) {as:List AV} {r:AV} (h:J F fn [] (.code fn.body) {r:=inits 0 as .nil,h:= .nil,nx:=0} r):Spec F f as r:=by
 obtain⟨n,e,c',v,h1,h2,h3,h4⟩:=h
 refine⟨n+1,?_⟩
 simp only[kba,hX,hF]
 unfold klv
 unfold run at h1
 simp only at h1
 split at h1
 ·rename_i e1 s1 hx
  have hx':=kbg (F:=F) (fun _ _ _ h=>h) (Nat.le_succ n) _ _ _ hx
  unfold unw at h1
  cases h1
  unfold KN at hx'
  rw[hx']
  rcases h2 with rfl |rfl
  ·simp only[h3,h4]
  ·simp only[h3,h4]
 ·cases h1
end
def kfk (id:Nat):List Fr→AC→Option (List Fr×AC)
 |k,.seq a b=>match kfk id (.sq b::k) a with
  |some r=>some r
  |none=>kfk id k b
 |k,.block j b=>if j=id then match b with
   | .loop b'=>some (.bl j::k,.loop b')
   |_=>none
  else kfk id (.bl j::k) b
 |k,.cond _ a b=>match kfk id k a with
  |some r=>some r
  |none=>kfk id k b
 |k,.loop b=>kfk id (.lp b::k) b
 |_,_=>none
def cutK (fn:AFn) (id:Nat):List Fr:=match kfk id [] fn.body with
 |some (k,_)=>k
 |none=>[]
def cutB (fn:AFn) (id:Nat):AC:=match kfk id [] fn.body with
 |some (_,.loop b)=>b
 |_=> .skip
end Go.Proofs.Hz
namespace Go.Proofs.Hz
def valL (ts fs:List AV) (os:List (Nat×List (List AV))) (σ:Nat→Nat) (lo:Nat):Val where
 v:=fun fl i=>if fl then ts.getD i (.bool false) else if i<BIG then fs.getD i .nilp else match os[(i - BIG) / 1000]? with
  |some (sz,l)=>if i % 1000=sz then .im l false else .im [] false
  |none=> .im [] false
 σ:=σ
 lo:=lo
def AllP {α:Type} (P:α→Prop):List α→Prop
 | []=>True
 |a::as=>P a∧AllP P as
theorem AllP.mem {α:Type} {P:α→Prop}: ∀ {l:List α},AllP P l→ ∀ a ∈ l,P a
 | [],_,_,h=>by cases h
 |b::l,h,a,ha=>by
  rcases List.mem_cons.1 ha with rfl |ha
  ·exact h.1
  ·exact AllP.mem h.2 a ha
theorem AllP.append {α:Type} {P:α→Prop}: ∀ {l m:List α},AllP P l→AllP P m→AllP P (l++m)
 | [],_,_,h=>h
 |_::_,_,h,k=>⟨h.1,AllP.append h.2 k⟩
def OkT (v:AV):Prop:=kci v=true∧v.flat=true∧AV.beq v v=true
def OkF (v:AV):Prop:=kci v=true∧v.flat=false∧AV.beq v v=true
def OkO (p:Nat×List (List AV)):Prop:=(∀ e ∈ p.2,e.length=p.1)∧p.2.flatten.all kci=true∧kdk p.2 p.2=true
structure Enc {α:Type} (e:α→List AV) (sz:Nat):Prop where
 len: ∀ x,(e x).length=sz
 plain: ∀ x,(e x).all kci=true
 self: ∀ x,beqL (e x) (e x)=true
theorem Enc.selfLL {α:Type} {e:α→List AV} {sz:Nat} (h:Enc e sz): ∀ l:List α,kdk (l.map e) (l.map e)=true
 | []=>rfl
 |x::l=>by simp only[List.map_cons,kdk,Bool.and_eq_true];exact⟨h.self x,h.selfLL l⟩
theorem OkT.int (k:IntKind) (n:Int):OkT (.int k n):=⟨rfl,rfl,by simp[AV.beq]⟩
theorem OkT.bool (b:Bool):OkT (.bool b):=⟨rfl,rfl,by simp[AV.beq]⟩
theorem OkT.str (b:List UInt8):OkT (.str b):=⟨rfl,rfl,by simp[AV.beq]⟩
theorem OkF.im {α:Type} {e:α→List AV} {sz:Nat} (h:Enc e sz) (l:List α) (b:Bool):OkF (.im (l.map e) b):=⟨rfl,rfl,by simp only[AV.beq,Bool.and_eq_true,h.selfLL l,beq_self_eq_true,and_self]⟩
theorem OkF.ip {α:Type} {e:α→List AV} {sz:Nat} (h:Enc e sz) (x:α) (o:Nat):OkF (.ip (e x) o):=⟨rfl,rfl,by simp only[AV.beq,Bool.and_eq_true,h.self x,beq_self_eq_true,and_self]⟩
theorem OkO.own {α:Type} {e:α→List AV} {sz:Nat} (h:Enc e sz) (l:List α):OkO (sz,l.map e):=⟨fun x hx=>by
 obtain⟨y,_,rfl⟩:=List.mem_map.1 hx
 exact h.len y,List.all_eq_true.2 fun y hy=>by
 obtain⟨x,hx,hy⟩:=List.mem_flatten.1 hy
 obtain⟨z,_,rfl⟩:=List.mem_map.1 hx
 exact List.all_eq_true.1 (h.plain z) y hy,h.selfLL l⟩
theorem kop {P:AV→Prop} {d:AV} (hd:P d) {l:List AV} (h:AllP P l) (i:Nat):P (l.getD i d):=by
 rw[List.getD_eq_getElem?_getD]
 cases e:l[i]? with
 |none=>exact hd
 |some v=>exact h.mem v (List.mem_of_getElem? e)
def FOp (ρ:Val) (p:AOp×AV):Prop:=∀ s:St,opA s (p.1.gmO ρ)=some (gm ρ p.2,s)
theorem k3m {ρ:Val} {l:List (AOp×AV)} (h:AllP (FOp ρ) l):kb5 ρ l:=h.mem
def FApp (ρ:Val) (p:AFact):Prop:=AHold ρ p.own p.sz p.by_ p.b p.x p.k
def FApn (ρ:Val) (p:NFact):Prop:=NHold ρ p.sz p.by_ p.z p.b p.n p.k
def kr9 [Gl] (F:Nat→Option AFn) (ρ:Val) (p:Nat×List AV×AV):Prop:=Spec F p.1 (p.2.1.map (gm ρ)) (gm ρ p.2.2)
section
variable {ρ:Val}
theorem fT {x:AV} {b c:Bool} (hx:gm ρ x= .bool b) (h:b=c):FOp ρ (.mov (.c x),.bool c):=fun s=>by
 subst h;simp only[AOp.gmO,AOp.mapO,AO.gmO,opA,AO.ev,hx,gm]
theorem fLen {α:Type} {e:α→List AV} {x r:AV} {l:List α} {b:Bool} (hx:gm ρ x= .im (l.map e) b) (hr:gm ρ r= .int .i64 (l.length:Int)):FOp ρ (.len 0 (.c x),r):=fun s=>by
 simp only[AOp.gmO,AOp.mapO,AO.gmO,opA,AO.ev,hx,hr,List.length_map]
theorem fIa {α:Type} {e:α→List AV} {sz:Nat} (he:Enc e sz) {x i:AV} {r:List AV} {l:List α} {b:Bool} {k:IntKind} {n:Int} {y:α} (hx:gm ρ x= .im (l.map e) b) (hi:gm ρ i= .int k n) (h0:0≤n) (hy:l[n.toNat]? =some y) (hr:gm ρ (.ip r 0)= .ip (e y) 0):FOp ρ (.iaS sz (.c x) (.c i),.ip r 0):=fun s=>by
 simp only[AOp.gmO,AOp.mapO,AO.gmO,opA,AO.ev,hx,hi,hr,kca,if_pos h0,List.getElem?_map,hy,Option.map_some,he.len,if_true]
def optN (s:Option (AV×Int)) (d:Int):Int:=match s with
 |some p=>p.2
 |none=>d
def optA (s:Option (AV×Int)):Option AO:=s.map fun p=> .c p.1
def km1 (ρ:Val) (s:Option (AV×Int)):Prop:=match s with
 |some p=>∃ k,gm ρ p.1= .int k p.2
 |none=>True
theorem ku0 {s:Option (AV×Int)} (h:km1 ρ s) {d:Nat} (h0:0≤optN s d) (st:St):kb8 st d ((optA s).map (AO.gmO ρ))=some (optN s d).toNat:=by
 cases s with
 |none=>simp[optA,kb8,optN]
 |some p=>
  obtain⟨k,hk⟩:=h
  simp only[optA,Option.map_some,kb8,AO.gmO,AO.ev,hk,optN] at h0 ⊢
  simp[kca,h0]
theorem fApp {α:Type} {e:α→List AV} {sz by_ k:Nat} {own:Bool} {b x:AV} {l m:List α} {cb cx:Bool} (hb:gm ρ b= .im (l.map e) cb) (hx:gm ρ x= .im (m.map e) cx) (hk:ρ.v false k= .im ((l++m).map e) false)
  (hroom:(l.length+m.length)*by_≤kah∧l.length+m.length≤kah) (ho:own=true∨cb=true∧m≠[]) (hbig:BIG≤k) (hs:k % 1000=sz) (hp:0<sz):FApp ρ ⟨own,sz,by_,b,x,k⟩:=by
 refine⟨⟨_,_,_,hb,.inl ⟨_,hx⟩,by rw[hk,List.map_append],by simpa using hroom.1,by simpa using hroom.2,fun hn=> ?_⟩,hbig,hs,hp⟩
 rcases ho with h |h
 ·rw[h] at hn;cases hn
 ·exact⟨h.1,fun e=>h.2 (by simpa using e)⟩
theorem kbn:Enc eB 1:=⟨fun _=>rfl,fun _=>by simp[eB,kci],fun b=>by simp[eB,beqL,AV.beq]⟩
theorem kbr {by_ k:Nat} {own:Bool} {b x:AV} {l t:List UInt8} {cb:Bool} (hb:gm ρ b= .im (l.map eB) cb) (hx:gm ρ x= .str t) (hk:ρ.v false k= .im ((l++t).map eB) false)
  (hroom:(l.length+t.length)*by_≤kah∧l.length+t.length≤kah) (ho:own=true∨cb=true∧t≠[]) (hbig:BIG≤k) (hs:k % 1000=1):FApp ρ ⟨own,1,by_,b,x,k⟩:=by
 refine⟨⟨_,_,_,hb,.inr ⟨rfl,t,hx,rfl⟩,by rw[hk,List.map_append],by simpa using hroom.1,by simpa using hroom.2,fun hn=> ?_⟩,hbig,hs,Nat.one_pos⟩
 rcases ho with h |h
 ·rw[h] at hn;cases hn
 ·exact⟨h.1,fun e=>h.2 (by simpa using e)⟩
end
section
variable {ρ:Val}
abbrev w64 (n:Int):Int:=IntKind.i64.wrap n
theorem nT {P:Prop} [Decidable P] (h:P):(!decide P)=false:=by simp[h]
theorem nF {P:Prop} [Decidable P] (h: ¬P):(!decide P)=true:=by simp[h]
theorem bF {b:Bool} (h: ¬b=true):b=false:=by simpa using h
theorem kan {α:Type} {e:α→List AV} {id j z:Nat} {l:List α} {r:AV} (hj:BIG≤j) (hv:ρ.v false j= .im (l.map e) false) (hr:gm ρ r= .int .i64 (l.length:Int)):FOp ρ (.len 0 (.c (.sl id 0 j z none)),r):=fun s=>by
 simp only[AOp.gmO,AOp.mapO,AO.gmO,opA,AO.ev,gm,kch hj hv,hr,List.length_map]
theorem fIaP {len sz id o j:Nat} {i:AV} {k:IntKind} {n:Int} (hi:gm ρ i= .int k n) (h:n=(j:Nat)) (hj:j<len):FOp ρ (.iaA len sz (.c (.ptr id o)) (.c i),.ptr id (o+j*sz)):=fun s=>by
 subst h
 simp[AOp.gmO,AOp.mapO,AO.gmO,opA,AO.ev,gm,hi,kca,hj]
theorem fIxA {g:Bool} {len sz j:Nat} {cs:List AV} {l:List AV} {i r:AV} {k:IntKind} {n:Int} (hi:gm ρ i= .int k n) (h:n=(j:Nat)) (hj:j<len) (hl:rdAt (gmL ρ cs) (j*sz) sz=some l) (hr:kct g l=some (gm ρ r)):FOp ρ (.ixA g len sz (.c (.agg cs)) (.c i),r):=fun s=>by
 subst h
 simp[AOp.gmO,AOp.mapO,AO.gmO,opA,AO.ev,gm,hi,kca,hj,hl,hr]
theorem kn9 {ty sz by_ id off k:Nat} {x:AV} {m:Nat} {c:Bool} (hx:gm ρ x= .im [] c) (hp:0<sz):FOp ρ (.app ty sz by_ (.c (.sl id off k sz (some m))) (.c x),.sl id off k sz (some m)):=fun s=>by
 simp[AOp.gmO,AOp.mapO,AO.gmO,opA,AO.ev,gm,hx,ka8,hp]
theorem fQuo {k:IntKind} {a b:Int} {x y r:AV} (hx:gm ρ x= .int k a) (hy:gm ρ y= .int k b) (h:b≠0) (hr:gm ρ r= .int k (k.wrap (a.tdiv b))):FOp ρ (.bin .quo (.c x) (.c y),r):=fun s=>by
 simp[AOp.gmO,AOp.mapO,AO.gmO,opA,AO.ev,hx,hy,hr,binA,isSh,kdp,h]
theorem fRem {k:IntKind} {a b:Int} {x y r:AV} (hx:gm ρ x= .int k a) (hy:gm ρ y= .int k b) (h:b≠0) (hr:gm ρ r= .int k (a.tmod b)):FOp ρ (.bin .rem (.c x) (.c y),r):=fun s=>by
 simp[AOp.gmO,AOp.mapO,AO.gmO,opA,AO.ev,hx,hy,hr,binA,isSh,kdp,h]
end
theorem khj {α:Type} (l:List α) (i:Nat):l.drop i=(l.drop i).take (l.length - i):=by rw[List.take_of_length_le (by simp)]
def ofL {α:Type}:List (Nat×α)→T α
 | []=> .nil
 |(i,v)::l=>(ofL l).put i (some v)
theorem kbh {α:Type}: ∀ {l:List (Nat×α)} {t:Nat} {v:α},(ofL l).get t=some v→(t,v) ∈ l
 | [],t,v,h=>by rw[ofL,T.get_nil] at h;cases h
 |(i,w)::l,t,v,h=>by
  rw[ofL,T.get_put] at h
  split at h
  ·rename_i e;cases h;subst e;simp
  ·exact List.mem_cons_of_mem _ (kbh h)
namespace T
def dom {α:Type}:T α→List Nat
 |nil=>[]
 |node l v r=>(if v.isSome then [0] else [])++((dom l).map fun j=>2*j+1)++(dom r).map fun j=>2*j+2
theorem mem_dom {α:Type}: ∀ {t:T α} {n:Nat} {v:α},t.get n=some v→n ∈ t.dom
 |nil,n,v,h=>by rw[get_nil] at h;cases h
 |node l w r,n,v,h=>by
  unfold get at h
  unfold dom
  simp only[List.mem_append,List.mem_map]
  split at h
  ·rename_i h0
   left;left
   rw[h,h0];simp
  ·split at h
   ·exact .inl (.inr ⟨n / 2,mem_dom h,by omega⟩)
   ·exact .inr ⟨n / 2 - 1,mem_dom h,by omega⟩
end T
def sig (σ:Nat→Nat) (ids:List Nat) (nx:Nat) (j:Nat):Nat:=if j<ids.length then σ (ids.getD j 0) else σ (nx+(j - ids.length))
theorem krn {σ:Nat→Nat} (hσ: ∀ i j,σ i=σ j→i=j) {ids:List Nat} {nx:Nat} (hn:ids.Nodup) (hl: ∀ i ∈ ids,i<nx): ∀ i j,sig σ ids nx i=sig σ ids nx j→i=j:=fun i j h=>by
 unfold sig at h
 have hg: ∀ i,i<ids.length→ids.getD i 0 ∈ ids:=fun i hi=>by rw[List.getD_eq_getElem?_getD,List.getElem?_eq_getElem hi];simp
 split at h
 ·rename_i hi
  split at h
  ·rename_i hj
   have:=hσ _ _ h
   rw[List.getD_eq_getElem?_getD,List.getD_eq_getElem?_getD,List.getElem?_eq_getElem hi,List.getElem?_eq_getElem hj] at this
   simp only[Option.getD_some] at this
   exact(List.getElem_inj hn).1 this
  ·have:=hσ _ _ h
   have:=hl _ (hg i hi)
   omega
 ·split at h
  ·rename_i hj
   have:=hσ _ _ h
   have:=hl _ (hg j hj)
   omega
  ·have:=hσ _ _ h;omega
def keep (ts ids:List Nat):Option Stop→Option (List Fr×AC×List AV×List Blk×Nat)
 |some (.cut k a s)=>match mapO s.r.get ts,mapO s.h.get ids with
  |some vs,some bs=>if s.h.dom.all (fun i=>decide (i<s.nx)) && (decide ids.Nodup && ids.all (fun i=>decide (i<s.nx))) then some (k,a,vs,bs,s.nx) else none
  |_,_=>none
 |_=>none
def idx {α:Type}:Nat→List α→List (Nat×α)
 |_,[]=>[]
 |i,a::as=>(i,a)::idx (i+1) as
theorem kiu {α:Type}: ∀ {l:List α} {i j:Nat} {a:α},(j,a) ∈ idx i l→i≤j∧l[j - i]? =some a
 | [],_,_,_,h=>by cases h
 |b::l,i,j,a,h=>by
  unfold idx at h
  rcases List.mem_cons.1 h with h |h
  ·cases h;simp
  ·obtain⟨h1,h2⟩:=kiu h
   refine⟨by omega,?_⟩
   rw[show j - i=(j - (i+1))+1 by omega,List.getElem?_cons_succ]
   exact h2
theorem ki2 {α β:Type} {f:α→Option β}: ∀ {l:List α} {r:List β},mapO f l=some r→r.length=l.length∧ ∀ (j:Nat) (a:α),l[j]? =some a→ ∃ b,r[j]? =some b∧f a=some b
 | [],r,h=>by cases h;exact⟨rfl,fun j a h=>by simp at h⟩
 |a::l,r,h=>by
  unfold mapO at h
  split at h
  ·cases h
  ·rename_i b hb
   split at h
   ·cases h
   ·rename_i bs hbs
    cases h
    obtain⟨h1,h2⟩:=ki2 hbs
    refine⟨by simp[h1],fun j x hx=> ?_⟩
    cases j with
    |zero=>simp at hx;subst hx;exact⟨b,rfl,hb⟩
    |succ j=>simp only[List.getElem?_cons_succ] at hx ⊢;exact h2 j x hx
def tmpl (ts:List Nat) (vs:List AV) (bs:List Blk):St:={r:=ofL (ts.zip vs),h:=ofL (idx 0 bs),nx:=bs.length}
section
variable {G:Gl} {F:Nat→Option AFn} {ρ:Val} {Φ:Facts} {stops:List Nat}
theorem kzo (H:Hold F ρ Φ) {n:Nat} {fn:AFn} {k k1:List Fr} {cfg:Cfg} {a:AC} {s c:St} {r:AV} (S:Sim ρ s c) {ts ids:List Nat} {vs:List AV} {bs:List Blk} {nx:Nat}
  (h:keep ts ids (kbe Φ F stops n k cfg s)=some (k1,a,vs,bs,nx)) (ws:List AV) (cs:List Blk) (ρ':Val) {X:List AV} {Y:List Blk}
  (hσ:ρ'.σ=sig ρ.σ ids nx) (hlo:ρ'.lo=cs.length) (hh:ρ'.hid=ρ.hid) (hv1:vs.map (gm ρ)=X) (hv2:ws.map (gm ρ')=X) (hb1:bs.map (gB ρ)=Y) (hb2:cs.map (gB ρ')=Y)
  (hj: ∀ c1,(∀ i j,ρ'.σ i=ρ'.σ j→i=j)→Sim ρ' (tmpl ts ws cs) c1→J F fn k1 (.code a) c1 r):J F fn k cfg c r:=by
 have hv:=hv1.trans hv2.symm
 have hb:=hb1.trans hb2.symm
 unfold keep at h
 split at h
 ·rename_i k2 a2 s2 hx
  split at h
  ·rename_i vs2 bs2 h1 h2
   split at h
   ·rename_i hc
    cases h
    simp only[Bool.and_eq_true,decide_eq_true_eq] at hc
    obtain⟨hd,hn,hl⟩:=hc
    have hl': ∀ i ∈ ids,i<s2.nx:=fun i hi=>by simpa using List.all_eq_true.1 hl i hi
    obtain⟨v1,v2⟩:=ki2 h1
    obtain⟨b1,b2⟩:=ki2 h2
    have hcl:cs.length=ids.length:=by rw[←b1];have:=congrArg List.length hb;simpa using this.symm
    refine kzl H S hx fun c1 S1=>hj c1 (by rw[hσ];exact krn H.good.1.inj hn hl') ?_
    have hinj: ∀ i j,ρ'.σ i=ρ'.σ j→i=j:=by rw[hσ];exact krn H.good.1.inj hn hl'
    refine⟨fun t v hv'=> ?_,⟨fun id k hk=> ?_,fun id hid hno=> ?_,hinj,fun p hp=> ?_⟩,fun i=> ?_,?_⟩
    ·have hm:=kbh (show(ofL (ts.zip ws)).get t=some v from hv')
     obtain⟨j,hj1⟩:=List.getElem?_of_mem hm
     rw[List.getElem?_zip_eq_some] at hj1
     obtain⟨u,hu1,hu2⟩:=v2 j t hj1.1
     have e1:=congrArg (·[j]?) hv
     simp only[List.getElem?_map,hu1,hj1.2,Option.map_some,Option.some.injEq] at e1
     rw[S1.regs t u hu2,e1]
    ·have hm:=kbh (show(ofL (idx 0 cs)).get id=some k from hk)
     obtain⟨_,hj1⟩:=kiu hm
     rw[Nat.sub_zero] at hj1
     have hlt:id<ids.length:=by rw[←hcl];exact(List.getElem?_eq_some_iff.1 hj1).1
     obtain⟨u,hu1,hu2⟩:=b2 id (ids.getD id 0) (by rw[List.getD_eq_getElem?_getD,List.getElem?_eq_getElem hlt];rfl)
     have e1:=congrArg (·[id]?) hb
     simp only[List.getElem?_map,hu1,hj1,Option.map_some,Option.some.injEq] at e1
     have:ρ'.σ id=ρ.σ (ids.getD id 0):=by rw[hσ];unfold sig;rw[if_pos hlt]
     rw[this,S1.heap.get _ _ hu2,e1]
    ·rw[hlo] at hid
     have hge: ¬id<ids.length:=by omega
     have:ρ'.σ id=ρ.σ (s2.nx+(id - ids.length)):=by rw[hσ];unfold sig;rw[if_neg hge]
     rw[this]
     refine S1.heap.absent _ (Nat.le_trans S1.lo (Nat.le_add_right _ _)) ?_
     cases hg:s2.h.get (s2.nx+(id - ids.length)) with
     |none=>rfl
     |some k=>
      have:=List.all_eq_true.1 hd _ (T.mem_dom hg)
      simp at this
      omega
    ·rw[hh] at hp
     refine⟨(S1.heap.hid p hp).1,fun i=> ?_⟩
     rw[hσ];unfold sig
     split
     ·exact(S1.heap.hid p hp).2 _
     ·exact(S1.heap.hid p hp).2 _
    ·show ρ'.σ (cs.length+i)=c1.nx+i
     rw[hσ];unfold sig
     rw[if_neg (by omega),show s2.nx+(cs.length+i - ids.length)=s2.nx+i by omega]
     exact S1.nxs i
    ·rw[hlo];exact Nat.le_refl _
   ·cases h
  ·cases h
 ·cases h
theorem Sim.more {ρ ρ':Val} {ts:List Nat} {ws:List AV} {cs:List Blk} {X:List AV} {Y:List Blk} {c:St} {s0:Nat→Nat} {n0:Nat} (S:Sim ρ (tmpl ts ws cs) c) (hσ1:ρ.σ=s0) (hσ2:ρ'.σ=s0) (hlo1:ρ.lo=n0) (hlo2:ρ'.lo=n0) (hh:ρ'.hid=ρ.hid) (hv1:ws.map (gm ρ)=X) (hb1:cs.map (gB ρ)=Y) (hv2:ws.map (gm ρ')=X) (hb2:cs.map (gB ρ')=Y):Sim ρ' (tmpl ts ws cs) c:=by
 have hv:=hv1.trans hv2.symm
 have hb:=hb1.trans hb2.symm
 have hσ:=hσ2.trans hσ1.symm
 have hlo:=hlo2.trans hlo1.symm
 refine⟨fun t v h=> ?_,⟨fun id k hk=> ?_,fun id h1 h2=> ?_,by rw[hσ];exact S.heap.inj,by rw[hσ,hh];exact S.heap.hid⟩,by rw[hσ];exact S.nxs,by rw[hlo];exact S.lo⟩
 ·have hm:=kbh (show(ofL (ts.zip ws)).get t=some v from h)
  have hw:=List.of_mem_zip hm
  obtain⟨j,hj⟩:=List.getElem?_of_mem hw.2
  have e1:=congrArg (·[j]?) hv
  simp only[List.getElem?_map,hj,Option.map_some,Option.some.injEq] at e1
  rw[S.regs t v h,e1]
 ·have hm:=kbh (show(ofL (idx 0 cs)).get id=some k from hk)
  obtain⟨_,hj⟩:=kiu hm
  have e1:=congrArg (·[id - 0]?) hb
  simp only[List.getElem?_map,hj,Option.map_some,Option.some.injEq] at e1
  rw[hσ,S.heap.get _ _ hk,e1]
 ·rw[hσ];exact S.heap.absent id (by rw[←hlo];exact h1) h2
def fnOf (F:Nat→Option AFn) (f:Nat):AFn:=match F f with
 |some fn=>fn
 |none=>⟨0,[],.skip,false⟩
theorem kbk {f:Nat} (hF:F f=some (fnOf F f)) {xs bs:List AV} {r:AV} (hσ:ρ.σ=fun i=>i) (hlo:ρ.lo=0) (hb:xs.map (gm ρ)=bs) (h: ∀ c,Sim ρ (tmpl (List.range xs.length) xs []) c→J F (fnOf F f) [] (.code (fnOf F f).body) c r) (hX:Gl.X f=none:=by kernel_rfl) (hh:ρ.hid=[]:=by rfl):Spec F f bs r:=by
 rw[←hb]
 refine qfs hF hX (h _ ⟨fun t v hv=> ?_,⟨fun id k hk=> ?_,fun id _ _=>T.get_nil _,fun i j e=>by rw[hσ] at e;exact e,fun p hp=>by rw[hh] at hp;cases hp⟩,fun i=>by rw[hσ];rfl,by rw[hlo];exact Nat.zero_le _⟩)
 ·have hm:=kbh (show(ofL ((List.range xs.length).zip xs)).get t=some v from hv)
  obtain⟨j,hj⟩:=List.getElem?_of_mem hm
  rw[List.getElem?_zip_eq_some] at hj
  have hlt:j<xs.length:=(List.getElem?_eq_some_iff.1 hj.2).1
  have hjt:j=t:=by
   have:=hj.1
   rw[List.getElem?_range hlt] at this
   exact Option.some.inj this
  subst hjt
  show(inits 0 (xs.map (gm ρ)) .nil).get j=some (gm ρ v)
  rw[kgt]
  simp only[Nat.zero_le,true_and,Nat.zero_add,Nat.sub_zero,List.length_map,hlt,if_true,List.getElem?_map,hj.2,Option.map_some]
 ·rw[show(tmpl (List.range xs.length) xs []).h.get id=none from T.get_nil _] at hk;cases hk
end
theorem iteE {β:Type} {P:Prop} [Decidable P] {a b:Option β} {r:β} {Q:Prop} (h:(if P then a else b)=some r) (h1:P→a=some r→Q) (h2: ¬P→b=some r→Q):Q:=by
 by_cases hp:P
 ·rw[if_pos hp] at h;exact h1 hp h
 ·rw[if_neg hp] at h;exact h2 hp h
def letB {α β:Type} (e:α) (f:α→Option β):Option β:=f e
theorem ka3 {α β:Type} {o:Option α} {f:α→Option β} {r:β} {Q:Prop} (h:o.bind f=some r) (h1: ∀ x,o=some x→f x=some r→Q):Q:=by
 cases o with
 |none=>cases h
 |some x=>exact h1 x rfl h
theorem letE {α β:Type} {e:α} {f:α→Option β} {r:β} {Q:Prop} (h:letB e f=some r) (h1: ∀ x,x=e→f x=some r→Q):Q:=h1 e rfl h
theorem reqE {β:Type} {P:Prop} [Decidable P] {a:Option β} {r:β} {Q:Prop} (h:(if P then a else none)=some r) (h1:P→a=some r→Q):Q:=by
 by_cases hp:P
 ·rw[if_pos hp] at h;exact h1 hp h
 ·rw[if_neg hp] at h;cases h
theorem AllP.n {α:Type} {P:α→Prop}:AllP P []:=trivial
theorem AllP.c {α:Type} {P:α→Prop} {a:α} {l:List α} (h:P a) (t:AllP P l):AllP P (a::l):=⟨h,t⟩
theorem rflF {ρ:Val}: ∀ {l:List (AOp×AV)},(∀ s:St,l.map (fun p=>opA s (p.1.gmO ρ))=l.map (fun p=>some (gm ρ p.2,s)))→AllP (FOp ρ) l
 | [],_=>trivial
 |_::_,h=>⟨fun s=>(List.cons.inj (h s)).1,rflF fun s=>(List.cons.inj (h s)).2⟩
def vT (i n:Nat):List AV:=(List.range n).map fun j=> .var true (i+j)
def vt (i:Nat):AV:= .var true i
def vf (i:Nat):AV:= .var false i
def cT (i:Nat):AO:= .c (.var true i)
def cF (i:Nat):AO:= .c (.var false i)
def cI (n:Int):AO:= .c (.int .i64 n)
def isT:AV→Bool
 | .int _ _=>true
 | .bool _=>true
 | .str _=>true
 |_=>false
theorem okL: ∀ {l:List AV},l.all isT=true→AllP OkT l
 | [],_=>trivial
 |x::l,h=>by
  simp only[List.all_cons,Bool.and_eq_true] at h
  refine⟨?_,okL h.2⟩
  cases x <;> simp only[isT,Bool.false_eq_true] at h <;> first |exact .int _ _ |exact .bool _ |exact .str _ |exact h.1.elim
theorem sC {G:Gl} {F:Nat→Option AFn} {ρ:Val} {f:Nat} {as bs:List AV} {r q:AV} (h:Spec F f bs q) (h1:as.map (gm ρ)=bs) (h2:gm ρ r=q):kr9 F ρ (f,as,r):=by
 unfold kr9
 rw[h1,h2];exact h
theorem fCat {ρ:Val} {a b:List UInt8} {x y r:AV} (hx:gm ρ x= .str a) (hy:gm ρ y= .str b) (h:a.length+b.length≤140737488355328) (hr:gm ρ r= .str (a++b)):FOp ρ (.bin .add (.c x) (.c y),r):=fun s=>by
 simp[AOp.gmO,AOp.mapO,AO.gmO,opA,AO.ev,hx,hy,hr,binA,kia,h]
end Go.Proofs.Hz
