/-
  Runs with cuts: a symbolic run may stop ahead of a loop and go on from there. What a function answers ('Spec'), and what is still to be answered at a place of it ('J').
  Conditions: none.
-/
import Derived.Test.YtamikoglpnoicaaGreatDoorT19
import Derived.KernelRfl
namespace Go.Proofs.Hz
open AO renaming gmO->yao,ev->yau
open Bool renaming and_eq_true->yaf,false_eq_true->yap
open List renaming getD_eq_getElem?_getD->yab,getElem?_map->yac,getElem?_eq_getElem->yae,all_eq_true->yai,getElem?_of_mem->yaj,getElem?_zip_eq_some->yak,getElem?_eq_some_iff->yal,getElem?_cons_succ->yam,length_map->yan,mem_cons->yaq,range->yar,mem_map->yas,map_append->yat
open List.cons renaming inj->yav
open Nat renaming le_succ->yaa,le_refl->yag,sub_zero->yaw
open Option renaming map_some->yad
open Option.some renaming injEq->yah
inductive Fr where
 |sq (b:AC) |bl (id:Nat) |lp (b:AC)
inductive Cfg where
 |code (c:AC) |sig (e:AE)
inductive Stop where
 |fin (e:AE) (s:St)
 |cut (k:List Fr) (c:AC) (s:St)
section
variable (F:Nat->Option AFn)
def KN [Gl] (n:Nat):Nat->List AV->Option AV:=kbp F Gl.X n
def unw (K:Nat->List AV->Option AV) (m:Nat):List Fr->AE->St->Option (AE×St)
 | [],e,s=>some (e,s)
 | .sq b::k,e,s=>match e with
   | .nrm=>match exA F K m b s with
     |some (e1,s1)=>unw K m k e1 s1
     |none=>none
   |e=>unw K m k e s
 | .bl id::k,e,s=>match e with
   | .ext j=>if j=id then unw K m k .nrm s else unw K m k (.ext j) s
   |e=>unw K m k e s
 | .lp b::k,e,s=>match e with
   | .nrm=>match exA F K m (.loop b) s with
     |some (e1,s1)=>unw K m k e1 s1
     |none=>none
   |e=>unw K m k e s
def run [Gl] (n:Nat) (k:List Fr) (cfg:Cfg) (s:St):Option (AE×St):=
 match cfg with
 | .code c=>match exA F (KN F n) n c s with
   |some (e,s1)=>unw F (KN F n) n k e s1
   |none=>none
 | .sig e=>unw F (KN F n) n k e s
end
def qo1 (stops:List Nat):List Fr->Bool
 | .bl id::_=>stops.contains id
 |_=>false
section
variable (Φ:Facts) (F:Nat->Option AFn) (stops:List Nat)
def kby:Nat->List Fr->Cfg->St->Option Stop
 |0,_,_,_=>none
 |n+1,k,.code c,s=>match c with
  | .seq a b=>kby n (.sq b::k) (.code a) s
  | .block id b=>kby n (.bl id::k) (.code b) s
  | .loop b=>if qo1 stops k then some (.cut k (.loop b) s) else kby n (.lp b::k) (.code b) s
  | .cond x a b=>if kgw s x.tm && x.cl then match kk2 Φ (x.ev s) with
    |some t=>if t then kby n k (.code a) s else kby n k (.code b) s
    |none=>none
    else none
  | .exit id=>kby n k (.sig (.ext id)) s
  | .ret=>kby n k (.sig .ret) s
  | .skip=>kby n k (.sig .nrm) s
  | .reg ops=>match exS Φ F (kej Φ.calls) n (.reg ops) s with
    |some (e,s1)=>kby n k (.sig e) s1
    |none=>none
  | .drw m ops=>match exS Φ F (kej Φ.calls) n (.drw m ops) s with
    |some (e,s1)=>kby n k (.sig e) s1
    |none=>none
  |_=>none
 |n+1,k,.sig e,s=>match k with
  | []=>some (.fin e s)
  | .sq b::k=>match e with
    | .nrm=>kby n k (.code b) s
    |e=>kby n k (.sig e) s
  | .bl id::k=>match e with
    | .ext j=>if j=id then kby n k (.sig .nrm) s else kby n k (.sig (.ext j)) s
    |e=>kby n k (.sig e) s
  | .lp b::k=>match e with
    | .nrm=>kby n k (.code (.loop b)) s
    |e=>kby n k (.sig e) s
end
def kak [Gl] (F:Nat->Option AFn) (f:Nat) (as:List AV) (r:AV):Prop:=∃ n,kbp F Gl.X n f as=some r
def kpn [Gl] (F:Nat->Option AFn) (ρ:Val) (l:List (Nat×List AV×AV)):Prop:=∀ p ∈ l,kak F p.1 (p.2.1.map (gm ρ)) (gm ρ p.2.2)
def J [Gl] (F:Nat->Option AFn) (fn:AFn) (k:List Fr) (cfg:Cfg) (c:St) (r:AV):Prop:=
 ∃ n e c' v,run F n k cfg c=some (e,c')/\(e= .nrm\/e= .ret)/\kcg fn c'=some v/\frz c'.h kbu v=some r
section
variable {G:Gl} {F:Nat->Option AFn} {ρ:Val} {Φ:Facts} {stops:List Nat}
theorem kbz {n m:Nat} (h:n<=m):KLe (KN F n) (KN F m):=kp6 h
theorem kcb {n m:Nat} (h:n<=m) {r:AE×St}: ∀ {k:List Fr} {e:AE} {s:St},unw F (KN F n) n k e s=some r->unw F (KN F m) m k e s=some r
 | [],e,s,hr=>hr
 | .sq b::k,e,s,hr=>by
   unfold unw at hr ⊢;split at hr
   ·split at hr
    ·rename_i e1 s1 hx
     try simp only
     rw[kb0 (kbz h) h _ _ _ hx];exact kcb h hr
    ·cases hr
   ·rename_i hne;cases e with
    |nrm=>exact absurd rfl hne
    |ext i=>exact kcb h hr
    |gto l=>exact kcb h hr
    |ret=>exact kcb h hr
 | .bl id::k,e,s,hr=>by
   unfold unw at hr ⊢;split at hr
   ·split at hr
    ·rename_i hj
     try simp only
     rw[iq hj];exact kcb h hr
    ·rename_i hj
     try simp only
     rw[ir hj];exact kcb h hr
   ·rename_i hne;cases e with
    |nrm=>exact kcb h hr
    |ext i=>exact absurd rfl (hne i)
    |gto l=>exact kcb h hr
    |ret=>exact kcb h hr
 | .lp b::k,e,s,hr=>by
   unfold unw at hr ⊢;split at hr
   ·split at hr
    ·rename_i e1 s1 hx
     try simp only
     rw[kb0 (kbz h) h _ _ _ hx];exact kcb h hr
    ·cases hr
   ·rename_i hne;cases e with
    |nrm=>exact absurd rfl hne
    |ext i=>exact kcb h hr
    |gto l=>exact kcb h hr
    |ret=>exact kcb h hr
theorem qn2 {n m:Nat} (h:n<=m) {k:List Fr} {cfg:Cfg} {s:St} {r:AE×St} (hr:run F n k cfg s=some r):run F m k cfg s=some r:=by
 unfold run at hr ⊢;cases cfg with
 |code c=>
  simp only at hr ⊢;split at hr
  ·rename_i e s1 hx;rw[kb0 (kbz h) h _ _ _ hx];exact kcb h hr
  ·cases hr
 |sig e=>exact kcb h hr
theorem k4c {m:Nat} {a b:AC} {k:List Fr} {s:St} {r:AE×St} (h:run F m (.sq b::k) (.code a) s=some r):run F (m+1) k (.code (.seq a b)) s=some r:=by
 unfold run at h ⊢;simp only at h ⊢;split at h
 ·rename_i e s1 hx;have hx':=kb0 (F:=F) (kbz (F:=F) (yaa m)) (yag m) _ _ _ hx;simp only[exA];rw[hx'];unfold unw at h;cases e with
  |nrm=>
   simp only at h ⊢;split at h
   ·rename_i e1 s2 hy;rw[kb0 (F:=F) (kbz (F:=F) (yaa m)) (yag m) _ _ _ hy];exact kcb (yaa m) h
   ·cases h
  |ext i=>exact kcb (yaa m) h
  |gto l=>exact kcb (yaa m) h
  |ret=>exact kcb (yaa m) h
 ·cases h
theorem k4b {m:Nat} {b:AC} {k:List Fr} {s:St} {r:AE×St} (h:run F m (.lp b::k) (.code b) s=some r):run F (m+1) k (.code (.loop b)) s=some r:=by
 unfold run at h ⊢;simp only at h ⊢;split at h
 ·rename_i e s1 hx;have hx':=kb0 (F:=F) (kbz (F:=F) (yaa m)) (yag m) _ _ _ hx;rw[show exA F (KN F (m+1)) (m+1) (.loop b) s=(match exA F (KN F (m+1)) m b s with
   |some (.nrm,s1)=>exA F (KN F (m+1)) m (.loop b) s1
   |r=>r) from rfl,hx']
  unfold unw at h;cases e with
  |nrm=>
   simp only at h ⊢;split at h
   ·rename_i e1 s2 hy;rw[kb0 (F:=F) (kbz (F:=F) (yaa m)) (yag m) _ _ _ hy];exact kcb (yaa m) h
   ·cases h
  |ext i=>exact kcb (yaa m) h
  |gto l=>exact kcb (yaa m) h
  |ret=>exact kcb (yaa m) h
 ·cases h
theorem qny {m id:Nat} {b:AC} {k:List Fr} {s:St} {r:AE×St} (h:run F m (.bl id::k) (.code b) s=some r):run F (m+1) k (.code (.block id b)) s=some r:=by
 unfold run at h ⊢;simp only at h ⊢;split at h
 ·rename_i e s1 hx;have hx':=kb0 (F:=F) (kbz (F:=F) (yaa m)) (yag m) _ _ _ hx;simp only[exA];rw[hx'];unfold unw at h;cases e with
  |ext i=>
   simp only at h ⊢;split at h
   ·rename_i hj;rw[iq hj];exact kcb (yaa m) h
   ·rename_i hj;rw[ir hj];exact kcb (yaa m) h
  |nrm=>exact kcb (yaa m) h
  |gto l=>exact kcb (yaa m) h
  |ret=>exact kcb (yaa m) h
 ·cases h
theorem qnz {m:Nat} {x:AO} {a b:AC} {t:Bool} {k:List Fr} {s:St} {r:AE×St} (hx:x.ev s= .bool t) (h:run F m k (.code (if t then a else b)) s=some r):run F (m+1) k (.code (.cond x a b)) s=some r:=by
 unfold run at h ⊢;simp only at h ⊢;split at h
 ·rename_i e s1 hy;simp only[exA,hx];have hy':=kb0 (F:=F) (kbz (F:=F) (yaa m)) (yag m) _ _ _ hy;cases t with
  |true=>simp only[if_true] at hy' ⊢;rw[hy'];exact kcb (yaa m) h
  |false=>simp only[yap,if_false] at hy' ⊢;rw[hy'];exact kcb (yaa m) h
 ·cases h
theorem kkp {N n m:Nat} {a:AC} {k:List Fr} {s s1:St} {e:AE} {r:AE×St} (hx:exA F (KN F N) n a s=some (e,s1)) (h:run F m k (.sig e) s1=some r): ∃ m',run F m' k (.code a) s=some r:=by
 refine⟨max N (max n m),?_⟩;have h1:=kb0 (F:=F) (kbz (F:=F) (show N<=max N (max n m) by omega)) (show n<=max N (max n m) by omega) _ _ _ hx;have h2:=qn2 (show m<=max N (max n m) by omega) h;unfold run at h2 ⊢;simp only at h2 ⊢;rw[h1];exact h2
theorem knf: ∀ {l:List (Nat×List AV×AV)},kpn F ρ l-> ∃ N,k5n ρ (KN F N) l
 | [],_=>⟨0,fun p hp=>by cases hp⟩
 |q::l,h=>by
  obtain⟨n,hn⟩:=h q (by simp);obtain⟨m,hm⟩:=knf (l:=l) fun p hp=>h p (by simp[hp])
  refine⟨max n m,fun p hp=> ?_⟩;rcases yaq.1 hp with rfl |hp
  ·exact kp6 (show n<=max n m by omega) _ _ _ hn
  ·exact kp6 (show m<=max n m by omega) _ _ _ (hm p hp)
structure Hold [Gl] (F:Nat->Option AFn) (ρ:Val) (Φ:Facts):Prop where
 good:khc ρ
 ops:kcq ρ Φ.ops
 apps:kdf ρ Φ.apps
 apns:kfq ρ Φ.apns
 calls:kpn F ρ Φ.calls
def kpo [Gl] (F:Nat->Option AFn) (k:List Fr) (cfg:Cfg) (c:St) (k1:List Fr) (cfg1:Cfg) (c1:St):Prop:=∀ m r,run F m k1 cfg1 c1=some r-> ∃ m',run F m' k cfg c=some r
def StopPost [Gl] (F:Nat->Option AFn) (ρ:Val) (k:List Fr) (cfg:Cfg) (c:St):Stop->Prop
 | .fin e s1=>∃ c1,Sim ρ s1 c1/\ ∃ m,run F m k cfg c=some (e,c1)
 | .cut k1 a s1=>∃ c1,Sim ρ s1 c1/\kpo F k cfg c k1 (.code a) c1
theorem StopPost.back {k k':List Fr} {cfg cfg':Cfg} {c c':St} (L:kpo F k cfg c k' cfg' c') {st:Stop} (h:StopPost F ρ k' cfg' c' st):StopPost F ρ k cfg c st:=by
 cases st with
 |fin e s1=>obtain⟨c1,h1,m,h2⟩:=h;exact⟨c1,h1,L _ _ h2⟩
 |cut k1 a s1=>obtain⟨c1,h1,h2⟩:=h;exact⟨c1,h1,fun m r hr=>by obtain⟨m',hm⟩:=h2 m r hr;exact L _ _ hm⟩
theorem k4k (H:Hold F ρ Φ): ∀ {n:Nat} {k:List Fr} {cfg:Cfg} {s:St} {st:Stop},kby Φ F stops n k cfg s=some st-> ∀ {c:St},Sim ρ s c->StopPost F ρ k cfg c st:=by
 obtain⟨N,hN⟩:=knf H.calls;have hex:=kqx (F:=F) H.good H.ops H.apps H.apns (KS:=kej Φ.calls) (K:=KN F N) (fun f as r h=>hN _ (knq h));intro n
 induction n with
 |zero=>intro k cfg s st h;cases h
 |succ n ih=>
  intro k cfg s st h c S;have sigs: ∀ {a:AC} {e:AE} {s1:St},exS Φ F (kej Φ.calls) n a s=some (e,s1)->kby Φ F stops n k (.sig e) s1=some st->StopPost F ρ k (.code a) c st:=fun {a e s1} hx h1=>by
   obtain⟨c1,h2,h3⟩:=hex n _ _ _ _ _ hx S;exact StopPost.back (fun m r hr=>kkp h2 hr) (ih h1 h3)
  cases cfg with
  |code a=>
   cases a with
   |seq a b=>exact StopPost.back (fun m r hr=>⟨m+1,k4c hr⟩) (ih (by simpa only[kby] using h) S)
   |block id b=>exact StopPost.back (fun m r hr=>⟨m+1,qny hr⟩) (ih (by simpa only[kby] using h) S)
   |loop b=>
    simp only[kby] at h;split at h
    ·cases h;exact⟨c,S,fun m r hr=>⟨m,hr⟩⟩
    ·exact StopPost.back (fun m r hr=>⟨m+1,k4b hr⟩) (ih h S)
   |cond x a b=>
    simp only[kby] at h;split at h
    ·rename_i hcond;simp only[yaf] at hcond;split at h
     ·rename_i t ht;have e1:=kag S (khp hcond.1) hcond.2;rw[kpf H.ops ht] at e1;refine StopPost.back (fun m r hr=>⟨m+1,qnz (t:=t) e1 hr⟩) (ih ?_ S);cases t <;> simpa using h
     ·cases h
    ·cases h
   |exit id=>exact StopPost.back (fun m r hr=>kkp (F:=F) (N:=0) (n:=1) (by rfl) hr) (ih (by simpa only[kby] using h) S)
   |ret=>exact StopPost.back (fun m r hr=>kkp (F:=F) (N:=0) (n:=1) (by rfl) hr) (ih (by simpa only[kby] using h) S)
   |skip=>exact StopPost.back (fun m r hr=>kkp (F:=F) (N:=0) (n:=1) (by rfl) hr) (ih (by simpa only[kby] using h) S)
   |reg ops=>
    simp only[kby] at h;split at h
    ·rename_i e s1 hx;exact sigs hx h
    ·cases h
   |drw m ops=>
    simp only[kby] at h;split at h
    ·rename_i e s1 hx;exact sigs hx h
    ·cases h
   |label l=>cases h
   |goto l=>cases h
   |scope a b=>cases h
   |rngf nt f ps a b=>cases h
  |sig e=>
   cases k with
   |nil=>cases h;exact⟨c,S,0,rfl⟩
   |cons fr k=>
    cases fr with
    |sq b=>
     simp only[kby] at h;cases e with
     |nrm=>exact StopPost.back (fun m r hr=>⟨m,hr⟩) (ih h S)
     |ext i=>exact StopPost.back (fun m r hr=>⟨m,hr⟩) (ih h S)
     |gto l=>exact StopPost.back (fun m r hr=>⟨m,hr⟩) (ih h S)
     |ret=>exact StopPost.back (fun m r hr=>⟨m,hr⟩) (ih h S)
    |bl id=>
     simp only[kby] at h;cases e with
     |ext i=>
      simp only at h;split at h
      ·rename_i hj;exact StopPost.back (fun m r hr=>⟨m,by unfold run unw;simp only;rw[iq hj];exact hr⟩) (ih h S)
      ·rename_i hj;exact StopPost.back (fun m r hr=>⟨m,by unfold run unw;simp only;rw[ir hj];exact hr⟩) (ih h S)
     |nrm=>exact StopPost.back (fun m r hr=>⟨m,hr⟩) (ih h S)
     |gto l=>exact StopPost.back (fun m r hr=>⟨m,hr⟩) (ih h S)
     |ret=>exact StopPost.back (fun m r hr=>⟨m,hr⟩) (ih h S)
    |lp b=>
     simp only[kby] at h;cases e with
     |nrm=>exact StopPost.back (fun m r hr=>⟨m,hr⟩) (ih h S)
     |ext i=>exact StopPost.back (fun m r hr=>⟨m,hr⟩) (ih h S)
     |gto l=>exact StopPost.back (fun m r hr=>⟨m,hr⟩) (ih h S)
     |ret=>exact StopPost.back (fun m r hr=>⟨m,hr⟩) (ih h S)
theorem kmh {fn:AFn} {k k1:List Fr} {cfg cfg1:Cfg} {c c1:St} {r:AV} (L:kpo F k cfg c k1 cfg1 c1) (h:J F fn k1 cfg1 c1 r):J F fn k cfg c r:=by
 obtain⟨n,e,c',v,h1,h2⟩:=h;obtain⟨m,hm⟩:=L n _ h1;exact⟨m,e,c',v,hm,h2⟩
theorem k5o (H:Hold F ρ Φ) {n:Nat} {fn:AFn} {k k1:List Fr} {cfg:Cfg} {a:AC} {s s1 c:St} {r:AV} (S:Sim ρ s c) (h:kby Φ F stops n k cfg s=some (.cut k1 a s1)) (hj: ∀ c1,Sim ρ s1 c1->J F fn k1 (.code a) c1 r):J F fn k cfg c r:=by
 obtain⟨c1,h1,h2⟩:=k4k H h S;exact kmh h2 (hj c1 h1)
def kj3 (fn:AFn):Option Stop->Option AV
 |some (.fin e s)=>match e with
  | .nrm=>match kgq.resS fn s with
    |some v=>kd2 s.h kbu v
    |none=>none
  | .ret=>match kgq.resS fn s with
    |some v=>kd2 s.h kbu v
    |none=>none
  |_=>none
 |_=>none
theorem k5p (H:Hold F ρ Φ) {n:Nat} {fn:AFn} {k:List Fr} {cfg:Cfg} {s c:St} {r:AV} (S:Sim ρ s c) (h:kj3 fn (kby Φ F stops n k cfg s)=some r):J F fn k cfg c (gm ρ r):=by
 unfold kj3 at h;split at h
 ·rename_i e s1 hx;have key:(e= .nrm\/e= .ret)->(match kgq.resS fn s1 with
   |some v=>kd2 s1.h kbu v
   |none=>none)=some r->J F fn k cfg c (gm ρ r):=fun he h=>by
   obtain⟨c1,h1,m,h2⟩:=k4k H hx S;split at h
   ·rename_i v hv;exact⟨m,e,c1,_,h2,he,ko4 h1 hv,ki0 H.good.1 h1.heap h⟩
   ·cases h
  split at h
  ·exact key (.inl rfl) h
  ·exact key (.inr rfl) h
  ·cases h
 ·cases h
theorem kcr {fn:AFn} {k:List Fr} {b:AC} {c:St} {r:AV} (h:J F fn (.lp b::k) (.code b) c r):J F fn k (.code (.loop b)) c r:=
 kmh (fun m _ hr=>⟨m+1,k4b hr⟩) h
theorem qou {f:Nat} {fn:AFn} (hF:F f=some fn) (hX:Gl.X f=none) {as:List AV} {r:AV} (h:J F fn [] (.code fn.body) {r:=inits 0 as .nil,h:= .nil,nx:=0} r):kak F f as r:=by
 obtain⟨n,e,c',v,h1,h2,h3,h4⟩:=h;refine⟨n+1,?_⟩;simp only[kbp,hX,hF];unfold koe;unfold run at h1;simp only at h1;split at h1
 ·rename_i e1 s1 hx;have hx':=kb0 (F:=F) (fun _ _ _ h=>h) (yaa n) _ _ _ hx;unfold unw at h1;cases h1;unfold KN at hx';rw[hx'];rcases h2 with rfl |rfl
  ·simp only[h3,h4]
  ·simp only[h3,h4]
 ·cases h1
end
def khh (id:Nat):List Fr->AC->Option (List Fr×AC)
 |k,.seq a b=>match khh id (.sq b::k) a with
  |some r=>some r
  |none=>khh id k b
 |k,.block j b=>if j=id then match b with
   | .loop b'=>some (.bl j::k,.loop b')
   |_=>none
  else khh id (.bl j::k) b
 |k,.cond _ a b=>match khh id k a with
  |some r=>some r
  |none=>khh id k b
 |k,.loop b=>khh id (.lp b::k) b
 |_,_=>none
def kcm (fn:AFn) (id:Nat):List Fr:=match khh id [] fn.body with
 |some (k,_)=>k
 |none=>[]
def kcl (fn:AFn) (id:Nat):AC:=match khh id [] fn.body with
 |some (_,.loop b)=>b
 |_=> .skip
def kal (ts fs:List AV) (os:List (Nat×List (List AV))) (σ:Nat->Nat) (lo:Nat):Val where
 v:=fun fl i=>if fl then ts.getD i (.bool false) else if i<BIG then fs.getD i .nilp else match os[(i - BIG) / 1000]? with
  |some (sz,l)=>if i % 1000=sz then .im l false else .im [] false
  |none=> .im [] false
 σ:=σ
 lo:=lo
def AllP {α:Type} (P:α->Prop):List α->Prop
 | []=>True
 |a::as=>P a/\AllP P as
theorem AllP.mem {α:Type} {P:α->Prop}: ∀ {l:List α},AllP P l-> ∀ a ∈ l,P a
 | [],_,_,h=>by cases h
 |b::l,h,a,ha=>by
  rcases yaq.1 ha with rfl |ha
  ·exact h.1
  ·exact AllP.mem h.2 a ha
theorem AllP.append {α:Type} {P:α->Prop}: ∀ {l m:List α},AllP P l->AllP P m->AllP P (l++m)
 | [],_,_,h=>h
 |_::_,_,h,k=>⟨h.1,AllP.append h.2 k⟩
def OkT (v:AV):Prop:=kda v=true/\v.flat=true/\AV.beq v v=true
def OkF (v:AV):Prop:=kda v=true/\v.flat=false/\AV.beq v v=true
def OkO (p:Nat×List (List AV)):Prop:=(∀ e ∈ p.2,e.length=p.1)/\p.2.flatten.all kda=true/\ket p.2 p.2=true
structure Enc {α:Type} (e:α->List AV) (sz:Nat):Prop where
 len: ∀ x,(e x).length=sz
 plain: ∀ x,(e x).all kda=true
 self: ∀ x,kcy (e x) (e x)=true
theorem Enc.selfLL {α:Type} {e:α->List AV} {sz:Nat} (h:Enc e sz): ∀ l:List α,ket (l.map e) (l.map e)=true
 | []=>rfl
 |x::l=>by simp only[List.map_cons,ket,yaf];exact⟨h.self x,h.selfLL l⟩
theorem OkT.int (k:IntKind) (n:Int):OkT (.int k n):=⟨rfl,rfl,by simp[AV.beq]⟩
theorem OkT.bool (b:Bool):OkT (.bool b):=⟨rfl,rfl,by simp[AV.beq]⟩
theorem OkT.str (b:List UInt8):OkT (.str b):=⟨rfl,rfl,by simp[AV.beq]⟩
theorem OkF.im {α:Type} {e:α->List AV} {sz:Nat} (h:Enc e sz) (l:List α) (b:Bool):OkF (.im (l.map e) b):=⟨rfl,rfl,by simp only[AV.beq,yaf,h.selfLL l,beq_self_eq_true,and_self]⟩
theorem OkF.ip {α:Type} {e:α->List AV} {sz:Nat} (h:Enc e sz) (x:α) (o:Nat):OkF (.ip (e x) o):=⟨rfl,rfl,by simp only[AV.beq,yaf,h.self x,beq_self_eq_true,and_self]⟩
theorem OkO.own {α:Type} {e:α->List AV} {sz:Nat} (h:Enc e sz) (l:List α):OkO (sz,l.map e):=⟨fun x hx=>by
 obtain⟨y,_,rfl⟩:=yas.1 hx;exact h.len y,yai.2 fun y hy=>by
 obtain⟨x,hx,hy⟩:=List.mem_flatten.1 hy;obtain⟨z,_,rfl⟩:=yas.1 hx;exact yai.1 (h.plain z) y hy,h.selfLL l⟩
theorem kri {P:AV->Prop} {d:AV} (hd:P d) {l:List AV} (h:AllP P l) (i:Nat):P (l.getD i d):=by
 rw[yab];cases e:l[i]? with
 |none=>exact hd
 |some v=>exact h.mem v (List.mem_of_getElem? e)
def FOp (ρ:Val) (p:AOp×AV):Prop:=∀ s:St,opA s (p.1.gmO ρ)=some (gm ρ p.2,s)
theorem k97 {ρ:Val} {l:List (AOp×AV)} (h:AllP (FOp ρ) l):kcq ρ l:=h.mem
def kpm (ρ:Val) (p:AFact):Prop:=AHold ρ p.own p.sz p.by_ p.b p.x p.k
def k5m (ρ:Val) (p:NFact):Prop:=NHold ρ p.sz p.by_ p.z p.b p.n p.k
def kwp [Gl] (F:Nat->Option AFn) (ρ:Val) (p:Nat×List AV×AV):Prop:=kak F p.1 (p.2.1.map (gm ρ)) (gm ρ p.2.2)
section
variable {ρ:Val}
theorem fT {x:AV} {b c:Bool} (hx:gm ρ x= .bool b) (h:b=c):FOp ρ (.mov (.c x),.bool c):=fun s=>by
 subst h;simp only[AOp.gmO,AOp.mapO,yao,opA,yau,hx,gm]
theorem k8h {α:Type} {e:α->List AV} {x r:AV} {l:List α} {b:Bool} (hx:gm ρ x= .im (l.map e) b) (hr:gm ρ r= .int .i64 (l.length:Int)):FOp ρ (.len 0 (.c x),r):=fun s=>by
 simp only[AOp.gmO,AOp.mapO,yao,opA,yau,hx,hr,yan]
theorem fIa {α:Type} {e:α->List AV} {sz:Nat} (he:Enc e sz) {x i:AV} {r:List AV} {l:List α} {b:Bool} {k:IntKind} {n:Int} {y:α} (hx:gm ρ x= .im (l.map e) b) (hi:gm ρ i= .int k n) (h0:0<=n) (hy:l[n.toNat]? =some y) (hr:gm ρ (.ip r 0)= .ip (e y) 0):FOp ρ (.iaS sz (.c x) (.c i),.ip r 0):=fun s=>by
 simp only[AOp.gmO,AOp.mapO,yao,opA,yau,hx,hi,hr,kcz,iq h0,yac,hy,yad,he.len,if_true]
def ka3 (s:Option (AV×Int)) (d:Int):Int:=match s with
 |some p=>p.2
 |none=>d
def kki (s:Option (AV×Int)):Option AO:=s.map fun p=> .c p.1
def kpq (ρ:Val) (s:Option (AV×Int)):Prop:=match s with
 |some p=>∃ k,gm ρ p.1= .int k p.2
 |none=>True
theorem kzo {s:Option (AV×Int)} (h:kpq ρ s) {d:Nat} (h0:0<=ka3 s d) (st:St):kcv st d ((kki s).map (yao ρ))=some (ka3 s d).toNat:=by
 cases s with
 |none=>simp[kki,kcv,ka3]
 |some p=>
  obtain⟨k,hk⟩:=h;simp only[kki,yad,kcv,yao,yau,hk,ka3] at h0 ⊢;simp[kcz,h0]
theorem keh {α:Type} {e:α->List AV} {sz by_ k:Nat} {own:Bool} {b x:AV} {l m:List α} {cb cx:Bool} (hb:gm ρ b= .im (l.map e) cb) (hx:gm ρ x= .im (m.map e) cx) (hk:ρ.v false k= .im ((l++m).map e) false)
  (hroom:(l.length+m.length)*by_<=kaq/\l.length+m.length<=kaq) (ho:own=true\/cb=true/\m≠[]) (hbig:BIG<=k) (hs:k % 1000=sz) (hp:0<sz):kpm ρ ⟨own,sz,by_,b,x,k⟩:=by
 refine⟨⟨_,_,_,hb,.inl ⟨_,hx⟩,by rw[hk,yat],by simpa using hroom.1,by simpa using hroom.2,fun hn=> ?_⟩,hbig,hs,hp⟩;rcases ho with h |h
 ·rw[h] at hn;cases hn
 ·exact⟨h.1,fun e=>h.2 (by simpa using e)⟩
theorem kb3:Enc eB 1:=⟨fun _=>rfl,fun _=>by simp[eB,kda],fun b=>by simp[eB,kcy,AV.beq]⟩
theorem kb5 {by_ k:Nat} {own:Bool} {b x:AV} {l t:List UInt8} {cb:Bool} (hb:gm ρ b= .im (l.map eB) cb) (hx:gm ρ x= .str t) (hk:ρ.v false k= .im ((l++t).map eB) false)
  (hroom:(l.length+t.length)*by_<=kaq/\l.length+t.length<=kaq) (ho:own=true\/cb=true/\t≠[]) (hbig:BIG<=k) (hs:k % 1000=1):kpm ρ ⟨own,1,by_,b,x,k⟩:=by
 refine⟨⟨_,_,_,hb,.inr ⟨rfl,t,hx,rfl⟩,by rw[hk,yat],by simpa using hroom.1,by simpa using hroom.2,fun hn=> ?_⟩,hbig,hs,Nat.one_pos⟩;rcases ho with h |h
 ·rw[h] at hn;cases hn
 ·exact⟨h.1,fun e=>h.2 (by simpa using e)⟩
end
section
variable {ρ:Val}
abbrev w64 (n:Int):Int:=IntKind.i64.wrap n
theorem nT {P:Prop} [Decidable P] (h:P):(!decide P)=false:=by simp[h]
theorem nF {P:Prop} [Decidable P] (h: ¬P):(!decide P)=true:=by simp[h]
theorem bF {b:Bool} (h: ¬b=true):b=false:=by simpa using h
theorem kga {α:Type} {e:α->List AV} {id j z:Nat} {l:List α} {r:AV} (hj:BIG<=j) (hv:ρ.v false j= .im (l.map e) false) (hr:gm ρ r= .int .i64 (l.length:Int)):FOp ρ (.len 0 (.c (.sl id 0 j z none)),r):=fun s=>by
 simp only[AOp.gmO,AOp.mapO,yao,opA,yau,gm,kc9 hj hv,hr,yan]
theorem kc2 {len sz id o j:Nat} {i:AV} {k:IntKind} {n:Int} (hi:gm ρ i= .int k n) (h:n=(j:Nat)) (hj:j<len):FOp ρ (.iaA len sz (.c (.ptr id o)) (.c i),.ptr id (o+j*sz)):=fun s=>by
 subst h;simp[AOp.gmO,AOp.mapO,yao,opA,yau,gm,hi,kcz,hj]
theorem kqz {g:Bool} {len sz j:Nat} {cs:List AV} {l:List AV} {i r:AV} {k:IntKind} {n:Int} (hi:gm ρ i= .int k n) (h:n=(j:Nat)) (hj:j<len) (hl:kb2 (gmL ρ cs) (j*sz) sz=some l) (hr:kdh g l=some (gm ρ r)):FOp ρ (.ixA g len sz (.c (.agg cs)) (.c i),r):=fun s=>by
 subst h;simp[AOp.gmO,AOp.mapO,yao,opA,yau,gm,hi,kcz,hj,hl,hr]
theorem kq0 {k:IntKind} {a b:Int} {x y r:AV} (hx:gm ρ x= .int k a) (hy:gm ρ y= .int k b) (h:b≠0) (hr:gm ρ r= .int k (k.wrap (a.tdiv b))):FOp ρ (.bin .quo (.c x) (.c y),r):=fun s=>by
 simp[AOp.gmO,AOp.mapO,yao,opA,yau,hx,hy,hr,kd0,ke1,kei,h]
theorem kq1 {k:IntKind} {a b:Int} {x y r:AV} (hx:gm ρ x= .int k a) (hy:gm ρ y= .int k b) (h:b≠0) (hr:gm ρ r= .int k (a.tmod b)):FOp ρ (.bin .rem (.c x) (.c y),r):=fun s=>by
 simp[AOp.gmO,AOp.mapO,yao,opA,yau,hx,hy,hr,kd0,ke1,kei,h]
end
theorem khi {α:Type} (l:List α) (i:Nat):l.drop i=(l.drop i).take (l.length - i):=by rw[List.take_of_length_le (by simp)]
def ofL {α:Type}:List (Nat×α)->T α
 | []=> .nil
 |(i,v)::l=>(ofL l).put i (some v)
theorem kbw {α:Type}: ∀ {l:List (Nat×α)} {t:Nat} {v:α},(ofL l).get t=some v->(t,v) ∈ l
 | [],t,v,h=>by rw[ofL,T.get_nil] at h;cases h
 |(i,w)::l,t,v,h=>by
  rw[ofL,T.get_put] at h;split at h
  ·rename_i e;cases h;subst e;simp
  ·exact List.mem_cons_of_mem _ (kbw h)
namespace T
def dom {α:Type}:T α->List Nat
 |nil=>[]
 |node l v r=>(if v.isSome then [0] else [])++((dom l).map fun j=>2*j+1)++(dom r).map fun j=>2*j+2
theorem mem_dom {α:Type}: ∀ {t:T α} {n:Nat} {v:α},t.get n=some v->n ∈ t.dom
 |nil,n,v,h=>by rw[get_nil] at h;cases h
 |node l w r,n,v,h=>by
  unfold get at h;unfold dom;simp only[List.mem_append,yas];split at h
  ·rename_i h0;left;left;rw[h,h0];simp
  ·split at h
   ·exact .inl (.inr ⟨n / 2,mem_dom h,by omega⟩)
   ·exact .inr ⟨n / 2 - 1,mem_dom h,by omega⟩
end T
def sig (σ:Nat->Nat) (ids:List Nat) (nx:Nat) (j:Nat):Nat:=if j<ids.length then σ (ids.getD j 0) else σ (nx+(j - ids.length))
theorem kv3 {σ:Nat->Nat} (hσ: ∀ i j,σ i=σ j->i=j) {ids:List Nat} {nx:Nat} (hn:ids.Nodup) (hl: ∀ i ∈ ids,i<nx): ∀ i j,sig σ ids nx i=sig σ ids nx j->i=j:=fun i j h=>by
 unfold sig at h;have hg: ∀ i,i<ids.length->ids.getD i 0 ∈ ids:=fun i hi=>by rw[yab,yae hi];simp
 split at h
 ·rename_i hi;split at h
  ·rename_i hj;have:=hσ _ _ h;rw[yab,yab,yae hi,yae hj] at this;simp only[Option.getD_some] at this;exact(List.getElem_inj hn).1 this
  ·have:=hσ _ _ h;have:=hl _ (hg i hi);omega
 ·split at h
  ·rename_i hj;have:=hσ _ _ h;have:=hl _ (hg j hj);omega
  ·have:=hσ _ _ h;omega
def krp (ts ids:List Nat):Option Stop->Option (List Fr×AC×List AV×List Blk×Nat)
 |some (.cut k a s)=>match mapO s.r.get ts,mapO s.h.get ids with
  |some vs,some bs=>if s.h.dom.all (fun i=>decide (i<s.nx)) && (decide ids.Nodup && ids.all (fun i=>decide (i<s.nx))) then some (k,a,vs,bs,s.nx) else none
  |_,_=>none
 |_=>none
def idx {α:Type}:Nat->List α->List (Nat×α)
 |_,[]=>[]
 |i,a::as=>(i,a)::idx (i+1) as
theorem klm {α:Type}: ∀ {l:List α} {i j:Nat} {a:α},(j,a) ∈ idx i l->i<=j/\l[j - i]? =some a
 | [],_,_,_,h=>by cases h
 |b::l,i,j,a,h=>by
  unfold idx at h;rcases yaq.1 h with h |h
  ·cases h;simp
  ·obtain⟨h1,h2⟩:=klm h;refine⟨by omega,?_⟩;rw[show j - i=(j - (i+1))+1 by omega,yam];exact h2
theorem kls {α β:Type} {f:α->Option β}: ∀ {l:List α} {r:List β},mapO f l=some r->r.length=l.length/\ ∀ (j:Nat) (a:α),l[j]? =some a-> ∃ b,r[j]? =some b/\f a=some b
 | [],r,h=>by cases h;exact⟨rfl,fun j a h=>by simp at h⟩
 |a::l,r,h=>by
  unfold mapO at h;split at h
  ·cases h
  ·rename_i b hb;split at h
   ·cases h
   ·rename_i bs hbs;cases h;obtain⟨h1,h2⟩:=kls hbs;refine⟨by simp[h1],fun j x hx=> ?_⟩;cases j with
    |zero=>simp at hx;subst hx;exact⟨b,rfl,hb⟩
    |succ j=>simp only[yam] at hx ⊢;exact h2 j x hx
def kaa (ts:List Nat) (vs:List AV) (bs:List Blk):St:={r:=ofL (ts.zip vs),h:=ofL (idx 0 bs),nx:=bs.length}
section
variable {G:Gl} {F:Nat->Option AFn} {ρ:Val} {Φ:Facts} {stops:List Nat}
theorem k5r (H:Hold F ρ Φ) {n:Nat} {fn:AFn} {k k1:List Fr} {cfg:Cfg} {a:AC} {s c:St} {r:AV} (S:Sim ρ s c) {ts ids:List Nat} {vs:List AV} {bs:List Blk} {nx:Nat}
  (h:krp ts ids (kby Φ F stops n k cfg s)=some (k1,a,vs,bs,nx)) (ws:List AV) (cs:List Blk) (ρ':Val) {X:List AV} {Y:List Blk}
  (hσ:ρ'.σ=sig ρ.σ ids nx) (hlo:ρ'.lo=cs.length) (hh:ρ'.hid=ρ.hid) (hv1:vs.map (gm ρ)=X) (hv2:ws.map (gm ρ')=X) (hb1:bs.map (gB ρ)=Y) (hb2:cs.map (gB ρ')=Y)
  (hj: ∀ c1,(∀ i j,ρ'.σ i=ρ'.σ j->i=j)->Sim ρ' (kaa ts ws cs) c1->J F fn k1 (.code a) c1 r):J F fn k cfg c r:=by
 have hv:=hv1.trans hv2.symm;have hb:=hb1.trans hb2.symm;unfold krp at h;split at h
 ·rename_i k2 a2 s2 hx;split at h
  ·rename_i vs2 bs2 h1 h2;split at h
   ·rename_i hc;cases h;simp only[yaf,decide_eq_true_eq] at hc;obtain⟨hd,hn,hl⟩:=hc;have hl': ∀ i ∈ ids,i<s2.nx:=fun i hi=>by simpa using yai.1 hl i hi
    obtain⟨v1,v2⟩:=kls h1;obtain⟨b1,b2⟩:=kls h2;have hcl:cs.length=ids.length:=by rw[←b1];have:=congrArg List.length hb;simpa using this.symm
    refine k5o H S hx fun c1 S1=>hj c1 (by rw[hσ];exact kv3 H.good.1.inj hn hl') ?_
    have hinj: ∀ i j,ρ'.σ i=ρ'.σ j->i=j:=by rw[hσ];exact kv3 H.good.1.inj hn hl'
    refine⟨fun t v hv'=> ?_,⟨fun id k hk=> ?_,fun id hid hno=> ?_,hinj,fun p hp=> ?_⟩,fun i=> ?_,?_⟩
    ·have hm:=kbw (show(ofL (ts.zip ws)).get t=some v from hv');obtain⟨j,hj1⟩:=yaj hm;rw[yak] at hj1;obtain⟨u,hu1,hu2⟩:=v2 j t hj1.1;have e1:=congrArg (·[j]?) hv;simp only[yac,hu1,hj1.2,yad,yah] at e1;rw[S1.regs t u hu2,e1]
    ·have hm:=kbw (show(ofL (idx 0 cs)).get id=some k from hk);obtain⟨_,hj1⟩:=klm hm;rw[yaw] at hj1;have hlt:id<ids.length:=by rw[←hcl];exact(yal.1 hj1).1
     obtain⟨u,hu1,hu2⟩:=b2 id (ids.getD id 0) (by rw[yab,yae hlt];rfl);have e1:=congrArg (·[id]?) hb;simp only[yac,hu1,hj1,yad,yah] at e1;have:ρ'.σ id=ρ.σ (ids.getD id 0):=by rw[hσ];unfold sig;rw[iq hlt]
     rw[this,S1.heap.get _ _ hu2,e1]
    ·rw[hlo] at hid;have hge: ¬id<ids.length:=by omega
     have:ρ'.σ id=ρ.σ (s2.nx+(id - ids.length)):=by rw[hσ];unfold sig;rw[ir hge]
     rw[this];refine S1.heap.absent _ (Nat.le_trans S1.lo (Nat.le_add_right _ _)) ?_;cases hg:s2.h.get (s2.nx+(id - ids.length)) with
     |none=>rfl
     |some k=>
      have:=yai.1 hd _ (T.mem_dom hg);simp at this;omega
    ·rw[hh] at hp;refine⟨(S1.heap.hid p hp).1,fun i=> ?_⟩;rw[hσ];unfold sig;split
     ·exact(S1.heap.hid p hp).2 _
     ·exact(S1.heap.hid p hp).2 _
    ·show ρ'.σ (cs.length+i)=c1.nx+i;rw[hσ];unfold sig;rw[ir (by omega),show s2.nx+(cs.length+i - ids.length)=s2.nx+i by omega];exact S1.nxs i
    ·rw[hlo];exact yag _
   ·cases h
  ·cases h
 ·cases h
theorem Sim.more {ρ ρ':Val} {ts:List Nat} {ws:List AV} {cs:List Blk} {X:List AV} {Y:List Blk} {c:St} {s0:Nat->Nat} {n0:Nat} (S:Sim ρ (kaa ts ws cs) c) (hσ1:ρ.σ=s0) (hσ2:ρ'.σ=s0) (hlo1:ρ.lo=n0) (hlo2:ρ'.lo=n0) (hh:ρ'.hid=ρ.hid) (hv1:ws.map (gm ρ)=X) (hb1:cs.map (gB ρ)=Y) (hv2:ws.map (gm ρ')=X) (hb2:cs.map (gB ρ')=Y):Sim ρ' (kaa ts ws cs) c:=by
 have hv:=hv1.trans hv2.symm;have hb:=hb1.trans hb2.symm;have hσ:=hσ2.trans hσ1.symm;have hlo:=hlo2.trans hlo1.symm;refine⟨fun t v h=> ?_,⟨fun id k hk=> ?_,fun id h1 h2=> ?_,by rw[hσ];exact S.heap.inj,by rw[hσ,hh];exact S.heap.hid⟩,by rw[hσ];exact S.nxs,by rw[hlo];exact S.lo⟩
 ·have hm:=kbw (show(ofL (ts.zip ws)).get t=some v from h);have hw:=List.of_mem_zip hm;obtain⟨j,hj⟩:=yaj hw.2;have e1:=congrArg (·[j]?) hv;simp only[yac,hj,yad,yah] at e1;rw[S.regs t v h,e1]
 ·have hm:=kbw (show(ofL (idx 0 cs)).get id=some k from hk);obtain⟨_,hj⟩:=klm hm;have e1:=congrArg (·[id - 0]?) hb;simp only[yac,hj,yad,yah] at e1;rw[hσ,S.heap.get _ _ hk,e1]
 ·rw[hσ];exact S.heap.absent id (by rw[←hlo];exact h1) h2
def kai (F:Nat->Option AFn) (f:Nat):AFn:=match F f with
 |some fn=>fn
 |none=>⟨0,[],.skip,false⟩
theorem kbq {f:Nat} (hF:F f=some (kai F f)) {xs bs:List AV} {r:AV} (hσ:ρ.σ=fun i=>i) (hlo:ρ.lo=0) (hb:xs.map (gm ρ)=bs) (h: ∀ c,Sim ρ (kaa (yar xs.length) xs []) c->J F (kai F f) [] (.code (kai F f).body) c r) (hX:Gl.X f=none:=by kernel_rfl) (hh:ρ.hid=[]:=by rfl):kak F f bs r:=by
 rw[←hb];refine qou hF hX (h _ ⟨fun t v hv=> ?_,⟨fun id k hk=> ?_,fun id _ _=>T.get_nil _,fun i j e=>by rw[hσ] at e;exact e,fun p hp=>by rw[hh] at hp;cases hp⟩,fun i=>by rw[hσ];rfl,by rw[hlo];exact Nat.zero_le _⟩)
 ·have hm:=kbw (show(ofL ((yar xs.length).zip xs)).get t=some v from hv);obtain⟨j,hj⟩:=yaj hm;rw[yak] at hj;have hlt:j<xs.length:=(yal.1 hj.2).1;have hjt:j=t:=by
   have:=hj.1;rw[List.getElem?_range hlt] at this;exact Option.some.inj this
  subst hjt;show(inits 0 (xs.map (gm ρ)) .nil).get j=some (gm ρ v);rw[ki2];simp only[Nat.zero_le,true_and,Nat.zero_add,yaw,yan,hlt,if_true,yac,hj.2,yad]
 ·rw[show(kaa (yar xs.length) xs []).h.get id=none from T.get_nil _] at hk;cases hk
end
theorem kaf {β:Type} {P:Prop} [Decidable P] {a b:Option β} {r:β} {Q:Prop} (h:(if P then a else b)=some r) (h1:P->a=some r->Q) (h2: ¬P->b=some r->Q):Q:=by
 by_cases hp:P
 ·rw[iq hp] at h;exact h1 hp h
 ·rw[ir hp] at h;exact h2 hp h
def kay {α β:Type} (e:α) (f:α->Option β):Option β:=f e
theorem kbb {α β:Type} {o:Option α} {f:α->Option β} {r:β} {Q:Prop} (h:o.bind f=some r) (h1: ∀ x,o=some x->f x=some r->Q):Q:=by
 cases o with
 |none=>cases h
 |some x=>exact h1 x rfl h
theorem kbh {α β:Type} {e:α} {f:α->Option β} {r:β} {Q:Prop} (h:kay e f=some r) (h1: ∀ x,x=e->f x=some r->Q):Q:=h1 e rfl h
theorem kac {β:Type} {P:Prop} [Decidable P] {a:Option β} {r:β} {Q:Prop} (h:(if P then a else none)=some r) (h1:P->a=some r->Q):Q:=by
 by_cases hp:P
 ·rw[iq hp] at h;exact h1 hp h
 ·rw[ir hp] at h;cases h
theorem AllP.n {α:Type} {P:α->Prop}:AllP P []:=trivial
theorem AllP.c {α:Type} {P:α->Prop} {a:α} {l:List α} (h:P a) (t:AllP P l):AllP P (a::l):=⟨h,t⟩
theorem k33 {ρ:Val}: ∀ {l:List (AOp×AV)},(∀ s:St,l.map (fun p=>opA s (p.1.gmO ρ))=l.map (fun p=>some (gm ρ p.2,s)))->AllP (FOp ρ) l
 | [],_=>trivial
 |_::_,h=>⟨fun s=>(yav (h s)).1,k33 fun s=>(yav (h s)).2⟩
def vT (i n:Nat):List AV:=(yar n).map fun j=> .var true (i+j)
def vt (i:Nat):AV:= .var true i
def vf (i:Nat):AV:= .var false i
def cT (i:Nat):AO:= .c (.var true i)
def cI (n:Int):AO:= .c (.int .i64 n)
def isT:AV->Bool
 | .int _ _=>true
 | .bool _=>true
 | .str _=>true
 |_=>false
theorem okL: ∀ {l:List AV},l.all isT=true->AllP OkT l
 | [],_=>trivial
 |x::l,h=>by
  simp only[List.all_cons,yaf] at h;refine⟨?_,okL h.2⟩;cases x <;> simp only[isT,yap] at h <;> first |exact .int _ _ |exact .bool _ |exact .str _ |exact h.1.elim
theorem sC {G:Gl} {F:Nat->Option AFn} {ρ:Val} {f:Nat} {as bs:List AV} {r q:AV} (h:kak F f bs q) (h1:as.map (gm ρ)=bs) (h2:gm ρ r=q):kwp F ρ (f,as,r):=by
 unfold kwp;rw[h1,h2];exact h
theorem kbm {ρ:Val} {a b:List UInt8} {x y r:AV} (hx:gm ρ x= .str a) (hy:gm ρ y= .str b) (h:a.length+b.length<=140737488355328) (hr:gm ρ r= .str (a++b)):FOp ρ (.bin .add (.c x) (.c y),r):=fun s=>by
 simp[AOp.gmO,AOp.mapO,yao,opA,yau,hx,hy,hr,kd0,kkv,h]
end Go.Proofs.Hz
