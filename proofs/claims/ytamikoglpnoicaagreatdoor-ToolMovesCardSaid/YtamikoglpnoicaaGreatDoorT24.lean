/-
  Chapter 15: rows of syscalls: the same, written. And: Chapter 20: walks through the functions of syscalls' texts (part j), written by a program of our own (wip/tools).
  Conditions: none.
-/
import Derived.Test.YtamikoglpnoicaaGreatDoorT23
import Derived.Lib.ItoaLen
open Go Go.Proofs
namespace Go.Proofs.Hz
theorem kce {i n:Nat} (h:i<n) (hn:n≤1000000):w64 ((i:Int)+1)=((i+1:Nat):Int):=by
 unfold w64 IntKind.wrap
 simp[IntKind.signed,IntKind.bits]
 omega
theorem kkd (x y:Cl):(!((x.no:Int) == y.no && ((x.a:Int) == y.a && ((x.b:Int) == y.b && true))))=true↔x≠y:=by
 constructor
 ·intro h e
  subst e
  simp at h
 ·intro h
  simp only[Bool.and_true,Bool.not_eq_true',Bool.and_eq_false_iff,beq_eq_false_iff_ne]
  by_cases h1:x.no=y.no
  ·by_cases h2:x.a=y.a
   ·by_cases h3:x.b=y.b
    ·exact absurd (Cl.ext' h1 h2 h3) h
    ·exact .inr (.inr h3)
   ·exact .inr (.inl h2)
  ·exact .inl h1
theorem kyb {l m:List Cl} {i:Nat} {x y:Cl} (hx:l[i]? =some x) (hy:m[i]? =some y) (h:x≠y):l≠m:=fun e=>by subst e;rw[hx] at hy;exact h (Option.some.inj hy)
theorem k9x (l m:List Cl) (bl bm:Bool) (hl:l.length=m.length) (hn:l.length≤1000000): ∀ (k i:Nat),i+k=l.length→l.take i=m.take i→kfy (k+1) l bl m bm i=some (.bool (eqC l m)):=by
 intro k
 induction k with
 |zero=>
  intro i hi ht
  unfold kfy
  rw[if_neg (by omega)]
  have:l=m:=by
   have h1:l.take i=l:=List.take_of_length_le (by omega)
   have h2:m.take i=m:=List.take_of_length_le (by omega)
   rw[←h1,←h2];exact ht
  simp[eqC,this]
 |succ k ih=>
  intro i hi ht
  have h1:i<l.length:=by omega
  have h2:i<m.length:=by omega
  unfold kfy
  rw[if_pos (by omega),if_pos (by omega)]
  simp only[Int.toNat_natCast,List.getElem?_eq_getElem h1,List.getElem?_eq_getElem h2,Option.bind_some]
  by_cases hc:l[i]=m[i]
  ·rw[if_neg (fun h=>(kkd _ _).1 h hc),kce h1 hn]
   refine ih (i+1) (by omega) ?_
   rw[List.take_succ_eq_append_getElem h1,List.take_succ_eq_append_getElem h2,ht,hc]
  ·rw[if_pos ((kkd _ _).2 hc)]
   have:=kyb (List.getElem?_eq_getElem h1) (List.getElem?_eq_getElem h2) hc
   simp[eqC,this]
theorem k9z (l m:List Cl) (bl bm:Bool) (hn:l.length≤1000000):kl4 (l.length+1) l bl m bm=some (.bool (eqC l m)):=by
 unfold kl4
 by_cases h:l.length=m.length
 ·rw[if_pos (by omega)]
  exact k9x l m bl bm h hn l.length 0 (by omega) (by simp)
 ·rw[if_neg (by omega)]
  have:l≠m:=fun e=>h (e ▸ rfl)
  simp[eqC,this]
theorem kxk (l m:List Cl) (bl bm:Bool) (hl:l.length=m.length) (hn:l.length≤1000000): ∀ (k i:Nat),i+k=l.length→l.take i=m.take i→kf6 (k+1) l bl m bm i=some (.bool (eqC l m)):=by
 intro k
 induction k with
 |zero=>
  intro i hi ht
  unfold kf6
  rw[if_neg (by omega)]
  have:l=m:=by
   have h1:l.take i=l:=List.take_of_length_le (by omega)
   have h2:m.take i=m:=List.take_of_length_le (by omega)
   rw[←h1,←h2];exact ht
  simp[eqC,this]
 |succ k ih=>
  intro i hi ht
  have h1:i<l.length:=by omega
  have h2:i<m.length:=by omega
  unfold kf6
  rw[if_pos (by omega),if_pos (by omega)]
  simp only[Int.toNat_natCast,List.getElem?_eq_getElem h1,List.getElem?_eq_getElem h2,Option.bind_some]
  by_cases hc:l[i]=m[i]
  ·rw[if_neg (fun h=>(kkd _ _).1 h hc),kce h1 hn]
   refine ih (i+1) (by omega) ?_
   rw[List.take_succ_eq_append_getElem h1,List.take_succ_eq_append_getElem h2,ht,hc]
  ·rw[if_pos ((kkd _ _).2 hc)]
   have:=kyb (List.getElem?_eq_getElem h1) (List.getElem?_eq_getElem h2) hc
   simp[eqC,this]
theorem qc2 (l m:List Cl) (bl bm:Bool) (hn:l.length≤1000000):kmd (l.length+1) l bl m bm=some (.bool (eqC l m)):=by
 unfold kmd
 by_cases h:l.length=m.length
 ·first
   |(rw[if_pos (by omega)];exact kxk l m bl bm h hn l.length 0 (by omega) (by simp))
   |(rw[if_neg (by omega)];exact kxk l m bl bm h hn l.length 0 (by omega) (by simp))
 ·have:l≠m:=fun e=>h (e ▸ rfl)
  first
   |(rw[if_neg (by omega)];simp[eqC,this])
   |(rw[if_pos (by omega)];simp[eqC,this])
theorem qh3 (c:Cl):kc7 c=true↔(0≤c.no∧c.no≤9)∧(-4611686018427387904≤c.a∧c.a≤4611686018427387904)∧ -4611686018427387904≤c.b∧c.b≤4611686018427387904:=by
 simp[kc7,inW]
theorem qdw (l:List Cl) (bl:Bool) (hn:l.length≤1000000): ∀ (k i:Nat),i+k=l.length→(l.take i).all kc7=true→kf8 (k+1) l bl i=some (.bool (kcg l)):=by
 intro k
 induction k with
 |zero=>
  intro i hi ht
  unfold kf8
  rw[if_neg (by omega)]
  have h1:l.take i=l:=List.take_of_length_le (by omega)
  rw[h1] at ht
  simp only[kcg,ht]
 |succ k ih=>
  intro i hi ht
  have h1:i<l.length:=by omega
  have bad:kc7 l[i]≠true→some (AV.bool false)=some (.bool (kcg l)):=fun h=>by
   have:kcg l=false:=by
    cases hw:kcg l with
    |false=>rfl
    |true=>exact absurd (List.all_eq_true.1 hw _ (List.getElem_mem h1)) h
   rw[this]
  unfold kf8
  rw[if_pos (by omega),if_pos (by omega)]
  simp only[Int.toNat_natCast,List.getElem?_eq_getElem h1,Option.bind_some]
  have hi:=qh3 l[i]
  by_cases hc:kc7 l[i]=true
  ·obtain⟨⟨c1,c2⟩,⟨c3,c4⟩,c5,c6⟩:=hi.1 hc
   rw[if_neg (by omega),if_neg (by omega),if_neg (by omega),if_neg (by omega),if_neg (by omega),if_neg (by omega),kce h1 hn]
   refine ih (i+1) (by omega) ?_
   rw[List.take_succ_eq_append_getElem h1,List.all_append,ht]
   simp[hc]
  ·have hb:=bad hc
   (repeat' split) <;> first |exact hb |(exfalso;exact hc (hi.2 (by omega)))
theorem qdy (l:List Cl) (bl:Bool) (hn:l.length≤1000000):kmf (l.length+1) l bl=some (.bool (kcg l)):=by
 unfold kmf
 exact qdw l bl hn l.length 0 (by omega) (by simp)
theorem kiz (n:Int):n=0∨n=1∨n=2∨n=3∨n=4∨n=5∨n=6∨n=7∨n=8∨n=9∨(n<0∨10≤n):=by omega
theorem qc9 {no:Int} {x:List UInt8} (h:kj1 no=some x):kme no=some (.str x):=by
 unfold kj1 at h
 split at h
 ·cases h
  rename_i hn
  unfold kme
  rcases kiz no with h |h |h |h |h |h |h |h |h |h |h
  case inr.inr.inr.inr.inr.inr.inr.inr.inr.inr=>omega
  all_goals (subst h;rfl)
 ·cases h
theorem k2b (l m:List Cl) (bl bm:Bool) (h:l.length≤1000000):Spec FF 59 [.im (l.map eC) bl,.im (m.map eC) bm] (.bool (eqC l m)):=k90 l bl m bm (k9z l m bl bm h)
theorem qfa (l m:List Cl) (bl bm:Bool) (h:l.length≤1000000):Spec FF 37 [.im (l.map eC) bl,.im (m.map eC) bm] (.bool (eqC l m)):=qc3 l bl m bm (qc2 l m bl bm h)
theorem kzh (l:List Cl) (bl:Bool) (h:l.length≤1000000):Spec FF 17 [.im (l.map eC) bl] (.bool (kcg l)):=qdz l bl (qdy l bl h)
theorem qhp {no:Int} {x:List UInt8} (h:kj1 no=some x):Spec FF 41 [.int .i64 no] (.str x):=qda no (qc9 h)
end Go.Proofs.Hz
open Go Go.Proofs
namespace Go.Proofs.Hz
def kd5:Nat→Int→List UInt8→Int→Option AV
 |0,_,_,_=>none
 |fu+1,n,p0,p1=>
  if p1=0 then
   if(p0 == [])=true then
    letB ((w64 (48+(if(IntKind.wrap .i64 (0 - (Int.tmod p1 10))) > (Int.tmod p1 10) then(IntKind.wrap .i64 (0 - (Int.tmod p1 10))) else(Int.tmod p1 10))))) fun x2=>
    if List.length [UInt8.ofNat (Int.toNat (IntKind.wrap .u8 x2))]+List.length p0≤140737488355328 then letB (([UInt8.ofNat (Int.toNat (IntKind.wrap .u8 x2))]++p0)) fun x4=>
    kd5 fu n x4 (IntKind.wrap .i64 (Int.tdiv p1 10)) else none
   else
    if n<0 then
     if List.length [45]+List.length p0≤140737488355328 then some (.str ([45]++p0)) else none
    else
     some (.str p0)
  else
   letB ((w64 (48+(if(IntKind.wrap .i64 (0 - (Int.tmod p1 10))) > (Int.tmod p1 10) then(IntKind.wrap .i64 (0 - (Int.tmod p1 10))) else(Int.tmod p1 10))))) fun x1=>
   if List.length [UInt8.ofNat (Int.toNat (IntKind.wrap .u8 x1))]+List.length p0≤140737488355328 then letB (([UInt8.ofNat (Int.toNat (IntKind.wrap .u8 x1))]++p0)) fun x3=>
   kd5 fu n x3 (IntKind.wrap .i64 (Int.tdiv p1 10)) else none
def kwq:List AV:=[(vt 0),(vt 1),(vt 2)]
def kwp:List Blk:=[]
def khz (n:Int) (p0:List UInt8) (p1:Int) (σ:Nat→Nat):Val:=(valL ([.int .i64 n,.str p0,.int .i64 p1]) ([]) [] σ 0)
def qai (n:Int) (p0:List UInt8) (p1:Int) (_σ:Nat→Nat):List AV:=[(.int .i64 n),(.str p0),(.int .i64 p1)]
def qaj (_n:Int) (_p0:List UInt8) (_p1:Int) (_σ:Nat→Nat):List Blk:=[]
theorem kl6 (n:Int) (p0:List UInt8) (p1:Int) (σ:Nat→Nat):kwq.map (gm (khz n p0 p1 σ))=qai n p0 p1 σ:=by kernel_rfl
theorem kl7 (n:Int) (p0:List UInt8) (p1:Int) (σ:Nat→Nat):kwp.map (gB (khz n p0 p1 σ))=qaj n p0 p1 σ:=by kernel_rfl
theorem qal: ∀ (fu:Nat),∀ (n:Int) (p0:List UInt8) (p1:Int) {r0:AV} {z0:St} {σ:Nat→Nat},(∀ i j,σ i=σ j→i=j)→kd5 fu n p0 p1=some r0→Sim (khz n p0 p1 σ) (tmpl [0,3,4] kwq kwp) z0→J FF (fnOf FF 42) (cutK (fnOf FF 42) 0) (.code (.loop (cutB (fnOf FF 42) 0))) z0 r0:=by
 intro fu
 induction fu with
 |zero=>
  intro _ _ _ _ _ _ _ h _
  unfold kd5 at h
  cases h
 |succ fu ih=>
  intro n p0 p1 r0 z0 σ hσ h S
  unfold kd5 at h
  exact kcq (have H:=Tok.start hσ S 0 3 0 0 ([.int .i64 n,.str p0,.int .i64 p1]) ([]) [] (.n) (.n) (kl6 n p0 p1 _) (kl7 n p0 p1 _);have H:=H.t 4 [.bool (!decide (p1=0))]|>.r [(.bin .neq (cT 2) (cI 0),(vt 3))];iteE h (fun h0 h=>have H:=H.t 5 [.bool (p0 == [])]|>.r [(.bin .eql (cT 1) (.c (.str [])),(vt 4))]|>.m 3 false (nT h0);iteE h (fun h1 h=>have H:=H.t 8 [.int .i64 (Int.tmod p1 10),.int .i64 (IntKind.wrap .i64 (0 - (Int.tmod p1 10))),.int .i64 (if(IntKind.wrap .i64 (0 - (Int.tmod p1 10))) > (Int.tmod p1 10) then(IntKind.wrap .i64 (0 - (Int.tmod p1 10))) else(Int.tmod p1 10))]|>.r [(.un .neg (cT 5),(vt 6)),(.mxi (cT 5) (cT 6),(vt 7))]|>.m 4 true h1|>.c (p:=(.bin .rem (cT 2) (cI 10),(vt 5))) (fun _ _ _=>fRem (k:= .i64) (a:=p1) (b:=10) (by kernel_rfl) (by kernel_rfl) (by decide) (by kernel_rfl));letE h (fun x2 h2 h=>have H:=H.t 11 [.int .i64 x2,.int .u8 (IntKind.wrap .u8 x2),.str [UInt8.ofNat (Int.toNat (IntKind.wrap .u8 x2))]]|>.r [(.conv .u8 (cT 8),(vt 9)),(.b2s (.c (.im [[(vt 9)]] true)),(vt 10))]|>.c (p:=(.bin .add (cI 48) (cT 7),(vt 8))) (fun _ _ _=>fun _=>by subst h2;kernel_rfl);reqE h (fun h3 h=>letE h (fun x4 h4 h=>have H:=H.t 13 [.str x4,.int .i64 (IntKind.wrap .i64 (Int.tdiv p1 10))]|>.c (p:=(.bin .add (cT 10) (cT 1),(vt 11))) (fun _ _ _=>fCat (a:=[UInt8.ofNat (Int.toNat (IntKind.wrap .u8 x2))]) (b:=p0) (by kernel_rfl) (by kernel_rfl) h3 (by subst h4;kernel_rfl))|>.c (p:=(.bin .quo (cT 2) (cI 10),(vt 12))) (fun _ _ _=>fQuo (k:= .i64) (a:=p1) (b:=10) (by kernel_rfl) (by kernel_rfl) (by decide) (by kernel_rfl));H.k [0] [0,3,4] [] [(vt 0),(vt 11),(vt 12)] [] 1 (khz n x4 (IntKind.wrap .i64 (Int.tdiv p1 10)) _) (kl6 n x4 (IntKind.wrap .i64 (Int.tdiv p1 10)) _) (kl7 n x4 (IntKind.wrap .i64 (Int.tdiv p1 10)) _) (fun _ hi S=>ih _ _ _ hi h S))))) (fun h1 h=>have H:=H.t 6 [.bool (decide (n<0))]|>.r [(.bin .lss (cT 0) (cI 0),(vt 5))]|>.m 4 false (bF h1);iteE h (fun h2 h=>have H:=H.m 5 true (decide_eq_true h2);reqE h (fun h3 h=>have H:=H.t 7 [.str ([45]++p0)]|>.c (p:=(.bin .add (.c (.str [45])) (cT 1),(vt 6))) (fun _ _ _=>fCat (a:=[45]) (b:=p0) (by kernel_rfl) (by kernel_rfl) h3 (by kernel_rfl));H.e [0] h)) (fun h2 h=>have H:=H.m 5 false (decide_eq_false h2);H.e [0] h))) (fun h0 h=>have H:=H.t 7 [.int .i64 (Int.tmod p1 10),.int .i64 (IntKind.wrap .i64 (0 - (Int.tmod p1 10))),.int .i64 (if(IntKind.wrap .i64 (0 - (Int.tmod p1 10))) > (Int.tmod p1 10) then(IntKind.wrap .i64 (0 - (Int.tmod p1 10))) else(Int.tmod p1 10))]|>.r [(.un .neg (cT 4),(vt 5)),(.mxi (cT 4) (cT 5),(vt 6))]|>.m 3 true (nF h0)|>.c (p:=(.bin .rem (cT 2) (cI 10),(vt 4))) (fun _ _ _=>fRem (k:= .i64) (a:=p1) (b:=10) (by kernel_rfl) (by kernel_rfl) (by decide) (by kernel_rfl));letE h (fun x1 h1 h=>have H:=H.t 10 [.int .i64 x1,.int .u8 (IntKind.wrap .u8 x1),.str [UInt8.ofNat (Int.toNat (IntKind.wrap .u8 x1))]]|>.r [(.conv .u8 (cT 7),(vt 8)),(.b2s (.c (.im [[(vt 8)]] true)),(vt 9))]|>.c (p:=(.bin .add (cI 48) (cT 6),(vt 7))) (fun _ _ _=>fun _=>by subst h1;kernel_rfl);reqE h (fun h2 h=>letE h (fun x3 h3 h=>have H:=H.t 12 [.str x3,.int .i64 (IntKind.wrap .i64 (Int.tdiv p1 10))]|>.c (p:=(.bin .add (cT 9) (cT 1),(vt 10))) (fun _ _ _=>fCat (a:=[UInt8.ofNat (Int.toNat (IntKind.wrap .u8 x1))]) (b:=p0) (by kernel_rfl) (by kernel_rfl) h2 (by subst h3;kernel_rfl))|>.c (p:=(.bin .quo (cT 2) (cI 10),(vt 11))) (fun _ _ _=>fQuo (k:= .i64) (a:=p1) (b:=10) (by kernel_rfl) (by kernel_rfl) (by decide) (by kernel_rfl));H.k [0] [0,3,4] [] [(vt 0),(vt 10),(vt 11)] [] 1 (khz n x3 (IntKind.wrap .i64 (Int.tdiv p1 10)) _) (kl6 n x3 (IntKind.wrap .i64 (Int.tdiv p1 10)) _) (kl7 n x3 (IntKind.wrap .i64 (Int.tdiv p1 10)) _) (fun _ hi S=>ih _ _ _ hi h S))))))
def kl5 (fu:Nat) (n:Int):Option AV:=
 kd5 fu n [] n
def kwo:List AV:=[(vt 0)]
def kp5 (n:Int) (σ:Nat→Nat):Val:=(valL ([.int .i64 n]) ([]) [] σ 0)
def qag (n:Int) (_σ:Nat→Nat):List AV:=[(.int .i64 n)]
def qah (_n:Int) (_σ:Nat→Nat):List Blk:=[]
theorem qae (n:Int) (σ:Nat→Nat):kwo.map (gm (kp5 n σ))=qag n σ:=by kernel_rfl
theorem qaf (n:Int) (σ:Nat→Nat):([]:List Blk).map (gB (kp5 n σ))=qah n σ:=by kernel_rfl
theorem qan {fu:Nat} (n:Int) {r0:AV} (h:kl5 fu n=some r0):Spec FF 42 [(.int .i64 n)] r0:=by
 unfold kl5 at h
 have hσ: ∀ i j:Nat,(fun i:Nat=>i) i=(fun i:Nat=>i) j→i=j:=fun _ _ e=>e
 exact kbk (ρ:=kp5 n (fun i=>i)) (xs:=kwo) (by kernel_rfl) rfl rfl (by kernel_rfl) (fun z0 S=>have H:=Tok.start hσ S 0 1 0 0 ([.int .i64 n]) ([]) [] (.n) .n (qae n _) (qaf n _);H.k [0] [0,3,4] [] [(vt 0),(.str []),(vt 0)] [] 0 (khz n [] n _) (kl6 n [] n _) (kl7 n [] n _) (fun _ hi S=>qal _ _ _ _ hi h S))
end Go.Proofs.Hz
open Go Go.Proofs
namespace Go.Proofs.Hz
theorem wI {x:Int} (h: -9223372036854775808≤x∧x≤9223372036854775807):IntKind.wrap .i64 x=x:=by
 unfold IntKind.wrap;simp[IntKind.signed,IntKind.bits];omega
theorem wB {x:Int} (h:0≤x∧x≤255):IntKind.wrap .u8 x=x:=by
 unfold IntKind.wrap;simp[IntKind.signed,IntKind.bits];omega
theorem koc (m:Int):UInt8.ofNat (Int.toNat (IntKind.wrap .u8 (w64 (48+(if(IntKind.wrap .i64 (0 - (Int.tmod m 10))) > (Int.tmod m 10) then(IntKind.wrap .i64 (0 - (Int.tmod m 10))) else(Int.tmod m 10))))))=UInt8.ofNat (48+m.natAbs % 10):=by
 have h1:(Int.tmod m 10).natAbs=m.natAbs % 10:=by rw[Int.natAbs_tmod];rfl
 have h2:m.natAbs % 10<10:=Nat.mod_lt _ (by decide)
 generalize hd:Int.tmod m 10=d at h1
 generalize m.natAbs % 10=q at h1 h2
 have hw:IntKind.wrap .i64 (0 - d)=0 - d:=wI (by omega)
 rw[hw]
 have e:(if(0 - d) > d then(0 - d) else d)=(q:Int):=by
  split <;> omega
 rw[e]
 unfold w64
 rw[wI (by omega),wB (by omega)]
 congr 1
theorem kic (m:Int):(Int.tdiv m 10).natAbs=m.natAbs / 10:=by rw[Int.natAbs_tdiv];rfl
theorem kp6 (k:Nat) (n:Int) (p:List UInt8) (hp:p≠[]) (hl:p.length≤100):kd5 (k+1) n p 0=some (.str (if n<0 then 45::p else p)):=by
 unfold kd5
 have hb:(p == [])=false:=beq_eq_false_iff_ne.2 hp
 rw[if_pos rfl,hb,if_neg (by simp)]
 by_cases h:n<0
 ·rw[if_pos h,if_pos h,if_pos (by simp only[List.length_cons,List.length_nil];omega)];rfl
 ·rw[if_neg h,if_neg h]
theorem qak (n:Int): ∀ (k:Nat) (p:List UInt8) (m:Int),m≠0→ -9223372036854775808≤m∧m≤9223372036854775807→m.natAbs<10 ^ (k+1)→p.length+k≤90→
  kd5 (k+2) n p m=some (.str (if n<0 then 45::(Lib.decDigits m.natAbs++p) else Lib.decDigits m.natAbs++p)):=by
 intro k
 induction k with
 |zero=>
  intro p m h0 hm hlt hl
  have h10:m.natAbs<10:=by simpa using hlt
  have hz:Int.tdiv m 10=0:=by
   have:=kic m
   omega
  unfold kd5
  rw[if_neg h0]
  unfold letB
  simp only[koc,hz]
  rw[if_pos (by simp only[List.length_cons,List.length_nil];omega),wI (by omega),List.singleton_append,kp6 0 n _ (by simp) (by simp only[List.length_cons];omega)]
  rw[Lib.decDigits_one h10,Nat.mod_eq_of_lt h10]
  simp
 |succ k ih=>
  intro p m h0 hm hlt hl
  have hb: -9223372036854775808≤Int.tdiv m 10∧Int.tdiv m 10≤9223372036854775807:=by
   have:=kic m
   omega
  unfold kd5
  rw[if_neg h0]
  unfold letB
  simp only[koc]
  rw[if_pos (by simp only[List.length_cons,List.length_nil];omega),wI hb,List.singleton_append]
  by_cases h10:m.natAbs<10
  ·have hz:Int.tdiv m 10=0:=by
    have:=kic m
    omega
   rw[hz,kp6 (k+1) n _ (by simp) (by simp only[List.length_cons];omega),Lib.decDigits_one h10,Nat.mod_eq_of_lt h10]
   simp
  ·have hne:Int.tdiv m 10≠0:=fun e=>by
    have:=kic m
    rw[e] at this
    simp at this
    omega
   rw[ih _ _ hne hb (by rw[kic];rw[Nat.pow_succ] at hlt;omega) (by simp only[List.length_cons];omega),kic]
   have hd:Lib.decDigits m.natAbs=Lib.decDigits (m.natAbs / 10)++[UInt8.ofNat (48+m.natAbs % 10)]:=by
    conv=>lhs;rw[Lib.decDigits]
    rw[dif_neg h10]
   rw[hd]
   simp
theorem qam {n:Int} (h: -9223372036854775808≤n∧n≤9223372036854775807):kl5 25 n=some (.str (kaa n)):=by
 rw[kix h.1 h.2]
 unfold kl5
 by_cases h0:n=0
 ·subst h0
  unfold kd5
  rw[if_pos rfl,if_pos (by simp)]
  unfold letB
  simp only[koc]
  rw[if_pos (by simp)]
  have hz:IntKind.wrap .i64 (Int.tdiv 0 10)=0:=by decide
  rw[hz,List.append_nil,kp6 23 0 _ (by simp) (by simp)]
  simp[Lib.itoa,Lib.decDigits_one]
 ·rw[qak n 23 [] n h0 h (by have:(10:Nat) ^ (23+1)=1000000000000000000000000:=by decide
                            omega) (by simp)]
  unfold Lib.itoa
  simp only[List.append_nil]
  split
  ·rfl
  ·rename_i hn
   rw[show n.natAbs=n.toNat by omega]
theorem ktd (n:Int) (h: -9223372036854775808≤n∧n≤9223372036854775807):Spec FF 42 [.int .i64 n] (.str (kaa n)):=qan n (qam h)
end Go.Proofs.Hz
open Go Go.Proofs
namespace Go.Proofs.Hz
def kf2:Nat→List Cl→Bool→List UInt8→Int→Option AV
 |0,_,_,_,_=>none
 |fu+1,l,bl,p0,p1=>
  if p1<(List.length l:Int) then
   if 0≤p1 then Option.bind (l[Int.toNat p1]?) fun x2=>
   Option.bind (kj1 x2.no) fun x3=>
   if List.length p0+List.length x3≤140737488355328 then if List.length (p0++x3)+List.length [32]≤140737488355328 then if -9223372036854775808≤x2.a∧x2.a≤9223372036854775807 then if List.length ((p0++x3)++[32])+List.length (kaa x2.a)≤140737488355328 then if List.length (((p0++x3)++[32])++(kaa x2.a))+List.length [32]≤140737488355328 then letB (((((p0++x3)++[32])++(kaa x2.a))++[32])) fun x9=>
   if -9223372036854775808≤x2.b∧x2.b≤9223372036854775807 then if List.length x9+List.length (kaa x2.b)≤140737488355328 then if List.length (x9++(kaa x2.b))+List.length [10]≤140737488355328 then kf2 fu l bl ((x9++(kaa x2.b))++[10]) (w64 (p1+1)) else none else none else none else none else none else none else none else none else none
  else
   some (.str p0)
def kw2:List AV:=[(vf 0),(vt 0),(vt 1)]
def kw1:List Blk:=[]
def kji (l:List Cl) (bl:Bool) (p0:List UInt8) (p1:Int) (σ:Nat→Nat):Val:=(valL ([.str p0,.int .i64 p1]) ([.im (List.map eC l) bl]) [] σ 0)
def qbr (l:List Cl) (bl:Bool) (p0:List UInt8) (p1:Int) (_σ:Nat→Nat):List AV:=[(.im (List.map eC l) bl),(.str p0),(.int .i64 p1)]
def qbs (_l:List Cl) (_bl:Bool) (_p0:List UInt8) (_p1:Int) (_σ:Nat→Nat):List Blk:=[]
theorem kqk (l:List Cl) (bl:Bool) (p0:List UInt8) (p1:Int) (σ:Nat→Nat):kw2.map (gm (kji l bl p0 p1 σ))=qbr l bl p0 p1 σ:=by kernel_rfl
theorem kql (l:List Cl) (bl:Bool) (p0:List UInt8) (p1:Int) (σ:Nat→Nat):kw1.map (gB (kji l bl p0 p1 σ))=qbs l bl p0 p1 σ:=by kernel_rfl
theorem qbu: ∀ (fu:Nat),∀ (l:List Cl) (bl:Bool) (p0:List UInt8) (p1:Int) {r0:AV} {z0:St} {σ:Nat→Nat},(∀ i j,σ i=σ j→i=j)→kf2 fu l bl p0 p1=some r0→Sim (kji l bl p0 p1 σ) (tmpl [0,3,4] kw2 kw1) z0→J FF (fnOf FF 18) (cutK (fnOf FF 18) 0) (.code (.loop (cutB (fnOf FF 18) 0))) z0 r0:=by
 intro fu
 induction fu with
 |zero=>
  intro _ _ _ _ _ _ _ _ h _
  unfold kf2 at h
  cases h
 |succ fu ih=>
  intro l bl p0 p1 r0 z0 σ hσ h S
  unfold kf2 at h
  exact kcq (have H:=Tok.start hσ S 0 2 1 0 ([.str p0,.int .i64 p1]) ([.im (List.map eC l) bl]) [] (.c (OkF.im ka0 _ _) <| .n) (.n) (kqk l bl p0 p1 _) (kql l bl p0 p1 _);have H:=H.t 4 [.int .i64 (List.length l:Int),.bool (decide (p1<(List.length l:Int)))]|>.r [(.bin .lss (cT 1) (cT 2),(vt 3))]|>.c (p:=(.len 0 (cF 0),(vt 2))) (fun _ _ _=>fLen (e:=eC) (l:=l) (b:=bl) (by kernel_rfl) (by kernel_rfl));iteE h (fun h0 h=>have H:=H.m 3 true (decide_eq_true h0);reqE h (fun h1 h=>ka3 h (fun x2 h2 h=>have H:=H.t 7 [.int .i64 x2.no,.int .i64 x2.a,.int .i64 x2.b]|>.c (p:=(.iaS 3 (cF 0) (cT 1),(.ip [(vt 4),(vt 5),(vt 6)] 0))) (fun _ _ _=>fIa (sz:=3) (e:=eC) (l:=l) (b:=bl) (k:= .i64) (n:=p1) (y:=x2) ka0 (by kernel_rfl) (by kernel_rfl) h1 h2 (by kernel_rfl));ka3 h (fun x3 h3 h=>have H:=H.t 8 [.str x3]|>.s [(vt 4)] (vt 7) (qhp h3);reqE h (fun h4 h=>have H:=H.t 9 [.str (p0++x3)]|>.c (p:=(.bin .add (cT 0) (cT 7),(vt 8))) (fun _ _ _=>fCat (a:=p0) (b:=x3) (by kernel_rfl) (by kernel_rfl) h4 (by kernel_rfl));reqE h (fun h5 h=>have H:=H.t 10 [.str ((p0++x3)++[32])]|>.c (p:=(.bin .add (cT 8) (.c (.str [32])),(vt 9))) (fun _ _ _=>fCat (a:=(p0++x3)) (b:=[32]) (by kernel_rfl) (by kernel_rfl) h5 (by kernel_rfl));reqE h (fun h6 h=>have H:=H.t 11 [.str (kaa x2.a)]|>.s [(vt 5)] (vt 10) (ktd x2.a h6);reqE h (fun h7 h=>have H:=H.t 12 [.str (((p0++x3)++[32])++(kaa x2.a))]|>.c (p:=(.bin .add (cT 9) (cT 10),(vt 11))) (fun _ _ _=>fCat (a:=((p0++x3)++[32])) (b:=(kaa x2.a)) (by kernel_rfl) (by kernel_rfl) h7 (by kernel_rfl));reqE h (fun h8 h=>letE h (fun x9 h9 h=>have H:=H.t 13 [.str x9]|>.c (p:=(.bin .add (cT 11) (.c (.str [32])),(vt 12))) (fun _ _ _=>fCat (a:=(((p0++x3)++[32])++(kaa x2.a))) (b:=[32]) (by kernel_rfl) (by kernel_rfl) h8 (by subst h9;kernel_rfl));reqE h (fun h10 h=>have H:=H.t 14 [.str (kaa x2.b)]|>.s [(vt 6)] (vt 13) (ktd x2.b h10);reqE h (fun h11 h=>have H:=H.t 15 [.str (x9++(kaa x2.b))]|>.c (p:=(.bin .add (cT 12) (cT 13),(vt 14))) (fun _ _ _=>fCat (a:=x9) (b:=(kaa x2.b)) (by kernel_rfl) (by kernel_rfl) h11 (by kernel_rfl));reqE h (fun h12 h=>have H:=H.t 17 [.str ((x9++(kaa x2.b))++[10]),.int .i64 (w64 (p1+1))]|>.r [(.bin .add (cT 1) (cI 1),(vt 16))]|>.c (p:=(.bin .add (cT 14) (.c (.str [10])),(vt 15))) (fun _ _ _=>fCat (a:=(x9++(kaa x2.b))) (b:=[10]) (by kernel_rfl) (by kernel_rfl) h12 (by kernel_rfl));H.k [0] [0,3,4] [] [(vf 0),(vt 15),(vt 16)] [] 26 (kji l bl ((x9++(kaa x2.b))++[10]) (w64 (p1+1)) _) (kqk l bl ((x9++(kaa x2.b))++[10]) (w64 (p1+1)) _) (kql l bl ((x9++(kaa x2.b))++[10]) (w64 (p1+1)) _) (fun _ hi S=>ih _ _ _ _ hi h S)))))))))))))) (fun h0 h=>have H:=H.m 3 false (decide_eq_false h0);H.e [0] h))
def kmb (fu:Nat) (l:List Cl) (bl:Bool):Option AV:=
 kf2 fu l bl [] 0
def kw0:List AV:=[(vf 0)]
def kqj (l:List Cl) (bl:Bool) (σ:Nat→Nat):Val:=(valL ([]) ([.im (List.map eC l) bl]) [] σ 0)
def qbp (l:List Cl) (bl:Bool) (_σ:Nat→Nat):List AV:=[(.im (List.map eC l) bl)]
def qbq (_l:List Cl) (_bl:Bool) (_σ:Nat→Nat):List Blk:=[]
theorem qbn (l:List Cl) (bl:Bool) (σ:Nat→Nat):kw0.map (gm (kqj l bl σ))=qbp l bl σ:=by kernel_rfl
theorem qbo (l:List Cl) (bl:Bool) (σ:Nat→Nat):([]:List Blk).map (gB (kqj l bl σ))=qbq l bl σ:=by kernel_rfl
theorem qbw {fu:Nat} (l:List Cl) (bl:Bool) {r0:AV} (h:kmb fu l bl=some r0):Spec FF 18 [(.im (List.map eC l) bl)] r0:=by
 unfold kmb at h
 have hσ: ∀ i j:Nat,(fun i:Nat=>i) i=(fun i:Nat=>i) j→i=j:=fun _ _ e=>e
 exact kbk (ρ:=kqj l bl (fun i=>i)) (xs:=kw0) (by kernel_rfl) rfl rfl (by kernel_rfl) (fun z0 S=>have H:=Tok.start hσ S 0 0 1 0 ([]) ([.im (List.map eC l) bl]) [] (.c (OkF.im ka0 _ _) <| .n) .n (qbn l bl _) (qbo l bl _);H.k [0] [0,3,4] [] [(vf 0),(.str []),(.int .i64 0)] [] 0 (kji l bl [] 0 _) (kqk l bl [] 0 _) (kql l bl [] 0 _) (fun _ hi S=>qbu _ _ _ _ _ hi h S))
end Go.Proofs.Hz
open Go Go.Proofs
namespace Go.Proofs.Hz
theorem kll (c:Cl):okC c=true↔(0≤c.no∧c.no≤9)∧(-9223372036854775808≤c.a∧c.a≤9223372036854775807)∧ -9223372036854775808≤c.b∧c.b≤9223372036854775807:=by
 simp[okC,inI]
theorem kln (l:List Cl):okP l=true↔l.length≤100000∧ ∀ c ∈ l,okC c=true:=by
 simp[okP]
theorem kdq {n:Int} (h: -9223372036854775808≤n∧n≤9223372036854775807):(kaa n).length≤21:=by
 rw[kix h.1 h.2];exact Lib.itoa_length_le n h.1 h.2
theorem kzd (no:Int):(kdf no).length≤5:=by
 unfold kdf kdOf
 (repeat' split) <;> simp
theorem kt8 {c:Cl} (h:okC c=true):(kbp c).length≤50:=by
 obtain⟨_,h1,h2⟩:=(kll c).1 h
 have:=kdq h1
 have:=kdq h2
 have:=kzd c.no
 simp only[kbp,List.length_append,List.length_cons,List.length_nil]
 omega
theorem kja: ∀ {l:List Cl},(∀ c ∈ l,okC c=true)→(ka1 l).length≤50*l.length
 | [],_=>by simp[ka1]
 |c::l,h=>by
  have h1:=kt8 (h c (by simp))
  have h2:=kja (l:=l) fun d hd=>h d (by simp[hd])
  simp only[ka1,List.map_cons,List.flatten_cons,List.length_append,List.length_cons] at h2 ⊢
  omega
theorem k7l (l m:List Cl):ka1 (l++m)=ka1 l++ka1 m:=by simp[ka1]
theorem k7m (c:Cl):ka1 [c]=kbp c:=by simp[ka1]
theorem kpe {l:List Cl} {i:Nat} (h:i<l.length):ka1 (l.take (i+1))=ka1 (l.take i)++kbp l[i]:=by
 rw[List.take_succ_eq_append_getElem h,k7l,k7m]
theorem qbt (l:List Cl) (bl:Bool) (h:okP l=true): ∀ (k i:Nat),i+k=l.length→kf2 (k+1) l bl (ka1 (l.take i)) i=some (.str (ka1 l)):=by
 obtain⟨hn,hok⟩:=(kln l).1 h
 intro k
 induction k with
 |zero=>
  intro i hi
  unfold kf2
  rw[if_neg (by omega),List.take_of_length_le (by omega)]
 |succ k ih=>
  intro i hi
  have h1:i<l.length:=by omega
  have hc:=hok _ (List.getElem_mem h1)
  obtain⟨c1,c2,c3⟩:=(kll _).1 hc
  have la:=kdq c2
  have lb:=kdq c3
  have lw:=kzd l[i].no
  have hp:(ka1 (l.take i)).length≤5000000:=by
   have:=kja (l:=l.take i) fun c hc=>hok c (List.mem_of_mem_take hc)
   simp only[List.length_take] at this
   omega
  have ih':=ih (i+1) (by omega)
  rw[kpe h1] at ih'
  generalize hpp:ka1 (l.take i)=p at hp ih' ⊢
  unfold kf2
  rw[if_pos (by omega),if_pos (by omega)]
  simp only[Int.toNat_natCast,List.getElem?_eq_getElem h1,Option.bind_some,kj1,if_pos c1,letB]
  rw[if_pos (by omega),if_pos (by simp only[List.length_append,List.length_cons,List.length_nil];omega),if_pos c2,if_pos (by simp only[List.length_append,List.length_cons,List.length_nil];omega),
   if_pos (by simp only[List.length_append,List.length_cons,List.length_nil];omega),if_pos c3,if_pos (by simp only[List.length_append,List.length_cons,List.length_nil];omega),if_pos (by simp only[List.length_append,List.length_cons,List.length_nil];omega),kce h1 (by omega)]
  rw[←ih']
  congr 1
  simp only[kbp,List.append_assoc]
theorem qbv (l:List Cl) (bl:Bool) (h:okP l=true):kmb (l.length+1) l bl=some (.str (ka1 l)):=by
 unfold kmb
 exact qbt l bl h l.length 0 (by omega)
theorem kvt (l:List Cl) (bl:Bool) (h:okP l=true):Spec FF 18 [.im (l.map eC) bl] (.str (ka1 l)):=qbw l bl (qbv l bl h)
end Go.Proofs.Hz
open Go Go.Proofs
namespace Go.Proofs.Hz
def valD (l:List UInt8):Nat:=l.foldl (fun a d=>10*a+(d.toNat - 48)) 0
theorem kno {u:Nat} (h: ¬u<10):Lib.decDigits u=Lib.decDigits (u / 10)++[UInt8.ofNat (48+u % 10)]:=by
 conv=>lhs;rw[Lib.decDigits]
 rw[dif_neg h]
theorem kkn {d:Nat} (h:d<10):(UInt8.ofNat (48+d)).toNat=48+d:=by
 rw[UInt8.toNat_ofNat'];omega
theorem k1o (u:Nat):valD (Lib.decDigits u)=u:=by
 induction u using Nat.strongRecOn with
 |_ u ih=>
  by_cases h:u<10
  ·rw[Lib.decDigits_one h]
   simp only[valD,List.foldl_cons,List.foldl_nil,kkn h]
   omega
  ·rw[kno h]
   have:=ih (u / 10) (by omega)
   unfold valD at this ⊢
   rw[List.foldl_append,this,List.foldl_cons,List.foldl_nil,kkn (Nat.mod_lt _ (by decide))]
   omega
def kfq (c:UInt8):Prop:=48≤c.toNat∧c.toNat≤57
theorem kkg (u:Nat): ∀ c ∈ Lib.decDigits u,kfq c:=by
 induction u using Nat.strongRecOn with
 |_ u ih=>
  intro c hc
  by_cases h:u<10
  ·rw[Lib.decDigits_one h,List.mem_singleton] at hc
   subst hc
   unfold kfq
   rw[kkn h];omega
  ·rw[kno h,List.mem_append,List.mem_singleton] at hc
   rcases hc with hc |rfl
   ·exact ih _ (by omega) c hc
   ·unfold kfq
    rw[kkn (Nat.mod_lt _ (by decide))];omega
theorem knn (u:Nat):Lib.decDigits u≠[]:=by
 by_cases h:u<10
 ·rw[Lib.decDigits_one h];simp
 ·rw[kno h];simp
theorem k3z (n:Int): ∀ c ∈ Lib.itoa n,c=45∨kfq c:=by
 intro c hc
 unfold Lib.itoa at hc
 split at hc
 ·rcases List.mem_cons.1 hc with rfl |hc
  ·exact .inl rfl
  ·exact .inr (kkg _ c hc)
 ·exact .inr (kkg _ c hc)
theorem kt2 {n:Int} {b:UInt8} (h1:b≠45) (h2:b.toNat<48∨57<b.toNat):b ∉ Lib.itoa n:=fun h=>by
 rcases k3z n b h with h |h
 ·exact h1 h
 ·unfold kfq at h;omega
theorem qho {no:Int} (h:0≤no∧no≤9):(32:UInt8) ∉ kdf no∧(10:UInt8) ∉ kdf no∧kdf no≠[]:=by
 rcases kiz no with rfl |rfl |rfl |rfl |rfl |rfl |rfl |rfl |rfl |rfl |hh
 case inr.inr.inr.inr.inr.inr.inr.inr.inr.inr=>omega
 all_goals decide
def kd9 (w:List UInt8):Int:=
 if w=[115,101,110,100] then 0 else if w=[114,101,99,118] then 1 else if w=[116,114,121] then 2 else if w=[112,117,116] then 3
 else if w=[108,111,111,107] then 4 else if w=[99,117,116] then 5 else if w=[115,101,116] then 6 else if w=[114,101,115,101,116] then 7
 else if w=[116,101,115,116] then 8 else if w=[121,105,101,108,100] then 9 else -1
theorem kze {no:Int} (h:0≤no∧no≤9):kd9 (kdf no)=no:=by
 rcases kiz no with rfl |rfl |rfl |rfl |rfl |rfl |rfl |rfl |rfl |rfl |hh
 case inr.inr.inr.inr.inr.inr.inr.inr.inr.inr=>omega
 all_goals decide
theorem kiy {n:Int} (hn: -9223372036854775808≤n∧n≤9223372036854775807):(32:UInt8) ∉ kaa n∧(10:UInt8) ∉ kaa n∧kaa n≠[]:=by
 rw[kix hn.1 hn.2]
 refine⟨kt2 (by decide) (by decide),kt2 (by decide) (by decide),?_⟩
 unfold Lib.itoa
 split
 ·simp
 ·exact knn _
end Go.Proofs.Hz
open Go Go.Proofs
namespace Go.Proofs.Hz
def eT (t:List UInt8):List AV:=[.str t]
theorem kaf:Enc eT 1:=⟨fun _=>rfl,fun _=>rfl,fun t=>by simp[eT,beqL,AV.beq]⟩
def kad (s:List UInt8):Int:=match Lib.atoiAll s with
 | .ok v=>v
 |Go.Lib.NumEnd.syntax=>0
 | .range=>Lib.atoiSat s
def kdj (s:List UInt8):Bool:=match Lib.atoiAll s with
 | .ok _=>true
 |_=>false
def kaz (s:List UInt8):Bool:=kdj s && (inW (kad s) && kaa (kad s) == s)
def kac (s:List UInt8):Bool:=s.getLast? == some 10
def cutT (s:List UInt8):List UInt8:=if kac s=true then s.dropLast else s
def kav (s:List UInt8):Cl:=
 if kac s=true then match kap 32 (cutT s) with
  | [w,a,b]=>⟨kd9 w,kad a,kad b⟩
  |_=>⟨0,0,0⟩
 else⟨0,0,0⟩
def kay (s:List UInt8):Bool:=
 kac s && match kap 32 (cutT s) with
  | [w,a,b]=>decide (0≤kd9 w) && (kaz a && kaz b)
  |_=>false
theorem ksj (s:List UInt8) (hl:s.length≤1000000) (h:kdj s=true):Spec FF 112 [.str s] (.tup [.int .i64 (kad s),.nili]):=⟨1,by
 show kAtoi [.str s]=_
 unfold kdj at h
 simp only[kAtoi,kad]
 rw[if_pos (by omega)]
 split at h
 ·rename_i v hv;rw[hv]
 ·cases h⟩
theorem ksi (s:List UInt8) (hl:s.length≤1000000) (h: ¬kdj s=true):Spec FF 112 [.str s] (.tup [.int .i64 (kad s),.ifv]):=⟨1,by
 show kAtoi [.str s]=_
 unfold kdj at h
 simp only[kAtoi,kad]
 rw[if_pos (by omega)]
 split at h
 ·exact absurd rfl h
 ·rename_i hv
  cases hq:Lib.atoiAll s
  ·exact absurd hq (hv _)
  ·rfl
  ·rfl⟩
theorem qfv (s:List UInt8) (hl:s.length≤1000000):Spec FF 158 [.str s,.str [32]] (.im ((kap 32 s).map eT) true):=⟨1,by
 show kSplit [.str s,.str [32]]=_
 simp only[kSplit]
 rw[if_pos (by omega)]
 rfl⟩
theorem ktc: ∀ (l:List UInt8) (a:Nat),a≤l.foldl (fun a d=>10*a+(d.toNat - 48)) a
 | [],a=>Nat.le_refl a
 |d::l,a=>by
  have:=ktc l (10*a+(d.toNat - 48))
  rw[List.foldl_cons]
  omega
theorem kvf: ∀ (l:List UInt8) (a:Nat),(∀ c ∈ l,kfq c)→l.foldl (fun a d=>10*a+(d.toNat - 48)) a≤9223372036854775808→Lib.parseUint10 a l= .ok (l.foldl (fun a d=>10*a+(d.toNat - 48)) a)
 | [],a,_,_=>rfl
 |d::l,a,h,hl=>by
  have hd:=h d (by simp)
  unfold kfq at hd
  have hg:=ktc l (10*a+(d.toNat - 48))
  rw[List.foldl_cons] at hl ⊢
  unfold Lib.parseUint10
  rw[if_pos hd,if_neg (by omega),if_neg (by omega),show a*10+(d.toNat - 48)=10*a+(d.toNat - 48) by omega]
  exact kvf l _ (fun c hc=>h c (by simp[hc])) hl
theorem kum {u:Nat} (h:u≤9223372036854775807):Lib.parseMag (Lib.decDigits u)= .ok u:=by
 have hv:=k1o u
 unfold valD at hv
 unfold Lib.parseMag
 rw[if_neg (knn u),kvf _ 0 (kkg u) (by rw[hv];omega),hv]
theorem k0h {n:Int} (h:inW n=true):Lib.atoiAll (kaa n)= .ok n:=by
 simp only[inW,decide_eq_true_eq] at h
 rw[kix (by omega) (by omega)]
 unfold Lib.itoa
 split
 ·rename_i hn
  unfold Lib.atoiAll
  simp only[show(45:UInt8).toNat=45 from rfl,or_true,if_true,kum (u:=n.natAbs) (by omega),not_true,false_and,if_false,true_and]
  rw[if_neg (by omega)]
  congr 1
  omega
 ·rename_i hn
  cases hd:Lib.decDigits n.toNat with
  |nil=>exact absurd hd (knn _)
  |cons c r=>
   have hc:=kkg n.toNat c (by rw[hd];simp)
   unfold kfq at hc
   have hm:=kum (u:=n.toNat) (by omega)
   rw[hd] at hm
   unfold Lib.atoiAll
   simp only
   rw[if_neg (by omega),hm]
   simp only
   rw[if_neg (by omega),if_neg (by omega),if_neg (by omega)]
   congr 1
   omega
theorem klj {n:Int} (h:inW n=true):kaz (kaa n)=true∧kad (kaa n)=n:=by
 have e:=k0h h
 have hv:kad (kaa n)=n:=by unfold kad;rw[e]
 have ho:kdj (kaa n)=true:=by unfold kdj;rw[e]
 exact⟨by simp[kaz,hv,ho,h],hv⟩
theorem ko8 {s:List UInt8} (h:kaz s=true):inW (kad s)=true∧kaa (kad s)=s:=by
 simp only[kaz,Bool.and_eq_true,beq_iff_eq] at h
 exact h.2
def khr (c:UInt8):List (List UInt8)→List UInt8
 | []=>[]
 | [p]=>p
 |p::ps=>p++c::khr c ps
theorem kym (c:UInt8): ∀ l,khr c (kap c l)=l
 | []=>rfl
 |x::l=>by
  have ih:=kym c l
  unfold kap
  split
  ·rename_i hx
   subst hx
   cases hs:kap x l with
   |nil=>exact absurd hs (krq x l)
   |cons p ps=>rw[hs] at ih;simp only[khr,List.nil_append];rw[ih]
  ·split
   ·rename_i p ps hs
    rw[hs] at ih
    cases ps with
    |nil=>simp only[khr] at ih ⊢;rw[ih]
    |cons q qs=>simp only[khr,List.cons_append] at ih ⊢;rw[ih]
   ·rename_i hs;exact absurd hs (krq c l)
theorem qfw {c:UInt8} {l a b d:List UInt8} (h:kap c l=[a,b,d]):l=a++c::(b++c::d):=by
 have:=kym c l
 rw[h] at this
 simpa[khr] using this.symm
theorem kmq {c:UInt8}: ∀ {l p:List UInt8},p ∈ kap c l→p.length≤l.length
 | [],p,h=>by
   simp only[kap,List.mem_singleton] at h
   subst h;simp
 |x::l,p,h=>by
  unfold kap at h
  split at h
  ·rcases List.mem_cons.1 h with rfl |h
   ·simp
   ·have:=kmq h
    simp only[List.length_cons];omega
  ·split at h
   ·rename_i q qs hs
    rcases List.mem_cons.1 h with rfl |h
    ·have:=kmq (l:=l) (p:=q) (by rw[hs];simp)
     simp only[List.length_cons];omega
    ·have:=kmq (l:=l) (p:=p) (by rw[hs];simp[h])
     simp only[List.length_cons];omega
   ·rename_i hs;exact absurd hs (krq c l)
theorem kdz {s:List UInt8}:kac s=true↔ ∃ t,s=t++[10]:=by
 unfold kac
 rw[beq_iff_eq,List.getLast?_eq_some_iff]
theorem khi (t:List UInt8):cutT (t++[10])=t:=by
 unfold cutT
 rw[if_pos (kdz.2 ⟨t,rfl⟩),List.dropLast_concat]
theorem ksz (s:List UInt8):(cutT s).length≤s.length:=by
 unfold cutT
 split
 ·rw[List.length_dropLast];omega
 ·exact Nat.le_refl _
theorem qhn (w:List UInt8):(0≤kd9 w∧kd9 w≤9∧kdf (kd9 w)=w)∨kd9 w= -1:=by
 unfold kd9
 (repeat' split) <;> first |exact .inr rfl |(rename_i h;subst h;exact .inl ⟨by decide,by decide,by decide⟩)
theorem koz {s:List UInt8} (h:kay s=true):kc7 (kav s)=true∧kbp (kav s)=s:=by
 simp only[kay,Bool.and_eq_true] at h
 obtain⟨h1,h2⟩:=h
 obtain⟨t,rfl⟩:=kdz.1 h1
 unfold kav
 rw[if_pos h1]
 rw[khi] at h2 ⊢
 split at h2
 ·rename_i w a b hs
  simp only[Bool.and_eq_true,decide_eq_true_eq] at h2
  obtain⟨h3,h4,h5⟩:=h2
  obtain⟨a1,a2⟩:=ko8 h4
  obtain⟨b1,b2⟩:=ko8 h5
  rcases qhn w with⟨w1,w2,w3⟩ |hw
  ·refine⟨by simp[kc7,w1,w2,a1,b1],?_⟩
   simp only[kbp,w3,a2,b2]
   rw[qfw hs]
   simp
  ·omega
 ·cases h2
theorem k36 {c:Cl} (h:kc7 c=true):kay (kbp c)=true∧kav (kbp c)=c:=by
 have h0:(0≤c.no∧c.no≤9)∧inW c.a=true∧inW c.b=true:=by simpa[kc7] using h
 obtain⟨h1,h2,h3⟩:=h0
 obtain⟨n1,n2⟩:=klj h2
 obtain⟨n3,n4⟩:=klj h3
 have k2: -9223372036854775808≤c.a∧c.a≤9223372036854775807:=by simp only[inW,decide_eq_true_eq] at h2;omega
 have k3: -9223372036854775808≤c.b∧c.b≤9223372036854775807:=by simp only[inW,decide_eq_true_eq] at h3;omega
 have e:kbp c=(kdf c.no++32::(kaa c.a++32::kaa c.b))++[10]:=by simp[kbp]
 have he:kac (kbp c)=true:=kdz.2 ⟨_,e⟩
 have hs:kap 32 (cutT (kbp c))=[kdf c.no,kaa c.a,kaa c.b]:=by
  rw[e,khi,kmp (qho h1).1,kmp (kiy k2).1,krr (kiy k3).1]
 refine⟨?_,?_⟩
 ·unfold kay
  rw[he,hs]
  simp[kze h1,h1.1,n1,n3]
 ·unfold kav
  rw[if_pos he,hs]
  simp[kze h1,n2,n4]
end Go.Proofs.Hz
open Go Go.Proofs
namespace Go.Proofs.Hz
def kl3 (s:List UInt8):Option AV:=
 if(List.length s:Int) ≥ 1 then
  if 0≤(w64 ((List.length s:Int) - 1))∧(w64 ((List.length s:Int) - 1))≤(List.length s:Int) then some (.bool ((List.drop (Int.toNat (w64 ((List.length s:Int) - 1))) s) == [10])) else none
 else
  some (.bool false)
def kwa:List AV:=[(vt 0),(.str [10])]
def kpq (s:List UInt8) (σ:Nat→Nat):Val:=(valL ([.str s]) ([]) [] σ 0)
def k87 (s:List UInt8) (_σ:Nat→Nat):List AV:=[(.str s),(.str [10])]
def k88 (_s:List UInt8) (_σ:Nat→Nat):List Blk:=[]
theorem k85 (s:List UInt8) (σ:Nat→Nat):kwa.map (gm (kpq s σ))=k87 s σ:=by kernel_rfl
theorem k86 (s:List UInt8) (σ:Nat→Nat):([]:List Blk).map (gB (kpq s σ))=k88 s σ:=by kernel_rfl
theorem k9a (s:List UInt8) {r0:AV} (h:kl3 s=some r0):Spec FF 195 [(.str s),(.str [10])] r0:=by
 unfold kl3 at h
 have hσ: ∀ i j:Nat,(fun i:Nat=>i) i=(fun i:Nat=>i) j→i=j:=fun _ _ e=>e
 exact kbk (ρ:=kpq s (fun i=>i)) (xs:=kwa) (by kernel_rfl) rfl rfl (by kernel_rfl) (fun z0 S=>have H:=Tok.start hσ S 0 1 0 0 ([.str s]) ([]) [] (.n) .n (k85 s _) (k86 s _);have H:=H.t 3 [.int .i64 (List.length s:Int),.bool (decide ((List.length s:Int) ≥ 1))]|>.r [(.len 1 (cT 0),(vt 1)),(.bin .geq (cT 1) (cI 1),(vt 2))];iteE h (fun h0 h=>have H:=H.t 4 [.int .i64 (w64 ((List.length s:Int) - 1))]|>.r [(.bin .sub (cT 1) (cI 1),(vt 3))]|>.m 2 true (decide_eq_true h0);reqE h (fun _ h=>have H:=H.t 6 [.str (List.drop (Int.toNat (w64 ((List.length s:Int) - 1))) s),.bool ((List.drop (Int.toNat (w64 ((List.length s:Int) - 1))) s) == [10])]|>.r [(.bin .eql (cT 4) (.c (.str [10])),(vt 5))]|>.c (p:=(.slT (cT 0) (some (cT 3)) none,(vt 4))) (fun _ _ _=>fSlT (l:=s) (l':=(List.drop (Int.toNat (w64 ((List.length s:Int) - 1))) s)) (lo:=(some ((vt 3),((w64 ((List.length s:Int) - 1)):Int)))) (hi:=none) (by kernel_rfl) ⟨.i64,by kernel_rfl⟩ trivial (by simp only[optN];omega) (by simp only[optN];exact khj _ _) (by kernel_rfl));H.e [] h)) (fun h0 h=>have H:=H.m 2 false (decide_eq_false h0);H.e [] h))
def kl9 (s:List UInt8):Option AV:=
 if List.length s≤1000000 then if kdj s=true then
  if(kad s) ≥ (-4611686018427387904) then
   if(kad s)≤4611686018427387904 then
     if -9223372036854775808≤(kad s)∧(kad s)≤9223372036854775807 then some (.tup [(.int .i64 (kad s)),(.bool ((kaa (kad s)) == s))]) else none
   else
     some (.tup [(.int .i64 (kad s)),(.bool false)])
  else
   some (.tup [(.int .i64 (kad s)),(.bool false)])
 else
  some (.tup [(.int .i64 (kad s)),(.bool false)]) else none
def kwy:List AV:=[(vt 0)]
def kqg (s:List UInt8) (σ:Nat→Nat):Val:=(valL ([.str s]) ([]) [] σ 0)
def qbc (s:List UInt8) (_σ:Nat→Nat):List AV:=[(.str s)]
def qbd (_s:List UInt8) (_σ:Nat→Nat):List Blk:=[]
theorem qba (s:List UInt8) (σ:Nat→Nat):kwy.map (gm (kqg s σ))=qbc s σ:=by kernel_rfl
theorem qbb (s:List UInt8) (σ:Nat→Nat):([]:List Blk).map (gB (kqg s σ))=qbd s σ:=by kernel_rfl
theorem qbf (s:List UInt8) {r0:AV} (h:kl9 s=some r0):Spec FF 161 [(.str s)] r0:=by
 unfold kl9 at h
 have hσ: ∀ i j:Nat,(fun i:Nat=>i) i=(fun i:Nat=>i) j→i=j:=fun _ _ e=>e
 exact kbk (ρ:=kqg s (fun i=>i)) (xs:=kwy) (by kernel_rfl) rfl rfl (by kernel_rfl) (fun z0 S=>have H:=Tok.start hσ S 0 1 0 0 ([.str s]) ([]) [] (.n) .n (qba s _) (qbb s _);reqE h (fun h0 h=>iteE h (fun h1 h=>have H:=H.t 3 [.int .i64 (kad s),.bool (decide ((kad s) ≥ (-4611686018427387904)))]|>.r [(.bin .geq (cT 1) (cI (-4611686018427387904)),(vt 2))]|>.s [(vt 0)] (.tup [(vt 1),.nili]) (ksj s h0 h1);iteE h (fun h2 h=>have H:=H.t 4 [.bool (decide ((kad s)≤4611686018427387904))]|>.r [(.bin .leq (cT 1) (cI 4611686018427387904),(vt 3))]|>.m 2 true (decide_eq_true h2);iteE h (fun h3 h=>have H:=H.m 3 true (decide_eq_true h3);reqE h (fun h4 h=>have H:=H.t 6 [.str (kaa (kad s)),.bool ((kaa (kad s)) == s)]|>.r [(.bin .eql (cT 4) (cT 0),(vt 5))]|>.s [(vt 1)] (vt 4) (ka5 (kad s) h4);H.e [] h)) (fun h3 h=>have H:=H.m 3 false (decide_eq_false h3);H.e [] h)) (fun h2 h=>have H:=H.m 2 false (decide_eq_false h2);H.e [] h)) (fun h1 h=>have H:=H.t 2 [.int .i64 (kad s)]|>.s [(vt 0)] (.tup [(vt 1),.ifv]) (ksi s h0 h1);H.e [] h)))
end Go.Proofs.Hz
