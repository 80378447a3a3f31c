/-
  Chapter 20: texts cut at their begin, numbers, lines, few, rows and moves that are the same. And: Chapter 20: a line of a word and a number (the document's reading); few; may it be; the same.
  Conditions: none.
-/
import Derived.Test.YtamikoglpnoicaaGreatDoorT32
import Derived.Test.YtamikoglpnoicaaGreatDoorT24
open Go Go.Proofs
namespace Go.Proofs.Hz
theorem kbm (s p:Bs):Spec FF 74 [.str s,.str p] (.tup [.str (cutP s p),.bool (kag s p)]):=k80 s p rfl
def kai (s:Bs) (most:Int):Bool:=kdj s && (decide (0≤kad s) && (decide (kad s≤most) && kaa (kad s) == s))
theorem kbo (s:Bs) (most:Int) (hl:s.length≤1000000) (hm:most≤9999):Spec FF 76 [.str s,.int .i64 most] (.tup [.int .i64 (kad s),.bool (kai s most)]):=qa9 s most (by
 unfold kqe kai
 rw[if_pos hl]
 by_cases h1:kdj s=true
 ·rw[if_pos h1]
  by_cases h2:kad s ≥ 0
  ·have h2':0≤kad s:=h2
   rw[if_pos h2]
   by_cases h3:kad s≤most
   ·rw[if_pos h3,if_pos (by omega)]
    simp[h1,h2',h3]
   ·rw[if_neg h3]
    simp[h3]
  ·have h2': ¬0≤kad s:=h2
   rw[if_neg h2]
   simp[h2']
 ·rw[if_neg h1]
  simp[h1])
theorem k2m (t:List Ro) (bt:Bool) (k m:Int) (hk:k≤1000000:=by omega):Spec FF 20 [.im (t.map eR) bt,.int .i64 k,.int .i64 m] (.bool (fewF t k m)):=by
 have key:t.length≤1000000→ ∀ (n i:Nat),i+n=t.length→(∀ r ∈ t.take i,(r.c.length:Int)≤m)→kfz (n+1) t bt m i=some (.bool (t.all fun r=>decide ((r.c.length:Int)≤m))):=by
  intro hl n
  induction n with
  |zero=>
   intro i hi ht
   unfold kfz
   rw[if_neg (by omega)]
   rw[List.take_of_length_le (by omega)] at ht
   congr 2
   symm
   exact List.all_eq_true.2 fun r hr=>decide_eq_true (ht r hr)
  |succ n ih=>
   intro i hi ht
   have h1:i<t.length:=by omega
   unfold kfz
   rw[if_pos (by omega),if_pos (by omega)]
   simp only[Int.toNat_natCast,List.getElem?_eq_getElem h1,Option.bind_some]
   by_cases hc:(t[i].c.length:Int) > m
   ·rw[if_pos hc]
    congr 2
    symm
    exact Bool.eq_false_iff.2 fun h=>by
     have:=List.all_eq_true.1 h t[i] (List.getElem_mem h1)
     simp only[decide_eq_true_eq] at this
     omega
   ·rw[if_neg hc,kce h1 hl]
    refine ih (i+1) (by omega) fun r hr=> ?_
    rw[List.take_succ_eq_append_getElem h1,List.mem_append,List.mem_singleton] at hr
    rcases hr with hr |rfl
    ·exact ht r hr
    ·omega
 refine qad (fu:=t.length+1) t bt k m ?_
 unfold qfew fewF
 by_cases h:(t.length:Int) > k
 ·rw[if_pos h,decide_eq_false (by omega)];rfl
 ·rw[if_neg h,decide_eq_true (by omega),Bool.true_and]
  exact key (by omega) t.length 0 (by omega) (by simp)
theorem kle (x y:Mov):(!((x.kind:Int) == y.kind && ((x.n:Int) == y.n && true)))=true↔x≠y:=by
 constructor
 ·intro h e
  subst e
  simp at h
 ·intro h
  simp only[Bool.and_true,Bool.not_eq_true',Bool.and_eq_false_iff,beq_eq_false_iff_ne]
  by_cases h1:x.kind=y.kind
  ·by_cases h2:x.n=y.n
   ·exact absurd (Mov.ext' h1 h2) h
   ·exact .inr h2
  ·exact .inl h1
theorem k12 (l m:List Mov) (bl bm:Bool) (hn:l.length≤1000000):Spec FF 38 [.im (l.map eM) bl,.im (m.map eM) bm] (.bool (eqMv l m)):=by
 have key:l.length=m.length→ ∀ (k i:Nat),i+k=l.length→l.take i=m.take i→kfw (k+1) l bl m bm i=some (.bool (eqMv l m)):=by
  intro hl k
  induction k with
  |zero=>
   intro i hi ht
   unfold kfw
   rw[if_neg (by omega)]
   have:l=m:=by
    have h1:l.take i=l:=List.take_of_length_le (by omega)
    have h2:m.take i=m:=List.take_of_length_le (by omega)
    rw[←h1,←h2];exact ht
   simp[eqMv,this]
  |succ k ih=>
   intro i hi ht
   have h1:i<l.length:=by omega
   have h2:i<m.length:=by omega
   unfold kfw
   rw[if_pos (by omega),if_pos (by omega)]
   simp only[Int.toNat_natCast,List.getElem?_eq_getElem h1,List.getElem?_eq_getElem h2,Option.bind_some]
   by_cases hc:l[i]=m[i]
   ·rw[if_neg (fun h=>(kle _ _).1 h hc),kce h1 hn]
    refine ih (i+1) (by omega) ?_
    rw[List.take_succ_eq_append_getElem h1,List.take_succ_eq_append_getElem h2,ht,hc]
   ·rw[if_pos ((kle _ _).2 hc)]
    have:l≠m:=fun e=>by subst e;exact hc rfl
    simp[eqMv,this]
 refine k9i (fu:=l.length+1) l bl m bm ?_
 unfold qeqM
 by_cases h:l.length=m.length
 ·rw[if_pos (by omega)]
  exact key h l.length 0 (by omega) (by simp)
 ·rw[if_neg (by omega)]
  have:l≠m:=fun e=>h (e ▸ rfl)
  simp[eqMv,this]
theorem kro {l:List Ro} (h:kgc l=true):l.length≤1000000∧ ∀ r ∈ l,r.c.length≤1000000:=by
 simp only[kgc,Bool.and_eq_true,decide_eq_true_eq,List.all_eq_true] at h
 exact h
theorem k16 (l m:List Ro) (bl bm:Bool) (hs:kgc l=true):Spec FF 39 [.im (l.map eR) bl,.im (m.map eR) bm,.fn 40 [] []] (.bool (eqTs l m)):=by
 obtain⟨hn,hr⟩:=kro hs
 have key:l.length=m.length→ ∀ (k i:Nat),i+k=l.length→(l.take i).map Ro.c=(m.take i).map Ro.c→kfx (k+1) l bl m bm i=some (.bool (eqTs l m)):=by
  intro hl k
  induction k with
  |zero=>
   intro i hi ht
   unfold kfx
   rw[if_neg (by omega)]
   rw[List.take_of_length_le (by omega),List.take_of_length_le (by omega)] at ht
   simp[eqTs,ht]
  |succ k ih=>
   intro i hi ht
   have h1:i<l.length:=by omega
   have h2:i<m.length:=by omega
   unfold kfx
   rw[if_pos (by omega),if_pos (by omega)]
   simp only[Int.toNat_natCast,List.getElem?_eq_getElem h1,List.getElem?_eq_getElem h2,Option.bind_some]
   rw[if_pos (hr _ (List.getElem_mem h1))]
   by_cases hc:l[i].c=m[i].c
   ·rw[if_neg (by simp[eqC,hc]),kce h1 hn]
    refine ih (i+1) (by omega) ?_
    rw[List.take_succ_eq_append_getElem h1,List.take_succ_eq_append_getElem h2,List.map_append,List.map_append,ht,List.map_singleton,List.map_singleton,hc]
   ·rw[if_pos (by simp[eqC,hc])]
    have:l.map Ro.c≠m.map Ro.c:=fun e=>by
     have e1:=congrArg (·[i]?) e
     simp only[List.getElem?_map,List.getElem?_eq_getElem h1,List.getElem?_eq_getElem h2,Option.map_some,Option.some.injEq] at e1
     exact hc e1
    simp[eqTs,this]
 refine k9q (fu:=l.length+1) l bl m bm ?_
 unfold qeqT
 by_cases h:l.length=m.length
 ·rw[if_pos (by omega)]
  exact key h l.length 0 (by omega) (by simp)
 ·rw[if_neg (by omega)]
  have:l.map Ro.c≠m.map Ro.c:=fun e=>h (by have:=congrArg List.length e;simpa using this)
  simp[eqTs,this]
end Go.Proofs.Hz
open Go Go.Proofs
namespace Go.Proofs.Hz
end Go.Proofs.Hz
open Go Go.Proofs
namespace Go.Proofs.Hz
theorem ktv:Spec FF 29 [] (.agg [.str kak,.str kal,.str kao]):=⟨60,by kernel_rfl⟩
theorem kj2:Spec FF 33 [] (.agg [.str keh,.str kek,.str kei]):=⟨60,by kernel_rfl⟩
end Go.Proofs.Hz
open Go Go.Proofs
namespace Go.Proofs.Hz
set_option maxHeartbeats 10000000 in
def kp0 (x:Td):Option AV:=
 if(fewF x.t 18 102)=true then
  some (.bool (decide ((List.length x.m:Int)≤1002)))
 else
  some (.bool false)
def kwk:List AV:=[(.agg [(vt 0),(vt 1),(vt 2),(vf 0),(vf 1)])]
def kp1 (x:Td) (σ:Nat→Nat):Val:=(valL ([.int .i64 x.n0,.int .i64 x.n1,.int .i64 x.n2]) ([.im (List.map eR x.t) x.bt,.im (List.map eM x.m) x.bm]) [] σ 0)
def k93 (x:Td) (_σ:Nat→Nat):List AV:=[(.agg [(.int .i64 x.n0),(.int .i64 x.n1),(.int .i64 x.n2),(.im (List.map eR x.t) x.bt),(.im (List.map eM x.m) x.bm)])]
def k94 (_x:Td) (_σ:Nat→Nat):List Blk:=[]
theorem k91 (x:Td) (σ:Nat→Nat):kwk.map (gm (kp1 x σ))=k93 x σ:=by kernel_rfl
theorem k92 (x:Td) (σ:Nat→Nat):([]:List Blk).map (gB (kp1 x σ))=k94 x σ:=by kernel_rfl
theorem k95 (x:Td) {r0:AV} (h:kp0 x=some r0):Spec FF 9 [(.agg [(.int .i64 x.n0),(.int .i64 x.n1),(.int .i64 x.n2),(.im (List.map eR x.t) x.bt),(.im (List.map eM x.m) x.bm)])] r0:=by
 unfold kp0 at h
 have hσ: ∀ i j:Nat,(fun i:Nat=>i) i=(fun i:Nat=>i) j→i=j:=fun _ _ e=>e
 exact kbk (ρ:=kp1 x (fun i=>i)) (xs:=kwk) (by kernel_rfl) rfl rfl (by kernel_rfl) (fun z0 S=>have H:=Tok.start hσ S 0 3 2 0 ([.int .i64 x.n0,.int .i64 x.n1,.int .i64 x.n2]) ([.im (List.map eR x.t) x.bt,.im (List.map eM x.m) x.bm]) [] (.c (OkF.im kau _ _) <| .c (OkF.im kam _ _) <| .n) .n (k91 x _) (k92 x _);have H:=H.t 4 [.bool (fewF x.t 18 102)]|>.s [(vf 0),(.int .i64 18),(.int .i64 102)] (vt 3) (k2m x.t x.bt 18 102);iteE h (fun h0 h=>have H:=H.t 6 [.int .i64 (List.length x.m:Int),.bool (decide ((List.length x.m:Int)≤1002))]|>.r [(.bin .leq (cT 4) (cI 1002),(vt 5))]|>.m 3 true h0|>.c (p:=(.len 0 (cF 1),(vt 4))) (fun _ _ _=>fLen (e:=eM) (l:=x.m) (b:=x.bm) (by kernel_rfl) (by kernel_rfl));H.e [] h) (fun h0 h=>have H:=H.m 3 false (bF h0);H.e [] h))
def kf1:Nat→Td→Int→Option AV
 |0,_,_=>none
 |fu+1,x,p1_0=>
  if p1_0<(List.length x.m:Int) then
   if 0≤p1_0 then Option.bind (x.m[Int.toNat p1_0]?) fun x2=>
   if x2.kind<0 then
    some (.bool false)
   else
    if x2.kind > 2 then
     some (.bool false)
    else
     if x2.n<0 then
      some (.bool false)
     else
      if x2.n > 9999 then
       some (.bool false)
      else
       kf1 fu x (w64 (p1_0+1)) else none
  else
   if(List.length x.t:Int)≤16 then
    some (.bool (decide ((List.length x.m:Int)≤1000)))
   else
    some (.bool false)
def kww:List AV:=[(.ptr 0 0),(vt 0)]
def kwv:List Blk:=[.cells [(vt 1),(vt 2),(vt 3),(vf 0),(vf 1)] false 26]
def kjh (x:Td) (p1_0:Int) (σ:Nat→Nat):Val:=(valL ([.int .i64 p1_0,.int .i64 x.n0,.int .i64 x.n1,.int .i64 x.n2]) ([.im (List.map eR x.t) x.bt,.im (List.map eM x.m) x.bm]) [] σ 1)
def qa1 (_x:Td) (p1_0:Int) (σ:Nat→Nat):List AV:=[(.ptr (σ 0) 0),(.int .i64 p1_0)]
def qa2 (x:Td) (_p1_0:Int) (_σ:Nat→Nat):List Blk:=[.cells [(.int .i64 x.n0),(.int .i64 x.n1),(.int .i64 x.n2),(.im (List.map eR x.t) x.bt),(.im (List.map eM x.m) x.bm)] false 26]
theorem kqc (x:Td) (p1_0:Int) (σ:Nat→Nat):kww.map (gm (kjh x p1_0 σ))=qa1 x p1_0 σ:=by kernel_rfl
theorem kqd (x:Td) (p1_0:Int) (σ:Nat→Nat):kwv.map (gB (kjh x p1_0 σ))=qa2 x p1_0 σ:=by kernel_rfl
set_option maxHeartbeats 10000000 in
theorem qa3: ∀ (fu:Nat),∀ (x:Td) (p1_0:Int) {r0:AV} {z0:St} {σ:Nat→Nat},(∀ i j,σ i=σ j→i=j)→kf1 fu x p1_0=some r0→Sim (kjh x p1_0 σ) (tmpl [1,6] kww kwv) z0→J FF (fnOf FF 16) (cutK (fnOf FF 16) 4) (.code (.loop (cutB (fnOf FF 16) 4))) z0 r0:=by
 intro fu
 induction fu with
 |zero=>
  intro _ _ _ _ _ _ h _
  unfold kf1 at h
  cases h
 |succ fu ih=>
  intro x p1_0 r0 z0 σ hσ h S
  unfold kf1 at h
  exact kcq (have H:=Tok.start hσ S 1 4 2 0 ([.int .i64 p1_0,.int .i64 x.n0,.int .i64 x.n1,.int .i64 x.n2]) ([.im (List.map eR x.t) x.bt,.im (List.map eM x.m) x.bm]) [] (.c (OkF.im kau _ _) <| .c (OkF.im kam _ _) <| .n) (.n) (kqc x p1_0 _) (kqd x p1_0 _);have H:=H.t 6 [.int .i64 (List.length x.m:Int),.bool (decide (p1_0<(List.length x.m:Int)))]|>.r [(.bin .lss (cT 0) (cT 4),(vt 5))]|>.c (p:=(.len 0 (cF 1),(vt 4))) (fun _ _ _=>fLen (e:=eM) (l:=x.m) (b:=x.bm) (by kernel_rfl) (by kernel_rfl));iteE h (fun h0 h=>have H:=H.m 5 true (decide_eq_true h0);reqE h (fun h1 h=>ka3 h (fun x2 h2 h=>have H:=H.t 9 [.int .i64 x2.kind,.int .i64 x2.n,.bool (decide (x2.kind<0))]|>.r [(.bin .lss (cT 6) (cI 0),(vt 8))]|>.c (p:=(.iaS 2 (cF 1) (cT 0),(.ip [(vt 6),(vt 7)] 0))) (fun _ _ _=>fIa (sz:=2) (e:=eM) (l:=x.m) (b:=x.bm) (k:= .i64) (n:=p1_0) (y:=x2) kam (by kernel_rfl) (by kernel_rfl) h1 h2 (by kernel_rfl));iteE h (fun h3 h=>have H:=H.m 8 true (decide_eq_true h3);H.e [2,4] h) (fun h3 h=>have H:=H.t 10 [.bool (decide (x2.kind > 2))]|>.r [(.bin .gtr (cT 6) (cI 2),(vt 9))]|>.m 8 false (decide_eq_false h3);iteE h (fun h4 h=>have H:=H.m 9 true (decide_eq_true h4);H.e [2,4] h) (fun h4 h=>have H:=H.t 11 [.bool (decide (x2.n<0))]|>.r [(.bin .lss (cT 7) (cI 0),(vt 10))]|>.m 9 false (decide_eq_false h4);iteE h (fun h5 h=>have H:=H.m 10 true (decide_eq_true h5);H.e [2,4] h) (fun h5 h=>have H:=H.t 12 [.bool (decide (x2.n > 9999))]|>.r [(.bin .gtr (cT 7) (cI 9999),(vt 11))]|>.m 10 false (decide_eq_false h5);iteE h (fun h6 h=>have H:=H.m 11 true (decide_eq_true h6);H.e [2,4] h) (fun h6 h=>have H:=H.t 13 [.int .i64 (w64 (p1_0+1))]|>.r [(.bin .add (cT 0) (cI 1),(vt 12))]|>.m 11 false (decide_eq_false h6);H.k [2,4] [1,6] [0] [(.ptr 0 0),(vt 12)] [.cells [(vt 1),(vt 2),(vt 3),(vf 0),(vf 1)] false 26] 1 (kjh x (w64 (p1_0+1)) _) (kqc x (w64 (p1_0+1)) _) (kqd x (w64 (p1_0+1)) _) (fun _ hi S=>ih _ _ hi h S)))))))) (fun h0 h=>have H:=H.t 8 [.int .i64 (List.length x.t:Int),.bool (decide ((List.length x.t:Int)≤16))]|>.r [(.bin .leq (cT 6) (cI 16),(vt 7))]|>.m 5 false (decide_eq_false h0)|>.c (p:=(.len 0 (cF 0),(vt 6))) (fun _ _ _=>fLen (e:=eR) (l:=x.t) (b:=x.bt) (by kernel_rfl) (by kernel_rfl));iteE h (fun h1 h=>have H:=H.t 9 [.bool (decide ((List.length x.m:Int)≤1000))]|>.r [(.bin .leq (cT 4) (cI 1000),(vt 8))]|>.m 7 true (decide_eq_true h1);H.e [2,4] h) (fun h1 h=>have H:=H.m 7 false (decide_eq_false h1);H.e [2,4] h)))
def kf0:Nat→Td→Int→Option AV
 |0,_,_=>none
 |fu+1,x,p0=>
  if p0<(List.length x.t:Int) then
   if 0≤p0 then Option.bind (x.t[Int.toNat p0]?) fun x2=>
   if List.length x2.c≤1000000 then if(!(kcg x2.c))=true then
    some (.bool false)
   else
    if(List.length x2.c:Int) > 100 then
     some (.bool false)
    else
     kf0 fu x (w64 (p0+1)) else none else none
  else
   kf1 fu x 0
def kwu:List AV:=[(.ptr 0 0),(vt 0)]
def kwt:List Blk:=[.cells [(vt 1),(vt 2),(vt 3),(vf 0),(vf 1)] false 26]
def kjg (x:Td) (p0:Int) (σ:Nat→Nat):Val:=(valL ([.int .i64 p0,.int .i64 x.n0,.int .i64 x.n1,.int .i64 x.n2]) ([.im (List.map eR x.t) x.bt,.im (List.map eM x.m) x.bm]) [] σ 1)
def qay (_x:Td) (p0:Int) (σ:Nat→Nat):List AV:=[(.ptr (σ 0) 0),(.int .i64 p0)]
def qaz (x:Td) (_p0:Int) (_σ:Nat→Nat):List Blk:=[.cells [(.int .i64 x.n0),(.int .i64 x.n1),(.int .i64 x.n2),(.im (List.map eR x.t) x.bt),(.im (List.map eM x.m) x.bm)] false 26]
theorem kqa (x:Td) (p0:Int) (σ:Nat→Nat):kwu.map (gm (kjg x p0 σ))=qay x p0 σ:=by kernel_rfl
theorem kqb (x:Td) (p0:Int) (σ:Nat→Nat):kwt.map (gB (kjg x p0 σ))=qaz x p0 σ:=by kernel_rfl
theorem qa0: ∀ (fu:Nat),∀ (x:Td) (p0:Int) {r0:AV} {z0:St} {σ:Nat→Nat},(∀ i j,σ i=σ j→i=j)→kf0 fu x p0=some r0→Sim (kjg x p0 σ) (tmpl [1,4] kwu kwt) z0→J FF (fnOf FF 16) (cutK (fnOf FF 16) 2) (.code (.loop (cutB (fnOf FF 16) 2))) z0 r0:=by
 intro fu
 induction fu with
 |zero=>
  intro _ _ _ _ _ _ h _
  unfold kf0 at h
  cases h
 |succ fu ih=>
  intro x p0 r0 z0 σ hσ h S
  unfold kf0 at h
  exact kcq (have H:=Tok.start hσ S 1 4 2 0 ([.int .i64 p0,.int .i64 x.n0,.int .i64 x.n1,.int .i64 x.n2]) ([.im (List.map eR x.t) x.bt,.im (List.map eM x.m) x.bm]) [] (.c (OkF.im kau _ _) <| .c (OkF.im kam _ _) <| .n) (.n) (kqa x p0 _) (kqb x p0 _);have H:=H.t 6 [.int .i64 (List.length x.t:Int),.bool (decide (p0<(List.length x.t:Int)))]|>.r [(.bin .lss (cT 0) (cT 4),(vt 5))]|>.c (p:=(.len 0 (cF 0),(vt 4))) (fun _ _ _=>fLen (e:=eR) (l:=x.t) (b:=x.bt) (by kernel_rfl) (by kernel_rfl));iteE h (fun h0 h=>have H:=H.m 5 true (decide_eq_true h0);reqE h (fun h1 h=>ka3 h (fun x2 h2 h=>have H:=H.f 3 [.im (List.map eC x2.c) x2.b] (.c (OkF.im ka0 _ _) <| .n)|>.c (p:=(.iaS 1 (cF 0) (cT 0),(.ip [(vf 2)] 0))) (fun _ _ _=>fIa (sz:=1) (e:=eR) (l:=x.t) (b:=x.bt) (k:= .i64) (n:=p0) (y:=x2) kau (by kernel_rfl) (by kernel_rfl) h1 h2 (by kernel_rfl));reqE h (fun h3 h=>have H:=H.t 8 [.bool (kcg x2.c),.bool (!(kcg x2.c))]|>.r [(.un .not (cT 6),(vt 7))]|>.s [(vf 2)] (vt 6) (kzh x2.c x2.b h3);iteE h (fun h4 h=>have H:=H.m 7 true h4;H.e [2,4] h) (fun h4 h=>have H:=H.t 10 [.int .i64 (List.length x2.c:Int),.bool (decide ((List.length x2.c:Int) > 100))]|>.r [(.bin .gtr (cT 8) (cI 100),(vt 9))]|>.m 7 false (bF h4)|>.c (p:=(.len 0 (cF 2),(vt 8))) (fun _ _ _=>fLen (e:=eC) (l:=x2.c) (b:=x2.b) (by kernel_rfl) (by kernel_rfl));iteE h (fun h5 h=>have H:=H.m 9 true (decide_eq_true h5);H.e [2,4] h) (fun h5 h=>have H:=H.t 11 [.int .i64 (w64 (p0+1))]|>.r [(.bin .add (cT 0) (cI 1),(vt 10))]|>.m 9 false (decide_eq_false h5);H.k [2,4] [1,4] [0] [(.ptr 0 0),(vt 10)] [.cells [(vt 1),(vt 2),(vt 3),(vf 0),(vf 1)] false 26] 1 (kjg x (w64 (p0+1)) _) (kqa x (w64 (p0+1)) _) (kqb x (w64 (p0+1)) _) (fun _ hi S=>ih _ _ hi h S))))))) (fun h0 h=>have H:=H.m 5 false (decide_eq_false h0);H.k [2,4] [1,6] [0] [(.ptr 0 0),(.int .i64 0)] [.cells [(vt 1),(vt 2),(vt 3),(vf 0),(vf 1)] false 26] 1 (kjh x 0 _) (kqc x 0 _) (kqd x 0 _) (fun _ hi S=>qa3 _ _ _ hi h S)))
def kp8 (fu:Nat) (x:Td):Option AV:=
 if x.n0<0 then
  some (.bool false)
 else
  if x.n0 > 999 then
   some (.bool false)
  else
   if x.n1<0 then
    some (.bool false)
   else
    if x.n1 > 999 then
     some (.bool false)
    else
     if x.n2<0 then
      some (.bool false)
     else
      if x.n2 > 999 then
       some (.bool false)
      else
       kf0 fu x 0
def kws:List AV:=[(.agg [(vt 0),(vt 1),(vt 2),(vf 0),(vf 1)])]
def kp9 (x:Td) (σ:Nat→Nat):Val:=(valL ([.int .i64 x.n0,.int .i64 x.n1,.int .i64 x.n2]) ([.im (List.map eR x.t) x.bt,.im (List.map eM x.m) x.bm]) [] σ 0)
def qaw (x:Td) (_σ:Nat→Nat):List AV:=[(.agg [(.int .i64 x.n0),(.int .i64 x.n1),(.int .i64 x.n2),(.im (List.map eR x.t) x.bt),(.im (List.map eM x.m) x.bm)])]
def qax (_x:Td) (_σ:Nat→Nat):List Blk:=[]
theorem qau (x:Td) (σ:Nat→Nat):kws.map (gm (kp9 x σ))=qaw x σ:=by kernel_rfl
theorem qav (x:Td) (σ:Nat→Nat):([]:List Blk).map (gB (kp9 x σ))=qax x σ:=by kernel_rfl
set_option maxHeartbeats 10000000 in
theorem qa4 {fu:Nat} (x:Td) {r0:AV} (h:kp8 fu x=some r0):Spec FF 16 [(.agg [(.int .i64 x.n0),(.int .i64 x.n1),(.int .i64 x.n2),(.im (List.map eR x.t) x.bt),(.im (List.map eM x.m) x.bm)])] r0:=by
 unfold kp8 at h
 have hσ: ∀ i j:Nat,(fun i:Nat=>i) i=(fun i:Nat=>i) j→i=j:=fun _ _ e=>e
 exact kbk (ρ:=kp9 x (fun i=>i)) (xs:=kws) (by kernel_rfl) rfl rfl (by kernel_rfl) (fun z0 S=>have H:=Tok.start hσ S 0 3 2 0 ([.int .i64 x.n0,.int .i64 x.n1,.int .i64 x.n2]) ([.im (List.map eR x.t) x.bt,.im (List.map eM x.m) x.bm]) [] (.c (OkF.im kau _ _) <| .c (OkF.im kam _ _) <| .n) .n (qau x _) (qav x _);have H:=H.t 4 [.bool (decide (x.n0<0))]|>.r [(.bin .lss (cT 0) (cI 0),(vt 3))];iteE h (fun h0 h=>have H:=H.m 3 true (decide_eq_true h0);H.e [2,4] h) (fun h0 h=>have H:=H.t 5 [.bool (decide (x.n0 > 999))]|>.r [(.bin .gtr (cT 0) (cI 999),(vt 4))]|>.m 3 false (decide_eq_false h0);iteE h (fun h1 h=>have H:=H.m 4 true (decide_eq_true h1);H.e [2,4] h) (fun h1 h=>have H:=H.t 6 [.bool (decide (x.n1<0))]|>.r [(.bin .lss (cT 1) (cI 0),(vt 5))]|>.m 4 false (decide_eq_false h1);iteE h (fun h2 h=>have H:=H.m 5 true (decide_eq_true h2);H.e [2,4] h) (fun h2 h=>have H:=H.t 7 [.bool (decide (x.n1 > 999))]|>.r [(.bin .gtr (cT 1) (cI 999),(vt 6))]|>.m 5 false (decide_eq_false h2);iteE h (fun h3 h=>have H:=H.m 6 true (decide_eq_true h3);H.e [2,4] h) (fun h3 h=>have H:=H.t 8 [.bool (decide (x.n2<0))]|>.r [(.bin .lss (cT 2) (cI 0),(vt 7))]|>.m 6 false (decide_eq_false h3);iteE h (fun h4 h=>have H:=H.m 7 true (decide_eq_true h4);H.e [2,4] h) (fun h4 h=>have H:=H.t 9 [.bool (decide (x.n2 > 999))]|>.r [(.bin .gtr (cT 2) (cI 999),(vt 8))]|>.m 7 false (decide_eq_false h4);iteE h (fun h5 h=>have H:=H.m 8 true (decide_eq_true h5);H.e [2,4] h) (fun h5 h=>have H:=H.m 8 false (decide_eq_false h5);H.k [2,4] [1,4] [0] [(.ptr 0 0),(.int .i64 0)] [.cells [(vt 0),(vt 1),(vt 2),(vf 0),(vf 1)] false 26] 1 (kjg x 0 _) (kqa x 0 _) (kqb x 0 _) (fun _ hi S=>qa0 _ _ _ hi h S))))))))
def kf5:Nat→Td→Td→Int→Option AV
 |0,_,_,_=>none
 |fu+1,x,y,p1_0=>
  if p1_0<(List.length x.t:Int) then
   if 0≤p1_0 then Option.bind (x.t[Int.toNat p1_0]?) fun x2=>
   Option.bind (y.t[Int.toNat p1_0]?) fun x3=>
   if List.length x2.c≤1000000 then if(!(eqC x2.c x3.c))=true then
    some (.bool false)
   else
    kf5 fu x y (w64 (p1_0+1)) else none else none
  else
   some (.bool true)
def kxg:List AV:=[(.ptr 0 0),(.ptr 1 0),(vt 0)]
def kxf:List Blk:=[.cells [(vt 1),(vt 2),(vt 3),(vf 0),(vf 1)] false 26,.cells [(vt 4),(vt 5),(vt 6),(vf 2),(vf 3)] false 26]
def kjk (x:Td) (y:Td) (p1_0:Int) (σ:Nat→Nat):Val:=(valL ([.int .i64 p1_0,.int .i64 x.n0,.int .i64 x.n1,.int .i64 x.n2,.int .i64 y.n0,.int .i64 y.n1,.int .i64 y.n2]) ([.im (List.map eR x.t) x.bt,.im (List.map eM x.m) x.bm,.im (List.map eR y.t) y.bt,.im (List.map eM y.m) y.bm]) [] σ 2)
def qcr (_x:Td) (_y:Td) (p1_0:Int) (σ:Nat→Nat):List AV:=[(.ptr (σ 0) 0),(.ptr (σ 1) 0),(.int .i64 p1_0)]
def qcs (x:Td) (y:Td) (_p1_0:Int) (_σ:Nat→Nat):List Blk:=[.cells [(.int .i64 x.n0),(.int .i64 x.n1),(.int .i64 x.n2),(.im (List.map eR x.t) x.bt),(.im (List.map eM x.m) x.bm)] false 26,.cells [(.int .i64 y.n0),(.int .i64 y.n1),(.int .i64 y.n2),(.im (List.map eR y.t) y.bt),(.im (List.map eM y.m) y.bm)] false 26]
theorem kqv (x:Td) (y:Td) (p1_0:Int) (σ:Nat→Nat):kxg.map (gm (kjk x y p1_0 σ))=qcr x y p1_0 σ:=by kernel_rfl
theorem kqw (x:Td) (y:Td) (p1_0:Int) (σ:Nat→Nat):kxf.map (gB (kjk x y p1_0 σ))=qcs x y p1_0 σ:=by kernel_rfl
theorem qct: ∀ (fu:Nat),∀ (x:Td) (y:Td) (p1_0:Int) {r0:AV} {z0:St} {σ:Nat→Nat},(∀ i j,σ i=σ j→i=j)→kf5 fu x y p1_0=some r0→Sim (kjk x y p1_0 σ) (tmpl [2,3,6] kxg kxf) z0→J FF (fnOf FF 14) (cutK (fnOf FF 14) 2) (.code (.loop (cutB (fnOf FF 14) 2))) z0 r0:=by
 intro fu
 induction fu with
 |zero=>
  intro _ _ _ _ _ _ _ h _
  unfold kf5 at h
  cases h
 |succ fu ih=>
  intro x y p1_0 r0 z0 σ hσ h S
  unfold kf5 at h
  exact kcq (have H:=Tok.start hσ S 2 7 4 0 ([.int .i64 p1_0,.int .i64 x.n0,.int .i64 x.n1,.int .i64 x.n2,.int .i64 y.n0,.int .i64 y.n1,.int .i64 y.n2]) ([.im (List.map eR x.t) x.bt,.im (List.map eM x.m) x.bm,.im (List.map eR y.t) y.bt,.im (List.map eM y.m) y.bm]) [] (.c (OkF.im kau _ _) <| .c (OkF.im kam _ _) <| .c (OkF.im kau _ _) <| .c (OkF.im kam _ _) <| .n) (.n) (kqv x y p1_0 _) (kqw x y p1_0 _);have H:=H.t 9 [.int .i64 (List.length x.t:Int),.bool (decide (p1_0<(List.length x.t:Int)))]|>.r [(.bin .lss (cT 0) (cT 7),(vt 8))]|>.c (p:=(.len 0 (cF 0),(vt 7))) (fun _ _ _=>fLen (e:=eR) (l:=x.t) (b:=x.bt) (by kernel_rfl) (by kernel_rfl));iteE h (fun h0 h=>have H:=H.m 8 true (decide_eq_true h0);reqE h (fun h1 h=>ka3 h (fun x2 h2 h=>have H:=H.f 5 [.im (List.map eC x2.c) x2.b] (.c (OkF.im ka0 _ _) <| .n)|>.c (p:=(.iaS 1 (cF 0) (cT 0),(.ip [(vf 4)] 0))) (fun _ _ _=>fIa (sz:=1) (e:=eR) (l:=x.t) (b:=x.bt) (k:= .i64) (n:=p1_0) (y:=x2) kau (by kernel_rfl) (by kernel_rfl) h1 h2 (by kernel_rfl));ka3 h (fun x3 h3 h=>have H:=H.f 6 [.im (List.map eC x3.c) x3.b] (.c (OkF.im ka0 _ _) <| .n)|>.c (p:=(.iaS 1 (cF 2) (cT 0),(.ip [(vf 5)] 0))) (fun _ _ _=>fIa (sz:=1) (e:=eR) (l:=y.t) (b:=y.bt) (k:= .i64) (n:=p1_0) (y:=x3) kau (by kernel_rfl) (by kernel_rfl) h1 h3 (by kernel_rfl));reqE h (fun h4 h=>have H:=H.t 11 [.bool (eqC x2.c x3.c),.bool (!(eqC x2.c x3.c))]|>.r [(.un .not (cT 9),(vt 10))]|>.s [(vf 4),(vf 5)] (vt 9) (qfa x2.c x3.c x2.b x3.b h4);iteE h (fun h5 h=>have H:=H.m 10 true h5;H.e [0,2] h) (fun h5 h=>have H:=H.t 12 [.int .i64 (w64 (p1_0+1))]|>.r [(.bin .add (cT 0) (cI 1),(vt 11))]|>.m 10 false (bF h5);H.k [0,2] [2,3,6] [0,1] [(.ptr 0 0),(.ptr 1 0),(vt 11)] [.cells [(vt 1),(vt 2),(vt 3),(vf 0),(vf 1)] false 26,.cells [(vt 4),(vt 5),(vt 6),(vf 2),(vf 3)] false 26] 14 (kjk x y (w64 (p1_0+1)) _) (kqv x y (w64 (p1_0+1)) _) (kqw x y (w64 (p1_0+1)) _) (fun _ hi S=>ih _ _ _ hi h S))))))) (fun h0 h=>have H:=H.m 8 false (decide_eq_false h0);H.e [0,2] h))
def kf4:Nat→Td→Td→Int→Option AV
 |0,_,_,_=>none
 |fu+1,x,y,p0=>
  if p0<(List.length x.m:Int) then
   if 0≤p0 then Option.bind (x.m[Int.toNat p0]?) fun x2=>
   Option.bind (y.m[Int.toNat p0]?) fun x3=>
   if(!((x2.kind:Int) == x3.kind && ((x2.n:Int) == x3.n && true)))=true then
    some (.bool false)
   else
    kf4 fu x y (w64 (p0+1)) else none
  else
   kf5 fu x y 0
def kxe:List AV:=[(.ptr 0 0),(.ptr 1 0),(vt 0)]
def kxd:List Blk:=[.cells [(vt 1),(vt 2),(vt 3),(vf 0),(vf 1)] false 26,.cells [(vt 4),(vt 5),(vt 6),(vf 2),(vf 3)] false 26]
def kjj (x:Td) (y:Td) (p0:Int) (σ:Nat→Nat):Val:=(valL ([.int .i64 p0,.int .i64 x.n0,.int .i64 x.n1,.int .i64 x.n2,.int .i64 y.n0,.int .i64 y.n1,.int .i64 y.n2]) ([.im (List.map eR x.t) x.bt,.im (List.map eM x.m) x.bm,.im (List.map eR y.t) y.bt,.im (List.map eM y.m) y.bm]) [] σ 2)
def qco (_x:Td) (_y:Td) (p0:Int) (σ:Nat→Nat):List AV:=[(.ptr (σ 0) 0),(.ptr (σ 1) 0),(.int .i64 p0)]
def qcp (x:Td) (y:Td) (_p0:Int) (_σ:Nat→Nat):List Blk:=[.cells [(.int .i64 x.n0),(.int .i64 x.n1),(.int .i64 x.n2),(.im (List.map eR x.t) x.bt),(.im (List.map eM x.m) x.bm)] false 26,.cells [(.int .i64 y.n0),(.int .i64 y.n1),(.int .i64 y.n2),(.im (List.map eR y.t) y.bt),(.im (List.map eM y.m) y.bm)] false 26]
theorem kqt (x:Td) (y:Td) (p0:Int) (σ:Nat→Nat):kxe.map (gm (kjj x y p0 σ))=qco x y p0 σ:=by kernel_rfl
theorem kqu (x:Td) (y:Td) (p0:Int) (σ:Nat→Nat):kxd.map (gB (kjj x y p0 σ))=qcp x y p0 σ:=by kernel_rfl
theorem qcq: ∀ (fu:Nat),∀ (x:Td) (y:Td) (p0:Int) {r0:AV} {z0:St} {σ:Nat→Nat},(∀ i j,σ i=σ j→i=j)→kf4 fu x y p0=some r0→Sim (kjj x y p0 σ) (tmpl [2,3,5] kxe kxd) z0→J FF (fnOf FF 14) (cutK (fnOf FF 14) 0) (.code (.loop (cutB (fnOf FF 14) 0))) z0 r0:=by
 intro fu
 induction fu with
 |zero=>
  intro _ _ _ _ _ _ _ h _
  unfold kf4 at h
  cases h
 |succ fu ih=>
  intro x y p0 r0 z0 σ hσ h S
  unfold kf4 at h
  exact kcq (have H:=Tok.start hσ S 2 7 4 0 ([.int .i64 p0,.int .i64 x.n0,.int .i64 x.n1,.int .i64 x.n2,.int .i64 y.n0,.int .i64 y.n1,.int .i64 y.n2]) ([.im (List.map eR x.t) x.bt,.im (List.map eM x.m) x.bm,.im (List.map eR y.t) y.bt,.im (List.map eM y.m) y.bm]) [] (.c (OkF.im kau _ _) <| .c (OkF.im kam _ _) <| .c (OkF.im kau _ _) <| .c (OkF.im kam _ _) <| .n) (.n) (kqt x y p0 _) (kqu x y p0 _);have H:=H.t 9 [.int .i64 (List.length x.m:Int),.bool (decide (p0<(List.length x.m:Int)))]|>.r [(.bin .lss (cT 0) (cT 7),(vt 8))]|>.c (p:=(.len 0 (cF 1),(vt 7))) (fun _ _ _=>fLen (e:=eM) (l:=x.m) (b:=x.bm) (by kernel_rfl) (by kernel_rfl));iteE h (fun h0 h=>have H:=H.m 8 true (decide_eq_true h0);reqE h (fun h1 h=>ka3 h (fun x2 h2 h=>have H:=H.t 11 [.int .i64 x2.kind,.int .i64 x2.n]|>.c (p:=(.iaS 2 (cF 1) (cT 0),(.ip [(vt 9),(vt 10)] 0))) (fun _ _ _=>fIa (sz:=2) (e:=eM) (l:=x.m) (b:=x.bm) (k:= .i64) (n:=p0) (y:=x2) kam (by kernel_rfl) (by kernel_rfl) h1 h2 (by kernel_rfl));ka3 h (fun x3 h3 h=>have H:=H.t 14 [.int .i64 x3.kind,.int .i64 x3.n,.bool (!((x2.kind:Int) == x3.kind && ((x2.n:Int) == x3.n && true)))]|>.r [(.eqa true [0,0] (.c (.agg [(vt 9),(vt 10)])) (.c (.agg [(vt 11),(vt 12)])),(vt 13))]|>.c (p:=(.iaS 2 (cF 3) (cT 0),(.ip [(vt 11),(vt 12)] 0))) (fun _ _ _=>fIa (sz:=2) (e:=eM) (l:=y.m) (b:=y.bm) (k:= .i64) (n:=p0) (y:=x3) kam (by kernel_rfl) (by kernel_rfl) h1 h3 (by kernel_rfl));iteE h (fun h4 h=>have H:=H.m 13 true h4;H.e [0,2] h) (fun h4 h=>have H:=H.t 15 [.int .i64 (w64 (p0+1))]|>.r [(.bin .add (cT 0) (cI 1),(vt 14))]|>.m 13 false (bF h4);H.k [0,2] [2,3,5] [0,1] [(.ptr 0 0),(.ptr 1 0),(vt 14)] [.cells [(vt 1),(vt 2),(vt 3),(vf 0),(vf 1)] false 26,.cells [(vt 4),(vt 5),(vt 6),(vf 2),(vf 3)] false 26] 13 (kjj x y (w64 (p0+1)) _) (kqt x y (w64 (p0+1)) _) (kqu x y (w64 (p0+1)) _) (fun _ hi S=>ih _ _ _ hi h S)))))) (fun h0 h=>have H:=H.m 8 false (decide_eq_false h0);H.k [0,2] [2,3,6] [0,1] [(.ptr 0 0),(.ptr 1 0),(.int .i64 0)] [.cells [(vt 1),(vt 2),(vt 3),(vf 0),(vf 1)] false 26,.cells [(vt 4),(vt 5),(vt 6),(vf 2),(vf 3)] false 26] 2 (kjk x y 0 _) (kqv x y 0 _) (kqw x y 0 _) (fun _ hi S=>qct _ _ _ _ hi h S)))
def kqr (fu:Nat) (x:Td) (y:Td):Option AV:=
 if(!((x.n0:Int) == y.n0 && ((x.n1:Int) == y.n1 && ((x.n2:Int) == y.n2 && true))))=true then
  some (.bool false)
 else
  if(List.length x.m:Int)=(List.length y.m:Int) then
   if(List.length x.t:Int)=(List.length y.t:Int) then
     kf4 fu x y 0
   else
     some (.bool false)
  else
   some (.bool false)
def kxc:List AV:=[(.agg [(vt 0),(vt 1),(vt 2),(vf 0),(vf 1)]),(.agg [(vt 3),(vt 4),(vt 5),(vf 2),(vf 3)])]
def kqs (x:Td) (y:Td) (σ:Nat→Nat):Val:=(valL ([.int .i64 x.n0,.int .i64 x.n1,.int .i64 x.n2,.int .i64 y.n0,.int .i64 y.n1,.int .i64 y.n2]) ([.im (List.map eR x.t) x.bt,.im (List.map eM x.m) x.bm,.im (List.map eR y.t) y.bt,.im (List.map eM y.m) y.bm]) [] σ 0)
def qcm (x:Td) (y:Td) (_σ:Nat→Nat):List AV:=[(.agg [(.int .i64 x.n0),(.int .i64 x.n1),(.int .i64 x.n2),(.im (List.map eR x.t) x.bt),(.im (List.map eM x.m) x.bm)]),(.agg [(.int .i64 y.n0),(.int .i64 y.n1),(.int .i64 y.n2),(.im (List.map eR y.t) y.bt),(.im (List.map eM y.m) y.bm)])]
def qcn (_x:Td) (_y:Td) (_σ:Nat→Nat):List Blk:=[]
theorem qck (x:Td) (y:Td) (σ:Nat→Nat):kxc.map (gm (kqs x y σ))=qcm x y σ:=by kernel_rfl
theorem qcl (x:Td) (y:Td) (σ:Nat→Nat):([]:List Blk).map (gB (kqs x y σ))=qcn x y σ:=by kernel_rfl
theorem qcu {fu:Nat} (x:Td) (y:Td) {r0:AV} (h:kqr fu x y=some r0):Spec FF 14 [(.agg [(.int .i64 x.n0),(.int .i64 x.n1),(.int .i64 x.n2),(.im (List.map eR x.t) x.bt),(.im (List.map eM x.m) x.bm)]),(.agg [(.int .i64 y.n0),(.int .i64 y.n1),(.int .i64 y.n2),(.im (List.map eR y.t) y.bt),(.im (List.map eM y.m) y.bm)])] r0:=by
 unfold kqr at h
 have hσ: ∀ i j:Nat,(fun i:Nat=>i) i=(fun i:Nat=>i) j→i=j:=fun _ _ e=>e
 exact kbk (ρ:=kqs x y (fun i=>i)) (xs:=kxc) (by kernel_rfl) rfl rfl (by kernel_rfl) (fun z0 S=>have H:=Tok.start hσ S 0 6 4 0 ([.int .i64 x.n0,.int .i64 x.n1,.int .i64 x.n2,.int .i64 y.n0,.int .i64 y.n1,.int .i64 y.n2]) ([.im (List.map eR x.t) x.bt,.im (List.map eM x.m) x.bm,.im (List.map eR y.t) y.bt,.im (List.map eM y.m) y.bm]) [] (.c (OkF.im kau _ _) <| .c (OkF.im kam _ _) <| .c (OkF.im kau _ _) <| .c (OkF.im kam _ _) <| .n) .n (qck x y _) (qcl x y _);have H:=H.t 7 [.bool (!((x.n0:Int) == y.n0 && ((x.n1:Int) == y.n1 && ((x.n2:Int) == y.n2 && true))))]|>.r [(.eqa true [0,0,0] (.c (.agg [(vt 0),(vt 1),(vt 2)])) (.c (.agg [(vt 3),(vt 4),(vt 5)])),(vt 6))];iteE h (fun h0 h=>have H:=H.m 6 true h0;H.e [0,2] h) (fun h0 h=>have H:=H.t 10 [.int .i64 (List.length x.m:Int),.int .i64 (List.length y.m:Int),.bool (!decide ((List.length x.m:Int)=(List.length y.m:Int)))]|>.r [(.bin .neq (cT 7) (cT 8),(vt 9))]|>.m 6 false (bF h0)|>.c (p:=(.len 0 (cF 1),(vt 7))) (fun _ _ _=>fLen (e:=eM) (l:=x.m) (b:=x.bm) (by kernel_rfl) (by kernel_rfl))|>.c (p:=(.len 0 (cF 3),(vt 8))) (fun _ _ _=>fLen (e:=eM) (l:=y.m) (b:=y.bm) (by kernel_rfl) (by kernel_rfl));iteE h (fun h1 h=>have H:=H.t 13 [.int .i64 (List.length x.t:Int),.int .i64 (List.length y.t:Int),.bool (!decide ((List.length x.t:Int)=(List.length y.t:Int)))]|>.r [(.bin .neq (cT 10) (cT 11),(vt 12))]|>.m 9 false (nT h1)|>.c (p:=(.len 0 (cF 0),(vt 10))) (fun _ _ _=>fLen (e:=eR) (l:=x.t) (b:=x.bt) (by kernel_rfl) (by kernel_rfl))|>.c (p:=(.len 0 (cF 2),(vt 11))) (fun _ _ _=>fLen (e:=eR) (l:=y.t) (b:=y.bt) (by kernel_rfl) (by kernel_rfl));iteE h (fun h2 h=>have H:=H.m 12 false (nT h2);H.k [0,2] [2,3,5] [0,1] [(.ptr 0 0),(.ptr 1 0),(.int .i64 0)] [.cells [(vt 0),(vt 1),(vt 2),(vf 0),(vf 1)] false 26,.cells [(vt 3),(vt 4),(vt 5),(vf 2),(vf 3)] false 26] 2 (kjj x y 0 _) (kqt x y 0 _) (kqu x y 0 _) (fun _ hi S=>qcq _ _ _ _ hi h S)) (fun h2 h=>have H:=H.m 12 true (nF h2);H.e [0,2] h)) (fun h1 h=>have H:=H.m 9 true (nF h1);H.e [0,2] h)))
def kqo (x:Td) (y:Td):Option AV:=
 if((x.n0:Int) == y.n0 && ((x.n1:Int) == y.n1 && ((x.n2:Int) == y.n2 && true)))=true then
  if List.length x.m≤1000000 then if(eqMv x.m y.m)=true then
    if kgc x.t=true then some (.bool (eqTs x.t y.t)) else none
  else
    some (.bool false) else none
 else
  some (.bool false)
def kxa:List AV:=[(.agg [(vt 0),(vt 1),(vt 2),(vf 0),(vf 1)]),(.agg [(vt 3),(vt 4),(vt 5),(vf 2),(vf 3)])]
def kqp (x:Td) (y:Td) (σ:Nat→Nat):Val:=(valL ([.int .i64 x.n0,.int .i64 x.n1,.int .i64 x.n2,.int .i64 y.n0,.int .i64 y.n1,.int .i64 y.n2]) ([.im (List.map eR x.t) x.bt,.im (List.map eM x.m) x.bm,.im (List.map eR y.t) y.bt,.im (List.map eM y.m) y.bm]) [] σ 0)
def qcc (x:Td) (y:Td) (_σ:Nat→Nat):List AV:=[(.agg [(.int .i64 x.n0),(.int .i64 x.n1),(.int .i64 x.n2),(.im (List.map eR x.t) x.bt),(.im (List.map eM x.m) x.bm)]),(.agg [(.int .i64 y.n0),(.int .i64 y.n1),(.int .i64 y.n2),(.im (List.map eR y.t) y.bt),(.im (List.map eM y.m) y.bm)])]
def qcd (_x:Td) (_y:Td) (_σ:Nat→Nat):List Blk:=[]
theorem qca (x:Td) (y:Td) (σ:Nat→Nat):kxa.map (gm (kqp x y σ))=qcc x y σ:=by kernel_rfl
theorem qcb (x:Td) (y:Td) (σ:Nat→Nat):([]:List Blk).map (gB (kqp x y σ))=qcd x y σ:=by kernel_rfl
theorem qce (x:Td) (y:Td) {r0:AV} (h:kqo x y=some r0):Spec FF 15 [(.agg [(.int .i64 x.n0),(.int .i64 x.n1),(.int .i64 x.n2),(.im (List.map eR x.t) x.bt),(.im (List.map eM x.m) x.bm)]),(.agg [(.int .i64 y.n0),(.int .i64 y.n1),(.int .i64 y.n2),(.im (List.map eR y.t) y.bt),(.im (List.map eM y.m) y.bm)])] r0:=by
 unfold kqo at h
 have hσ: ∀ i j:Nat,(fun i:Nat=>i) i=(fun i:Nat=>i) j→i=j:=fun _ _ e=>e
 exact kbk (ρ:=kqp x y (fun i=>i)) (xs:=kxa) (by kernel_rfl) rfl rfl (by kernel_rfl) (fun z0 S=>have H:=Tok.start hσ S 0 6 4 0 ([.int .i64 x.n0,.int .i64 x.n1,.int .i64 x.n2,.int .i64 y.n0,.int .i64 y.n1,.int .i64 y.n2]) ([.im (List.map eR x.t) x.bt,.im (List.map eM x.m) x.bm,.im (List.map eR y.t) y.bt,.im (List.map eM y.m) y.bm]) [] (.c (OkF.im kau _ _) <| .c (OkF.im kam _ _) <| .c (OkF.im kau _ _) <| .c (OkF.im kam _ _) <| .n) .n (qca x y _) (qcb x y _);have H:=H.t 7 [.bool ((x.n0:Int) == y.n0 && ((x.n1:Int) == y.n1 && ((x.n2:Int) == y.n2 && true)))]|>.r [(.eqa false [0,0,0] (.c (.agg [(vt 0),(vt 1),(vt 2)])) (.c (.agg [(vt 3),(vt 4),(vt 5)])),(vt 6))];iteE h (fun h0 h=>have H:=H.m 6 true h0;reqE h (fun h1 h=>have H:=H.t 8 [.bool (eqMv x.m y.m)]|>.s [(vf 1),(vf 3)] (vt 7) (k12 x.m y.m x.bm y.bm h1);iteE h (fun h2 h=>have H:=H.m 7 true h2;reqE h (fun h3 h=>have H:=H.t 9 [.bool (eqTs x.t y.t)]|>.s [(vf 0),(vf 2),(.fn 40 [] [])] (vt 8) (k16 x.t y.t x.bt y.bt h3);H.e [] h)) (fun h2 h=>have H:=H.m 7 false (bF h2);H.e [] h))) (fun h0 h=>have H:=H.m 6 false (bF h0);H.e [] h))
end Go.Proofs.Hz
open Go Go.Proofs
namespace Go.Proofs.Hz
end Go.Proofs.Hz
