/-
  Chapter 20: few; may it be; are two the same. And: Chapter 20: a move's line, and the text of what is told (the document's).
  Conditions: none.
-/
import Derived.Test.YtamikoglpnoicaaGreatDoorT33
import Derived.Test.YtamikoglpnoicaaGreatDoorT24
import Derived.Test.YtamikoglpnoicaaGreatDoorT30
open Go Go.Proofs
namespace Go.Proofs.Hz
theorem kkm (x:Td):Spec FF 9 [x.av] (.bool (fewT x)):=k95 x (by
 unfold kp0 fewT
 by_cases h:fewF x.t 18 102=true
 ·rw[if_pos h,h,Bool.true_and]
 ·rw[if_neg h]
  simp only[Bool.not_eq_true] at h
  rw[h];rfl)
theorem krp {x:Td} (h:kb2 x=true):kgc x.t=true∧x.m.length≤1000000:=by
 simp only[kb2,Bool.and_eq_true,decide_eq_true_eq] at h
 exact h
theorem ko1 {m:Mov}:mvOk m=true↔(0≤m.kind∧m.kind≤2)∧0≤m.n∧m.n≤9999:=by
 simp only[mvOk,decide_eq_true_eq]
theorem may4 (x:Td) (hn:x.m.length≤1000000): ∀ (k i fu:Nat),i+k=x.m.length→k<fu→(∀ m ∈ x.m.take i,mvOk m=true)→
  kf1 fu x i=some (.bool (x.m.all mvOk && decide (x.t.length≤16∧x.m.length≤1000))):=by
 intro k
 induction k with
 |zero=>
  intro i fu hi hf ht
  obtain⟨fu,rfl⟩: ∃ g,fu=g+1:=⟨fu - 1,by omega⟩
  unfold kf1
  rw[if_neg (by omega)]
  rw[List.take_of_length_le (by omega)] at ht
  have:x.m.all mvOk=true:=List.all_eq_true.2 ht
  rw[this,Bool.true_and]
  by_cases h1:x.t.length≤16
  ·rw[if_pos (by omega)]
   congr 2
   apply decide_eq_decide.2
   omega
  ·rw[if_neg (by omega),decide_eq_false (by omega)]
 |succ k ih=>
  intro i fu hi hf ht
  obtain⟨fu,rfl⟩: ∃ g,fu=g+1:=⟨fu - 1,by omega⟩
  have h1:i<x.m.length:=by omega
  unfold kf1
  rw[if_pos (by omega),if_pos (by omega)]
  simp only[Int.toNat_natCast,List.getElem?_eq_getElem h1,Option.bind_some]
  have bad: ¬mvOk x.m[i]=true→(x.m.all mvOk && decide (x.t.length≤16∧x.m.length≤1000))=false:=fun h=>by
   have:x.m.all mvOk=false:=Bool.eq_false_iff.2 fun h2=>h (List.all_eq_true.1 h2 _ (List.getElem_mem h1))
   rw[this];rfl
  rw[ko1] at bad
  by_cases c1:x.m[i].kind<0
  ·rw[if_pos c1,bad (by omega)]
  ·rw[if_neg c1]
   by_cases c2:x.m[i].kind > 2
   ·rw[if_pos c2,bad (by omega)]
   ·rw[if_neg c2]
    by_cases c3:x.m[i].n<0
    ·rw[if_pos c3,bad (by omega)]
    ·rw[if_neg c3]
     by_cases c4:x.m[i].n > 9999
     ·rw[if_pos c4,bad (by omega)]
     ·rw[if_neg c4,kce h1 hn]
      refine ih (i+1) fu (by omega) (by omega) fun m hm=> ?_
      rw[List.take_succ_eq_append_getElem h1,List.mem_append,List.mem_singleton] at hm
      rcases hm with hm |rfl
      ·exact ht m hm
      ·exact ko1.2 (by omega)
theorem may2 (x:Td) (hs:kb2 x=true): ∀ (k i fu:Nat),i+k=x.t.length→k+x.m.length+1<fu→(∀ r ∈ x.t.take i,kbb r.c=true)→
  kf0 fu x i=some (.bool ((x.t.all fun r=>kbb r.c) && (x.m.all mvOk && decide (x.t.length≤16∧x.m.length≤1000)))):=by
 obtain⟨hs1,hm⟩:=krp hs
 obtain⟨hn,hr⟩:=kro hs1
 intro k
 induction k with
 |zero=>
  intro i fu hi hf ht
  obtain⟨fu,rfl⟩: ∃ g,fu=g+1:=⟨fu - 1,by omega⟩
  unfold kf0
  rw[if_neg (by omega)]
  rw[List.take_of_length_le (by omega)] at ht
  have:(x.t.all fun r=>kbb r.c)=true:=List.all_eq_true.2 ht
  rw[this,Bool.true_and]
  exact may4 x hm x.m.length 0 fu (by omega) (by omega) (by simp)
 |succ k ih=>
  intro i fu hi hf ht
  obtain⟨fu,rfl⟩: ∃ g,fu=g+1:=⟨fu - 1,by omega⟩
  have h1:i<x.t.length:=by omega
  unfold kf0
  rw[if_pos (by omega),if_pos (by omega)]
  simp only[Int.toNat_natCast,List.getElem?_eq_getElem h1,Option.bind_some]
  have bad: ¬kbb x.t[i].c=true→((x.t.all fun r=>kbb r.c) && (x.m.all mvOk && decide (x.t.length≤16∧x.m.length≤1000)))=false:=fun h=>by
   have:(x.t.all fun r=>kbb r.c)=false:=Bool.eq_false_iff.2 fun h2=>h (List.all_eq_true.1 h2 _ (List.getElem_mem h1))
   rw[this];rfl
  simp only[kbb,Bool.and_eq_true,decide_eq_true_eq] at bad
  rw[if_pos (hr _ (List.getElem_mem h1))]
  by_cases c1:kcg x.t[i].c=true
  ·rw[if_neg (by simp[c1])]
   by_cases c2:(x.t[i].c.length:Int) > 100
   ·rw[if_pos c2]
    have:=bad (by omega)
    simp only[kbb] at this ⊢
    rw[this]
   ·rw[if_neg c2,kce h1 hn]
    refine ih (i+1) fu (by omega) (by omega) fun r hr'=> ?_
    rw[List.take_succ_eq_append_getElem h1,List.mem_append,List.mem_singleton] at hr'
    rcases hr' with hr' |rfl
    ·exact ht r hr'
    ·simp only[kbb,Bool.and_eq_true,decide_eq_true_eq]
     exact⟨c1,by omega⟩
  ·rw[if_pos (by simp[c1])]
   have:=bad (fun h=>c1 h.1)
   simp only[kbb] at this ⊢
   rw[this]
theorem k5a (x:Td):ka6 x=(decide (kc3 x.n0∧kc3 x.n1∧kc3 x.n2) && ((x.t.all fun r=>kbb r.c) && (x.m.all mvOk && decide (x.t.length≤16∧x.m.length≤1000)))):=by
 unfold ka6 mayD Td.d
 simp only[List.all_map,List.length_map,Bool.and_assoc]
 rfl
theorem khu (x:Td) (hs:kb2 x=true):Spec FF 16 [x.av] (.bool (ka6 x)):=by
 refine qa4 (fu:=x.t.length+x.m.length+2) x ?_
 rw[k5a]
 unfold kp8
 have bad: ¬(kc3 x.n0∧kc3 x.n1∧kc3 x.n2)→(decide (kc3 x.n0∧kc3 x.n1∧kc3 x.n2) && ((x.t.all fun r=>kbb r.c) && (x.m.all mvOk && decide (x.t.length≤16∧x.m.length≤1000))))=false:=fun h=>by
  rw[decide_eq_false h];rfl
 unfold kc3 at bad ⊢
 by_cases c1:x.n0<0
 ·rw[if_pos c1,bad (by omega)]
 rw[if_neg c1]
 by_cases c2:x.n0 > 999
 ·rw[if_pos c2,bad (by omega)]
 rw[if_neg c2]
 by_cases c3:x.n1<0
 ·rw[if_pos c3,bad (by omega)]
 rw[if_neg c3]
 by_cases c4:x.n1 > 999
 ·rw[if_pos c4,bad (by omega)]
 rw[if_neg c4]
 by_cases c5:x.n2<0
 ·rw[if_pos c5,bad (by omega)]
 rw[if_neg c5]
 by_cases c6:x.n2 > 999
 ·rw[if_pos c6,bad (by omega)]
 rw[if_neg c6,decide_eq_true (by omega),Bool.true_and]
 exact may2 x hs x.t.length 0 _ (by omega) (by omega) (by simp)
theorem qe7 (x y:Td) (hs:kgc x.t=true) (hl:x.t.length=y.t.length): ∀ (k i fu:Nat),i+k=x.t.length→k<fu→(x.t.take i).map Ro.c=(y.t.take i).map Ro.c→kf5 fu x y i=some (.bool (decide (x.t.map Ro.c=y.t.map Ro.c))):=by
 obtain⟨hn,hr⟩:=kro hs
 intro k
 induction k with
 |zero=>
  intro i fu hi hf ht
  obtain⟨fu,rfl⟩: ∃ g,fu=g+1:=⟨fu - 1,by omega⟩
  unfold kf5
  rw[if_neg (by omega)]
  rw[List.take_of_length_le (by omega),List.take_of_length_le (by omega)] at ht
  rw[decide_eq_true ht]
 |succ k ih=>
  intro i fu hi hf ht
  obtain⟨fu,rfl⟩: ∃ g,fu=g+1:=⟨fu - 1,by omega⟩
  have h1:i<x.t.length:=by omega
  have h2:i<y.t.length:=by omega
  unfold kf5
  rw[if_pos (by omega),if_pos (by omega)]
  simp only[Int.toNat_natCast,List.getElem?_eq_getElem h1,List.getElem?_eq_getElem h2,Option.bind_some]
  rw[if_pos (hr _ (List.getElem_mem h1))]
  by_cases hc:x.t[i].c=y.t[i].c
  ·rw[if_neg (by simp[eqC,hc]),kce h1 hn]
   refine ih (i+1) fu (by omega) (by omega) ?_
   rw[List.take_succ_eq_append_getElem h1,List.take_succ_eq_append_getElem h2,List.map_append,List.map_append,ht,List.map_singleton,List.map_singleton,hc]
  ·rw[if_pos (by simp[eqC,hc])]
   rw[decide_eq_false fun e=> ?_]
   have e1:=congrArg (·[i]?) e
   simp only[List.getElem?_map,List.getElem?_eq_getElem h1,List.getElem?_eq_getElem h2,Option.map_some,Option.some.injEq] at e1
   exact hc e1
theorem qe6 (x y:Td) (hs:kb2 x=true) (hl:x.t.length=y.t.length) (hm:x.m.length=y.m.length): ∀ (k i fu:Nat),i+k=x.m.length→k+x.t.length+1<fu→x.m.take i=y.m.take i→kf4 fu x y i=some (.bool (decide (x.m=y.m∧x.t.map Ro.c=y.t.map Ro.c))):=by
 obtain⟨hs1,hn⟩:=krp hs
 intro k
 induction k with
 |zero=>
  intro i fu hi hf ht
  obtain⟨fu,rfl⟩: ∃ g,fu=g+1:=⟨fu - 1,by omega⟩
  unfold kf4
  rw[if_neg (by omega)]
  rw[List.take_of_length_le (by omega),List.take_of_length_le (by omega)] at ht
  have:=qe7 x y hs1 hl x.t.length 0 fu (by omega) (by omega) (by simp)
  rw[show(0:Int)=((0:Nat):Int) from rfl,this]
  congr 2
  exact decide_eq_decide.2 ⟨fun h=>⟨ht,h⟩,fun h=>h.2⟩
 |succ k ih=>
  intro i fu hi hf ht
  obtain⟨fu,rfl⟩: ∃ g,fu=g+1:=⟨fu - 1,by omega⟩
  have h1:i<x.m.length:=by omega
  have h2:i<y.m.length:=by omega
  unfold kf4
  rw[if_pos (by omega),if_pos (by omega)]
  simp only[Int.toNat_natCast,List.getElem?_eq_getElem h1,List.getElem?_eq_getElem h2,Option.bind_some]
  by_cases hc:x.m[i]=y.m[i]
  ·rw[if_neg (fun h=>(kle _ _).1 h hc),kce h1 hn]
   refine ih (i+1) fu (by omega) (by omega) ?_
   rw[List.take_succ_eq_append_getElem h1,List.take_succ_eq_append_getElem h2,ht,hc]
  ·rw[if_pos ((kle _ _).2 hc)]
   rw[decide_eq_false fun e=> ?_]
   have e1:=congrArg (·[i]?) e.1
   simp only[List.getElem?_eq_getElem h1,List.getElem?_eq_getElem h2,Option.some.injEq] at e1
   exact hc e1
theorem ktu (x y:Td):((x.n0:Int) == y.n0 && ((x.n1:Int) == y.n1 && ((x.n2:Int) == y.n2 && true)))=decide (x.n0=y.n0∧x.n1=y.n1∧x.n2=y.n2):=by
 rw[Bool.and_true,Bool.eq_iff_iff]
 simp
theorem kgb (x y:Td) (hs:kb2 x=true):Spec FF 14 [x.av,y.av] (.bool (kbj x y)):=by
 refine qcu (fu:=x.t.length+x.m.length+2) x y ?_
 unfold kqr kbj
 rw[ktu]
 by_cases h1:x.n0=y.n0∧x.n1=y.n1∧x.n2=y.n2
 ·rw[if_neg (by simp[h1])]
  by_cases h2:x.m.length=y.m.length
  ·rw[if_pos (by omega)]
   by_cases h3:x.t.length=y.t.length
   ·rw[if_pos (by omega)]
    have:=qe6 x y hs h3 h2 x.m.length 0 (x.t.length+x.m.length+2) (by omega) (by omega) (by simp)
    rw[show(0:Int)=((0:Nat):Int) from rfl,this]
    congr 2
    exact decide_eq_decide.2 ⟨fun h=>⟨h1,h⟩,fun h=>h.2⟩
   ·rw[if_neg (by omega),decide_eq_false fun e=>h3 (by have:=congrArg List.length e.2.2;simpa using this)]
  ·rw[if_neg (by omega),decide_eq_false fun e=>h2 (by rw[e.2.1])]
 ·rw[decide_eq_false h1,if_pos (by decide),decide_eq_false fun e=>h1 e.1]
theorem qe8 (x y:Td) (hs:kb2 x=true):Spec FF 15 [x.av,y.av] (.bool (kbj x y)):=by
 obtain⟨hs1,hn⟩:=krp hs
 refine qce x y ?_
 unfold kqo kbj
 rw[ktu]
 by_cases h1:x.n0=y.n0∧x.n1=y.n1∧x.n2=y.n2
 ·rw[decide_eq_true h1,if_pos rfl,if_pos hn]
  by_cases h2:x.m=y.m
  ·rw[if_pos (by simp[eqMv,h2]),if_pos hs1]
   congr 2
   unfold eqTs
   exact decide_eq_decide.2 ⟨fun h=>⟨h1,h2,h⟩,fun h=>h.2.2⟩
  ·rw[if_neg (by simp[eqMv,h2]),decide_eq_false fun e=>h2 e.2.1]
 ·rw[decide_eq_false h1,if_neg (by decide),decide_eq_false fun e=>h1 e.1]
end Go.Proofs.Hz
open Go Go.Proofs
namespace Go.Proofs.Hz
end Go.Proofs.Hz
open Go Go.Proofs
namespace Go.Proofs.Hz
theorem qhy (x:Dt):kbl x=hdL kak x.n0++(hdL kal x.n1++(hdL kao x.n2++((x.t.map thrT).flatten++(goL++(x.m.map mvL).flatten)))):=by
 have h: ∀ T:List (List Cl),((T.map kcb).flatten).flatten=(T.map thrT).flatten:=by
  intro T
  induction T with
  |nil=>rfl
  |cons c T ih=>rw[List.map_cons,List.flatten_cons,List.flatten_append,ih];rfl
 unfold kbl kb7 kcs
 simp only[List.flatten_append,List.flatten_cons,List.flatten_nil,h,List.append_nil,List.append_assoc]
theorem kc2 (k:Int):(kab k).length=4:=by
 unfold kab
 split
 ·rfl
 ·split <;> rfl
end Go.Proofs.Hz
