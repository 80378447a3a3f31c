/-
  Chapter 20: the text of what is told, as the kernel's own tool writes it. And: Chapter 20: the document's example, step by step: new, quiet, the report (written by a program of our own: wip/tools).
  Conditions: none.
-/
import Derived.Test.YtamikoglpnoicaaGreatDoorT39
import Derived.Test.YtamikoglpnoicaaGreatDoorT34
import Derived.Test.YtamikoglpnoicaaGreatDoorT30
import Derived.Test.YtamikoglpnoicaaGreatDoorT24
import Derived.Test.YtamikoglpnoicaaGreatDoorT23
open Go Go.Proofs
namespace Go.Proofs.Hz
def valC (c:Cl):Bool:=inI c.a && inI c.b
def kcy (x:Td):Bool:=(inI x.n0 && inI x.n1 && inI x.n2) && (x.t.all fun r=>r.c.all valC) && x.m.all fun m=>inI m.n
def wS (x:Td):Bs:=if ka6 x=true then kbl x.d else []
def wE (x:Td):Int:=if ka6 x=true then 0 else 1
def wRes (x:Td):AV:= .tup [.str (wS x),.int .i64 (wE x)]
theorem kmy {x:Td} (h: ¬ka6 x=true):some (AV.tup [.str [],.int .i64 1])=some (wRes x):=by
 unfold wRes wS wE
 rw[if_neg h,if_neg h]
theorem kdc {x:Td}:ka6 x=true↔May x.d:=k49
theorem td_d (d:Dt):d.td.d=d:=by
 obtain⟨a,b,c,t,m⟩:=d
 simp[Dt.td,Td.d,Function.comp_def]
theorem kh5 (x y:Td):kbj x y=true↔x.d=y.d:=by
 unfold kbj Td.d
 simp only[decide_eq_true_eq,Dt.mk.injEq]
 exact⟨fun⟨⟨a,b,c⟩,d,e⟩=>⟨a,b,c,e,d⟩,fun⟨a,b,c,d,e⟩=>⟨⟨a,b,c⟩,e,d⟩⟩
theorem qh2 {x:Td} (h:ka6 x=true):(kat (kbl x.d)).2.2=0∧kbj x (kat (kbl x.d)).1=true:=by
 unfold kat
 rw[kre (kdc.1 h)]
 exact⟨rfl,(kh5 _ _).2 (td_d _).symm⟩
theorem k32 {x:Td} {s:Bs} (h:(kat s).2.2=0) (h2:kbj x (kat s).1=true):ka6 x=true:=by
 rcases hr:kcn s with⟨_ |d,n⟩
 ·unfold kat at h
  rw[hr] at h
  cases h
 ·unfold kat at h2
  rw[hr] at h2
  have:=(kh5 _ _).1 h2
  rw[td_d] at this
  rw[kdc,this]
  exact(kx2 hr).1
theorem kkz {α:Type} {c:Prop} [Decidable c] {a b r:α} (h:c) (e:a=r):(if c then a else b)=r:=by rw[if_pos h];exact e
theorem qhw (x:Td) (hn:x.m.length≤2000) (hs:kb2 x=true) (hv: ∀ m ∈ x.m,inI m.n=true): ∀ (k i fu:Nat) (p:Bs),i+k=x.m.length→k<fu→p≠[]→p.length+k*40≤900000→p++((x.m.drop i).map mvL).flatten=kbl x.d→
  kee fu x p i=some (wRes x):=by
 intro k
 induction k with
 |zero=>
  intro i fu p hi hf hp hl hw
  obtain⟨fu,rfl⟩: ∃ g,fu=g+1:=⟨fu - 1,by omega⟩
  have hpl:0<p.length:=List.length_pos_iff.2 hp
  rw[List.drop_of_length_le (by omega)] at hw
  simp only[List.map_nil,List.flatten_nil,List.append_nil] at hw
  unfold kee letB
  rw[if_neg (by omega),if_pos hp]
  repeat rw[if_pos (by first |omega |(simp only[kah,List.length_nil];omega))]
  dsimp only
  by_cases h:ka6 x=true
  ·obtain⟨h1,h2⟩:=qh2 h
   rw[←hw] at h1 h2
   rw[if_pos h1,if_pos hs,if_neg (by simp[h2])]
   unfold wRes wS wE
   rw[if_pos h,if_pos h,hw]
  ·by_cases h1:(kat p).2.2=0
   ·have h2:kbj x (kat p).1=false:=by
     cases e:kbj x (kat p).1 with
     |false=>rfl
     |true=>exact absurd (k32 h1 e) h
    rw[if_pos h1,if_pos hs,if_pos (by simp[h2])]
    exact kmy h
   ·rw[if_neg h1]
    exact kmy h
 |succ k ih=>
  intro i fu p hi hf hp hl hw
  obtain⟨fu,rfl⟩: ∃ g,fu=g+1:=⟨fu - 1,by omega⟩
  have h1:i<x.m.length:=by omega
  have hm:=hv _ (List.getElem_mem h1)
  have hi':=kdq (n:=x.m[i].n) (by simpa[inI] using hm)
  simp only[inI,decide_eq_true_eq] at hm
  rw[List.drop_eq_getElem_cons h1,List.map_cons,List.flatten_cons] at hw
  have next: ∀ w:Bs,w.length=4→kab x.m[i].kind=w→kee fu x (p++(w++[32]++kaa x.m[i].n++[10])) (w64 ((i:Int)+1))=some (wRes x):=fun w h4 e=>by
   rw[kce h1 (by omega)]
   refine ih (i+1) fu _ (by omega) (by omega) (by simp) (by simp only[List.length_append,List.length_singleton];omega) ?_
   rw[←hw]
   unfold mvL hdL
   rw[e]
   simp only[List.append_assoc]
  have bad:x.m[i].kind<0∨x.m[i].kind > 2→some (AV.tup [.str [],.int .i64 1])=some (wRes x):=fun hb=>kmy fun h=>by
   have:=List.all_eq_true.1 (kdc.1 h).m x.m[i] (List.getElem_mem h1)
   simp only[mvOk,decide_eq_true_eq] at this
   omega
  unfold kee letB
  rw[if_pos (by omega),if_pos (by omega)]
  simp only[Int.toNat_natCast,List.getElem?_eq_getElem h1,Option.bind_some]
  by_cases b1:x.m[i].kind<0
  ·rw[if_pos b1];exact bad (.inl b1)
  rw[if_neg b1]
  by_cases b2:x.m[i].kind > 2
  ·rw[if_pos b2];exact bad (.inr b2)
  rw[if_neg b2]
  by_cases e0:x.m[i].kind=0
  ·rw[if_pos e0]
   repeat refine kkz (by first |omega |(simp only[kah,List.length_append,List.length_cons,List.length_nil];omega)) ?_
   exact next keh rfl (by rw[e0];rfl)
  rw[if_neg e0]
  by_cases e1:x.m[i].kind=1
  ·rw[if_pos e1]
   repeat refine kkz (by first |omega |(simp only[kah,List.length_append,List.length_cons,List.length_nil];omega)) ?_
   exact next kek rfl (by rw[e1];rfl)
  rw[if_neg e1]
  have e2:x.m[i].kind=2:=by omega
  rw[if_pos e2]
  repeat refine kkz (by first |omega |(simp only[kah,List.length_append,List.length_cons,List.length_nil];omega)) ?_
  exact next kei rfl (by rw[e2];rfl)
def khh (R:List Ro):Nat:=(R.map fun r=>r.c.length+2).sum
theorem qhv (x:Td) (i:Nat) (r:Ro) (hr:r ∈ x.t) (hl:r.c.length≤1000) (hv:r.c.all valC=true) (p:Bs) (hp:p.length≤800000) (K:Nat)
  (hK: ∀ fu,K<fu→(∀ c ∈ r.c,okC c=true)→kew fu x (p++ka1 r.c) (w64 ((i:Int)+1))=some (wRes x)):
  ∀ (k j fu:Nat),j+k=r.c.length→k+K+1<fu→(∀ c ∈ r.c.take j,okC c=true)→kf7 fu x i r p j=some (wRes x):=by
 intro k
 induction k with
 |zero=>
  intro j fu hj hf ho
  obtain⟨fu,rfl⟩: ∃ g,fu=g+1:=⟨fu - 1,by omega⟩
  rw[List.take_of_length_le (by omega)] at ho
  have:=kja ho
  unfold kf7
  rw[if_neg (by omega),if_pos ((kln _).2 ⟨by omega,ho⟩),if_pos (by simp only[kah];omega)]
  exact hK fu (by omega) ho
 |succ k ih=>
  intro j fu hj hf ho
  obtain⟨fu,rfl⟩: ∃ g,fu=g+1:=⟨fu - 1,by omega⟩
  have h1:j<r.c.length:=by omega
  have hc:=List.all_eq_true.1 hv r.c[j] (List.getElem_mem h1)
  simp only[valC,Bool.and_eq_true] at hc
  have bad:r.c[j].no<0∨r.c[j].no > 9→some (AV.tup [.str [],.int .i64 1])=some (wRes x):=fun hb=>kmy fun h=>by
   have:=(kdc.1 h).t
   simp only[Td.d,List.all_map] at this
   have:=List.all_eq_true.1 this r hr
   simp only[Function.comp_def,kbb,Bool.and_eq_true] at this
   have:=List.all_eq_true.1 this.1 r.c[j] (List.getElem_mem h1)
   simp only[kc7,Bool.and_eq_true,decide_eq_true_eq] at this
   omega
  unfold kf7
  rw[if_pos (by omega),if_pos (by omega)]
  simp only[Int.toNat_natCast,List.getElem?_eq_getElem h1,Option.bind_some]
  by_cases b1:r.c[j].no<0
  ·rw[if_pos b1];exact bad (.inl b1)
  rw[if_neg b1]
  by_cases b2:r.c[j].no > 9
  ·rw[if_pos b2];exact bad (.inr b2)
  rw[if_neg b2,kce h1 (by omega)]
  refine ih (j+1) fu (by omega) (by omega) fun c hcm=> ?_
  rw[List.take_succ_eq_append_getElem h1,List.mem_append,List.mem_singleton] at hcm
  rcases hcm with hcm |rfl
  ·exact ho c hcm
  ·simp only[okC,Bool.and_eq_true,decide_eq_true_eq]
   exact⟨by omega,hc⟩
theorem qhu (x:Td) (hn:x.t.length≤20) (hm:x.m.length≤2000) (hs:kb2 x=true) (hr: ∀ r ∈ x.t,r.c.length≤110∧r.c.all valC=true) (hv: ∀ m ∈ x.m,inI m.n=true):
  ∀ (k i fu:Nat) (p:Bs),i+k=x.t.length→khh (x.t.drop i)+x.m.length+2<fu→p≠[]→p.length+k*6000≤200000→
  p++(((x.t.drop i).map fun r=>thrT r.c).flatten++(goL++(x.m.map mvL).flatten))=kbl x.d→kew fu x p i=some (wRes x):=by
 intro k
 induction k with
 |zero=>
  intro i fu p hi hf hp hl hw
  obtain⟨fu,rfl⟩: ∃ g,fu=g+1:=⟨fu - 1,by omega⟩
  rw[List.drop_of_length_le (by omega)] at hw hf
  simp only[List.map_nil,List.flatten_nil,List.nil_append] at hw
  unfold kew
  rw[if_neg (by omega),if_pos (by simp only[kah,List.length_cons,List.length_nil];omega)]
  exact qhw x hm hs hv x.m.length 0 fu (p++goL) (by omega) (by simp only[khh,List.map_nil,List.sum_nil] at hf;omega) (by simp[goL]) (by simp only[goL,List.length_append,List.length_cons,List.length_nil];omega) (by rw[List.drop_zero,←hw];simp only[List.append_assoc])
 |succ k ih=>
  intro i fu p hi hf hp hl hw
  obtain⟨fu,rfl⟩: ∃ g,fu=g+1:=⟨fu - 1,by omega⟩
  have h1:i<x.t.length:=by omega
  obtain⟨r1,r2⟩:=hr _ (List.getElem_mem h1)
  rw[List.drop_eq_getElem_cons h1] at hw hf
  simp only[khh,List.map_cons,List.sum_cons] at hf
  unfold kew
  rw[if_pos (by omega),if_pos (by omega)]
  simp only[Int.toNat_natCast,List.getElem?_eq_getElem h1,Option.bind_some]
  rw[if_pos (by simp only[kah,List.length_cons,List.length_nil];omega)]
  refine qhv x i x.t[i] (List.getElem_mem h1) (by omega) r2 _ (by simp only[List.length_append,List.length_cons,List.length_nil];omega) (khh (x.t.drop (i+1))+x.m.length+2) (fun fu' hf' ho=> ?_) x.t[i].c.length 0 fu (by omega) (by simp only[khh];omega) (by simp)
  have:=kja ho
  rw[kce h1 (by omega)]
  refine ih (i+1) fu' _ (by omega) hf' (by simp) (by simp only[List.length_append,List.length_cons,List.length_nil];omega) ?_
  rw[←hw,List.map_cons,List.flatten_cons]
  unfold thrT thrL
  simp only[List.append_assoc]
theorem ktb {t:List Ro} {a b:Int} (h:fewF t a b=true):(t.length:Int)≤a∧ ∀ r ∈ t,(r.c.length:Int)≤b:=by
 simp only[fewF,Bool.and_eq_true,decide_eq_true_eq,List.all_eq_true] at h
 exact h
theorem ke4 {x:Td} (h:fewT x=true):kb2 x=true:=by
 simp only[fewT,Bool.and_eq_true,decide_eq_true_eq] at h
 obtain⟨h1,h2⟩:=h
 obtain⟨h1,h3⟩:=ktb h1
 simp only[kb2,kgc,Bool.and_eq_true,decide_eq_true_eq,List.all_eq_true]
 exact⟨⟨by omega,fun r hr=>by have:=h3 r hr;omega⟩,by omega⟩
theorem qhx (x:Td) (hf:fewT x=true) (hv:kcy x=true):Spec FF 12 [x.av] (wRes x):=by
 have hs:=ke4 hf
 simp only[fewT,Bool.and_eq_true,decide_eq_true_eq] at hf
 obtain⟨hf1,hf2⟩:=hf
 obtain⟨hf1,hf3⟩:=ktb hf1
 simp only[kcy,Bool.and_eq_true,List.all_eq_true] at hv
 obtain⟨⟨⟨⟨v0,v1⟩,v2⟩,vt⟩,vm⟩:=hv
 simp only[inI,decide_eq_true_eq] at v0 v1 v2
 refine qdp (fu:=khh x.t+x.m.length+3) x ?_
 unfold kq1 letB
 have l0:=kdq v0
 have l1:=kdq v1
 have l2:=kdq v2
 repeat refine kkz (by first |omega |(simp;done) |(simp only[kah,List.length_append,List.length_cons,List.length_nil];omega)) ?_
 refine qhu x (by omega) (by omega) hs (fun r hr=>⟨by have:=hf3 r hr;omega,List.all_eq_true.2 (vt r hr)⟩) vm x.t.length 0 _ _ (by omega) (by rw[List.drop_zero];omega) (by simp) (by simp only[List.length_append,List.length_cons,List.length_nil];omega) ?_
 rw[qhy,List.drop_zero]
 unfold hdL kak kal kao
 simp only[Td.d,List.map_map,List.append_assoc,List.cons_append,List.nil_append]
 rfl
def kbx (x:Td):Bool:=fewT x && kcy x
theorem kea (x:Td) (h:kbx x=true):Spec FF 12 [x.av] (.tup [.str (wS x),.int .i64 (wE x)]):=by
 simp only[kbx,Bool.and_eq_true] at h
 exact qhx x h.1 h.2
end Go.Proofs.Hz
open Go Go.Proofs
namespace Go.Proofs.Hz
theorem kuf: ∀ {L:List Bs},(∀ l ∈ L,IsLn l)→ ∀ {k:Nat},k<L.flatten.length→ ∃(A:List Bs) (p l:Bs) (B:List Bs),L=A++l::B∧L.flatten.take k=A.flatten++p∧(10:UInt8) ∉ p
 | [],_,k,h=>by simp at h
 |l::L,hL,k,h=>by
  obtain⟨q,hq,hq2⟩:=hL l (by simp)
  have hlen:l.length=q.length+1:=by rw[hq];simp
  rw[List.flatten_cons,List.length_append] at h
  by_cases c:k<l.length
  ·refine⟨[],q.take k,l,L,rfl,?_,fun hm=>hq2 (List.mem_of_mem_take hm)⟩
   rw[List.flatten_cons,List.take_append_of_le_length (by omega),hq,List.take_append_of_le_length (by omega)]
   rfl
  ·obtain⟨A,p,l',B,e1,e2,e3⟩:=kuf (fun x hx=>hL x (by simp[hx])) (k:=k - l.length) (L:=L) (by omega)
   refine⟨l::A,p,l',B,by rw[e1];rfl,?_,e3⟩
   rw[List.flatten_cons,List.take_append,List.take_of_length_le (by omega),e2,List.flatten_cons,List.append_assoc]
theorem ksw: ∀ {A:List Bs},(∀ l ∈ A,IsLn l)→A.flatten.count (10:UInt8)=A.length
 | [],_=>rfl
 |l::A,h=>by
  obtain⟨q,rfl,hq⟩:=h l (by simp)
  rw[List.flatten_cons,List.count_append,List.count_append,ksw (A:=A) fun x hx=>h x (by simp[hx]),List.count_eq_zero.2 hq,List.length_cons]
  simp[Nat.add_comm]
theorem kt6: ∀ {A:List Bs},(∀ l ∈ A,IsLn l)→A≠[]→ ∃ X:Bs,A.flatten=X++[10]
 | [],_,h=>absurd rfl h
 | [l],h,_=>by
   obtain⟨q,hq,_⟩:=h l (by simp)
   exact⟨q,by simp[hq]⟩
 |l::m::A,h,_=>by
  obtain⟨X,hX⟩:=kt6 (A:=m::A) (fun x hx=>h x (by simp[List.mem_cons.1 hx])) (by simp)
  exact⟨l++X,by rw[List.flatten_cons,hX,List.append_assoc]⟩
theorem k7j {α:Type} {L A B:List α} (h:L=A++B):A=L.take A.length:=by
 rw[h,List.take_left]
theorem k1m {d:Dt} (h:May d) {A B:List Bs} {l p:Bs} (hl:kb7 d=A++l::B) (hp:(10:UInt8) ∉ p):
  (∃ d',kcn (A.flatten++p)=(some d',A.length)∧p=[]∧4+thrN d.t≤A.length)∨kcn (A.flatten++p)=(none,A.length+1):=by
 have hln:=kk6 h
 have hA: ∀ x ∈ A,IsLn x:=fun x hx=>hln x (by rw[hl];simp[hx])
 have hP:ka9 p=[]∧p=[]∨ka9 p=[p]:=by
  rw[k4a hp]
  by_cases e:p=[]
  ·rw[if_pos e];exact .inl ⟨rfl,e⟩
  ·rw[if_neg e];exact .inr rfl
 have hg:(10:UInt8) ∉ (ka9 p).getD 0 []:=by
  rcases hP with⟨e,_⟩ |e
  ·rw[e];simp
  ·rw[e];simpa using hp
 unfold kcn
 rw[ko0 hA]
 have hAt:=k7j hl
 have e0:=kff (w:=kak) h.n0.1 h.n0.2 (by omega)
 have e1:=kff (w:=kal) h.n1.1 h.n1.2 (by omega)
 have k0:=h.n0.1
 have k1:=h.n1.1
 have hn:(kb7 d).length=A.length+(B.length+1):=by rw[hl];simp
 rw[ki0] at hn
 by_cases c0:A.length<3
 ·refine .inr ?_
  have hA3:A=(kcs d).take A.length:=by
   conv=>lhs;rw[hAt]
   unfold kb7
   rw[List.take_append_of_le_length (by simp only[kcs,List.length_cons,List.length_nil];omega)]
  unfold kc5
  match hk:A.length,c0 with
  |0,_=>
   have:A=[]:=List.eq_nil_of_length_eq_zero hk
   subst this
   rw[List.nil_append,kha hg,if_pos (by omega)]
  |1,_=>
   rw[hk] at hA3
   have:A=[hdL kak d.n0]:=hA3
   subst this
   show(if kaq kak (hdL kak d.n0) 999<0 then _ else if kaq kal ((ka9 p).getD 0 []) 999<0 then _ else _)=_
   rw[e0,if_neg (by omega),kha hg,if_pos (by omega)]
  |2,_=>
   rw[hk] at hA3
   have:A=[hdL kak d.n0,hdL kal d.n1]:=hA3
   subst this
   show(if kaq kak (hdL kak d.n0) 999<0 then _ else if kaq kal (hdL kal d.n1) 999<0 then _ else if kaq kao ((ka9 p).getD 0 []) 999<0 then _ else _)=_
   rw[e0,if_neg (by omega),e1,if_neg (by omega),kha hg,if_pos (by omega)]
 have hd3:(kcs d).length=3:=rfl
 by_cases c1:A.length<4+thrN d.t
 ·refine .inr ?_
  have hrow:(d.t.map kcb).flatten.length=thrN d.t:=kj0 _
  have hA3:A=kcs d++((d.t.map kcb).flatten).take (A.length - 3):=by
   conv=>lhs;rw[hAt]
   unfold kb7
   rw[List.take_append,List.take_of_length_le (by omega),hd3,List.take_append_of_le_length (by omega)]
  have hr:=krz (T:=[]) h.t (by simpa using h.tl)
  rw[←List.take_append_drop (A.length - 3) (d.t.map kcb).flatten] at hr
  obtain⟨U,hU⟩:=qg4 hr
  have hAl:((d.t.map kcb).flatten.take (A.length - 3)).length=A.length - 3:=by rw[List.length_take];omega
  rw[hA3,List.append_assoc,kxz h,krx hU,←hA3,hAl]
  rcases hP with⟨e,_⟩ |e
  ·rw[e]
   show(none,3+(A.length - 3)+1)=_
   rw[show 3+(A.length - 3)+1=A.length+1 by omega]
  ·obtain⟨s1,s2⟩:=qg5 hp U
   rw[e,kms,if_neg s2,s1]
   show(none,3+(A.length - 3)+1)=_
   rw[show 3+(A.length - 3)+1=A.length+1 by omega]
 ·have hrow:(d.t.map kcb).flatten.length=thrN d.t:=kj0 _
  have h':May ⟨d.n0,d.n1,d.n2,d.t,d.m.take (A.length - (4+thrN d.t))⟩:=by
   refine⟨h.n0,h.n1,h.n2,h.t,?_,h.tl,?_⟩
   ·exact List.all_eq_true.2 fun m hm=>List.all_eq_true.1 h.m m (List.mem_of_mem_take hm)
   ·have:=h.ml
    show(d.m.take _).length≤1000
    rw[List.length_take];omega
  have hA4:A=kb7 ⟨d.n0,d.n1,d.n2,d.t,d.m.take (A.length - (4+thrN d.t))⟩:=by
   conv=>lhs;rw[hAt]
   unfold kb7
   rw[List.take_append,List.take_of_length_le (by omega),hd3,List.take_append,List.take_of_length_le (by omega),hrow,show A.length - 3 - thrN d.t=(A.length - (4+thrN d.t))+1 by omega,List.take_succ_cons,List.map_take]
   rfl
  have hr:=krd h' (ka9 p)
  rw[←hA4] at hr
  rw[hr]
  rcases hP with⟨e,e2⟩ |e
  ·rw[e]
   exact .inl ⟨_,rfl,e2,by omega⟩
  ·rw[e,ki6,k5q hp]
   exact .inr rfl
theorem k1n {d:Dt} (h:May d) {k:Nat} (hk:k<(kbl d).length):
  (∃ d' n,kcn ((kbl d).take k)=(some d',n)∧k≠0∧(kbl d)[k - 1]? =some 10∧4+d.t.length≤((kbl d).take k).count 10)∨kcn ((kbl d).take k)=(none,((kbl d).take k).count 10+1):=by
 obtain⟨A,p,l,B,e1,e2,e3⟩:=kuf (kk6 h) (k:=k) hk
 have hA: ∀ x ∈ A,IsLn x:=fun x hx=>kk6 h x (by rw[e1];simp[hx])
 have hc:((kbl d).take k).count (10:UInt8)=A.length:=by
  show((kb7 d).flatten.take k).count 10=_
  rw[e2,List.count_append,ksw hA,List.count_eq_zero.2 e3];rfl
 rw[hc]
 have hf:(kbl d).take k=A.flatten++p:=e2
 rcases k1m h e1 e3 with⟨d',h1,h2,h3⟩ |h1
 ·have:=kyv d.t
  have hne:A≠[]:=fun e=>by rw[e] at h3;simp at h3
  obtain⟨X,hX⟩:=kt6 hA hne
  rw[h2,List.append_nil] at hf
  have hlen:k=X.length+1:=by
   have:=congrArg List.length hf
   rw[List.length_take,hX,List.length_append,List.length_singleton] at this
   omega
  refine .inl ⟨d',A.length,by rw[e2.symm] at h1;exact h1,by omega,?_,by omega⟩
  have:((kbl d).take k)[k - 1]? =some 10:=by
   rw[hf,hX,hlen,Nat.add_sub_cancel,List.getElem?_append_right (by omega),Nat.sub_self];rfl
  rw[List.getElem?_take] at this
  split at this
  ·exact this
  ·cases this
 ·rw[e2.symm] at h1
  exact .inr h1
theorem kth {c:Nat}: ∀ {L:List Bs},(∀ l ∈ L,l.length≤c)→L.flatten.length≤c*L.length
 | [],_=>by simp
 |l::L,h=>by
  have h1:=h l (by simp)
  have h2:=kth (L:=L) fun x hx=>h x (by simp[hx])
  rw[List.flatten_cons,List.length_append,List.length_cons,Nat.mul_add]
  omega
theorem kr7 {c:Cl} (h:kc7 c=true):okC c=true:=by
 simp only[kc7,okC,inW,inI,Bool.and_eq_true,decide_eq_true_eq] at h ⊢
 omega
theorem kkt {w:Bs} {n:Int} (h:inI n=true) (hw:w.length≤5):(hdL w n).length≤50:=by
 have:=kdq (n:=n) (by simpa[inI] using h)
 unfold hdL
 simp only[List.length_append,List.length_singleton]
 omega
theorem qhm (k:Int):(kab k).length≤5:=by
 unfold kab
 split
 ·decide
 ·split <;> decide
theorem k38 {d:Dt} (h:May d): ∀ l ∈ kb7 d,l.length≤50:=by
 intro l hl
 simp only[kb7,kcs,List.mem_append,List.mem_cons,List.not_mem_nil,or_false,List.mem_flatten,List.mem_map] at hl
 rcases hl with(rfl |rfl |rfl) | ⟨_,⟨c,hc,rfl⟩,hl⟩ |rfl | ⟨m,hm,rfl⟩
 ·exact kkt (kd2 h.n0.1 (by have:=h.n0.2;omega)) (by decide)
 ·exact kkt (kd2 h.n1.1 (by have:=h.n1.2;omega)) (by decide)
 ·exact kkt (kd2 h.n2.1 (by have:=h.n2.2;omega)) (by decide)
 ·have:=List.all_eq_true.1 h.t c hc
  simp only[kbb,Bool.and_eq_true] at this
  simp only[kcb,List.mem_cons,List.mem_map] at hl
  rcases hl with rfl | ⟨x,hx,rfl⟩
  ·decide
  ·exact kt8 (kr7 (List.all_eq_true.1 this.1 x hx))
 ·decide
 ·have:=List.all_eq_true.1 h.m m hm
  simp only[mvOk,decide_eq_true_eq] at this
  exact kkt (kd2 this.2.1 this.2.2) (qhm _)
theorem kjz: ∀ {T:List (List Cl)},T.all kbb=true→thrN T≤101*T.length
 | [],_=>by simp[thrN]
 |c::T,h=>by
  simp only[List.all_cons,Bool.and_eq_true,kbb,decide_eq_true_eq] at h
  have:=kjz (T:=T) (by simpa[kbb] using h.2)
  simp only[thrN,List.map_cons,List.sum_cons,List.length_cons] at this ⊢
  omega
theorem qhz {d:Dt} (h:May d):(kbl d).length≤200000:=by
 have h1:=kth (k38 h)
 have h2:=kjz h.t
 have h3:=h.tl
 have h4:=h.ml
 rw[ki0] at h1
 unfold kbl
 omega
theorem qh1 (d:Dt):kbl d≠[]:=by
 simp[kbl,kb7,kcs,hdL,kak]
def klt:Bs:=[112,105,99,107,32,49,48,48,48,48,10]
theorem k7f:kb4 klt=none:=by kernel_rfl
theorem k7h {d:Dt} (h:May d):kcn (kbl d++klt)=(none,4+thrN d.t+d.m.length+1):=by
 unfold kcn
 rw[kud h,show ka9 klt=[klt] by kernel_rfl,krd h,ki6,k7f,←ki0]
theorem qh0 (d:Dt) (m:Mov):kbl ⟨d.n0,d.n1,d.n2,d.t,d.m++[m]⟩=kbl d++mvL m:=by
 unfold kbl kb7 kcs
 simp
theorem kzg (d:Dt) (c:List Cl):(kbl ⟨d.n0,d.n1,d.n2,d.t++[c],d.m⟩).length=(kbl d).length+(thrL.length+(ka1 c).length):=by
 unfold kbl kb7 kcs ka1
 simp only[List.map_append,List.map_cons,List.map_nil,List.flatten_append,List.flatten_cons,List.flatten_nil,List.length_append,kcb,List.length_nil]
 omega
end Go.Proofs.Hz
open Go Go.Proofs
namespace Go.Proofs.Hz
def LI (l:List Int):List (List AV):=l.map fun n=>[.int .i64 n]
def SW0:List (List AV):=LI [4194310,0,0,0,0,0,0,0,0,0,0,0,0,0,0,0,0,0,0,0,0,0,0,0,0,0,0,0,0,0,0,0,4,4,0,0,0,0,0,0,0,0,0,0,0,0,0,0,2,0,1,0,0,0,0,0,0,0,0,0,0,0,0,0,0,0,0,0,0,0,0,0,0,0,0,0,0,0,0,0,0,1,0,1,0,1,0,1,0,1,0,1,0,1,0,1,2,0,0,0,0,0,0,0,0,0,0,0,0,0,0,0,1,0,0,0,0,0,0,0,0,0,0,0,0,0,0,0,2,2097152,0,0,3,2097152,0,0,4,0,0,0,5,0,0,0,6,0,0,0,7,0,0,0,8,0,0,0,9,0,0,0,0,0,0,0]
def SW1:List (List AV):=LI [4194310,0,0,0,0,0,0,0,0,0,0,0,0,0,0,0,0,0,0,0,0,0,0,0,0,0,0,0,0,0,0,0,4,4,0,0,0,0,0,0,0,0,0,0,0,0,0,0,2,0,1,0,0,0,0,0,0,0,0,0,0,0,0,0,0,0,0,0,0,0,0,0,0,0,0,0,0,0,0,0,0,1,0,1,0,1,0,1,0,1,0,1,0,1,0,1,2,0,0,0,0,0,0,0,0,0,0,0,0,0,0,0,0,0,0,0,0,0,0,0,0,0,0,0,0,0,0,0,2,2097152,0,0,3,2097152,0,0,4,0,0,0,5,0,0,0,6,0,0,0,7,0,0,0,8,0,0,0,9,0,0,0,0,0,0,0]
def SW2:List (List AV):=LI [4194310,0,0,0,0,0,0,0,0,0,0,0,0,0,0,0,0,0,0,0,0,0,0,0,0,0,0,0,0,0,0,0,4,4,0,0,0,0,0,0,0,0,0,0,0,0,0,0,2,0,1,0,0,0,0,0,0,0,0,0,0,0,0,0,0,0,0,0,0,0,0,0,0,0,0,0,0,0,0,0,0,1,0,1,0,1,0,1,0,1,0,1,0,1,0,1,2097156,0,0,0,0,0,0,0,0,0,0,0,0,0,0,0,0,0,0,0,0,0,0,0,0,0,0,0,0,0,0,0,2,2097152,0,0,3,2097152,0,0,4,0,0,0,5,0,0,0,6,0,0,0,7,0,0,0,8,0,0,0,9,0,0,0,0,0,0,0]
def SW3:List (List AV):=LI [4194310,0,0,0,0,0,0,0,2,0,0,0,0,0,0,0,0,0,0,0,0,0,0,0,0,0,0,0,0,0,0,0,4,4,0,0,0,0,0,0,0,0,0,0,0,0,0,0,2,0,1,0,0,0,0,0,0,0,0,0,0,0,0,0,0,0,0,0,0,0,0,0,0,0,0,0,0,0,0,0,0,1,0,1,0,1,0,1,0,1,0,1,0,1,0,1,2097156,0,0,0,0,0,0,0,0,0,0,0,0,0,0,0,0,0,0,0,0,0,0,0,0,0,0,0,0,0,0,0,2,2097152,0,0,3,2097152,0,0,4,0,0,0,5,0,0,0,6,0,0,0,7,0,0,0,8,0,0,0,9,0,0,0,0,0,0,0]
def SK0:AV:=(.agg [(.im SW0 true),(.im (LI [0,1,1,0,0,0,0,0,0,0]) false),(.bool false),(.im [[(.im [] true),(.int .i64 0),(.int .i64 0),(.int .i64 0),(.int .i64 0),(.int .i64 0),(.im [] true)]] true),(.im [] true),(.im [[(.im [[(.int .i64 2),(.int .i64 0),(.int .i64 0)]] false),(.int .i64 0),(.int .i64 (-1)),(.im [] true)]] false),(.im [[(.int .i64 (-1))]] true),(.im [[(.int .i64 0)]] true)])
def SK1:AV:=(.agg [(.im SW0 true),(.im (LI [0,1,1,0,0,0,0,0,0,0]) false),(.bool false),(.im [[(.im [[(.int .i64 23),(.int .i64 1),(.int .i64 0),(.int .i64 0),(.int .i64 1),(.int .i64 0),(.int .i64 0),(.int .i64 0),(.int .i64 0),(.int .i64 0),(.im [] true)]] false),(.int .i64 0),(.int .i64 0),(.int .i64 0),(.int .i64 0),(.int .i64 0),(.im [] true)]] true),(.im [] true),(.im [[(.im [[(.int .i64 2),(.int .i64 0),(.int .i64 0)]] false),(.int .i64 0),(.int .i64 (-1)),(.im [] true)]] false),(.im [[(.int .i64 (-1))]] true),(.im [[(.int .i64 0)]] true)])
def SK2:AV:=(.agg [(.im SW1 true),(.im (LI [0,1,1,0,0,0,0,0,0,0]) false),(.bool false),(.im [[(.im [[(.int .i64 23),(.int .i64 2),(.int .i64 0),(.int .i64 0),(.int .i64 1),(.int .i64 0),(.int .i64 0),(.int .i64 0),(.int .i64 0),(.int .i64 0),(.im [] true)]] false),(.int .i64 0),(.int .i64 0),(.int .i64 0),(.int .i64 0),(.int .i64 0),(.im [] true)]] true),(.im [] true),(.im [[(.im [[(.int .i64 2),(.int .i64 0),(.int .i64 0)]] false),(.int .i64 0),(.int .i64 (-1)),(.im [] true)]] false),(.im [[(.int .i64 (-1))]] true),(.im [[(.int .i64 0)]] true)])
def SK3:AV:=(.agg [(.im SW1 true),(.im (LI [0,1,1,0,0,0,0,0,0,0]) false),(.bool false),(.im [[(.im [[(.int .i64 23),(.int .i64 3),(.int .i64 0),(.int .i64 0),(.int .i64 1),(.int .i64 0),(.int .i64 2),(.int .i64 0),(.int .i64 0),(.int .i64 0),(.im [] true)]] false),(.int .i64 0),(.int .i64 0),(.int .i64 0),(.int .i64 0),(.int .i64 0),(.im [] true)]] true),(.im [] true),(.im [[(.im [[(.int .i64 2),(.int .i64 0),(.int .i64 0)]] false),(.int .i64 0),(.int .i64 (-1)),(.im [] true)]] false),(.im [[(.int .i64 (-1))]] true),(.im [[(.int .i64 0)]] true)])
def SK4:AV:=(.agg [(.im SW2 true),(.im (LI [0,1,1,0,0,0,0,0,0,0]) false),(.bool false),(.im [[(.im [] false),(.int .i64 0),(.int .i64 0),(.int .i64 0),(.int .i64 0),(.int .i64 0),(.im [] true)]] true),(.im [] true),(.im [[(.im [[(.int .i64 2),(.int .i64 0),(.int .i64 0)]] false),(.int .i64 0),(.int .i64 (-1)),(.im [] true)]] false),(.im [[(.int .i64 0)]] false),(.im [[(.int .i64 0)]] false)])
def SK5:AV:=(.agg [(.im SW2 true),(.im (LI [0,1,1,0,0,0,0,0,0,0]) false),(.bool false),(.im [[(.im [[(.int .i64 10),(.int .i64 1),(.int .i64 0),(.int .i64 0),(.int .i64 0),(.int .i64 0),(.int .i64 0),(.int .i64 0),(.int .i64 0),(.int .i64 0),(.im [] true)],[(.int .i64 3),(.int .i64 0),(.int .i64 32),(.int .i64 0),(.int .i64 0),(.int .i64 0),(.int .i64 0),(.int .i64 0),(.int .i64 0),(.int .i64 0),(.im [] true)]] false),(.int .i64 0),(.int .i64 0),(.int .i64 0),(.int .i64 0),(.int .i64 0),(.im [] true)]] true),(.im [] true),(.im [[(.im [[(.int .i64 2),(.int .i64 0),(.int .i64 0)]] false),(.int .i64 0),(.int .i64 0),(.im [] true)]] false),(.im [[(.int .i64 0)]] false),(.im [[(.int .i64 0)]] false)])
def SK6:AV:=(.agg [(.im SW2 true),(.im (LI [0,1,1,0,0,0,0,0,0,0]) false),(.bool false),(.im [[(.im [[(.int .i64 10),(.int .i64 1),(.int .i64 0),(.int .i64 0),(.int .i64 0),(.int .i64 0),(.int .i64 0),(.int .i64 0),(.int .i64 0),(.int .i64 0),(.im [] true)],[(.int .i64 3),(.int .i64 1),(.int .i64 32),(.int .i64 0),(.int .i64 4),(.int .i64 0),(.int .i64 0),(.int .i64 0),(.int .i64 0),(.int .i64 0),(.im [] true)]] false),(.int .i64 0),(.int .i64 0),(.int .i64 0),(.int .i64 0),(.int .i64 0),(.im [] true)]] true),(.im [] true),(.im [[(.im [[(.int .i64 2),(.int .i64 0),(.int .i64 0)]] false),(.int .i64 0),(.int .i64 0),(.im [] true)]] false),(.im [[(.int .i64 0)]] false),(.im [[(.int .i64 0)]] false)])
def SK7:AV:=(.agg [(.im SW3 true),(.im (LI [0,1,1,0,0,0,0,0,0,0]) false),(.bool false),(.im [[(.im [[(.int .i64 10),(.int .i64 1),(.int .i64 0),(.int .i64 0),(.int .i64 0),(.int .i64 0),(.int .i64 0),(.int .i64 0),(.int .i64 0),(.int .i64 0),(.im [] true)],[(.int .i64 3),(.int .i64 2),(.int .i64 32),(.int .i64 0),(.int .i64 4),(.int .i64 0),(.int .i64 0),(.int .i64 0),(.int .i64 0),(.int .i64 0),(.im [] true)]] false),(.int .i64 0),(.int .i64 0),(.int .i64 0),(.int .i64 0),(.int .i64 0),(.im [] true)]] true),(.im [] true),(.im [[(.im [[(.int .i64 2),(.int .i64 0),(.int .i64 0)]] false),(.int .i64 0),(.int .i64 0),(.im [] true)]] false),(.im [[(.int .i64 0)]] false),(.im [[(.int .i64 0)]] false)])
def SK8:AV:=(.agg [(.im SW3 true),(.im (LI [0,1,1,0,0,0,0,0,0,0]) false),(.bool false),(.im [[(.im [[(.int .i64 10),(.int .i64 1),(.int .i64 0),(.int .i64 0),(.int .i64 0),(.int .i64 0),(.int .i64 0),(.int .i64 0),(.int .i64 0),(.int .i64 0),(.im [] true)]] false),(.int .i64 4),(.int .i64 0),(.int .i64 0),(.int .i64 0),(.int .i64 0),(.im [] true)]] true),(.im [] true),(.im [[(.im [[(.int .i64 2),(.int .i64 0),(.int .i64 0)]] false),(.int .i64 0),(.int .i64 0),(.im [] true)]] false),(.im [[(.int .i64 0)]] false),(.im [[(.int .i64 0)]] false)])
def SK9:AV:=(.agg [(.im SW3 true),(.im (LI [0,1,1,0,0,0,0,0,0,0]) false),(.bool false),(.im [[(.im [[(.int .i64 10),(.int .i64 2),(.int .i64 0),(.int .i64 0),(.int .i64 4),(.int .i64 0),(.int .i64 0),(.int .i64 0),(.int .i64 0),(.int .i64 0),(.im [] true)]] false),(.int .i64 4),(.int .i64 0),(.int .i64 0),(.int .i64 0),(.int .i64 0),(.im [] true)]] true),(.im [] true),(.im [[(.im [[(.int .i64 2),(.int .i64 0),(.int .i64 0)]] false),(.int .i64 0),(.int .i64 0),(.im [] true)]] false),(.im [[(.int .i64 0)]] false),(.im [[(.int .i64 0)]] false)])
def SK10:AV:=(.agg [(.im SW3 true),(.im (LI [0,1,1,0,0,0,0,0,0,0]) false),(.bool false),(.im [[(.im [[(.int .i64 10),(.int .i64 3),(.int .i64 0),(.int .i64 0),(.int .i64 4),(.int .i64 4),(.int .i64 0),(.int .i64 0),(.int .i64 0),(.int .i64 0),(.im [] true)]] false),(.int .i64 4),(.int .i64 0),(.int .i64 0),(.int .i64 0),(.int .i64 0),(.im [] true)]] true),(.im [] true),(.im [[(.im [[(.int .i64 2),(.int .i64 0),(.int .i64 0)]] false),(.int .i64 0),(.int .i64 0),(.im [] true)]] false),(.im [[(.int .i64 0)]] false),(.im [[(.int .i64 0)]] false)])
def SK11:AV:=(.agg [(.im SW3 true),(.im (LI [0,1,1,0,0,0,0,0,0,0]) false),(.bool false),(.im [[(.im [[(.int .i64 10),(.int .i64 9),(.int .i64 0),(.int .i64 0),(.int .i64 4),(.int .i64 4),(.int .i64 2097152),(.int .i64 0),(.int .i64 3),(.int .i64 0),(.im [] true)]] false),(.int .i64 4),(.int .i64 0),(.int .i64 0),(.int .i64 0),(.int .i64 0),(.im [] true)]] true),(.im [[(.int .i64 0),(.int .i64 3),(.int .i64 0),(.int .i64 0),(.int .i64 0)]] false),(.im [[(.im [[(.int .i64 2),(.int .i64 0),(.int .i64 0)]] false),(.int .i64 0),(.int .i64 0),(.im [] true)]] false),(.im [[(.int .i64 0)]] false),(.im [[(.int .i64 0)]] false)])
def SK12:AV:=(.agg [(.im SW2 true),(.im (LI [0,1,1,0,0,0,0,0,0,0]) false),(.bool false),(.im [[(.im [[(.int .i64 10),(.int .i64 10),(.int .i64 0),(.int .i64 0),(.int .i64 4),(.int .i64 4),(.int .i64 2097152),(.int .i64 0),(.int .i64 3),(.int .i64 0),(.im [] true)]] false),(.int .i64 4),(.int .i64 0),(.int .i64 0),(.int .i64 0),(.int .i64 0),(.im [] true)]] true),(.im [[(.int .i64 0),(.int .i64 3),(.int .i64 0),(.int .i64 0),(.int .i64 0)]] false),(.im [[(.im [[(.int .i64 2),(.int .i64 0),(.int .i64 0)]] false),(.int .i64 0),(.int .i64 0),(.im [] true)]] false),(.im [[(.int .i64 0)]] false),(.im [[(.int .i64 0)]] false)])
def SK13:AV:=(.agg [(.im SW2 true),(.im (LI [0,1,1,0,0,0,0,0,0,0]) false),(.bool false),(.im [[(.im [] false),(.int .i64 0),(.int .i64 3),(.int .i64 0),(.int .i64 0),(.int .i64 0),(.im [] true)]] true),(.im [[(.int .i64 0),(.int .i64 3),(.int .i64 0),(.int .i64 0),(.int .i64 0)]] false),(.im [[(.im [[(.int .i64 2),(.int .i64 0),(.int .i64 0)]] false),(.int .i64 1),(.int .i64 (-1)),(.im [[(.int .i64 2),(.int .i64 0),(.int .i64 0),(.int .i64 0),(.int .i64 3),(.int .i64 0),(.int .i64 1),(.int .i64 0)]] false)]] false),(.im [[(.int .i64 0)]] false),(.im [[(.int .i64 0)]] false)])
def SK14:AV:=(.agg [(.im SW2 true),(.im (LI [0,1,1,0,0,0,0,0,0,0]) false),(.bool false),(.im [[(.im [] false),(.int .i64 0),(.int .i64 3),(.int .i64 0),(.int .i64 0),(.int .i64 0),(.im [] true)]] true),(.im [[(.int .i64 0),(.int .i64 3),(.int .i64 0),(.int .i64 0),(.int .i64 0)]] false),(.im [[(.im [[(.int .i64 2),(.int .i64 0),(.int .i64 0)]] false),(.int .i64 1),(.int .i64 (-1)),(.im [[(.int .i64 2),(.int .i64 0),(.int .i64 0),(.int .i64 0),(.int .i64 3),(.int .i64 0),(.int .i64 1),(.int .i64 0)]] false)]] false),(.im [[(.int .i64 (-1))]] false),(.im [[(.int .i64 0)]] false)])
def stx:AV:=(.str [99,111,114,101,115,32,49,10,110,111,100,101,115,32,57,10,112,111,114,116,115,32,49,10,116,104,114,101,97,100,10,116,114,121,32,48,32,48,10,103,111,10,114,101,115,116,32,57,57,10])
def stb:AV:=(.str [99,111,114,101,115,32,49,10,110,111,100,101,115,32,120,10])
def rep:AV:=(.str [48,32,116,114,121,32,48,32,48,32,61,32,48,32,51,10])
def sxt:AV:=(.im [[(.im [[(.int .i64 2),(.int .i64 0),(.int .i64 0)]] false)]] false)
end Go.Proofs.Hz
open Go Go.Proofs
namespace Go.Proofs.Hz
theorem bt0:[kba FF Gl.X 80 44 [SK0,.int .i64 0,.bool false],kba FF Gl.X 80 44 [SK1,.int .i64 0,.bool false],kba FF Gl.X 80 44 [SK2,.int .i64 0,.bool false],kba FF Gl.X 80 44 [SK3,.int .i64 0,.bool false],kba FF Gl.X 80 44 [SK4,.int .i64 0,.bool false]]=[some SK1,some SK2,some SK3,some SK4,some SK5]:=by kernel_rfl
theorem pk0:Spec FF 44 [SK0,.int .i64 0,.bool false] SK1:=⟨80,(List.cons.inj bt0).1⟩
theorem pk1:Spec FF 44 [SK1,.int .i64 0,.bool false] SK2:=⟨80,(List.cons.inj (List.cons.inj bt0).2).1⟩
theorem pk2:Spec FF 44 [SK2,.int .i64 0,.bool false] SK3:=⟨80,(List.cons.inj (List.cons.inj (List.cons.inj bt0).2).2).1⟩
theorem pk3:Spec FF 44 [SK3,.int .i64 0,.bool false] SK4:=⟨80,(List.cons.inj (List.cons.inj (List.cons.inj (List.cons.inj bt0).2).2).2).1⟩
theorem pk4:Spec FF 44 [SK4,.int .i64 0,.bool false] SK5:=⟨80,(List.cons.inj (List.cons.inj (List.cons.inj (List.cons.inj (List.cons.inj bt0).2).2).2).2).1⟩
end Go.Proofs.Hz
open Go Go.Proofs
namespace Go.Proofs.Hz
theorem bt5:[kba FF Gl.X 80 44 [SK5,.int .i64 0,.bool false],kba FF Gl.X 80 44 [SK6,.int .i64 0,.bool false],kba FF Gl.X 80 44 [SK7,.int .i64 0,.bool false],kba FF Gl.X 80 44 [SK8,.int .i64 0,.bool false],kba FF Gl.X 80 44 [SK9,.int .i64 0,.bool false]]=[some SK6,some SK7,some SK8,some SK9,some SK10]:=by kernel_rfl
theorem pk5:Spec FF 44 [SK5,.int .i64 0,.bool false] SK6:=⟨80,(List.cons.inj bt5).1⟩
theorem pk6:Spec FF 44 [SK6,.int .i64 0,.bool false] SK7:=⟨80,(List.cons.inj (List.cons.inj bt5).2).1⟩
theorem pk7:Spec FF 44 [SK7,.int .i64 0,.bool false] SK8:=⟨80,(List.cons.inj (List.cons.inj (List.cons.inj bt5).2).2).1⟩
theorem pk8:Spec FF 44 [SK8,.int .i64 0,.bool false] SK9:=⟨80,(List.cons.inj (List.cons.inj (List.cons.inj (List.cons.inj bt5).2).2).2).1⟩
theorem pk9:Spec FF 44 [SK9,.int .i64 0,.bool false] SK10:=⟨80,(List.cons.inj (List.cons.inj (List.cons.inj (List.cons.inj (List.cons.inj bt5).2).2).2).2).1⟩
end Go.Proofs.Hz
open Go Go.Proofs
namespace Go.Proofs.Hz
theorem bt10:[kba FF Gl.X 80 44 [SK10,.int .i64 0,.bool false],kba FF Gl.X 80 44 [SK11,.int .i64 0,.bool false],kba FF Gl.X 80 44 [SK12,.int .i64 0,.bool false],kba FF Gl.X 80 44 [SK13,.int .i64 0,.bool false]]=[some SK11,some SK12,some SK13,some SK14]:=by kernel_rfl
theorem pk10:Spec FF 44 [SK10,.int .i64 0,.bool false] SK11:=⟨80,(List.cons.inj bt10).1⟩
theorem pk11:Spec FF 44 [SK11,.int .i64 0,.bool false] SK12:=⟨80,(List.cons.inj (List.cons.inj bt10).2).1⟩
theorem pk12:Spec FF 44 [SK12,.int .i64 0,.bool false] SK13:=⟨80,(List.cons.inj (List.cons.inj (List.cons.inj bt10).2).2).1⟩
theorem pk13:Spec FF 44 [SK13,.int .i64 0,.bool false] SK14:=⟨80,(List.cons.inj (List.cons.inj (List.cons.inj (List.cons.inj bt10).2).2).2).1⟩
end Go.Proofs.Hz
open Go Go.Proofs
namespace Go.Proofs.Hz
theorem qt:[kba FF Gl.X 80 46 [SK0],kba FF Gl.X 80 46 [SK1],kba FF Gl.X 80 46 [SK2],kba FF Gl.X 80 46 [SK3],kba FF Gl.X 80 46 [SK4],kba FF Gl.X 80 46 [SK5],kba FF Gl.X 80 46 [SK6],kba FF Gl.X 80 46 [SK7],kba FF Gl.X 80 46 [SK8],kba FF Gl.X 80 46 [SK9],kba FF Gl.X 80 46 [SK10],kba FF Gl.X 80 46 [SK11],kba FF Gl.X 80 46 [SK12],kba FF Gl.X 80 46 [SK13],kba FF Gl.X 80 46 [SK14]]=[some (.bool false),some (.bool false),some (.bool false),some (.bool false),some (.bool false),some (.bool false),some (.bool false),some (.bool false),some (.bool false),some (.bool false),some (.bool false),some (.bool false),some (.bool false),some (.bool false),some (.bool true)]:=by kernel_rfl
theorem qu0:Spec FF 46 [SK0] (.bool false):=⟨80,(List.cons.inj qt).1⟩
theorem qu1:Spec FF 46 [SK1] (.bool false):=⟨80,(List.cons.inj (List.cons.inj qt).2).1⟩
theorem qu2:Spec FF 46 [SK2] (.bool false):=⟨80,(List.cons.inj (List.cons.inj (List.cons.inj qt).2).2).1⟩
theorem qu3:Spec FF 46 [SK3] (.bool false):=⟨80,(List.cons.inj (List.cons.inj (List.cons.inj (List.cons.inj qt).2).2).2).1⟩
theorem qu4:Spec FF 46 [SK4] (.bool false):=⟨80,(List.cons.inj (List.cons.inj (List.cons.inj (List.cons.inj (List.cons.inj qt).2).2).2).2).1⟩
theorem qu5:Spec FF 46 [SK5] (.bool false):=⟨80,(List.cons.inj (List.cons.inj (List.cons.inj (List.cons.inj (List.cons.inj (List.cons.inj qt).2).2).2).2).2).1⟩
theorem qu6:Spec FF 46 [SK6] (.bool false):=⟨80,(List.cons.inj (List.cons.inj (List.cons.inj (List.cons.inj (List.cons.inj (List.cons.inj (List.cons.inj qt).2).2).2).2).2).2).1⟩
theorem qu7:Spec FF 46 [SK7] (.bool false):=⟨80,(List.cons.inj (List.cons.inj (List.cons.inj (List.cons.inj (List.cons.inj (List.cons.inj (List.cons.inj (List.cons.inj qt).2).2).2).2).2).2).2).1⟩
theorem qu8:Spec FF 46 [SK8] (.bool false):=⟨80,(List.cons.inj (List.cons.inj (List.cons.inj (List.cons.inj (List.cons.inj (List.cons.inj (List.cons.inj (List.cons.inj (List.cons.inj qt).2).2).2).2).2).2).2).2).1⟩
theorem qu9:Spec FF 46 [SK9] (.bool false):=⟨80,(List.cons.inj (List.cons.inj (List.cons.inj (List.cons.inj (List.cons.inj (List.cons.inj (List.cons.inj (List.cons.inj (List.cons.inj (List.cons.inj qt).2).2).2).2).2).2).2).2).2).1⟩
theorem qu10:Spec FF 46 [SK10] (.bool false):=⟨80,(List.cons.inj (List.cons.inj (List.cons.inj (List.cons.inj (List.cons.inj (List.cons.inj (List.cons.inj (List.cons.inj (List.cons.inj (List.cons.inj (List.cons.inj qt).2).2).2).2).2).2).2).2).2).2).1⟩
theorem qu11:Spec FF 46 [SK11] (.bool false):=⟨80,(List.cons.inj (List.cons.inj (List.cons.inj (List.cons.inj (List.cons.inj (List.cons.inj (List.cons.inj (List.cons.inj (List.cons.inj (List.cons.inj (List.cons.inj (List.cons.inj qt).2).2).2).2).2).2).2).2).2).2).2).1⟩
theorem qu12:Spec FF 46 [SK12] (.bool false):=⟨80,(List.cons.inj (List.cons.inj (List.cons.inj (List.cons.inj (List.cons.inj (List.cons.inj (List.cons.inj (List.cons.inj (List.cons.inj (List.cons.inj (List.cons.inj (List.cons.inj (List.cons.inj qt).2).2).2).2).2).2).2).2).2).2).2).2).1⟩
theorem qu13:Spec FF 46 [SK13] (.bool false):=⟨80,(List.cons.inj (List.cons.inj (List.cons.inj (List.cons.inj (List.cons.inj (List.cons.inj (List.cons.inj (List.cons.inj (List.cons.inj (List.cons.inj (List.cons.inj (List.cons.inj (List.cons.inj (List.cons.inj qt).2).2).2).2).2).2).2).2).2).2).2).2).2).1⟩
theorem qu14:Spec FF 46 [SK14] (.bool true):=⟨80,(List.cons.inj (List.cons.inj (List.cons.inj (List.cons.inj (List.cons.inj (List.cons.inj (List.cons.inj (List.cons.inj (List.cons.inj (List.cons.inj (List.cons.inj (List.cons.inj (List.cons.inj (List.cons.inj (List.cons.inj qt).2).2).2).2).2).2).2).2).2).2).2).2).2).2).1⟩
theorem nw:Spec FF 43 [.int .i64 1,.int .i64 9,.int .i64 1,sxt] (.tup [SK0,.int .i64 0]):=⟨80,by kernel_rfl⟩
theorem rp:Spec FF 47 [SK14] rep:=⟨80,by kernel_rfl⟩
end Go.Proofs.Hz
