/-
  Chapter 15: the document's reading of a number and of a line, plainly.
  Conditions: none.
-/
import Derived.Test.YtamikoglpnoicaaGreatDoorT28
import Derived.Test.YtamikoglpnoicaaGreatDoorT23
open Go Go.Proofs
namespace Go.Proofs.Hz
open Int renaming toNat->yaa
open Go.IntKind renaming wrap->yab
open List renaming take->yad,drop->yae,takeWhile_cons->yaf,cons_append->yah
open Option renaming bind->yag
open UInt8 renaming toNat->yac
def kem (e:UInt8) (t:List UInt8):List UInt8:=t.takeWhile (fun c=> !(c == e))
def kcs (e:Int):UInt8:=UInt8.ofNat e.toNat
def kbj (s:List UInt8) (i e:Int):Int×Int:=
 if(kem (kcs e) (s.drop i.toNat)).length<(s.drop i.toNat).length/\kba (kem (kcs e) (s.drop i.toNat))=true then
  (kam (kem (kcs e) (s.drop i.toNat)),i+(kem (kcs e) (s.drop i.toNat)).length+1) else(0,-1)
def kjf (s:List UInt8) (i e:Int):Bool:=decide ((0<=i/\i<=s.length)/\s.length<=1000000/\(e=32\/e=10))
def khv (s:List UInt8) (i:Int):Bool:=decide ((0<=i/\i<=s.length)/\s.length<=1000000)
def kfg (s:List UInt8) (i:Int) (no:Nat):Bool:=(ka9 no++[32]).isPrefixOf (s.drop i.toNat)
def klz (s:List UInt8) (i:Int) (no:Nat):Cl×Int:=
 if(kbj s (i+(ka9 no).length+1) 32).2<0 then(⟨0,0,0⟩,-1)
 else(⟨no,(kbj s (i+(ka9 no).length+1) 32).1,(kbj s (kbj s (i+(ka9 no).length+1) 32).2 10).1⟩,(kbj s (kbj s (i+(ka9 no).length+1) 32).2 10).2)
def kg0 (s:List UInt8) (i:Int):Nat->Nat->Cl×Int
 |0,_=>(⟨0,0,0⟩,-1)
 |f+1,no=>if kfg s i no=true then klz s i no else kg0 s i f (no+1)
def kfv (s:List UInt8) (i:Int):Cl×Int:=kg0 s i 10 0
theorem k43 {e:UInt8}: ∀ {p r:List UInt8},e ∉ p->kem e (p++e::r)=p
 | [],r,_=>by simp[kem]
 |c::p,r,h=>by
  simp only[List.mem_cons,not_or] at h;have hc:(!(c == e))=true:=by simp[Ne.symm h.1]
  unfold kem;rw[yah,yaf,iq hc];exact congrArg (c:: ·) (k43 (r:=r) h.2)
theorem k44 {e:UInt8}: ∀ {t:List UInt8},(kem e t).length<t.length-> ∃ r,t=kem e t++e::r
 | [],h=>by simp at h
 |c::t,h=>by
  unfold kem at h ⊢;by_cases hc:(!(c == e))=true
  ·rw[yaf,iq hc] at h ⊢;obtain⟨r,hr⟩:=k44 (e:=e) (t:=t) (by simpa[kem] using h);exact⟨r,by rw[yah];exact congrArg (c:: ·) hr⟩
  ·rw[yaf,ir hc];have:c=e:=by simpa using hc
   exact⟨t,by rw[this];rfl⟩
theorem kr7 {s p r:List UInt8} {i e:Int} {n:Int} (hs:s.drop i.toNat=p++kcs e::r) (hn:inW n=true) (hp:p=kab n) (he:kcs e=32\/kcs e=10):kbj s i e=(n,i+p.length+1):=by
 obtain⟨n1,n2⟩:=klv hn;have k: -9223372036854775808<=n/\n<=9223372036854775807:=by simp only[inW,decide_eq_true_eq] at hn;omega
 have hne:kcs e ∉ p:=by
  rw[hp];rcases he with h |h <;> rw[h]
  ·exact(kgx k).1
  ·exact(kgx k).2.1
 unfold kbj;rw[hs,k43 hne,iq ⟨by simp,by rw[hp];exact n1⟩,hp,n2]
theorem kn1 {s:List UInt8} {i e:Int} (h:0<=(kbj s i e).2): ∃ r,inW (kbj s i e).1=true/\s.drop i.toNat=kab (kbj s i e).1++kcs e::r/\(kbj s i e).2=i+(kab (kbj s i e).1).length+1:=by
 unfold kbj at h ⊢;by_cases hc:(kem (kcs e) (s.drop i.toNat)).length<(s.drop i.toNat).length/\kba (kem (kcs e) (s.drop i.toNat))=true
 ·rw[iq hc];obtain⟨n1,n2⟩:=kn2 hc.2;obtain⟨r,hr⟩:=k44 hc.1;refine⟨r,n1,?_,?_⟩
  ·simp only;rw[n2];exact hr
  ·simp only;rw[n2]
 ·rw[ir hc] at h;exact absurd h (by simp)
theorem qd0 {s:List UInt8} {i e:Int} (h: ¬0<=(kbj s i e).2) (hi:0<=i):kbj s i e=(0,-1):=by
 unfold kbj at h ⊢;by_cases hc:(kem (kcs e) (s.drop i.toNat)).length<(s.drop i.toNat).length/\kba (kem (kcs e) (s.drop i.toNat))=true
 ·rw[iq hc] at h;exact absurd (by simp only;omega) h
 ·rw[ir hc]
theorem kmw {s p r:List UInt8} {e:UInt8} {i:Int} (hi:0<=i) (hs:s.drop i.toNat=p++e::r):s.drop (i+p.length+1).toNat=r:=by
 have:(i+p.length+1).toNat=i.toNat+(p.length+1):=by omega
 rw[this,←List.drop_drop,hs,show p++e::r=(p++[e])++r by simp];exact List.drop_left' (by simp)
theorem kkm {s:List UInt8} {i:Int} {no:Nat}:kfg s i no=true↔ ∃ r,s.drop i.toNat=ka9 no++32::r:=by
 unfold kfg;rw[List.isPrefixOf_iff_prefix];constructor
 ·rintro⟨r,hr⟩;exact⟨r,by rw[←hr];simp⟩
 ·rintro⟨r,hr⟩;exact⟨r,by rw[hr];simp⟩
theorem qep {s:List UInt8} {i:Int} {n m:Nat} (hn:n<=9) (hm:m<=9) (h1:kfg s i n=true) (h2:kfg s i m=true):n=m:=by
 obtain⟨r1,e1⟩:=kkm.1 h1;obtain⟨r2,e2⟩:=kkm.1 h2;have k1:0<=(n:Int)/\(n:Int)<=9:=by omega
 have k2:0<=(m:Int)/\(m:Int)<=9:=by omega
 have:=(kxg (kpl k1).1 (kpl k2).1 (e1.symm.trans e2)).1;have:=qq7 k1 k2 this;omega
theorem kz4 {s:List UInt8} {i:Int} {n:Nat} (hn:n<=9) (h:kfg s i n=true): ∀ (f no:Nat),no+f=10->no<=n->kg0 s i f no=klz s i n:=by
 intro f
 induction f with
 |zero=>intro no h1 h2;omega
 |succ f ih=>
  intro no h1 h2;unfold kg0;by_cases hp:kfg s i no=true
  ·rw[iq hp,qep (by omega) hn hp h]
  ·rw[ir hp];refine ih (no+1) (by omega) ?_;rcases Nat.lt_or_ge no n with h3 |h3
   ·exact h3
   ·have:no=n:=by omega
    subst this;exact absurd h hp
theorem qd2 {s:List UInt8} {i:Int}: ∀ (f no:Nat),no+f=10->(∀ n,n<=9-> ¬kfg s i n=true)->kg0 s i f no=(⟨0,0,0⟩,-1):=by
 intro f
 induction f with
 |zero=>intro no _ _;rfl
 |succ f ih=>
  intro no h1 h2;unfold kg0;rw[ir (h2 no (by omega))];exact ih (no+1) (by omega) h2
theorem qd3 {s r:List UInt8} {i:Int} {c:Cl} (hi:0<=i) (hc:kdt c=true) (hs:s.drop i.toNat=kbo c++r):kfv s i=(c,i+(kbo c).length):=by
 have h0:(0<=c.no/\c.no<=9)/\inW c.a=true/\inW c.b=true:=by simpa[kdt] using hc
 obtain⟨h1,h2,h3⟩:=h0;have hno:((c.no.toNat:Nat):Int)=c.no:=by omega
 have e1:s.drop i.toNat=ka9 c.no++32::(kab c.a++32::(kab c.b++10::r)):=by rw[hs];simp[kbo]
 have hp:kfg s i c.no.toNat=true:=kkm.2 ⟨_,by rw[hno];exact e1⟩;have e2:=kmw hi e1;have n1:kbj s (i+(ka9 c.no).length+1) 32=(c.a,i+(ka9 c.no).length+1+(kab c.a).length+1):=kr7 (r:=kab c.b++10::r) (by rw[e2];rfl) h2 rfl (.inl rfl);have e3:=kmw (by omega) e2;have n2:kbj s (i+(ka9 c.no).length+1+(kab c.a).length+1) 10=(c.b,i+(ka9 c.no).length+1+(kab c.a).length+1+(kab c.b).length+1):=kr7 (r:=r) (by rw[e3];rfl) h3 rfl (.inr rfl);unfold kfv;rw[kz4 (n:=c.no.toNat) (by omega) hp 10 0 rfl (Nat.zero_le _)];unfold klz;rw[hno,n1];simp only;rw[ir (by omega),n2];simp only[Prod.mk.injEq];exact⟨trivial,by simp only[kbo,List.length_append,List.length_singleton];omega⟩
theorem qd4 {s:List UInt8} {i:Int} (hi:0<=i) (h:0<=(kfv s i).2): ∃(c:Cl) (r:List UInt8),kdt c=true/\s.drop i.toNat=kbo c++r:=by
 by_cases hw: ∃ n,n<=9/\kfg s i n=true
 ·obtain⟨n,hn,hp⟩:=hw;unfold kfv at h;rw[kz4 hn hp 10 0 rfl (Nat.zero_le _)] at h;unfold klz at h;by_cases hb:(kbj s (i+(ka9 n).length+1) 32).2<0
  ·rw[iq hb] at h;simp at h
  ·rw[ir hb] at h;simp only at h;obtain⟨r1,w1,d1,m1⟩:=kn1 (s:=s) (i:=i+(ka9 n).length+1) (e:=32) (by omega);obtain⟨r2,w2,d2,m2⟩:=kn1 h;obtain⟨r0,d0⟩:=kkm.1 hp;have e0:=kmw hi d0;have e1:=kmw (by omega) d1;rw[m1] at d2;refine⟨⟨n,(kbj s (i+(ka9 n).length+1) 32).1,(kbj s (kbj s (i+(ka9 n).length+1) 32).2 10).1⟩,r2,?_,?_⟩
   ·simp only[kdt,w1,w2];simp;omega
   ·rw[d0,←e0,d1,←e1,d2];simp[kbo,kcs,m1]
 ·unfold kfv at h;rw[qd2 10 0 rfl fun n hn hp=>hw ⟨n,hn,hp⟩] at h;simp at h
theorem kz5 {s:List UInt8} {i:Int} (hi:0<=i):
  (kau (kap (s.drop i.toNat)).1=true->kfv s i=(kas (kap (s.drop i.toNat)).1,i+(kap (s.drop i.toNat)).1.length))/\(¬kau (kap (s.drop i.toNat)).1=true->(kfv s i).2<0):=by
 refine⟨fun h=> ?_,fun h=> ?_⟩
 ·obtain⟨w1,w2⟩:=krx h;have:=qd3 (r:=(kap (s.drop i.toNat)).2) hi w1 (by rw[w2,kla]);rw[this,w2]
 ·rcases Int.lt_or_le (kfv s i).2 0 with h1 |h1
  ·exact h1
  ·obtain⟨c,r,hc,hs⟩:=qd4 hi h1;rw[hs,qa2 hc] at h;exact absurd (kyw hc).1 h
def kfi:Nat->List UInt8->Int->Int->Int->Int->Bool->Option AV
 |0,_,_,_,_,_,_=>none
 |fu+1,s,i,e,p0,p1,p2=>
  if p0<(s.length:Int) then
   if 0<=p0 then yag (s[yaa p0]?) fun x2=>
   if(yac x2:Int) ≥ 48 then
    if(yac x2:Int)<=57 then
      if p1<=461168601842738791 then
       kfi fu s i e (w64 (p0+1)) (w64 ((w64 ((w64 (10*p1))+(yab .i64 (yac x2:Int)))) - 48)) p2
      else
       if p2=true then
        if p0 ≥ (s.length:Int) then
         some (.tup [(.int .i64 0),(.int .i64 (-1))])
        else
         if(yac x2:Int)=e then
          if(yab .i64 (0 - p1)) > 4611686018427387904 then
            some (.tup [(.int .i64 0),(.int .i64 (-1))])
          else
            if(yab .i64 (0 - p1))<(-4611686018427387904) then
             some (.tup [(.int .i64 0),(.int .i64 (-1))])
            else
             if -9223372036854775808<=(yab .i64 (0 - p1))/\(yab .i64 (0 - p1))<=9223372036854775807 then if 0<=i/\i<=p0/\p0<=(s.length:Int) then if(!((kab (yab .i64 (0 - p1))) == (yad (yaa p0 - yaa i) (yae (yaa i) s))))=true then
              some (.tup [(.int .i64 0),(.int .i64 (-1))])
             else
              some (.tup [(.int .i64 (yab .i64 (0 - p1))),(.int .i64 (w64 (p0+1)))]) else none else none
         else
          some (.tup [(.int .i64 0),(.int .i64 (-1))])
       else
        if p0 ≥ (s.length:Int) then
         some (.tup [(.int .i64 0),(.int .i64 (-1))])
        else
         if(yac x2:Int)=e then
          if p1 > 4611686018427387904 then
            some (.tup [(.int .i64 0),(.int .i64 (-1))])
          else
            if -9223372036854775808<=p1/\p1<=9223372036854775807 then if 0<=i/\i<=p0/\p0<=(s.length:Int) then if(!((kab p1) == (yad (yaa p0 - yaa i) (yae (yaa i) s))))=true then
             some (.tup [(.int .i64 0),(.int .i64 (-1))])
            else
             some (.tup [(.int .i64 p1),(.int .i64 (w64 (p0+1)))]) else none else none
         else
          some (.tup [(.int .i64 0),(.int .i64 (-1))])
    else
      if p2=true then
       if p0 ≥ (s.length:Int) then
        some (.tup [(.int .i64 0),(.int .i64 (-1))])
       else
        if(yac x2:Int)=e then
         if(yab .i64 (0 - p1)) > 4611686018427387904 then
           some (.tup [(.int .i64 0),(.int .i64 (-1))])
         else
           if(yab .i64 (0 - p1))<(-4611686018427387904) then
            some (.tup [(.int .i64 0),(.int .i64 (-1))])
           else
            if -9223372036854775808<=(yab .i64 (0 - p1))/\(yab .i64 (0 - p1))<=9223372036854775807 then if 0<=i/\i<=p0/\p0<=(s.length:Int) then if(!((kab (yab .i64 (0 - p1))) == (yad (yaa p0 - yaa i) (yae (yaa i) s))))=true then
             some (.tup [(.int .i64 0),(.int .i64 (-1))])
            else
             some (.tup [(.int .i64 (yab .i64 (0 - p1))),(.int .i64 (w64 (p0+1)))]) else none else none
        else
         some (.tup [(.int .i64 0),(.int .i64 (-1))])
      else
       if p0 ≥ (s.length:Int) then
        some (.tup [(.int .i64 0),(.int .i64 (-1))])
       else
        if(yac x2:Int)=e then
         if p1 > 4611686018427387904 then
           some (.tup [(.int .i64 0),(.int .i64 (-1))])
         else
           if p1<(-4611686018427387904) then
            some (.tup [(.int .i64 0),(.int .i64 (-1))])
           else
            if -9223372036854775808<=p1/\p1<=9223372036854775807 then if 0<=i/\i<=p0/\p0<=(s.length:Int) then if(!((kab p1) == (yad (yaa p0 - yaa i) (yae (yaa i) s))))=true then
             some (.tup [(.int .i64 0),(.int .i64 (-1))])
            else
             some (.tup [(.int .i64 p1),(.int .i64 (w64 (p0+1)))]) else none else none
        else
         some (.tup [(.int .i64 0),(.int .i64 (-1))])
   else
    if p2=true then
     if p0 ≥ (s.length:Int) then
      some (.tup [(.int .i64 0),(.int .i64 (-1))])
     else
      if(yac x2:Int)=e then
       if(yab .i64 (0 - p1)) > 4611686018427387904 then
         some (.tup [(.int .i64 0),(.int .i64 (-1))])
       else
         if(yab .i64 (0 - p1))<(-4611686018427387904) then
          some (.tup [(.int .i64 0),(.int .i64 (-1))])
         else
          if -9223372036854775808<=(yab .i64 (0 - p1))/\(yab .i64 (0 - p1))<=9223372036854775807 then if 0<=i/\i<=p0/\p0<=(s.length:Int) then if(!((kab (yab .i64 (0 - p1))) == (yad (yaa p0 - yaa i) (yae (yaa i) s))))=true then
           some (.tup [(.int .i64 0),(.int .i64 (-1))])
          else
           some (.tup [(.int .i64 (yab .i64 (0 - p1))),(.int .i64 (w64 (p0+1)))]) else none else none
      else
       some (.tup [(.int .i64 0),(.int .i64 (-1))])
    else
     if p0 ≥ (s.length:Int) then
      some (.tup [(.int .i64 0),(.int .i64 (-1))])
     else
      if(yac x2:Int)=e then
       if p1 > 4611686018427387904 then
         some (.tup [(.int .i64 0),(.int .i64 (-1))])
       else
         if p1<(-4611686018427387904) then
          some (.tup [(.int .i64 0),(.int .i64 (-1))])
         else
          if -9223372036854775808<=p1/\p1<=9223372036854775807 then if 0<=i/\i<=p0/\p0<=(s.length:Int) then if(!((kab p1) == (yad (yaa p0 - yaa i) (yae (yaa i) s))))=true then
           some (.tup [(.int .i64 0),(.int .i64 (-1))])
          else
           some (.tup [(.int .i64 p1),(.int .i64 (w64 (p0+1)))]) else none else none
      else
       some (.tup [(.int .i64 0),(.int .i64 (-1))]) else none
  else
   if p2=true then
    if p0 ≥ (s.length:Int) then
     some (.tup [(.int .i64 0),(.int .i64 (-1))])
    else
     if 0<=p0 then yag (s[yaa p0]?) fun x4=>
     if(yac x4:Int)=e then
      if(yab .i64 (0 - p1)) > 4611686018427387904 then
        some (.tup [(.int .i64 0),(.int .i64 (-1))])
      else
        if(yab .i64 (0 - p1))<(-4611686018427387904) then
         some (.tup [(.int .i64 0),(.int .i64 (-1))])
        else
         if -9223372036854775808<=(yab .i64 (0 - p1))/\(yab .i64 (0 - p1))<=9223372036854775807 then if 0<=i/\i<=p0/\p0<=(s.length:Int) then if(!((kab (yab .i64 (0 - p1))) == (yad (yaa p0 - yaa i) (yae (yaa i) s))))=true then
          some (.tup [(.int .i64 0),(.int .i64 (-1))])
         else
          some (.tup [(.int .i64 (yab .i64 (0 - p1))),(.int .i64 (w64 (p0+1)))]) else none else none
     else
      some (.tup [(.int .i64 0),(.int .i64 (-1))]) else none
   else
    if p0 ≥ (s.length:Int) then
     some (.tup [(.int .i64 0),(.int .i64 (-1))])
    else
     if 0<=p0 then yag (s[yaa p0]?) fun x4=>
     if(yac x4:Int)=e then
      if p1 > 4611686018427387904 then
        some (.tup [(.int .i64 0),(.int .i64 (-1))])
      else
        if p1<(-4611686018427387904) then
         some (.tup [(.int .i64 0),(.int .i64 (-1))])
        else
         if -9223372036854775808<=p1/\p1<=9223372036854775807 then if 0<=i/\i<=p0/\p0<=(s.length:Int) then if(!((kab p1) == (yad (yaa p0 - yaa i) (yae (yaa i) s))))=true then
          some (.tup [(.int .i64 0),(.int .i64 (-1))])
         else
          some (.tup [(.int .i64 p1),(.int .i64 (w64 (p0+1)))]) else none else none
     else
      some (.tup [(.int .i64 0),(.int .i64 (-1))]) else none
def k13:List AV:=(vT 0 6)
def k12:List Blk:=[]
def ktu (s:List UInt8) (i:Int) (e:Int) (p0:Int) (p1:Int) (p2:Bool) (σ:Nat->Nat):Val:=(kal ([.str s,.int .i64 i,.int .u8 e,.int .i64 p0,.int .i64 p1,.bool p2]) ([]) [] σ 0)
def qim (s:List UInt8) (i:Int) (e:Int) (p0:Int) (p1:Int) (p2:Bool) (_σ:Nat->Nat):List AV:=[(.str s),(.int .i64 i),(.int .u8 e),(.int .i64 p0),(.int .i64 p1),(.bool p2)]
def qin (_s:List UInt8) (_i:Int) (_e:Int) (_p0:Int) (_p1:Int) (_p2:Bool) (_σ:Nat->Nat):List Blk:=[]
theorem kl1 (s:List UInt8) (i:Int) (e:Int) (p0:Int) (p1:Int) (p2:Bool) (σ:Nat->Nat):k13.map (gm (ktu s i e p0 p1 p2 σ))=qim s i e p0 p1 p2 σ:=by kernel_rfl
theorem kl2 (s:List UInt8) (i:Int) (e:Int) (p0:Int) (p1:Int) (p2:Bool) (σ:Nat->Nat):k12.map (gB (ktu s i e p0 p1 p2 σ))=qin s i e p0 p1 p2 σ:=by kernel_rfl
set_option maxHeartbeats 10000000 in
theorem ktv: ∀ (fu:Nat),∀ (s:List UInt8) (i:Int) (e:Int) (p0:Int) (p1:Int) (p2:Bool) {r0:AV} {z0:St} {σ:Nat->Nat},(∀ i j,σ i=σ j->i=j)->kfi fu s i e p0 p1 p2=some r0->Sim (ktu s i e p0 p1 p2 σ) (kaa [0,1,2,8,9,10] k13 k12) z0->J FF (kai FF 78) (kcm (kai FF 78) 0) (.code (.loop (kcl (kai FF 78) 0))) z0 r0:=by
 intro fu
 induction fu with
 |zero=>
  intro _ _ _ _ _ _ _ _ _ _ h _;unfold kfi at h;cases h
 |succ fu ih=>
  intro s i e p0 p1 p2 r0 z0 σ hσ h S;unfold kfi at h;exact kcr (have H:=Tok.start hσ S 0 6 0 0 ([.str s,.int .i64 i,.int .u8 e,.int .i64 p0,.int .i64 p1,.bool p2]) ([]) [] (.n) (.n) (kl1 _ _ _ _ _ _ _) (kl2 _ _ _ _ _ _ _);have H:=H.t 8 [.int .i64 s.length,.bool (decide (p0<(s.length:Int)))]|>.q 6 (.len 1 (cT 0))|>.q 7 (.bin .lss (cT 3) (cT 6));kaf h (fun h0 h=>have H:=H.y 7 h0;kac h (fun h1 h=>kbb h (fun x2 h2 h=>have H:=H.t 10 [.int .u8 (yac x2:Int),.bool (decide ((yac x2:Int) ≥ 48))]|>.q 9 (.bin .geq (cT 8) (.c (.int .u8 48)))|>.c (p:=(.ixS (cT 0) (cT 3),(vt 8))) (fun _ _ _=>kix rfl rfl h1 h2 rfl);kaf h (fun h3 h=>have H:=H.t 11 [.bool (decide ((yac x2:Int)<=57))]|>.q 10 (.bin .leq (cT 8) (.c (.int .u8 57)))|>.y 9 h3;kaf h (fun h4 h=>have H:=H.t 12 [.bool (decide (p1<=461168601842738791))]|>.q 11 (.bin .leq (cT 4) (cI 461168601842738791))|>.y 10 h4;kaf h (fun h5 h=>have H:=H.t 17 [.int .i64 (w64 (10*p1)),.int .i64 (yab .i64 (yac x2:Int)),.int .i64 (w64 ((w64 (10*p1))+(yab .i64 (yac x2:Int)))),.int .i64 (w64 ((w64 ((w64 (10*p1))+(yab .i64 (yac x2:Int)))) - 48)),.int .i64 (w64 (p0+1))]|>.r [(.bin .mul (cI 10) (cT 4),(vt 12)),(.conv .i64 (cT 8),(vt 13)),(.bin .add (cT 12) (cT 13),(vt 14)),(.bin .sub (cT 14) (cI 48),(vt 15)),(.bin .add (cT 3) (cI 1),(vt 16))]|>.y 11 h5;H.k [0] [0,1,2,8,9,10] [] [(vt 0),(vt 1),(vt 2),(vt 16),(vt 15),(vt 5)] [] 0 _ (kl1 _ _ _ _ _ _ _) (kl2 _ _ _ _ _ _ _) (fun _ hi S=>ih _ _ _ _ _ _ hi h S)) (fun h5 h=>have H:=H.w 11 h5;kaf h (fun h6 h=>have H:=H.t 14 [.int .i64 (yab .i64 (0 - p1)),.bool (decide (p0 ≥ (s.length:Int)))]|>.q 12 (.un .neg (cT 4))|>.q 13 (.bin .geq (cT 3) (cT 6))|>.m 5 true h6;kaf h (fun h7 h=>have H:=H.y 13 h7;H.e [0] h) (fun h7 h=>have H:=H.t 15 [.bool (!decide ((yac x2:Int)=e))]|>.q 14 (.bin .neq (cT 8) (cT 2))|>.w 13 h7;kaf h (fun h8 h=>have H:=H.t 16 [.bool (decide ((yab .i64 (0 - p1)) > 4611686018427387904))]|>.q 15 (.bin .gtr (cT 12) (cI 4611686018427387904))|>.m 14 false (nT h8);kaf h (fun h9 h=>have H:=H.y 15 h9;H.e [0] h) (fun h9 h=>have H:=H.t 17 [.bool (decide ((yab .i64 (0 - p1))<(-4611686018427387904)))]|>.q 16 (.bin .lss (cT 12) (cI (-4611686018427387904)))|>.w 15 h9;kaf h (fun h10 h=>have H:=H.y 16 h10;H.e [0] h) (fun h10 h=>have H:=H.w 16 h10;kac h (fun h11 h=>have H:=H.t 18 [.str (kab (yab .i64 (0 - p1)))]|>.s [(vt 12)] (vt 17) (kgb (yab .i64 (0 - p1)) h11);kac h (fun _ h=>have H:=H.t 20 [.str (yad (yaa p0 - yaa i) (yae (yaa i) s)),.bool (!((kab (yab .i64 (0 - p1))) == (yad (yaa p0 - yaa i) (yae (yaa i) s))))]|>.q 19 (.bin .neq (cT 17) (cT 18))|>.c (p:=(.slT (cT 0) (some (cT 1)) (some (cT 3)),(vt 18))) (fun _ _ _=>kcu (l:=s) (l':=(yad (yaa p0 - yaa i) (yae (yaa i) s))) (lo:=(some ((vt 1),(i:Int)))) (hi:=(some ((vt 3),(p0:Int)))) (by kernel_rfl) ⟨.i64,by kernel_rfl⟩ ⟨.i64,by kernel_rfl⟩ (by simp only[ka3];omega) (by simp[ka3]) (by kernel_rfl));kaf h (fun h13 h=>have H:=H.m 19 true h13;H.e [0] h) (fun h13 h=>have H:=H.t 21 [.int .i64 (w64 (p0+1))]|>.q 20 (.bin .add (cT 3) (cI 1))|>.m 19 false (bF h13);H.e [0] h)))))) (fun h8 h=>have H:=H.m 14 true (nF h8);H.e [0] h))) (fun h6 h=>have H:=H.t 13 [.bool (decide (p0 ≥ (s.length:Int)))]|>.q 12 (.bin .geq (cT 3) (cT 6))|>.m 5 false (bF h6);kaf h (fun h7 h=>have H:=H.y 12 h7;H.e [0] h) (fun h7 h=>have H:=H.t 14 [.bool (!decide ((yac x2:Int)=e))]|>.q 13 (.bin .neq (cT 8) (cT 2))|>.w 12 h7;kaf h (fun h8 h=>have H:=H.t 15 [.bool (decide (p1 > 4611686018427387904))]|>.q 14 (.bin .gtr (cT 4) (cI 4611686018427387904))|>.m 13 false (nT h8);kaf h (fun h9 h=>have H:=H.y 14 h9;H.e [0] h) (fun h9 h=>have H:=H.t 16 [.bool (decide (p1<(-4611686018427387904)))]|>.q 15 (.bin .lss (cT 4) (cI (-4611686018427387904)))|>.w 14 h9|>.m 15 false (b:=(decide (p1<(-4611686018427387904)))) (decide_eq_false (by omega));kac h (fun h10 h=>have H:=H.t 17 [.str (kab p1)]|>.s [(vt 4)] (vt 16) (kgb p1 h10);kac h (fun _ h=>have H:=H.t 19 [.str (yad (yaa p0 - yaa i) (yae (yaa i) s)),.bool (!((kab p1) == (yad (yaa p0 - yaa i) (yae (yaa i) s))))]|>.q 18 (.bin .neq (cT 16) (cT 17))|>.c (p:=(.slT (cT 0) (some (cT 1)) (some (cT 3)),(vt 17))) (fun _ _ _=>kcu (l:=s) (l':=(yad (yaa p0 - yaa i) (yae (yaa i) s))) (lo:=(some ((vt 1),(i:Int)))) (hi:=(some ((vt 3),(p0:Int)))) (by kernel_rfl) ⟨.i64,by kernel_rfl⟩ ⟨.i64,by kernel_rfl⟩ (by simp only[ka3];omega) (by simp[ka3]) (by kernel_rfl));kaf h (fun h12 h=>have H:=H.m 18 true h12;H.e [0] h) (fun h12 h=>have H:=H.t 20 [.int .i64 (w64 (p0+1))]|>.q 19 (.bin .add (cT 3) (cI 1))|>.m 18 false (bF h12);H.e [0] h))))) (fun h8 h=>have H:=H.m 13 true (nF h8);H.e [0] h))))) (fun h4 h=>have H:=H.w 10 h4;kaf h (fun h5 h=>have H:=H.t 13 [.int .i64 (yab .i64 (0 - p1)),.bool (decide (p0 ≥ (s.length:Int)))]|>.q 11 (.un .neg (cT 4))|>.q 12 (.bin .geq (cT 3) (cT 6))|>.m 5 true h5;kaf h (fun h6 h=>have H:=H.y 12 h6;H.e [0] h) (fun h6 h=>have H:=H.t 14 [.bool (!decide ((yac x2:Int)=e))]|>.q 13 (.bin .neq (cT 8) (cT 2))|>.w 12 h6;kaf h (fun h7 h=>have H:=H.t 15 [.bool (decide ((yab .i64 (0 - p1)) > 4611686018427387904))]|>.q 14 (.bin .gtr (cT 11) (cI 4611686018427387904))|>.m 13 false (nT h7);kaf h (fun h8 h=>have H:=H.y 14 h8;H.e [0] h) (fun h8 h=>have H:=H.t 16 [.bool (decide ((yab .i64 (0 - p1))<(-4611686018427387904)))]|>.q 15 (.bin .lss (cT 11) (cI (-4611686018427387904)))|>.w 14 h8;kaf h (fun h9 h=>have H:=H.y 15 h9;H.e [0] h) (fun h9 h=>have H:=H.w 15 h9;kac h (fun h10 h=>have H:=H.t 17 [.str (kab (yab .i64 (0 - p1)))]|>.s [(vt 11)] (vt 16) (kgb (yab .i64 (0 - p1)) h10);kac h (fun _ h=>have H:=H.t 19 [.str (yad (yaa p0 - yaa i) (yae (yaa i) s)),.bool (!((kab (yab .i64 (0 - p1))) == (yad (yaa p0 - yaa i) (yae (yaa i) s))))]|>.q 18 (.bin .neq (cT 16) (cT 17))|>.c (p:=(.slT (cT 0) (some (cT 1)) (some (cT 3)),(vt 17))) (fun _ _ _=>kcu (l:=s) (l':=(yad (yaa p0 - yaa i) (yae (yaa i) s))) (lo:=(some ((vt 1),(i:Int)))) (hi:=(some ((vt 3),(p0:Int)))) (by kernel_rfl) ⟨.i64,by kernel_rfl⟩ ⟨.i64,by kernel_rfl⟩ (by simp only[ka3];omega) (by simp[ka3]) (by kernel_rfl));kaf h (fun h12 h=>have H:=H.m 18 true h12;H.e [0] h) (fun h12 h=>have H:=H.t 20 [.int .i64 (w64 (p0+1))]|>.q 19 (.bin .add (cT 3) (cI 1))|>.m 18 false (bF h12);H.e [0] h)))))) (fun h7 h=>have H:=H.m 13 true (nF h7);H.e [0] h))) (fun h5 h=>have H:=H.t 12 [.bool (decide (p0 ≥ (s.length:Int)))]|>.q 11 (.bin .geq (cT 3) (cT 6))|>.m 5 false (bF h5);kaf h (fun h6 h=>have H:=H.y 11 h6;H.e [0] h) (fun h6 h=>have H:=H.t 13 [.bool (!decide ((yac x2:Int)=e))]|>.q 12 (.bin .neq (cT 8) (cT 2))|>.w 11 h6;kaf h (fun h7 h=>have H:=H.t 14 [.bool (decide (p1 > 4611686018427387904))]|>.q 13 (.bin .gtr (cT 4) (cI 4611686018427387904))|>.m 12 false (nT h7);kaf h (fun h8 h=>have H:=H.y 13 h8;H.e [0] h) (fun h8 h=>have H:=H.t 15 [.bool (decide (p1<(-4611686018427387904)))]|>.q 14 (.bin .lss (cT 4) (cI (-4611686018427387904)))|>.w 13 h8;kaf h (fun h9 h=>have H:=H.y 14 h9;H.e [0] h) (fun h9 h=>have H:=H.w 14 h9;kac h (fun h10 h=>have H:=H.t 16 [.str (kab p1)]|>.s [(vt 4)] (vt 15) (kgb p1 h10);kac h (fun _ h=>have H:=H.t 18 [.str (yad (yaa p0 - yaa i) (yae (yaa i) s)),.bool (!((kab p1) == (yad (yaa p0 - yaa i) (yae (yaa i) s))))]|>.q 17 (.bin .neq (cT 15) (cT 16))|>.c (p:=(.slT (cT 0) (some (cT 1)) (some (cT 3)),(vt 16))) (fun _ _ _=>kcu (l:=s) (l':=(yad (yaa p0 - yaa i) (yae (yaa i) s))) (lo:=(some ((vt 1),(i:Int)))) (hi:=(some ((vt 3),(p0:Int)))) (by kernel_rfl) ⟨.i64,by kernel_rfl⟩ ⟨.i64,by kernel_rfl⟩ (by simp only[ka3];omega) (by simp[ka3]) (by kernel_rfl));kaf h (fun h12 h=>have H:=H.m 17 true h12;H.e [0] h) (fun h12 h=>have H:=H.t 19 [.int .i64 (w64 (p0+1))]|>.q 18 (.bin .add (cT 3) (cI 1))|>.m 17 false (bF h12);H.e [0] h)))))) (fun h7 h=>have H:=H.m 12 true (nF h7);H.e [0] h))))) (fun h3 h=>have H:=H.w 9 h3;kaf h (fun h4 h=>have H:=H.t 12 [.int .i64 (yab .i64 (0 - p1)),.bool (decide (p0 ≥ (s.length:Int)))]|>.q 10 (.un .neg (cT 4))|>.q 11 (.bin .geq (cT 3) (cT 6))|>.m 5 true h4;kaf h (fun h5 h=>have H:=H.y 11 h5;H.e [0] h) (fun h5 h=>have H:=H.t 13 [.bool (!decide ((yac x2:Int)=e))]|>.q 12 (.bin .neq (cT 8) (cT 2))|>.w 11 h5;kaf h (fun h6 h=>have H:=H.t 14 [.bool (decide ((yab .i64 (0 - p1)) > 4611686018427387904))]|>.q 13 (.bin .gtr (cT 10) (cI 4611686018427387904))|>.m 12 false (nT h6);kaf h (fun h7 h=>have H:=H.y 13 h7;H.e [0] h) (fun h7 h=>have H:=H.t 15 [.bool (decide ((yab .i64 (0 - p1))<(-4611686018427387904)))]|>.q 14 (.bin .lss (cT 10) (cI (-4611686018427387904)))|>.w 13 h7;kaf h (fun h8 h=>have H:=H.y 14 h8;H.e [0] h) (fun h8 h=>have H:=H.w 14 h8;kac h (fun h9 h=>have H:=H.t 16 [.str (kab (yab .i64 (0 - p1)))]|>.s [(vt 10)] (vt 15) (kgb (yab .i64 (0 - p1)) h9);kac h (fun _ h=>have H:=H.t 18 [.str (yad (yaa p0 - yaa i) (yae (yaa i) s)),.bool (!((kab (yab .i64 (0 - p1))) == (yad (yaa p0 - yaa i) (yae (yaa i) s))))]|>.q 17 (.bin .neq (cT 15) (cT 16))|>.c (p:=(.slT (cT 0) (some (cT 1)) (some (cT 3)),(vt 16))) (fun _ _ _=>kcu (l:=s) (l':=(yad (yaa p0 - yaa i) (yae (yaa i) s))) (lo:=(some ((vt 1),(i:Int)))) (hi:=(some ((vt 3),(p0:Int)))) (by kernel_rfl) ⟨.i64,by kernel_rfl⟩ ⟨.i64,by kernel_rfl⟩ (by simp only[ka3];omega) (by simp[ka3]) (by kernel_rfl));kaf h (fun h11 h=>have H:=H.m 17 true h11;H.e [0] h) (fun h11 h=>have H:=H.t 19 [.int .i64 (w64 (p0+1))]|>.q 18 (.bin .add (cT 3) (cI 1))|>.m 17 false (bF h11);H.e [0] h)))))) (fun h6 h=>have H:=H.m 12 true (nF h6);H.e [0] h))) (fun h4 h=>have H:=H.t 11 [.bool (decide (p0 ≥ (s.length:Int)))]|>.q 10 (.bin .geq (cT 3) (cT 6))|>.m 5 false (bF h4);kaf h (fun h5 h=>have H:=H.y 10 h5;H.e [0] h) (fun h5 h=>have H:=H.t 12 [.bool (!decide ((yac x2:Int)=e))]|>.q 11 (.bin .neq (cT 8) (cT 2))|>.w 10 h5;kaf h (fun h6 h=>have H:=H.t 13 [.bool (decide (p1 > 4611686018427387904))]|>.q 12 (.bin .gtr (cT 4) (cI 4611686018427387904))|>.m 11 false (nT h6);kaf h (fun h7 h=>have H:=H.y 12 h7;H.e [0] h) (fun h7 h=>have H:=H.t 14 [.bool (decide (p1<(-4611686018427387904)))]|>.q 13 (.bin .lss (cT 4) (cI (-4611686018427387904)))|>.w 12 h7;kaf h (fun h8 h=>have H:=H.y 13 h8;H.e [0] h) (fun h8 h=>have H:=H.w 13 h8;kac h (fun h9 h=>have H:=H.t 15 [.str (kab p1)]|>.s [(vt 4)] (vt 14) (kgb p1 h9);kac h (fun _ h=>have H:=H.t 17 [.str (yad (yaa p0 - yaa i) (yae (yaa i) s)),.bool (!((kab p1) == (yad (yaa p0 - yaa i) (yae (yaa i) s))))]|>.q 16 (.bin .neq (cT 14) (cT 15))|>.c (p:=(.slT (cT 0) (some (cT 1)) (some (cT 3)),(vt 15))) (fun _ _ _=>kcu (l:=s) (l':=(yad (yaa p0 - yaa i) (yae (yaa i) s))) (lo:=(some ((vt 1),(i:Int)))) (hi:=(some ((vt 3),(p0:Int)))) (by kernel_rfl) ⟨.i64,by kernel_rfl⟩ ⟨.i64,by kernel_rfl⟩ (by simp only[ka3];omega) (by simp[ka3]) (by kernel_rfl));kaf h (fun h11 h=>have H:=H.m 16 true h11;H.e [0] h) (fun h11 h=>have H:=H.t 18 [.int .i64 (w64 (p0+1))]|>.q 17 (.bin .add (cT 3) (cI 1))|>.m 16 false (bF h11);H.e [0] h)))))) (fun h6 h=>have H:=H.m 11 true (nF h6);H.e [0] h))))))) (fun h0 h=>have H:=H.w 7 h0;kaf h (fun h1 h=>have H:=H.t 10 [.int .i64 (yab .i64 (0 - p1)),.bool (decide (p0 ≥ (s.length:Int)))]|>.q 8 (.un .neg (cT 4))|>.q 9 (.bin .geq (cT 3) (cT 6))|>.m 5 true h1;kaf h (fun h2 h=>have H:=H.y 9 h2;H.e [0] h) (fun h2 h=>have H:=H.w 9 h2;kac h (fun h3 h=>kbb h (fun x4 h4 h=>have H:=H.t 12 [.int .u8 (yac x4:Int),.bool (!decide ((yac x4:Int)=e))]|>.q 11 (.bin .neq (cT 10) (cT 2))|>.c (p:=(.ixS (cT 0) (cT 3),(vt 10))) (fun _ _ _=>kix rfl rfl h3 h4 rfl);kaf h (fun h5 h=>have H:=H.t 13 [.bool (decide ((yab .i64 (0 - p1)) > 4611686018427387904))]|>.q 12 (.bin .gtr (cT 8) (cI 4611686018427387904))|>.m 11 false (nT h5);kaf h (fun h6 h=>have H:=H.y 12 h6;H.e [0] h) (fun h6 h=>have H:=H.t 14 [.bool (decide ((yab .i64 (0 - p1))<(-4611686018427387904)))]|>.q 13 (.bin .lss (cT 8) (cI (-4611686018427387904)))|>.w 12 h6;kaf h (fun h7 h=>have H:=H.y 13 h7;H.e [0] h) (fun h7 h=>have H:=H.w 13 h7;kac h (fun h8 h=>have H:=H.t 15 [.str (kab (yab .i64 (0 - p1)))]|>.s [(vt 8)] (vt 14) (kgb (yab .i64 (0 - p1)) h8);kac h (fun _ h=>have H:=H.t 17 [.str (yad (yaa p0 - yaa i) (yae (yaa i) s)),.bool (!((kab (yab .i64 (0 - p1))) == (yad (yaa p0 - yaa i) (yae (yaa i) s))))]|>.q 16 (.bin .neq (cT 14) (cT 15))|>.c (p:=(.slT (cT 0) (some (cT 1)) (some (cT 3)),(vt 15))) (fun _ _ _=>kcu (l:=s) (l':=(yad (yaa p0 - yaa i) (yae (yaa i) s))) (lo:=(some ((vt 1),(i:Int)))) (hi:=(some ((vt 3),(p0:Int)))) (by kernel_rfl) ⟨.i64,by kernel_rfl⟩ ⟨.i64,by kernel_rfl⟩ (by simp only[ka3];omega) (by simp[ka3]) (by kernel_rfl));kaf h (fun h10 h=>have H:=H.m 16 true h10;H.e [0] h) (fun h10 h=>have H:=H.t 18 [.int .i64 (w64 (p0+1))]|>.q 17 (.bin .add (cT 3) (cI 1))|>.m 16 false (bF h10);H.e [0] h)))))) (fun h5 h=>have H:=H.m 11 true (nF h5);H.e [0] h))))) (fun h1 h=>have H:=H.t 9 [.bool (decide (p0 ≥ (s.length:Int)))]|>.q 8 (.bin .geq (cT 3) (cT 6))|>.m 5 false (bF h1);kaf h (fun h2 h=>have H:=H.y 8 h2;H.e [0] h) (fun h2 h=>have H:=H.w 8 h2;kac h (fun h3 h=>kbb h (fun x4 h4 h=>have H:=H.t 11 [.int .u8 (yac x4:Int),.bool (!decide ((yac x4:Int)=e))]|>.q 10 (.bin .neq (cT 9) (cT 2))|>.c (p:=(.ixS (cT 0) (cT 3),(vt 9))) (fun _ _ _=>kix rfl rfl h3 h4 rfl);kaf h (fun h5 h=>have H:=H.t 12 [.bool (decide (p1 > 4611686018427387904))]|>.q 11 (.bin .gtr (cT 4) (cI 4611686018427387904))|>.m 10 false (nT h5);kaf h (fun h6 h=>have H:=H.y 11 h6;H.e [0] h) (fun h6 h=>have H:=H.t 13 [.bool (decide (p1<(-4611686018427387904)))]|>.q 12 (.bin .lss (cT 4) (cI (-4611686018427387904)))|>.w 11 h6;kaf h (fun h7 h=>have H:=H.y 12 h7;H.e [0] h) (fun h7 h=>have H:=H.w 12 h7;kac h (fun h8 h=>have H:=H.t 14 [.str (kab p1)]|>.s [(vt 4)] (vt 13) (kgb p1 h8);kac h (fun _ h=>have H:=H.t 16 [.str (yad (yaa p0 - yaa i) (yae (yaa i) s)),.bool (!((kab p1) == (yad (yaa p0 - yaa i) (yae (yaa i) s))))]|>.q 15 (.bin .neq (cT 13) (cT 14))|>.c (p:=(.slT (cT 0) (some (cT 1)) (some (cT 3)),(vt 14))) (fun _ _ _=>kcu (l:=s) (l':=(yad (yaa p0 - yaa i) (yae (yaa i) s))) (lo:=(some ((vt 1),(i:Int)))) (hi:=(some ((vt 3),(p0:Int)))) (by kernel_rfl) ⟨.i64,by kernel_rfl⟩ ⟨.i64,by kernel_rfl⟩ (by simp only[ka3];omega) (by simp[ka3]) (by kernel_rfl));kaf h (fun h10 h=>have H:=H.m 15 true h10;H.e [0] h) (fun h10 h=>have H:=H.t 17 [.int .i64 (w64 (p0+1))]|>.q 16 (.bin .add (cT 3) (cI 1))|>.m 15 false (bF h10);H.e [0] h)))))) (fun h5 h=>have H:=H.m 10 true (nF h5);H.e [0] h)))))))
def kop (fu:Nat) (s:List UInt8) (i:Int) (e:Int):Option AV:=
 if i<(s.length:Int) then
  if 0<=i then yag (s[yaa i]?) fun x2=>
  if(yac x2:Int)=45 then
   kfi fu s i e (w64 (i+1)) 0 (decide ((yac x2:Int)=45))
  else
   kfi fu s i e i 0 (decide ((yac x2:Int)=45)) else none
 else
  kfi fu s i e i 0 false
def k11:List AV:=[(vt 0),(vt 1),(vt 2)]
def ktt (s:List UInt8) (i:Int) (e:Int) (σ:Nat->Nat):Val:=(kal ([.str s,.int .i64 i,.int .u8 e]) ([]) [] σ 0)
def qik (s:List UInt8) (i:Int) (e:Int) (_σ:Nat->Nat):List AV:=[(.str s),(.int .i64 i),(.int .u8 e)]
def qil (_s:List UInt8) (_i:Int) (_e:Int) (_σ:Nat->Nat):List Blk:=[]
theorem qii (s:List UInt8) (i:Int) (e:Int) (σ:Nat->Nat):k11.map (gm (ktt s i e σ))=qik s i e σ:=by kernel_rfl
theorem qij (s:List UInt8) (i:Int) (e:Int) (σ:Nat->Nat):([]:List Blk).map (gB (ktt s i e σ))=qil s i e σ:=by kernel_rfl
theorem qip {fu:Nat} (s:List UInt8) (i:Int) (e:Int) {r0:AV} (h:kop fu s i e=some r0):kak FF 78 [(.str s),(.int .i64 i),(.int .u8 e)] r0:=by
 unfold kop at h;have hσ: ∀ i j:Nat,(fun i:Nat=>i) i=(fun i:Nat=>i) j->i=j:=fun _ _ e=>e
 exact kbq (ρ:=ktt s i e (fun i=>i)) (xs:=k11) (by kernel_rfl) rfl rfl (by kernel_rfl) (fun z0 S=>have H:=Tok.start hσ S 0 3 0 0 ([.str s,.int .i64 i,.int .u8 e]) ([]) [] (.n) .n (qii _ _ _ _) (qij _ _ _ _);have H:=H.t 5 [.int .i64 s.length,.bool (decide (i<(s.length:Int)))]|>.q 3 (.len 1 (cT 0))|>.q 4 (.bin .lss (cT 1) (cT 3));kaf h (fun h0 h=>have H:=H.y 4 h0;kac h (fun h1 h=>kbb h (fun x2 h2 h=>have H:=H.t 7 [.int .u8 (yac x2:Int),.bool (decide ((yac x2:Int)=45))]|>.q 6 (.bin .eql (cT 5) (.c (.int .u8 45)))|>.c (p:=(.ixS (cT 0) (cT 1),(vt 5))) (fun _ _ _=>kix rfl rfl h1 h2 rfl);kaf h (fun h3 h=>have H:=H.t 8 [.int .i64 (w64 (i+1))]|>.q 7 (.bin .add (cT 1) (cI 1))|>.y 6 h3;H.k [0] [0,1,2,8,9,10] [] [(vt 0),(vt 1),(vt 2),(vt 7),(.int .i64 0),(vt 6)] [] 0 _ (kl1 _ _ _ _ _ _ _) (kl2 _ _ _ _ _ _ _) (fun _ hi S=>ktv _ _ _ _ _ _ _ hi h S)) (fun h3 h=>have H:=H.w 6 h3;H.k [0] [0,1,2,8,9,10] [] [(vt 0),(vt 1),(vt 2),(vt 1),(.int .i64 0),(vt 6)] [] 0 _ (kl1 _ _ _ _ _ _ _) (kl2 _ _ _ _ _ _ _) (fun _ hi S=>ktv _ _ _ _ _ _ _ hi h S))))) (fun h0 h=>have H:=H.w 4 h0;H.k [0] [0,1,2,8,9,10] [] [(vt 0),(vt 1),(vt 2),(vt 1),(.int .i64 0),(.bool false)] [] 0 _ (kl1 _ _ _ _ _ _ _) (kl2 _ _ _ _ _ _ _) (fun _ hi S=>ktv _ _ _ _ _ _ _ hi h S)))
end Go.Proofs.Hz
