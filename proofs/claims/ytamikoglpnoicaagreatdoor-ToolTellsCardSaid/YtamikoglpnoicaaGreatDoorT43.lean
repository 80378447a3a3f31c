/-
  Chapter 15: the document's number.
  Conditions: none.
-/
import Derived.Test.YtamikoglpnoicaaGreatDoorT42
import Derived.Test.YtamikoglpnoicaaGreatDoorT22
open Go Go.Proofs
namespace Go.Proofs.Hz
open Int renaming toNat->yab,toNat_natCast->yad
open Go.IntKind renaming wrap->yac
open Go.Lib renaming decDigits->yan
open List renaming length->yaa,getElem?_eq_getElem->yae,length_singleton->yag,drop_eq_getElem_cons->yah,take->yai,drop->yaj,drop_eq_nil_of_le->yak,cons_append->yal,length_drop->yam,length_append->yao,getElem?_eq_some_iff->yap,length_cons->yar,getElem?_eq_none->yat,take_append_drop->yau,drop_drop->yav,map->yax,drop_left->ya0,drop_zero->ya1
open List.cons renaming inj->yaw
open Option renaming bind_some->yaq,any_some->yas,getD_some->yay
open UInt8 renaming toNat->yaf,toNat_inj->yaz
def badA:AV:= .tup [.int .i64 0,.int .i64 (-1)]
def kd1 (s:List UInt8) (i e:Int) (j:Nat) (n:Int):AV:=
 if(s[j]?.any fun c=>decide ((c.toNat:Int)=e))=true/\inW n=true/\kab n=(s.drop i.toNat).take (j - i.toNat) then .tup [.int .i64 n,.int .i64 ((j:Int)+1)] else badA
def sgn (neg:Bool) (n:Int):Int:=if neg=true then -n else n
def kek:List UInt8->Nat->Nat×Nat
 | [],n=>(0,n)
 |c::t,n=>if(48<=c.toNat/\c.toNat<=57)/\n<=461168601842738791 then((kek t (10*n+(c.toNat - 48))).1+1,(kek t (10*n+(c.toNat - 48))).2) else(0,n)
theorem kzs: ∀ (d:List UInt8) (r:List UInt8) (e:UInt8) (n:Nat),(∀ c ∈ d,kdm c)-> ¬kdm e->d.foldl (fun a d=>10*a+(d.toNat - 48)) n<=4611686018427387904->kek (d++e::r) n=(d.length,d.foldl (fun a d=>10*a+(d.toNat - 48)) n)
 | [],r,e,n,_,he,_=>by
   unfold kdm at he;rw[List.nil_append,kek,ir (fun h=>he h.1)];rfl
 |c::d,r,e,n,hd,he,hn=>by
  have hc:=hd c (by simp);unfold kdm at hc;rw[List.foldl_cons] at hn;have hg:=km4 d (10*n+(c.toNat - 48));have ih:=kzs d r e (10*n+(c.toNat - 48)) (fun x hx=>hd x (by simp[hx])) he hn;rw[yal,kek,iq ⟨hc,by omega⟩,ih];rfl
theorem kpi {n:Nat} (h:n<=1000000):w64 ((n:Int)+1)=((n+1:Nat):Int):=by
 unfold w64 yac;simp[IntKind.signed,IntKind.bits];omega
theorem qq4 {n:Nat} {c:UInt8} (hn:n<=461168601842738791) (hc:48<=c.toNat/\c.toNat<=57):w64 (w64 (w64 (10*(n:Int))+yac .i64 (c.toNat:Int)) - 48)=((10*n+(c.toNat - 48):Nat):Int):=by
 have h1:w64 (10*(n:Int))=10*(n:Int):=wI (by omega);have h2:yac .i64 (c.toNat:Int)=(c.toNat:Int):=wI (by omega);rw[h1,h2];have h3:w64 (10*(n:Int)+(c.toNat:Int))=10*(n:Int)+(c.toNat:Int):=wI (by omega);rw[h3];have h4:w64 (10*(n:Int)+(c.toNat:Int) - 48)=10*(n:Int)+(c.toNat:Int) - 48:=wI (by omega);rw[h4];omega
section
variable {s:List UInt8} {i e:Int} {j:Nat} {n:Int}
theorem k8m (h:s[j]? =none):kd1 s i e j n=badA:=by
 unfold kd1;rw[ir (by rw[h];simp)]
theorem km6 {c:UInt8} (h:s[j]? =some c) (hc: ¬(c.toNat:Int)=e):kd1 s i e j n=badA:=by
 unfold kd1;rw[ir (by rw[h];simp[hc])]
theorem kx1 (h: ¬inW n=true):kd1 s i e j n=badA:=by
 unfold kd1;rw[ir (fun k=>h k.2.1)]
theorem km7 {c:UInt8} (h:s[j]? =some c) (hc:(c.toNat:Int)=e) (hi:0<=i/\i<=j) (hj:j<=1000000) (hn: -9223372036854775808<=n/\n<=9223372036854775807):
  (if n > 4611686018427387904 then some badA else if n<(-4611686018427387904) then some badA else
   if -9223372036854775808<=n/\n<=9223372036854775807 then if 0<=i/\i<=(j:Int)/\(j:Int)<=(yaa s:Int) then if(!((kab n) == (yai (yab (j:Int) - yab i) (yaj (yab i) s))))=true then some badA
    else some (.tup [.int .i64 n,.int .i64 (w64 ((j:Int)+1))]) else none else none)=some (kd1 s i e j n):=by
 have hjl:j<s.length:=(yap.1 h).1;by_cases h1:n > 4611686018427387904
 ·rw[iq h1,kx1 (by simp only[inW,decide_eq_true_eq];omega)]
 by_cases h2:n<(-4611686018427387904)
 ·rw[ir h1,iq h2,kx1 (by simp only[inW,decide_eq_true_eq];omega)]
 have hw:inW n=true:=by simp only[inW,decide_eq_true_eq];omega
 rw[ir h1,ir h2,iq hn,iq ⟨hi.1,hi.2,by omega⟩,yad,kpi hj];unfold kd1;by_cases h3:kab n=(s.drop i.toNat).take (j - i.toNat)
 ·rw[ir (by simp[h3]),iq ⟨by rw[h];simp[hc],hw,h3⟩];rfl
 ·rw[iq (by simp[h3]),ir (fun k=>h3 k.2.2)]
theorem k8n {c:UInt8} (h:s[j]? =some c) (hc:(c.toNat:Int)=e) (hi:0<=i/\i<=j) (hj:j<=1000000) (hn:0<=n/\n<=9223372036854775807):
  (if n > 4611686018427387904 then some badA else
   if -9223372036854775808<=n/\n<=9223372036854775807 then if 0<=i/\i<=(j:Int)/\(j:Int)<=(yaa s:Int) then if(!((kab n) == (yai (yab (j:Int) - yab i) (yaj (yab i) s))))=true then some badA
    else some (.tup [.int .i64 n,.int .i64 (w64 ((j:Int)+1))]) else none else none)=some (kd1 s i e j n):=by
 rw[←km7 h hc hi hj (by omega)];by_cases h1:n > 4611686018427387904
 ·rw[iq h1,iq h1]
 ·rw[ir h1,ir h1,ir (show ¬n<(-4611686018427387904) by omega)]
end
theorem k5a {n:Nat} (h:n<=4611686018427387919):yac .i64 (0 - (n:Int))=sgn true n:=by
 rw[wI (by omega)];simp[sgn]
theorem k15 (fu:Nat) (s:List UInt8) (i e:Int) (j n:Nat) (neg:Bool) (hi:0<=i/\i<=j) (hj:j<=s.length) (hs:s.length<=1000000) (hn:n<=4611686018427387919):
  kfi (fu+1) s i e j n neg=if((s[j]?.any fun c=>decide (48<=c.toNat/\c.toNat<=57))=true)/\n<=461168601842738791 then kfi fu s i e ((j+1:Nat):Int) ((10*n+((s[j]?.getD 0).toNat - 48):Nat):Int) neg else some (kd1 s i e j (sgn neg n)):=by
 rw[kfi];by_cases hlt:j<s.length
 ·obtain⟨c,hc⟩: ∃ c,s[j]? =some c:=⟨s[j],yae hlt⟩;rw[iq (by omega),iq (by omega)];simp only[yad,hc,yaq,yas,yay,decide_eq_true_eq];have two:(if neg=true then
     if(j:Int) ≥ (yaa s:Int) then some badA else
      if(yaf c:Int)=e then
        if(yac .i64 (0 - (n:Int))) > 4611686018427387904 then some badA else if(yac .i64 (0 - (n:Int)))<(-4611686018427387904) then some badA else
         if -9223372036854775808<=(yac .i64 (0 - (n:Int)))/\(yac .i64 (0 - (n:Int)))<=9223372036854775807 then if 0<=i/\i<=(j:Int)/\(j:Int)<=(yaa s:Int) then if(!((kab (yac .i64 (0 - (n:Int)))) == (yai (yab (j:Int) - yab i) (yaj (yab i) s))))=true then some badA
           else some (.tup [.int .i64 (yac .i64 (0 - (n:Int))),.int .i64 (w64 ((j:Int)+1))]) else none else none
      else some badA
    else
     if(j:Int) ≥ (yaa s:Int) then some badA else
      if(yaf c:Int)=e then
        if(n:Int) > 4611686018427387904 then some badA else if(n:Int)<(-4611686018427387904) then some badA else
         if -9223372036854775808<=(n:Int)/\(n:Int)<=9223372036854775807 then if 0<=i/\i<=(j:Int)/\(j:Int)<=(yaa s:Int) then if(!((kab (n:Int)) == (yai (yab (j:Int) - yab i) (yaj (yab i) s))))=true then some badA
           else some (.tup [.int .i64 (n:Int),.int .i64 (w64 ((j:Int)+1))]) else none else none
      else some badA)=some (kd1 s i e j (sgn neg n)):=by
   rw[k5a hn];cases neg with
   |true=>
    rw[iq rfl,ir (by omega)];by_cases he:(yaf c:Int)=e
    ·rw[iq he];exact km7 hc he hi (by omega) (by simp only[sgn];simp;omega)
    ·rw[ir he,km6 hc he]
   |false=>
    rw[ir (by simp),ir (by omega)];by_cases he:(yaf c:Int)=e
    ·rw[iq he];exact km7 hc he hi (by omega) (by omega)
    ·rw[ir he,km6 hc he]
  have twoB:n > 461168601842738791->(if neg=true then
     if(j:Int) ≥ (yaa s:Int) then some badA else
      if(yaf c:Int)=e then
        if(yac .i64 (0 - (n:Int))) > 4611686018427387904 then some badA else if(yac .i64 (0 - (n:Int)))<(-4611686018427387904) then some badA else
         if -9223372036854775808<=(yac .i64 (0 - (n:Int)))/\(yac .i64 (0 - (n:Int)))<=9223372036854775807 then if 0<=i/\i<=(j:Int)/\(j:Int)<=(yaa s:Int) then if(!((kab (yac .i64 (0 - (n:Int)))) == (yai (yab (j:Int) - yab i) (yaj (yab i) s))))=true then some badA
           else some (.tup [.int .i64 (yac .i64 (0 - (n:Int))),.int .i64 (w64 ((j:Int)+1))]) else none else none
      else some badA
    else
     if(j:Int) ≥ (yaa s:Int) then some badA else
      if(yaf c:Int)=e then
        if(n:Int) > 4611686018427387904 then some badA else
         if -9223372036854775808<=(n:Int)/\(n:Int)<=9223372036854775807 then if 0<=i/\i<=(j:Int)/\(j:Int)<=(yaa s:Int) then if(!((kab (n:Int)) == (yai (yab (j:Int) - yab i) (yaj (yab i) s))))=true then some badA
           else some (.tup [.int .i64 (n:Int),.int .i64 (w64 ((j:Int)+1))]) else none else none
      else some badA)=some (kd1 s i e j (sgn neg n)):=fun hb=>by
   rw[k5a hn];cases neg with
   |true=>
    rw[iq rfl,ir (by omega)];by_cases he:(yaf c:Int)=e
    ·rw[iq he];exact km7 hc he hi (by omega) (by simp only[sgn];simp;omega)
    ·rw[ir he,km6 hc he]
   |false=>
    rw[ir (by simp),ir (by omega)];by_cases he:(yaf c:Int)=e
    ·rw[iq he];exact k8n hc he hi (by omega) (by omega)
    ·rw[ir he,km6 hc he]
  by_cases h48:(yaf c:Int) ≥ 48
  ·rw[iq h48];by_cases h57:(yaf c:Int)<=57
   ·rw[iq h57];by_cases hb:(n:Int)<=461168601842738791
    ·rw[iq hb,iq (show(48<=c.toNat/\c.toNat<=57)/\n<=461168601842738791 by omega),kpi (by omega),qq4 (by omega) (by omega)]
    ·rw[ir hb,ir (show ¬((48<=c.toNat/\c.toNat<=57)/\n<=461168601842738791) by omega)];exact twoB (by omega)
   ·rw[ir h57,ir (show ¬((48<=c.toNat/\c.toNat<=57)/\n<=461168601842738791) by omega)];exact two
  ·rw[ir h48,ir (show ¬((48<=c.toNat/\c.toNat<=57)/\n<=461168601842738791) by omega)];exact two
 ·have hnone:s[j]? =none:=yat (by omega);rw[ir (by omega),hnone];simp only[Option.any_none,Bool.false_eq_true,false_and,if_false];rw[k8m hnone];cases neg with
  |true=>rw[iq rfl,iq (by omega)];rfl
  |false=>rw[ir (by simp),iq (by omega)];rfl
theorem qiq (s:List UInt8) (i e:Int) (neg:Bool) (hs:s.length<=1000000): ∀ (m fu j n:Nat),s.length - j=m->m<fu->0<=i/\i<=j->j<=s.length->n<=4611686018427387919->
  kfi fu s i e j n neg=some (kd1 s i e (j+(kek (s.drop j) n).1) (sgn neg (kek (s.drop j) n).2)):=by
 intro m
 induction m with
 |zero=>
  intro fu j n hm hf hi hj hn;cases fu with
  |zero=>omega
  |succ fu=>
   rw[k15 fu s i e j n neg hi hj hs hn];have hd:s.drop j=[]:=yak (by omega);have hnone:s[j]? =none:=yat (by omega);rw[hd,hnone];simp[kek]
 |succ m ih=>
  intro fu j n hm hf hi hj hn;cases fu with
  |zero=>omega
  |succ fu=>
   have hlt:j<s.length:=by omega
   rw[k15 fu s i e j n neg hi hj hs hn,yae hlt,yah hlt];simp only[yas,yay,decide_eq_true_eq];by_cases hc:(48<=s[j].toNat/\s[j].toNat<=57)/\n<=461168601842738791
   ·rw[iq hc,ih fu (j+1) _ (by omega) (by omega) (by omega) (by omega) (by omega),kek,iq hc];simp only;rw[show j+((kek (s.drop (j+1)) (10*n+(s[j].toNat - 48))).1+1)=j+1+(kek (s.drop (j+1)) (10*n+(s[j].toNat - 48))).1 by omega]
   ·rw[ir hc,kek,ir hc];rfl
theorem kp4 {e:Int} (he:e=32\/e=10):((kcs e).toNat:Int)=e/\ ¬kdm (kcs e)/\(kcs e=32\/kcs e=10):=by
 rcases he with rfl |rfl
 ·exact⟨rfl,by unfold kdm;decide,.inl rfl⟩
 ·exact⟨rfl,by unfold kdm;decide,.inr rfl⟩
theorem k8p {s r:List UInt8} {i e n:Int} {J:Nat} (he:e=32\/e=10) (hn:inW n=true) (hs:s.drop i.toNat=kab n++kcs e::r) (hJ:J=i.toNat+(kab n).length):kd1 s i e J n= .tup [.int .i64 n,.int .i64 ((J:Int)+1)]:=by
 have hd:s.drop J=kcs e::r:=by rw[hJ,←yav,hs,ya0]
 have hg:s[J]? =some (kcs e):=by
  have:=congrArg (·[0]?) hd;simpa using this
 unfold kd1;rw[iq ⟨by rw[hg];simp[(kp4 he).1],hn,by rw[hs,hJ,Nat.add_sub_cancel_left,List.take_left]⟩]
theorem k8o {s:List UInt8} {i e nn:Int} {J:Nat} (hi:0<=i) (he:e=32\/e=10) (hJ:i.toNat<=J)
  (hc: ∀ n r,inW n=true->s.drop i.toNat=kab n++kcs e::r->J=i.toNat+(kab n).length/\nn=n):kd1 s i e J nn= .tup [.int .i64 (kbj s i e).1,.int .i64 (kbj s i e).2]:=by
 obtain⟨b1,b2,b3⟩:=kp4 he;by_cases hg:0<=(kbj s i e).2
 ·obtain⟨r,w,d,m⟩:=kn1 hg;obtain⟨h1,h2⟩:=hc _ r w d;rw[h2,k8p he w d h1,m];congr 4;omega
 ·rw[qd0 hg hi];unfold kd1;rw[ir]
  ·rfl
  ·rintro⟨h1,h2,h3⟩;cases hgj:s[J]? with
   |none=>rw[hgj] at h1;simp at h1
   |some c=>
    rw[hgj] at h1;simp only[yas,decide_eq_true_eq] at h1;have hcb:c=kcs e:=yaz.1 (by omega);have hlt:J<s.length:=(yap.1 hgj).1;have hdJ:s.drop J=kcs e::s.drop (J+1):=by
     rw[yah hlt,←hcb];congr 1;have:=yae hlt;rw[hgj] at this;exact(Option.some.inj this).symm
    have hsp:s.drop i.toNat=kab nn++kcs e::s.drop (J+1):=by
     rw[h3,←hdJ]
     conv=>lhs;rw[←yau (J - i.toNat) (s.drop i.toNat)]
     rw[yav,show i.toNat+(J - i.toNat)=J by omega]
    rw[kr7 hsp h2 rfl b3] at hg;exact hg (by simp only;omega)
theorem kyq {n:Int} (h:inW n=true):(n<0/\kab n=45::yan n.natAbs)\/(0<=n/\kab n=yan n.toNat):=by
 simp only[inW,decide_eq_true_eq] at h;rw[ki4 (by omega) (by omega)];unfold Lib.itoa;by_cases hn:n<0
 ·rw[iq hn];exact .inl ⟨hn,rfl⟩
 ·rw[ir hn];exact .inr ⟨by omega,rfl⟩
theorem kzr {u:Nat} {e:UInt8} {r:List UInt8} (hu:u<=4611686018427387904) (he: ¬kdm e):kek (yan u++e::r) 0=((yan u).length,u):=by
 have hv:=kqe u;unfold kme at hv;rw[kzs _ r e 0 (kis u) he (by rw[hv];exact hu),hv]
theorem qio {s:List UInt8} {i e:Int} (h:kjf s i e=true):kop (s.length+1) s i e=some (.tup [.int .i64 (kbj s i e).1,.int .i64 (kbj s i e).2]):=by
 simp only[kjf,decide_eq_true_eq] at h;obtain⟨⟨hi,hil⟩,hs,he⟩:=h;obtain⟨iN,rfl⟩: ∃ k:Nat,i=(k:Int):=⟨i.toNat,by omega⟩;obtain⟨b1,b2,b3⟩:=kp4 he;have hgo: ∀ (neg:Bool) (j:Nat),iN<=j->j<=s.length->
   (∀ n r,inW n=true->s.drop iN=kab n++kcs e::r->j+(kek (s.drop j) 0).1=iN+(kab n).length/\sgn neg ((kek (s.drop j) 0).2:Nat)=n)->
   kfi (s.length+1) s iN e j (0:Nat) neg=some (.tup [.int .i64 (kbj s iN e).1,.int .i64 (kbj s iN e).2]):=fun neg j h1 h2 hc=>by
  rw[qiq s iN e neg hs (s.length - j) (s.length+1) j 0 rfl (by omega) (by omega) h2 (by omega)];rw[k8o hi he (by rw[yad];omega) (by rw[yad];exact hc)]
 unfold kop;by_cases hlt:iN<s.length
 ·have hdr:=yah hlt;rw[iq (by omega),iq hi,yad,yae hlt,yaq];by_cases h45:((s[iN]).toNat:Int)=45
  ·have hc45:s[iN]=45:=yaz.1 (by rw[show(45:UInt8).toNat=45 from rfl];omega);rw[iq h45,kpi (by omega),decide_eq_true h45];refine hgo true (iN+1) (by omega) (by omega) fun n r hn hsp=> ?_
   rw[hdr,hc45] at hsp;have hb: -4611686018427387904<=n/\n<=4611686018427387904:=by simpa[inW] using hn
   rcases kyq hn with⟨h1,h2⟩ | ⟨h1,h2⟩
   ·rw[h2,yal] at hsp;rw[(yaw hsp).2,kzr (by omega) b2,h2];refine⟨by simp only[yar];omega,?_⟩;simp only[sgn,if_true];omega
   ·rw[h2] at hsp;exfalso;cases hd:yan n.toNat with
    |nil=>exact kmu _ hd
    |cons c t=>
     rw[hd,yal] at hsp;have:=kis n.toNat c (by rw[hd];simp);rw[←(yaw hsp).1] at this;unfold kdm at this;simp at this
  ·rw[ir h45,decide_eq_false h45];refine hgo false iN (Nat.le_refl _) (by omega) fun n r hn hsp=> ?_
   have hb: -4611686018427387904<=n/\n<=4611686018427387904:=by simpa[inW] using hn
   rcases kyq hn with⟨h1,h2⟩ | ⟨h1,h2⟩
   ·exfalso;rw[h2,hdr,yal] at hsp;rw[(yaw hsp).1] at h45;exact h45 rfl
   ·rw[h2] at hsp;rw[hsp,kzr (by omega) b2,h2];refine⟨rfl,?_⟩;simp only[sgn];simp;omega
 ·rw[ir (by omega)];refine hgo false iN (Nat.le_refl _) (by omega) fun n r hn hsp=> ?_
  rw[yak (by omega)] at hsp;have:=congrArg yaa hsp;simp at this
theorem kzt (s:List UInt8) (i e:Int) (h:kjf s i e=true):kak FF 78 [.str s,.int .i64 i,.int .u8 e] (.tup [.int .i64 (kbj s i e).1,.int .i64 (kbj s i e).2]):=qip s i e (qio h)
def kgi:Nat->List UInt8->Int->Int->Option AV
 |0,_,_,_=>none
 |fu+1,s,i,p0=>
  if p0<10 then
   Option.bind (kik p0) fun x1=>
   if x1.length+yaa [32]<=140737488355328 then if(w64 ((s.length:Int) - i)) ≥ (yaa (x1++[32]):Int) then
    if 0<=i/\i<=(w64 (i+(yaa (x1++[32]):Int)))/\(w64 (i+(yaa (x1++[32]):Int)))<=(s.length:Int) then if((yai (yab (w64 (i+(yaa (x1++[32]):Int))) - yab i) (yaj (yab i) s)) == (x1++[32]))=true then
     if kjf s (w64 (i+(yaa (x1++[32]):Int))) 32=true then if(kbj s (w64 (i+(yaa (x1++[32]):Int))) 32).2<0 then
      some (.tup [(.agg [(.int .i64 0),(.int .i64 0),(.int .i64 0)]),(.int .i64 (-1))])
     else
      if kjf s ((kbj s (w64 (i+(yaa (x1++[32]):Int))) 32).2) 10=true then some (.tup [(.agg [(.int .i64 p0),(.int .i64 (kbj s (w64 (i+(yaa (x1++[32]):Int))) 32).1),(.int .i64 (kbj s ((kbj s (w64 (i+(yaa (x1++[32]):Int))) 32).2) 10).1)]),(.int .i64 (kbj s ((kbj s (w64 (i+(yaa (x1++[32]):Int))) 32).2) 10).2)]) else none else none
    else
     kgi fu s i (w64 (p0+1)) else none
   else
    kgi fu s i (w64 (p0+1)) else none
  else
   some (.tup [(.agg [(.int .i64 0),(.int .i64 0),(.int .i64 0)]),(.int .i64 (-1))])
def k19:List AV:=[(vt 0),(vt 1),(.ptr 0 0),(vt 2)]
def k18:List Blk:=[.cells [(.int .i64 0),(.int .i64 0),(.int .i64 0)] false 48]
def ktz (s:List UInt8) (i:Int) (p0:Int) (σ:Nat->Nat):Val:=(kal ([.str s,.int .i64 i,.int .i64 p0]) ([]) [] σ 1)
def qi1 (s:List UInt8) (i:Int) (p0:Int) (σ:Nat->Nat):List AV:=[(.str s),(.int .i64 i),(.ptr (σ 0) 0),(.int .i64 p0)]
def qi2 (_s:List UInt8) (_i:Int) (_p0:Int) (_σ:Nat->Nat):List Blk:=[.cells [(.int .i64 0),(.int .i64 0),(.int .i64 0)] false 48]
theorem kos (s:List UInt8) (i:Int) (p0:Int) (σ:Nat->Nat):k19.map (gm (ktz s i p0 σ))=qi1 s i p0 σ:=by kernel_rfl
theorem kot (s:List UInt8) (i:Int) (p0:Int) (σ:Nat->Nat):k18.map (gB (ktz s i p0 σ))=qi2 s i p0 σ:=by kernel_rfl
theorem qi3: ∀ (fu:Nat),∀ (s:List UInt8) (i:Int) (p0:Int) {r0:AV} {z0:St} {σ:Nat->Nat},(∀ i j,σ i=σ j->i=j)->kgi fu s i p0=some r0->Sim (ktz s i p0 σ) (kaa [0,1,4,6] k19 k18) z0->J FF (kai FF 55) (kcm (kai FF 55) 0) (.code (.loop (kcl (kai FF 55) 0))) z0 r0:=by
 intro fu
 induction fu with
 |zero=>
  intro _ _ _ _ _ _ _ h _;unfold kgi at h;cases h
 |succ fu ih=>
  intro s i p0 r0 z0 σ hσ h S;unfold kgi at h;exact kcr (have H:=Tok.start hσ S 1 3 0 0 ([.str s,.int .i64 i,.int .i64 p0]) ([]) [] (.n) (.n) (kos _ _ _ _) (kot _ _ _ _);have H:=H.t 4 [.bool (decide (p0<10))]|>.q 3 (.bin .lss (cT 2) (cI 10));kaf h (fun h0 h=>have H:=H.y 3 h0;kbb h (fun x1 h1 h=>have H:=H.t 5 [.str x1]|>.s [(vt 2)] (vt 4) (k5f h1);kac h (fun h2 h=>have H:=H.t 10 [.str (x1++[32]),.int .i64 s.length,.int .i64 (w64 ((s.length:Int) - i)),.int .i64 (yaa (x1++[32]):Int),.bool (decide ((w64 ((s.length:Int) - i)) ≥ (yaa (x1++[32]):Int)))]|>.r [(.len 1 (cT 0),(vt 6)),(.bin .sub (cT 6) (cT 1),(vt 7)),(.len 1 (cT 5),(vt 8)),(.bin .geq (cT 7) (cT 8),(vt 9))]|>.K (vt 4) (.str [32]) 5 (b:=[32]) h2;kaf h (fun h3 h=>have H:=H.t 11 [.int .i64 (w64 (i+(yaa (x1++[32]):Int)))]|>.q 10 (.bin .add (cT 1) (cT 8))|>.y 9 h3;kac h (fun _ h=>have H:=H.t 13 [.str (yai (yab (w64 (i+(yaa (x1++[32]):Int))) - yab i) (yaj (yab i) s)),.bool ((yai (yab (w64 (i+(yaa (x1++[32]):Int))) - yab i) (yaj (yab i) s)) == (x1++[32]))]|>.q 12 (.bin .eql (cT 11) (cT 5))|>.c (p:=(.slT (cT 0) (some (cT 1)) (some (cT 10)),(vt 11))) (fun _ _ _=>kcu (l:=s) (l':=(yai (yab (w64 (i+(yaa (x1++[32]):Int))) - yab i) (yaj (yab i) s))) (lo:=(some ((vt 1),(i:Int)))) (hi:=(some ((vt 10),((w64 (i+(yaa (x1++[32]):Int))):Int)))) (by kernel_rfl) ⟨.i64,by kernel_rfl⟩ ⟨.i64,by kernel_rfl⟩ (by simp only[ka3];omega) (by simp[ka3]) (by kernel_rfl));kaf h (fun h5 h=>have H:=H.m 12 true h5;kac h (fun h6 h=>have H:=H.t 16 [.int .i64 (kbj s (w64 (i+(yaa (x1++[32]):Int))) 32).1,.int .i64 (kbj s (w64 (i+(yaa (x1++[32]):Int))) 32).2,.bool (decide ((kbj s (w64 (i+(yaa (x1++[32]):Int))) 32).2<0))]|>.q 15 (.bin .lss (cT 14) (cI 0))|>.s [(vt 0),(vt 10),(.int .u8 32)] (.tup [(vt 13),(vt 14)]) (kzt s (w64 (i+(yaa (x1++[32]):Int))) 32 h6);kaf h (fun h7 h=>have H:=H.y 15 h7;H.e [0] h) (fun h7 h=>have H:=H.w 15 h7;kac h (fun h8 h=>have H:=H.t 18 [.int .i64 (kbj s ((kbj s (w64 (i+(yaa (x1++[32]):Int))) 32).2) 10).1,.int .i64 (kbj s ((kbj s (w64 (i+(yaa (x1++[32]):Int))) 32).2) 10).2]|>.s [(vt 0),(vt 14),(.int .u8 10)] (.tup [(vt 16),(vt 17)]) (kzt s ((kbj s (w64 (i+(yaa (x1++[32]):Int))) 32).2) 10 h8);H.e [0] h)))) (fun h5 h=>have H:=H.t 14 [.int .i64 (w64 (p0+1))]|>.q 13 (.bin .add (cT 2) (cI 1))|>.m 12 false (bF h5);H.k [0] [0,1,4,6] [0] [(vt 0),(vt 1),(.ptr 0 0),(vt 13)] [.cells [(.int .i64 0),(.int .i64 0),(.int .i64 0)] false 48] 1 _ (kos _ _ _ _) (kot _ _ _ _) (fun _ hi S=>ih _ _ _ hi h S)))) (fun h3 h=>have H:=H.t 11 [.int .i64 (w64 (p0+1))]|>.q 10 (.bin .add (cT 2) (cI 1))|>.w 9 h3;H.k [0] [0,1,4,6] [0] [(vt 0),(vt 1),(.ptr 0 0),(vt 10)] [.cells [(.int .i64 0),(.int .i64 0),(.int .i64 0)] false 48] 1 _ (kos _ _ _ _) (kot _ _ _ _) (fun _ hi S=>ih _ _ _ hi h S))))) (fun h0 h=>have H:=H.w 3 h0;H.e [0] h))
def ktx (fu:Nat) (s:List UInt8) (i:Int):Option AV:=
 kgi fu s i 0
def k17:List AV:=[(vt 0),(vt 1)]
def kty (s:List UInt8) (i:Int) (σ:Nat->Nat):Val:=(kal ([.str s,.int .i64 i]) ([]) [] σ 0)
def qiz (s:List UInt8) (i:Int) (_σ:Nat->Nat):List AV:=[(.str s),(.int .i64 i)]
def qi0 (_s:List UInt8) (_i:Int) (_σ:Nat->Nat):List Blk:=[]
theorem qix (s:List UInt8) (i:Int) (σ:Nat->Nat):k17.map (gm (kty s i σ))=qiz s i σ:=by kernel_rfl
theorem qiy (s:List UInt8) (i:Int) (σ:Nat->Nat):([]:List Blk).map (gB (kty s i σ))=qi0 s i σ:=by kernel_rfl
theorem qi5 {fu:Nat} (s:List UInt8) (i:Int) {r0:AV} (h:ktx fu s i=some r0):kak FF 55 [(.str s),(.int .i64 i)] r0:=by
 unfold ktx at h;have hσ: ∀ i j:Nat,(fun i:Nat=>i) i=(fun i:Nat=>i) j->i=j:=fun _ _ e=>e
 exact kbq (ρ:=kty s i (fun i=>i)) (xs:=k17) (by kernel_rfl) rfl rfl (by kernel_rfl) (fun z0 S=>have H:=Tok.start hσ S 0 2 0 0 ([.str s,.int .i64 i]) ([]) [] (.n) .n (qix _ _ _) (qiy _ _ _);H.k [0] [0,1,4,6] [0] [(vt 0),(vt 1),(.ptr 0 0),(.int .i64 0)] [.cells [(.int .i64 0),(.int .i64 0),(.int .i64 0)] false 48] 1 _ (kos _ _ _ _) (kot _ _ _ _) (fun _ hi S=>qi3 _ _ _ _ hi h S))
def kz3 (p:Cl×Int):AV:= .tup [p.1.av,.int .i64 p.2]
theorem k0q {s:List UInt8} {i no:Nat}:kfg s i no=true↔(s.drop i).take ((ka9 no).length+1)=ka9 no++[32]:=by
 rw[kkm,yad];constructor
 ·rintro⟨r,hr⟩;rw[hr,show ka9 no++32::r=(ka9 no++[32])++r by simp];exact List.take_left' (by simp)
 ·intro h;refine⟨(s.drop i).drop ((ka9 no).length+1),?_⟩
  conv=>lhs;rw[←yau ((ka9 no).length+1) (s.drop i),h]
  simp
theorem qi4 {s:List UInt8} {i:Nat} (hi:i<=s.length) (hs:s.length<=1000000): ∀ (f no:Nat),no+f=10->kgi (f+1) s i no=some (kz3 (kg0 s i f no)):=by
  intro f
  induction f with
  |zero=>
   intro no h;rw[kgi,ir (by omega)];rfl
  |succ f ih=>
   intro no h;have hno:0<=(no:Int)/\(no:Int)<=9:=by omega
   have hw:kik (no:Int)=some (ka9 no):=by unfold kik;rw[iq hno]
   have hl5:=wordK_len' no;have hL:(yaa (ka9 (no:Int)++[32]):Int)=((ka9 no).length:Int)+1:=by simp
   have w1:w64 ((yaa s:Int) - (i:Int))=(yaa s:Int) - (i:Int):=wI (by omega);have w2:w64 ((i:Int)+(((ka9 no).length:Int)+1))=(i:Int)+(ka9 no).length+1:=by
    have:w64 ((i:Int)+(((ka9 no).length:Int)+1))=(i:Int)+(((ka9 no).length:Int)+1):=wI (by omega);rw[this];omega
   have nxt:kgi (f+1) s i (w64 ((no:Int)+1))=some (kz3 (kg0 s i f (no+1))):=by
    rw[kpi (by omega)];exact ih (no+1) (by omega)
   rw[kgi,iq (by omega),hw,yaq,iq (by simp only[yag];omega),hL,w1,w2];unfold kg0;by_cases hp:kfg s i no=true
   ·rw[iq hp];obtain⟨r,hr⟩:=kkm.1 hp;rw[yad] at hr;have hlen:=congrArg yaa hr;simp only[yam,yao,yar] at hlen;have htk:(yab ((i:Int)+(ka9 no).length+1) - yab (i:Int))=(ka9 no).length+1:=by omega
    rw[iq (by omega),iq (by omega),htk,yad,iq (by rw[k0q.1 hp];simp)];have hk1:kjf s ((i:Int)+(ka9 no).length+1) 32=true:=decide_eq_true ⟨⟨by omega,by omega⟩,hs,.inl rfl⟩;rw[iq hk1];unfold klz;by_cases hb:(kbj s ((i:Int)+(ka9 no).length+1) 32).2<0
    ·rw[iq hb,iq hb];rfl
    ·rw[ir hb,ir hb];obtain⟨r1,_,d1,m1⟩:=kn1 (s:=s) (i:=(i:Int)+(ka9 no).length+1) (e:=32) (by omega);have hlen1:=congrArg yaa d1;simp only[yam,yao,yar] at hlen1;have hk2:kjf s (kbj s ((i:Int)+(ka9 no).length+1) 32).2 10=true:=decide_eq_true ⟨⟨by omega,by omega⟩,hs,.inr rfl⟩;rw[iq hk2];rfl
   ·rw[ir hp];by_cases h1:(yaa s:Int) - (i:Int) ≥ ((ka9 no).length:Int)+1
    ·have htk:(yab ((i:Int)+(ka9 no).length+1) - yab (i:Int))=(ka9 no).length+1:=by omega
     rw[iq h1,iq (by omega),htk,yad,ir (by intro hc;exact hp (k0q.2 (by simpa using hc)))];exact nxt
    ·rw[ir h1];exact nxt
 where
  wordK_len' (no:Int):(ka9 no).length<=5:=by
   unfold ka9 knk
   (repeat' split) <;> simp
theorem kz7 (s:List UInt8) (i:Int) (h:khv s i=true) {p:Cl×Int} (hp:p=kfv s i):kak FF 55 [.str s,.int .i64 i] (.tup [.agg [.int .i64 p.1.no,.int .i64 p.1.a,.int .i64 p.1.b],.int .i64 p.2]):=by
 subst hp;simp only[khv,decide_eq_true_eq] at h;obtain⟨⟨hi,hil⟩,hs⟩:=h;obtain⟨iN,rfl⟩: ∃ k:Nat,i=(k:Int):=⟨i.toNat,by omega⟩;exact qi5 (fu:=11) s iN (by unfold ktx;exact qi4 (by omega) hs 10 0 rfl)
def kjk:Nat->List UInt8->List Cl->Int->Option AV
 |0,_,_,_=>none
 |fu+1,s,p1_0,p1_1=>
  if p1_1<(s.length:Int) then
   if khv s p1_1=true then kay (kfv s p1_1) fun x2=>
   if x2.2<0 then
    some (.tup [(.im [] true),(.int .i64 p1_1),(.int .i64 1)])
   else
    if(p1_0.length+yaa [x2.1])*24<=kaq/\p1_0.length+yaa [x2.1]<=kaq then kjk fu s (p1_0++[x2.1]) x2.2 else none else none
  else
   some (.tup [(.im (yax eC p1_0) false),(.int .i64 p1_1),(.int .i64 0)])
def k2g:List AV:=[(vt 0),(.sl 0 0 1000003 3 none),(vt 1)]
def k2f:List Blk:=[.own 1000003 false 48]
def kt4 (s:List UInt8) (p1_0:List Cl) (p1_1:Int) (σ:Nat->Nat):Val:=(kal ([.str s,.int .i64 p1_1]) ([]) [(3,yax eC p1_0)] σ 1)
def qjd (s:List UInt8) (p1_0:List Cl) (p1_1:Int) (σ:Nat->Nat):List AV:=[(.str s),(.sl (σ 0) 0 (yaa (yax eC p1_0)) 3 none),(.int .i64 p1_1)]
def qje (_s:List UInt8) (p1_0:List Cl) (_p1_1:Int) (_σ:Nat->Nat):List Blk:=[.cells (List.flatten (yax eC p1_0)) false 48]
theorem kt2 (s:List UInt8) (p1_0:List Cl) (p1_1:Int) (σ:Nat->Nat):k2g.map (gm (kt4 s p1_0 p1_1 σ))=qjd s p1_0 p1_1 σ:=by kernel_rfl
theorem kt3 (s:List UInt8) (p1_0:List Cl) (p1_1:Int) (σ:Nat->Nat):k2f.map (gB (kt4 s p1_0 p1_1 σ))=qje s p1_0 p1_1 σ:=by kernel_rfl
theorem qjf: ∀ (fu:Nat),∀ (s:List UInt8) (p1_0:List Cl) (p1_1:Int) {r0:AV} {z0:St} {σ:Nat->Nat},(∀ i j,σ i=σ j->i=j)->kjk fu s p1_0 p1_1=some r0->Sim (kt4 s p1_0 p1_1 σ) (kaa [0,5,6] k2g k2f) z0->J FF (kai FF 27) (kcm (kai FF 27) 0) (.code (.loop (kcl (kai FF 27) 0))) z0 r0:=by
 intro fu
 induction fu with
 |zero=>
  intro _ _ _ _ _ _ _ h _;unfold kjk at h;cases h
 |succ fu ih=>
  intro s p1_0 p1_1 r0 z0 σ hσ h S;unfold kjk at h;exact kcr (have H:=Tok.start hσ S 1 2 0 1 ([.str s,.int .i64 p1_1]) ([]) [(0,3,yax eC p1_0)] (.n) (.c (OkO.own ka5 _) <| .n) (kt2 _ _ _ _) (kt3 _ _ _ _);have H:=H.t 4 [.int .i64 s.length,.bool (decide (p1_1<(s.length:Int)))]|>.q 2 (.len 1 (cT 0))|>.q 3 (.bin .lss (cT 1) (cT 2));kaf h (fun h0 h=>have H:=H.y 3 h0;kac h (fun h1 h=>kbh h (fun x2 h2 h=>have H:=H.t 9 [.int .i64 x2.1.no,.int .i64 x2.1.a,.int .i64 x2.1.b,.int .i64 x2.2,.bool (decide (x2.2<0))]|>.q 8 (.bin .lss (cT 7) (cI 0))|>.s [(vt 0),(vt 1)] (.tup [(.agg [(vt 4),(vt 5),(vt 6)]),(vt 7)]) (kz7 s p1_1 h1 h2);kaf h (fun h3 h=>have H:=H.y 8 h3;H.e [0] h) (fun h3 h=>have H:=H.w 8 h3;kac h (fun h4 h=>have H:=H.o 1 (3,yax eC (p1_0++[x2.1])) (.own ka5 _)|>.a ⟨true,3,24,(vf 1000003),(.im [[(vt 4),(vt 5),(vt 6)]] true),1001003⟩ (fun _ _ _=>keh rfl rfl rfl h4 (.inl rfl) (by decide) (by decide) (by decide));H.k [0] [0,5,6] [3] [(vt 0),(.sl 3 0 1001003 3 none),(vt 7)] [.own 1001003 false 48] 4 _ (kt2 _ _ _ _) (kt3 _ _ _ _) (fun _ hi S=>ih _ _ _ hi h S)))))) (fun h0 h=>have H:=H.w 3 h0;H.e [0] h))
def kl3:Nat->List UInt8->Int->Option AV
 |0,_,_=>none
 |fu+1,s,p0=>
  if p0<(s.length:Int) then
   if khv s p0=true then kay (kfv s p0) fun x2=>
   if x2.2<0 then
    some (.tup [(.im [] true),(.int .i64 p0),(.int .i64 1)])
   else
    kjk fu s [x2.1] x2.2 else none
  else
   some (.tup [(.im [] true),(.int .i64 p0),(.int .i64 0)])
def k2e:List AV:=[(vt 0),(.im [] true),(vt 1)]
def k2b:List Blk:=[]
def kt1 (s:List UInt8) (p0:Int) (σ:Nat->Nat):Val:=(kal ([.str s,.int .i64 p0]) ([]) [] σ 0)
def qja (s:List UInt8) (p0:Int) (_σ:Nat->Nat):List AV:=[(.str s),(.im [] true),(.int .i64 p0)]
def qjb (_s:List UInt8) (_p0:Int) (_σ:Nat->Nat):List Blk:=[]
theorem k2c (s:List UInt8) (p0:Int) (σ:Nat->Nat):k2e.map (gm (kt1 s p0 σ))=qja s p0 σ:=by kernel_rfl
theorem k2d (s:List UInt8) (p0:Int) (σ:Nat->Nat):k2b.map (gB (kt1 s p0 σ))=qjb s p0 σ:=by kernel_rfl
theorem qjc: ∀ (fu:Nat),∀ (s:List UInt8) (p0:Int) {r0:AV} {z0:St} {σ:Nat->Nat},(∀ i j,σ i=σ j->i=j)->kl3 fu s p0=some r0->Sim (kt1 s p0 σ) (kaa [0,5,6] k2e k2b) z0->J FF (kai FF 27) (kcm (kai FF 27) 0) (.code (.loop (kcl (kai FF 27) 0))) z0 r0:=by
 intro fu
 induction fu with
 |zero=>
  intro _ _ _ _ _ _ h _;unfold kl3 at h;cases h
 |succ fu ih=>
  intro s p0 r0 z0 σ hσ h S;unfold kl3 at h;exact kcr (have H:=Tok.start hσ S 0 2 0 0 ([.str s,.int .i64 p0]) ([]) [] (.n) (.n) (k2c _ _ _) (k2d _ _ _);have H:=H.t 4 [.int .i64 s.length,.bool (decide (p0<(s.length:Int)))]|>.q 2 (.len 1 (cT 0))|>.q 3 (.bin .lss (cT 1) (cT 2));kaf h (fun h0 h=>have H:=H.y 3 h0;kac h (fun h1 h=>kbh h (fun x2 h2 h=>have H:=H.t 9 [.int .i64 x2.1.no,.int .i64 x2.1.a,.int .i64 x2.1.b,.int .i64 x2.2,.bool (decide (x2.2<0))]|>.q 8 (.bin .lss (cT 7) (cI 0))|>.s [(vt 0),(vt 1)] (.tup [(.agg [(vt 4),(vt 5),(vt 6)]),(vt 7)]) (kz7 s p0 h1 h2);kaf h (fun h3 h=>have H:=H.y 8 h3;H.e [0] h) (fun h3 h=>have H:=H.w 8 h3;H.k [0] [0,5,6] [2] [(vt 0),(.sl 2 0 1 3 none),(vt 7)] [.cells [(vt 4),(vt 5),(vt 6)] false 48] 3 _ (kt2 _ _ _ _) (kt3 _ _ _ _) (fun _ hi S=>qjf _ _ _ _ hi h S))))) (fun h0 h=>have H:=H.w 3 h0;H.e [0] h))
def kou (fu:Nat) (s:List UInt8):Option AV:=
 kl3 fu s 0
def k2a:List AV:=[(vt 0)]
def kt0 (s:List UInt8) (σ:Nat->Nat):Val:=(kal ([.str s]) ([]) [] σ 0)
def qi8 (s:List UInt8) (_σ:Nat->Nat):List AV:=[(.str s)]
def qi9 (_s:List UInt8) (_σ:Nat->Nat):List Blk:=[]
theorem qi6 (s:List UInt8) (σ:Nat->Nat):k2a.map (gm (kt0 s σ))=qi8 s σ:=by kernel_rfl
theorem qi7 (s:List UInt8) (σ:Nat->Nat):([]:List Blk).map (gB (kt0 s σ))=qi9 s σ:=by kernel_rfl
theorem qjh {fu:Nat} (s:List UInt8) {r0:AV} (h:kou fu s=some r0):kak FF 27 [(.str s)] r0:=by
 unfold kou at h;have hσ: ∀ i j:Nat,(fun i:Nat=>i) i=(fun i:Nat=>i) j->i=j:=fun _ _ e=>e
 exact kbq (ρ:=kt0 s (fun i=>i)) (xs:=k2a) (by kernel_rfl) rfl rfl (by kernel_rfl) (fun z0 S=>have H:=Tok.start hσ S 0 1 0 0 ([.str s]) ([]) [] (.n) .n (qi6 _ _) (qi7 _ _);H.k [0] [0,5,6] [] [(vt 0),(.im [] true),(.int .i64 0)] [] 0 _ (k2c _ _ _) (k2d _ _ _) (fun _ hi S=>qjc _ _ _ hi h S))
theorem kxj {s:List UInt8} {a:Nat}:s.drop (a+(kap (s.drop a)).1.length)=(kap (s.drop a)).2:=by
 rw[←yav]
 conv=>lhs;arg 2;rw[←kla (s.drop a)]
 exact ya0
theorem qeh (s:List UInt8) (hs:s.length<=1000000): ∀ (n:Nat) (out:List Cl) (a:Nat),out≠[]->a<=s.length->out.length+(s.length - a)<=1000000->s.length - a<n->kjk n s out a=some (kjh (kff n out a (s.drop a))):=by
 intro n
 induction n with
 |zero=>intro out a _ _ _ h;omega
 |succ n ih=>
  intro out a hout ha hb hn;rw[kjk];by_cases hlt:a<s.length
  ·have hne:s.drop a≠[]:=by
    intro e;have:=congrArg yaa e;simp only[yam,List.length_nil] at this;omega
   have hg:khv s a=true:=by simp only[khv,decide_eq_true_eq];omega
   obtain⟨l1,l2⟩:=kz5 (s:=s) (i:=(a:Int)) (by omega);rw[yad] at l1 l2;have hlen:=kev (s.drop a);have hpos:=kfs hne;rw[yam] at hlen;rw[iq (by omega),iq hg,ksa hne];unfold kay;by_cases hk:kau (kap (s.drop a)).1=true
   ·rw[l1 hk,iq hk];simp only;rw[ir (by omega),iq (by simp only[kaq,yag];omega)];rw[show(a:Int)+((kap (s.drop a)).1.length:Int)=((a+(kap (s.drop a)).1.length:Nat):Int) by omega];rw[ih _ _ (by simp) (by omega) (by rw[yao,yag];omega) (by omega),kxj]
   ·rw[ir hk];simp only;rw[iq (l2 hk)];rfl
  ·rw[ir (by omega),yak (by omega),k0e];unfold kjh;cases out with
   |nil=>exact absurd rfl hout
   |cons c o=>rfl
theorem qjg (s:List UInt8) (hs:s.length<=1000000):kou (s.length+1) s=some (kjh (kfw s)):=by
 unfold kou kfw;rw[kl3];by_cases hne:s=[]
 ·subst hne;rfl
 ·have hlt:0<s.length:=List.length_pos_iff.2 hne;have hg:khv s 0=true:=by simp only[khv,decide_eq_true_eq];omega
  obtain⟨l1,l2⟩:=kz5 (s:=s) (i:=0) (by omega);rw[show yab 0=0 from rfl,ya1] at l1 l2;have hlen:=kev s;have hpos:=kfs hne;rw[iq (by omega),iq hg,ksa hne];unfold kay;by_cases hk:kau (kap s).1=true
  ·rw[l1 hk,iq hk];simp only;rw[ir (by omega),show(0:Int)+((kap s).1.length:Int)=((0+(kap s).1.length:Nat):Int) by omega];rw[qeh s hs s.length [kas (kap s).1] _ (by simp) (by omega) (by rw[yag];omega) (by omega)];have hd:=kxj (s:=s) (a:=0);rw[ya1] at hd;rw[hd];rfl
  ·rw[ir hk];simp only;rw[iq (l2 hk)];rfl
theorem k0d (s:List UInt8) (hl:s.length<=1000000) {p:List Cl×Nat×Int} (h:p=kfw s):kak FF 27 [.str s] (.tup [.im (p.1.map eC) p.1.isEmpty,.int .i64 (p.2.1:Int),.int .i64 p.2.2]):=by
 subst h;exact qjh s (qjg s hl)
end Go.Proofs.Hz
