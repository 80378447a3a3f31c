/-
  Chapter 20: what is written is read; what is read is written so; a text that is cut off. (Plain laws.)
  Conditions: none.
-/
import Derived.Test.YtamikoglpnoicaaGreatDoorT27
import Derived.Test.YtamikoglpnoicaaGreatDoorT22
open Go Go.Proofs
namespace Go.Proofs.Hz
open Bool renaming and_eq_true->yaa,and_true->yay
open Int renaming toNat->yam,not_lt->yax
open List renaming length_append->yab,length_cons->yac,append_assoc->yad,length_singleton->yae,dropLast_concat->yaf,cons_append->yag,append_nil->yah,nil_append->yai,all_cons->yaj,all_append->yak,isPrefixOf_iff_prefix->yal,map_cons->yan,map->yao,all_eq_true->yap,append_inj_right'->yaq,mem_append->yas,mem_cons->yat,flatten_cons->yau,drop_left'->yav,take->yaw,all_nil->yaz,mem_map->ya0,drop->ya1
open List.cons renaming injEq->yar
theorem kyl {n:Int} (h:0<=n) (k:n<=9999):inW n=true:=by
 simp only[inW,decide_eq_true_eq];omega
theorem qb4 (w:Bs) (n:Int):ki9 w (hdL w n)=kab n:=by
 unfold ki9 hdL;rw[←yad,yav (by simp),yaf]
theorem kih {w:Bs} {n most:Int} (h:0<=n) (k:n<=most) (hm:most<=9999):kah w (hdL w n) most=n:=by
 obtain⟨a,b⟩:=klv (kyl h (by omega));have h1:(w++[32]).isPrefixOf (hdL w n)=true:=by
  unfold hdL;rw[←yad];exact yal.2 ⟨_,rfl⟩
 have h2:kao (hdL w n)=true:=ke8.2 ⟨w++([32]++kab n),by unfold hdL;simp⟩;unfold kah;rw[qb4,b,iq ⟨h1,h2,a,h,k⟩]
theorem kf1 {w l:Bs} {most:Int} (h:0<=kah w l most):l=hdL w (kah w l most)/\kah w l most<=most:=by
 unfold kah at h ⊢;split
 ·rename_i hc;obtain⟨h1,h2,h3,h4,h5⟩:=hc;refine⟨?_,h5⟩;have e1:=(kn2 h3).2;obtain⟨r,hr⟩:=yal.1 h1;obtain⟨t,ht⟩:=ke8.1 h2;unfold hdL;rw[e1];unfold ki9;cases hl:r.reverse with
  |nil=>
   have:r=[]:=by simpa using hl
   subst this;rw[yah] at hr;rw[←hr] at ht;have:=yaq ht rfl;cases this
  |cons y ys=>
   have hr2:r=ys.reverse++[y]:=by rw[←List.reverse_reverse r,hl];simp
   rw[hr2] at hr;have:y=10:=by
    rw[←hr,←yad] at ht;have:=yaq ht rfl;simpa using this
   subst this;rw[←hr,←yad,yad,yav (by simp)];rw[yaf];simp
 ·rename_i hc;rw[ir hc] at h;omega
theorem qp9 {w p:Bs} {most:Int} (h:(10:UInt8) ∉ p):kah w p most= -1:=by
 unfold kah;rw[ir];rintro⟨_,h2,_⟩;obtain⟨t,ht⟩:=ke8.1 h2;rw[ht] at h;simp at h
theorem kpd {w l:Bs} {most:Int} (h: ¬0<=kah w l most):kah w l most= -1:=by
 unfold kah at h ⊢;split
 ·rename_i hc;rw[iq hc] at h;exact absurd hc.2.2.2.1 h
 ·rfl
theorem k9p {w v:Bs} {n m:Int} (hw:(32:UInt8) ∉ w) (hv:(32:UInt8) ∉ v) (h:hdL w n=hdL v m):w=v:=by
 unfold hdL at h;have key: ∀ {a b r s:Bs},(32:UInt8) ∉ a->(32:UInt8) ∉ b->a++32::r=b++32::s->a=b:=by
  intro a
  induction a with
  |nil=>
   intro b r s _ hb e;cases b with
   |nil=>rfl
   |cons y b=>simp only[yai,yag,yar] at e;simp[←e.1] at hb
  |cons x a ih=>
   intro b r s ha hb e;cases b with
   |nil=>simp only[yai,yag,yar] at e;simp[e.1] at ha
   |cons y b=>
    simp only[yag,yar] at e;simp only[yat,not_or] at ha hb;rw[e.1,ih ha.2 hb.2 e.2]
 exact key hw hv h
theorem kwh {w v:Bs} {n most:Int} (hw:(32:UInt8) ∉ w) (hv:(32:UInt8) ∉ v) (h:w≠v):kah v (hdL w n) most= -1:=
 kpd fun h0=>h (k9p hw hv (kf1 h0).1)
theorem qcl {m:Mov} (h:kcd m=true):kcc (mvL m)=some m:=by
 simp only[kcd,decide_eq_true_eq] at h;obtain⟨⟨h1,h2⟩,h3,h4⟩:=h;have hk:m.kind=0\/m.kind=1\/m.kind=2:=by omega
 obtain⟨k,n⟩:=m;simp only at h1 h2 h3 h4 hk;rcases hk with rfl |rfl |rfl
 ·show kcc (hdL kee n)=_;unfold kcc;rw[kih h3 h4 (by omega),iq h3]
 ·show kcc (hdL keg n)=_;unfold kcc;rw[kwh (w:=keg) (v:=kee) (by decide) (by decide) (by decide),ir (by decide),kih h3 h4 (by omega),iq h3]
 ·show kcc (hdL kef n)=_;unfold kcc;rw[kwh (w:=kef) (v:=kee) (by decide) (by decide) (by decide),ir (by decide),kwh (w:=kef) (v:=keg) (by decide) (by decide) (by decide),ir (by decide),kih h3 h4 (by omega),iq h3]
theorem kzj {l:Bs} {m:Mov} (h:kcc l=some m):mvL m=l/\kcd m=true:=by
 unfold kcc at h;split at h
 ·rename_i h0;cases h;obtain⟨a,b⟩:=kf1 h0;exact⟨a.symm,by simp only[kcd,decide_eq_true_eq];exact⟨by decide,h0,b⟩⟩
 ·split at h
  ·rename_i h0;cases h;obtain⟨a,b⟩:=kf1 h0;exact⟨a.symm,by simp only[kcd,decide_eq_true_eq];exact⟨by decide,h0,b⟩⟩
  ·split at h
   ·rename_i h0;cases h;obtain⟨a,b⟩:=kf1 h0;exact⟨a.symm,by simp only[kcd,decide_eq_true_eq];exact⟨by decide,h0,b⟩⟩
   ·cases h
theorem kpc (l:Bs) (ls:List Bs) (a:Nat) (T:List (List Cl)):kc4 (l::ls) a T=if l=goL then(some T,a+1,ls) else match kc8 l T with
 |none=>(none,a,ls)
 |some T'=>kc4 ls (a+1) T':=rfl
theorem knw (l:Bs) (ls:List Bs) (a:Nat) (M:List Mov):kdy (l::ls) a M=match kcc l with
 |none=>(none,a)
 |some m=>if M.length=1000 then(none,a) else kdy ls (a+1) (M++[m]):=rfl
def kd8:List Bs->List (List Cl)->Option (List (List Cl))
 | [],T=>some T
 |l::ls,T=>if l=goL then none else match kc8 l T with
  |none=>none
  |some T'=>kd8 ls T'
theorem k4s: ∀ (A B:List Bs) (T:List (List Cl)),kd8 (A++B) T=match kd8 A T with
  |none=>none
  |some T'=>kd8 B T'
 | [],_,_=>rfl
 |l::A,B,T=>by
  show(if l=goL then none else match kc8 l T with
   |none=>none
   |some T'=>kd8 (A++B) T')=match(if l=goL then none else match kc8 l T with
   |none=>none
   |some T'=>kd8 A T') with
   |none=>none
   |some T'=>kd8 B T'
  by_cases hl:l=goL
  ·rw[iq hl,iq hl]
  ·rw[ir hl,ir hl];cases kc8 l T with
   |none=>rfl
   |some U=>exact k4s A B U
theorem k4r: ∀ {A B:List Bs} {a:Nat} {T T':List (List Cl)},kd8 A T=some T'->kc4 (A++B) a T=kc4 B (a+A.length) T'
 | [],_,_,_,_,h=>by cases h;rfl
 |l::A,B,a,T,T',h=>by
  unfold kd8 at h;split at h
  ·cases h
  ·rename_i hl;split at h
   ·cases h
   ·rename_i U hU;rw[yag];rw[kpc,ir hl,hU];show kc4 (A++B) (a+1) U=_;rw[k4r h,yac,show a+1+A.length=a+(A.length+1) by omega]
theorem knm {c:Cl}:kbo c≠goL/\kbo c≠thrL:=by
 have h:(32:UInt8) ∈ kbo c:=by unfold kbo;simp
 exact⟨fun e=>by rw[e] at h;revert h;decide,fun e=>by rw[e] at h;revert h;decide⟩
theorem kex {α:Type} (T:List α) (b d:α):(T++[b]).getLastD d=b:=by simp
theorem k4t: ∀ {c:List Cl} {T:List (List Cl)} {b:List Cl},kd9 c=true->b.length+c.length<=100->kd8 (c.map kbo) (T++[b])=some (T++[b++c])
 | [],T,b,_,_=>by rw[yah];rfl
 |x::c,T,b,h,hl=>by
  simp only[kd9,yaj,yaa] at h;rw[yac] at hl;obtain⟨h1,h2⟩:=kyw h.1;rw[yan];unfold kd8;rw[ir knm.1];have e:kc8 (kbo x) (T++[b])=some (T++[b++[x]]):=by
   unfold kc8;rw[ir knm.2,kex,ir,yaf,h2];rintro(k |k |k)
   ·simp at k
   ·rw[h1] at k;cases k
   ·omega
  rw[e];show kd8 (c.map kbo) (T++[b++[x]])=_;rw[k4t (by exact h.2) (by rw[yab,yae];omega),yad];rfl
theorem k4u: ∀ {R T:List (List Cl)},R.all kbx=true->T.length+R.length<=16->kd8 (R.map kd7).flatten T=some (T++R)
 | [],T,_,_=>by rw[yah];rfl
 |c::R,T,h,hl=>by
  simp only[yaj,yaa] at h;obtain⟨h1,h2⟩:=h;simp only[kbx,yaa,decide_eq_true_eq] at h1;rw[yac] at hl;rw[yan,yau,k4s];have e:kd8 (kd7 c) T=some (T++[c]):=by
   unfold kd7 kd8;rw[ir (by decide)];unfold kc8;rw[iq rfl,ir (by omega)];show kd8 (c.map kbo) (T++[[]])=_;rw[k4t h1.1 (by simpa using h1.2)];rfl
  rw[e];show kd8 (R.map kd7).flatten (T++[c])=_;rw[k4u h2 (by rw[yab,yae];omega),yad];rfl
theorem kwf {l:Bs} {T T':List (List Cl)} (h:kc8 l T=some T') (hT:T.all kbx=true) (hn:T.length<=16):
  (T'.map kd7).flatten=(T.map kd7).flatten++[l]/\T'.all kbx=true/\T'.length<=16:=by
 unfold kc8 at h;split at h
 ·rename_i hl;split at h
  ·cases h
  ·cases h;subst hl;refine⟨by simp[kd7],?_,by rw[yab,yae];omega⟩;rw[yak,hT];rfl
 ·split at h
  ·cases h
  ·rename_i hc;cases h;simp only[not_or] at hc;obtain⟨c1,c2,c3⟩:=hc;have hk:kau l=true:=by simpa using c2
   obtain⟨w1,w2⟩:=krx hk;obtain⟨U,b,rfl⟩: ∃ U b,T=U++[b]:=⟨T.dropLast,T.getLast c1,(List.dropLast_concat_getLast c1).symm⟩;rw[kex] at c3;rw[kex,yaf];simp only[yak,yaj,yaz,yay,yaa] at hT ⊢;obtain⟨t1,t2⟩:=hT;simp only[kbx,yaa,decide_eq_true_eq] at t2;refine⟨?_,⟨t1,?_⟩,by simpa using hn⟩
   ·simp[kd7,w2]
   ·simp only[kbx,yaa,decide_eq_true_eq,yab,yae];refine⟨?_,by omega⟩;have:=t2.1;simp only[kd9,yak,yaj,yaz,yay,yaa] at this ⊢;exact⟨this,w1⟩
theorem k4q: ∀ {L:List Bs} {a a':Nat} {T T':List (List Cl)} {ls:List Bs},kc4 L a T=(some T',a',ls)->T.all kbx=true->T.length<=16->
  (T.map kd7).flatten++L=(T'.map kd7).flatten++goL::ls/\a'+ls.length=a+L.length/\T'.all kbx=true/\T'.length<=16
 | [],a,a',T,T',ls,h,_,_=>by cases h
 |l::L,a,a',T,T',ls,h,hT,hn=>by
  unfold kc4 at h;split at h
  ·rename_i hl;cases h;subst hl;exact⟨rfl,by rw[yac];omega,hT,hn⟩
  ·split at h
   ·cases h
   ·rename_i U hU;obtain⟨s1,s2,s3⟩:=kwf hU hT hn;obtain⟨r1,r2,r3,r4⟩:=k4q h s2 s3;refine⟨?_,by rw[yac];omega,r3,r4⟩;rw[←r1,s1];simp
theorem kzl: ∀ {N:List Mov} {ls:List Bs} {a:Nat} {M:List Mov},N.all kcd=true->M.length+N.length<=1000->kdy (N.map mvL++ls) a M=kdy ls (a+N.length) (M++N)
 | [],ls,a,M,_,_=>by rw[yah];rfl
 |m::N,ls,a,M,h,hl=>by
  simp only[yaj,yaa] at h;rw[yac] at hl;rw[yan,yag,knw,qcl h.1];show(if M.length=1000 then _ else _)=_;rw[ir (by omega),kzl h.2 (by rw[yab,yae];omega),yad,yac,show a+1+N.length=a+(N.length+1) by omega];rfl
theorem kzm: ∀ {L:List Bs} {a a':Nat} {M M':List Mov},kdy L a M=(some M',a')->M.all kcd=true->M.length<=1000->M'.map mvL=M.map mvL++L/\a'=a+L.length/\M'.all kcd=true/\M'.length<=1000
 | [],a,a',M,M',h,hM,hn=>by cases h;exact⟨by simp,rfl,hM,hn⟩
 |l::L,a,a',M,M',h,hM,hn=>by
  unfold kdy at h;split at h
  ·cases h
  ·rename_i m hm;split at h
   ·cases h
   ·rename_i hl;obtain⟨e1,e2⟩:=kzj hm;obtain⟨r1,r2,r3,r4⟩:=kzm h (by rw[yak,hM];simp[e2]) (by rw[yab,yae];omega);refine⟨by rw[r1];simp[e1],by rw[r2,yac];omega,r3,r4⟩
def kig (T:List (List Cl)):Nat:=(T.map fun c=>c.length+1).sum
theorem kwe: ∀ T:List (List Cl),(T.map kd7).flatten.length=kig T
 | []=>rfl
 |c::T=>by
  rw[yan,yau,yab,kwe T];simp[kig,kd7]
theorem kne {w:Bs} {n:Int} (hw:(10:UInt8) ∉ w) (h:inI n=true):kim (hdL w n):=by
 refine⟨w++([32]++kab n),by unfold hdL;simp,?_⟩;simp only[yas,not_or];simp only[inI,decide_eq_true_eq] at h;exact⟨hw,by decide,(kgx h).2.1⟩
theorem kni {n:Int} (h:0<=n) (k:n<=9999):inI n=true:=by
 simp only[inI,decide_eq_true_eq];omega
theorem qa4 {c:Cl} (h:kdt c=true):kim (kbo c):=by
 simp only[kdt,yaa,decide_eq_true_eq,inW] at h;obtain⟨⟨h0,h9⟩,ha,hb⟩:=h;refine⟨ka9 c.no++[32]++kab c.a++[32]++kab c.b,rfl,?_⟩;have hw:(10:UInt8) ∉ ka9 c.no:=by
  have:c.no=0\/c.no=1\/c.no=2\/c.no=3\/c.no=4\/c.no=5\/c.no=6\/c.no=7\/c.no=8\/c.no=9:=by omega
  rcases this with e |e |e |e |e |e |e |e |e |e <;> rw[e] <;> decide
 have ka:=(kgx (n:=c.a) (by omega)).2.1;have kb:=(kgx (n:=c.b) (by omega)).2.1;simp only[yas,not_or];exact⟨⟨⟨⟨hw,by decide⟩,ka⟩,by decide⟩,kb⟩
theorem qc1 {m:Mov} (h:kcd m=true):kim (mvL m):=by
 simp only[kcd,decide_eq_true_eq] at h;refine kne ?_ (kni h.2.1 h.2.2);unfold kan;split
 ·decide
 ·split <;> decide
theorem qp4 {c:List Cl} (h:kbx c=true): ∀ l ∈ kd7 c,kim l:=by
 simp only[kbx,yaa,decide_eq_true_eq] at h;intro l hl;simp only[kd7,yat,ya0] at hl;rcases hl with rfl | ⟨x,hx,rfl⟩
 ·exact⟨[116,104,114,101,97,100],rfl,by decide⟩
 ·exact qa4 (yap.1 h.1 x hx)
structure May (x:Dt):Prop where
 n0:kd3 x.n0
 n1:kd3 x.n1
 n2:kd3 x.n2
 t:x.t.all kbx=true
 m:x.m.all kcd=true
 tl:x.t.length<=16
 ml:x.m.length<=1000
theorem kzg {x:Dt}:knt x=true↔May x:=by
 simp only[knt,yaa,decide_eq_true_eq];exact⟨fun⟨⟨⟨⟨a,b,c⟩,d⟩,e⟩,f,g⟩=>⟨a,b,c,d,e,f,g⟩,fun h=>⟨⟨⟨⟨h.n0,h.n1,h.n2⟩,h.t⟩,h.m⟩,h.tl,h.ml⟩⟩
theorem qa5 {x:Dt} (h:May x): ∀ l ∈ ken x,kim l:=by
 intro l hl;simp only[ken,kfu,yas,yat,List.not_mem_nil,or_false,List.mem_flatten,ya0] at hl;rcases hl with(rfl |rfl |rfl) | ⟨_,⟨c,hc,rfl⟩,hl⟩ |rfl | ⟨m,hm,rfl⟩
 ·exact kne (by decide) (kni h.n0.1 (by have:=h.n0.2;omega))
 ·exact kne (by decide) (kni h.n1.1 (by have:=h.n1.2;omega))
 ·exact kne (by decide) (kni h.n2.1 (by have:=h.n2.2;omega))
 ·exact qp4 (yap.1 h.t c hc) l hl
 ·exact⟨[103,111],rfl,by decide⟩
 ·exact qc1 (yap.1 h.m m hm)
theorem qa7 {x:Dt} (h:May x) (r:Bs):kbf (ke7 x++r)=ken x++kbf r:=ky2 (qa5 h) r
theorem kyx (x:Dt):(ken x).length=4+kig x.t+x.m.length:=by
 simp only[ken,kfu,yab,yac,List.length_nil,List.length_map,kwe];omega
theorem qm8 {x:Dt} (h:May x) (L:List Bs):kc3 (kfu x++L)=match kc4 L 3 [] with
  |(none,a,_)=>(none,a+1)
  |(some T,a,ls)=>match kdy ls a [] with
   |(none,a)=>(none,a+1)
   |(some M,a)=>(some ⟨x.n0,x.n1,x.n2,T,M⟩,a):=by
 have e0:=kih (w:=kaz) h.n0.1 h.n0.2 (by omega);have e1:=kih (w:=ka0) h.n1.1 h.n1.2 (by omega);have e2:=kih (w:=ka1) h.n2.1 h.n2.2 (by omega);have k0:=h.n0.1;have k1:=h.n1.1;have k2:=h.n2.1;have g0:(kfu x++L).getD 0 []=hdL kaz x.n0:=rfl;have g1:(kfu x++L).getD 1 []=hdL ka0 x.n1:=rfl;have g2:(kfu x++L).getD 2 []=hdL ka1 x.n2:=rfl;have g3:(kfu x++L).drop 3=L:=rfl;unfold kc3;rw[g0,g1,g2,g3,e0,e1,e2,ir (by omega),ir (by omega),ir (by omega)];rfl
theorem qnd {x:Dt} (h:May x) (ls:List Bs):kc3 (ken x++ls)=match kdy ls (ken x).length x.m with
  |(none,a)=>(none,a+1)
  |(some M,a)=>(some ⟨x.n0,x.n1,x.n2,x.t,M⟩,a):=by
 have e1:=k4r (a:=3) (B:=goL::(x.m.map mvL++ls)) (k4u (T:=[]) h.t (by simpa using h.tl));rw[yai,kwe] at e1;rw[show ken x++ls=kfu x++((x.t.map kd7).flatten++(goL::(x.m.map mvL++ls))) by simp[ken],qm8 h,e1];unfold kc4;rw[iq rfl];simp only;rw[kzl h.m (by simpa using h.ml),yai,kyx];rw[show 3+kig x.t+1+x.m.length=4+kig x.t+x.m.length by omega]
theorem k3w {x:Dt} (h:May x):kfj (ke7 x)=(some x,4+kig x.t+x.m.length):=by
 unfold kfj;have e:=qa7 h [];rw[yah,kno] at e;rw[e,qnd h,←kyx];rfl
theorem k3u {s:Bs} {x:Dt} {n:Nat} (h:kfj s=(some x,n)):May x/\ke7 x=s/\kbf s=ken x/\n=4+kig x.t+x.m.length:=by
 have key:May x/\kbf s=ken x:=by
  unfold kfj kc3 at h;generalize hL:kbf s=L at h;split at h
  ·cases h
  rename_i h0;split at h
  ·cases h
  rename_i h1;split at h
  ·cases h
  rename_i h2;split at h
  ·cases h
  rename_i T a ls hT;split at h
  ·cases h
  rename_i M a' hM;cases h;obtain⟨t1,t2,t3,t4⟩:=k4q hT rfl (by simp);obtain⟨m1,m2,m3,m4⟩:=kzm hM rfl (by simp);obtain⟨x0,y0⟩:=kf1 (by omega:0<=kah kaz (L.getD 0 []) 999);obtain⟨x1,y1⟩:=kf1 (by omega:0<=kah ka0 (L.getD 1 []) 999);obtain⟨x2,y2⟩:=kf1 (by omega:0<=kah ka1 (L.getD 2 []) 999);refine⟨⟨⟨yax.1 h0,y0⟩,⟨yax.1 h1,y1⟩,⟨yax.1 h2,y2⟩,t3,m3,t4,m4⟩,?_⟩;have hlen:3<=L.length:=by
   have:L.getD 2 []≠[]:=by rw[x2];simp[hdL]
   rcases Nat.lt_or_ge 2 L.length with h |h
   ·exact h
   ·exact absurd (by rw[List.getD_eq_getElem?_getD,List.getElem?_eq_none h];rfl) this
  obtain⟨a,b,c,L',rfl⟩: ∃ a b c L',L=a::b::c::L':=by
   match L,hlen with
   |a::b::c::L',_=>exact⟨a,b,c,L',rfl⟩
  simp only[List.getD_cons_zero,List.getD_cons_succ,List.drop_succ_cons,List.drop_zero,List.map_nil,List.flatten_nil,yai] at*;unfold ken kfu;simp only;rw[←x0,←x1,←x2,t1,m1];rfl
 obtain⟨hm,hl⟩:=key;have hw:ke7 x=s:=by
  have:=qba s;rw[hl] at this;exact this
 have e:=k3w hm;rw[hw,h] at e;cases e;exact⟨hm,hw,hl,rfl⟩
theorem qnf {s:Bs} {n:Nat} (h:kfj s=(none,n)):1<=n:=by
 unfold kfj kc3 at h;split at h
 ·cases h;omega
 split at h
 ·cases h;omega
 split at h
 ·cases h;omega
 split at h
 ·cases h;omega
 split at h
 ·cases h;omega
 ·cases h
def kuf (l:List Cl) (_bl:Bool) (m:List Cl) (_bm:Bool):Option AV:=
 if l.length<=1000000 then some (.bool (eqC l m)) else none
def k2u:List AV:=[(vf 0),(vf 1)]
def kui (l:List Cl) (bl:Bool) (m:List Cl) (bm:Bool) (σ:Nat->Nat):Val:=(kal ([]) ([.im (yao eC l) bl,.im (yao eC m) bm]) [] σ 0)
def qkn (l:List Cl) (bl:Bool) (m:List Cl) (bm:Bool) (_σ:Nat->Nat):List AV:=[(.im (yao eC l) bl),(.im (yao eC m) bm)]
def qko (_l:List Cl) (_bl:Bool) (_m:List Cl) (_bm:Bool) (_σ:Nat->Nat):List Blk:=[]
theorem qkl (l:List Cl) (bl:Bool) (m:List Cl) (bm:Bool) (σ:Nat->Nat):k2u.map (gm (kui l bl m bm σ))=qkn l bl m bm σ:=by kernel_rfl
theorem qkm (l:List Cl) (bl:Bool) (m:List Cl) (bm:Bool) (σ:Nat->Nat):([]:List Blk).map (gB (kui l bl m bm σ))=qko l bl m bm σ:=by kernel_rfl
theorem qkp (l:List Cl) (bl:Bool) (m:List Cl) (bm:Bool) {r0:AV} (h:kuf l bl m bm=some r0):kak FF 40 [(.im (yao eC l) bl),(.im (yao eC m) bm)] r0:=by
 unfold kuf at h;have hσ: ∀ i j:Nat,(fun i:Nat=>i) i=(fun i:Nat=>i) j->i=j:=fun _ _ e=>e
 exact kbq (ρ:=kui l bl m bm (fun i=>i)) (xs:=k2u) (by kernel_rfl) rfl rfl (by kernel_rfl) (fun z0 S=>have H:=Tok.start hσ S 0 0 2 0 ([]) ([.im (yao eC l) bl,.im (yao eC m) bm]) [] (.c (OkF.im ka5 _ _) <| .c (OkF.im ka5 _ _) <| .n) .n (qkl _ _ _ _ _) (qkm _ _ _ _ _);kac h (fun h0 h=>have H:=H.t 1 [.bool (eqC l m)]|>.s [(vf 0),(vf 1)] (vt 0) (k71 l m bl bm h0);H.e [] h))
theorem qob (l m:List Cl) (bl bm:Bool) (h:l.length<=1000000):kak FF 40 [.im (l.map eC) bl,.im (m.map eC) bm] (.bool (eqC l m)):=qkp l bl m bm (by unfold kuf;rw[iq h])
structure Ro where
 c:List Cl
 b:Bool
def eR (r:Ro):List AV:=[.im (r.c.map eC) r.b]
theorem kbt:Enc eR 1:=⟨fun _=>rfl,fun _=>rfl,fun r=>by
 have:=ka5.selfLL r.c;simp only[eR,kcy,AV.beq,this,beq_self_eq_true,Bool.and_self]⟩
def eM (m:Mov):List AV:=[.int .i64 m.kind,.int .i64 m.n]
theorem kax:Enc eM 2:=⟨fun _=>rfl,fun _=>rfl,fun m=>by simp[eM,kcy,AV.beq]⟩
structure Td where
 n0:Int
 n1:Int
 n2:Int
 t:List Ro
 bt:Bool
 m:List Mov
 bm:Bool
def Td.av (x:Td):AV:= .agg [.int .i64 x.n0,.int .i64 x.n1,.int .i64 x.n2,.im (x.t.map eR) x.bt,.im (x.m.map eM) x.bm]
def Td.d (x:Td):Dt:=⟨x.n0,x.n1,x.n2,x.t.map Ro.c,x.m⟩
theorem Mov.ext' {c d:Mov} (h1:c.kind=d.kind) (h2:c.n=d.n):c=d:=by
 cases c;cases d;simp only at h1 h2;subst h1;subst h2;rfl
instance:DecidableEq Mov:=fun c d=>
 if h:c.kind=d.kind/\c.n=d.n then .isTrue (Mov.ext' h.1 h.2) else .isFalse fun e=>h (e ▸ ⟨rfl,rfl⟩)
def kgv (t:List Ro) (k m:Int):Bool:=decide ((t.length:Int)<=k) && t.all fun r=>decide ((r.c.length:Int)<=m)
def kdv (x:Td):Bool:=kgv x.t 18 102 && decide ((x.m.length:Int)<=1002)
def kgu (l m:List Mov):Bool:=decide (l=m)
def khk (l m:List Ro):Bool:=decide (l.map Ro.c=m.map Ro.c)
def kie (l:List Ro):Bool:=decide (l.length<=1000000) && l.all fun r=>decide (r.c.length<=1000000)
def kdq (x:Td):Bool:=kie x.t && decide (x.m.length<=1000000)
def kdd (x y:Td):Bool:=decide ((x.n0=y.n0/\x.n1=y.n1/\x.n2=y.n2)/\x.m=y.m/\x.t.map Ro.c=y.t.map Ro.c)
def kec (x:Td):Bool:=knt x.d
def kbg (s p:Bs):Bool:=decide (p.length<=s.length) && (s.take p.length == p)
def kbc (s p:Bs):Bs:=if kbg s p=true then s.drop p.length else s
def ka6 (l:Bs):Mov:=(kcc l).getD ⟨-1,0⟩
def kg9 (s w:Bs) (most:Int):Bool:=decide ((s.length<=1000000/\w.length<=1000)/\0<=most/\most<=9999)
def kt5 (s:List UInt8) (p:List UInt8):Option AV:=
 if(s.length:Int) ≥ (p.length:Int) then
  if 0<=(p.length:Int)/\(p.length:Int)<=(s.length:Int) then some (.bool ((yaw (yam (p.length:Int)) s) == p)) else none
 else
  some (.bool false)
def k2h:List AV:=[(vt 0),(vt 1)]
def kt6 (s:List UInt8) (p:List UInt8) (σ:Nat->Nat):Val:=(kal ([.str s,.str p]) ([]) [] σ 0)
def qjk (s:List UInt8) (p:List UInt8) (_σ:Nat->Nat):List AV:=[(.str s),(.str p)]
def qjl (_s:List UInt8) (_p:List UInt8) (_σ:Nat->Nat):List Blk:=[]
theorem qji (s:List UInt8) (p:List UInt8) (σ:Nat->Nat):k2h.map (gm (kt6 s p σ))=qjk s p σ:=by kernel_rfl
theorem qjj (s:List UInt8) (p:List UInt8) (σ:Nat->Nat):([]:List Blk).map (gB (kt6 s p σ))=qjl s p σ:=by kernel_rfl
theorem qjm (s:List UInt8) (p:List UInt8) {r0:AV} (h:kt5 s p=some r0):kak FF 154 [(.str s),(.str p)] r0:=by
 unfold kt5 at h;have hσ: ∀ i j:Nat,(fun i:Nat=>i) i=(fun i:Nat=>i) j->i=j:=fun _ _ e=>e
 exact kbq (ρ:=kt6 s p (fun i=>i)) (xs:=k2h) (by kernel_rfl) rfl rfl (by kernel_rfl) (fun z0 S=>have H:=Tok.start hσ S 0 2 0 0 ([.str s,.str p]) ([]) [] (.n) .n (qji _ _ _) (qjj _ _ _);have H:=H.t 5 [.int .i64 s.length,.int .i64 p.length,.bool (decide ((s.length:Int) ≥ (p.length:Int)))]|>.q 2 (.len 1 (cT 0))|>.q 3 (.len 1 (cT 1))|>.q 4 (.bin .geq (cT 2) (cT 3));kaf h (fun h0 h=>have H:=H.y 4 h0;kac h (fun _ h=>have H:=H.t 7 [.str (yaw (yam (p.length:Int)) s),.bool ((yaw (yam (p.length:Int)) s) == p)]|>.q 6 (.bin .eql (cT 5) (cT 1))|>.c (p:=(.slT (cT 0) none (some (cT 3)),(vt 5))) (fun _ _ _=>kcu (l:=s) (l':=(yaw (yam (p.length:Int)) s)) (lo:=none) (hi:=(some ((vt 3),((p.length:Int):Int)))) (by kernel_rfl) trivial ⟨.i64,by kernel_rfl⟩ (by simp only[ka3];omega) (by simp[ka3]) (by kernel_rfl));H.e [] h)) (fun h0 h=>have H:=H.w 4 h0;H.e [] h))
theorem qeq (s p:Bs):kak FF 154 [.str s,.str p] (.bool (kbg s p)):=qjm s p (by
 unfold kt5 kbg;by_cases h:p.length<=s.length
 ·rw[iq (by omega),iq (by omega)];simp[h]
 ·rw[ir (by omega)];simp[h])
def ksg (s:List UInt8) (p:List UInt8):Option AV:=
 if(!(kbg s p))=true then
  some (.tup [(.str s),(.bool false)])
 else
  if 0<=(p.length:Int)/\(p.length:Int)<=(s.length:Int) then some (.tup [(.str (ya1 (yam (p.length:Int)) s)),(.bool true)]) else none
def k00:List AV:=[(vt 0),(vt 1)]
def ksh (s:List UInt8) (p:List UInt8) (σ:Nat->Nat):Val:=(kal ([.str s,.str p]) ([]) [] σ 0)
def qff (s:List UInt8) (p:List UInt8) (_σ:Nat->Nat):List AV:=[(.str s),(.str p)]
def qfg (_s:List UInt8) (_p:List UInt8) (_σ:Nat->Nat):List Blk:=[]
theorem qfd (s:List UInt8) (p:List UInt8) (σ:Nat->Nat):k00.map (gm (ksh s p σ))=qff s p σ:=by kernel_rfl
theorem qfe (s:List UInt8) (p:List UInt8) (σ:Nat->Nat):([]:List Blk).map (gB (ksh s p σ))=qfg s p σ:=by kernel_rfl
theorem qfh (s:List UInt8) (p:List UInt8) {r0:AV} (h:ksg s p=some r0):kak FF 110 [(.str s),(.str p)] r0:=by
 unfold ksg at h;have hσ: ∀ i j:Nat,(fun i:Nat=>i) i=(fun i:Nat=>i) j->i=j:=fun _ _ e=>e
 exact kbq (ρ:=ksh s p (fun i=>i)) (xs:=k00) (by kernel_rfl) rfl rfl (by kernel_rfl) (fun z0 S=>have H:=Tok.start hσ S 0 2 0 0 ([.str s,.str p]) ([]) [] (.n) .n (qfd _ _ _) (qfe _ _ _);have H:=H.t 4 [.bool (kbg s p),.bool (!(kbg s p))]|>.q 3 (.un .not (cT 2))|>.s [(vt 0),(vt 1)] (vt 2) (qeq s p);kaf h (fun h0 h=>have H:=H.m 3 true h0;H.e [] h) (fun h0 h=>have H:=H.t 5 [.int .i64 p.length]|>.q 4 (.len 1 (cT 1))|>.m 3 false (bF h0);kac h (fun _ h=>have H:=H.t 6 [.str (ya1 (yam (p.length:Int)) s)]|>.c (p:=(.slT (cT 0) (some (cT 4)) none,(vt 5))) (fun _ _ _=>kcu (l:=s) (l':=(ya1 (yam (p.length:Int)) s)) (lo:=(some ((vt 4),((p.length:Int):Int)))) (hi:=none) (by kernel_rfl) ⟨.i64,by kernel_rfl⟩ trivial (by simp only[ka3];omega) (by simp only[ka3];exact khi _ _) (by kernel_rfl));H.e [] h)))
theorem k7c (s p:Bs):kak FF 110 [.str s,.str p] (.tup [.str (kbc s p),.bool (kbg s p)]):=qfh s p (by
 unfold ksg kbc;by_cases h:kbg s p=true
 ·have hl:p.length<=s.length:=by
   simp only[kbg,yaa,decide_eq_true_eq] at h;exact h.1
  rw[ir (by simp[h]),iq (by omega),iq h,h];simp
 ·rw[iq (by simp[h]),ir h];simp only[Bool.not_eq_true] at h;rw[h])
end Go.Proofs.Hz
