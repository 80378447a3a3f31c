/-
  A block that nobody is told of changes nothing of a run, and is left alone by it.
  Conditions: none.
-/
import Derived.Test.YtamikoglpnoicaaGreatDoorT02
namespace Go.Proofs.Hz
open Bool renaming and_eq_true->yaa,or_eq_true->yab
open List renaming mem_of_mem_take->yac,take_succ_cons->yad,all_eq_true->yae,cons_append->yaf,map_take->yag,mem_cons->yah
def St.ad (s:St) (i:Nat) (b:Blk):St:={s with h:=s.h.put i (some b)}
def kfp (ex:AC->St->Option (AE×St)):Prop:=∀ (c:AC) (s:St) (e:AE) (s':St),ex c s=some (e,s')-> ∀ (i:Nat) (b:Blk),s.h.get i=none->i<s.nx->
 s'.h.get i=none/\i<s'.nx/\ex c (s.ad i b)=some (e,s'.ad i b)
section
variable {F:Nat->Option AFn} {K:Nat->List AV->Option AV} {ex:AC->St->Option (AE×St)} {s s':St} {i:Nat} {b:Blk} {v:AV}
theorem kf8 (x:AO):x.ev (s.ad i b)=x.ev s:=evH _ x
theorem kxr (l:List AO):l.map (AO.ev (s.ad i b))=l.map (AO.ev s):=List.map_congr_left fun x _=>kf8 x
theorem kmk {k:Nat} {x:Blk} (h:k≠i):(s.ad i b).hp k x=(s.hp k x).ad i b:=by
 simp only[St.ad,St.hp];rw[T.put_comm _ _ _ (Ne.symm h)]
theorem kps {x:Blk} (h:i<s.nx):(s.ad i b).new x=(s.new x).ad i b:=by
 simp only[St.ad,St.new];rw[T.put_comm _ _ _ (by omega:i≠s.nx)]
theorem kr4 {x:Blk} (hi:s.h.get i=none) (hn:i<s.nx):(s.new x).h.get i=none/\i<(s.new x).nx:=by
 refine⟨?_,Nat.lt_succ_of_lt hn⟩;simp only[St.new];rw[T.get_put,ir (by omega)];exact hi
theorem kng {k:Nat} {x:Blk} (hi:s.h.get i=none) (h:k≠i):(s.hp k x).h.get i=none:=by
 simp only[St.hp];rw[T.get_put,ir h];exact hi
theorem khl {k:Nat} {x:Blk} (hi:s.h.get i=none) (h:s.h.get k=some x):(s.ad i b).h.get k=some x:=kg8 hi b _ _ h
theorem knx {k:Nat} {x:Blk} (hi:s.h.get i=none) (h:s.h.get k=some x):k≠i:=fun e=>by subst e;rw[hi] at h;cases h
theorem kr9 {o:AOp} (hi:s.h.get i=none) (hn:i<s.nx) (e:opA s o=some (v,s')):s'.h.get i=none/\i<s'.nx/\opA (s.ad i b) o=some (v,s'.ad i b):=by
 by_cases hq:kgk o=true
 ·obtain rfl:=k3a hq e;refine⟨hi,hn,?_⟩;have:=k29 (s:=s') hq (s'.h.put i (some b)) s'.nx;rw[e] at this;exact this
 by_cases hr:kfk o=true
 ·have h1:=kjl hr e (h:=s.h) (fun _ _ h=>h);have h2:s'=s:=by
   have h3:opA s o=some (v,s):=h1;rw[e] at h3;exact(Prod.mk.inj (Option.some.inj h3)).2
  subst h2;exact⟨hi,hn,kjl hr e (kg8 hi b)⟩
 by_cases hw:kjc o=true
 ·obtain⟨x,rfl,h⟩:=kny hw e;obtain⟨g1,g2⟩:=kr4 (x:=x) hi hn;refine⟨g1,g2,?_⟩;rw[←kps hn];exact h _
 cases o <;> first |exact absurd rfl hq |exact absurd rfl hr |exact absurd rfl hw |skip
 case store n a x=>exact kp7 (F:=fun _=>none) (K:=fun _ _=>none) (ex:=fun _ _=>none) (o:= .store n a x) rfl hi hn e
 case app t sz by_ d x=>exact kp7 (F:=fun _=>none) (K:=fun _ _=>none) (ex:=fun _ _=>none) (o:= .app t sz by_ d x) rfl hi hn e
 case cpy sz d x=>exact kp7 (F:=fun _=>none) (K:=fun _ _=>none) (ex:=fun _ _=>none) (o:= .cpy sz d x) rfl hi hn e
 case a2p n x=>
  simp only[opA,kf8] at e ⊢;split at e
  ·split at e
   ·rename_i hc;cases e;rw[iq hc];exact⟨hi,hn,rfl⟩
   ·cases e
  ·cases e
 case mapup kk m k x=>
  simp only[opA,kf8] at e ⊢;split at e
  ·rename_i id;split at e
   ·rename_i es hg;rw[khl hi hg];simp only;have hne:=knx hi hg;split at e
    ·rename_i hk;rw[iq hk];split at e
     ·cases e;exact⟨kng hi hne,hn,by rw[kmk hne]⟩
     ·cases e;exact⟨kng hi hne,hn,by rw[kmk hne]⟩
     ·cases e
    ·cases e
   ·cases e
  ·cases e
 case del kk m k=>
  simp only[opA,kf8] at e ⊢;split at e
  ·rename_i id;split at e
   ·rename_i es hg;rw[khl hi hg];simp only;have hne:=knx hi hg;split at e
    ·rename_i hk;rw[iq hk];split at e
     ·cases e;exact⟨kng hi hne,hn,by rw[kmk hne]⟩
     ·cases e;exact⟨hi,hn,rfl⟩
     ·cases e
    ·cases e
   ·cases e
  ·cases e
 case appn t sz by_ z d n=>
  simp only[opA,kf8] at e ⊢;split at e
  ·split at e
   ·rename_i h0;rw[iq h0];cases e;exact⟨hi,hn,rfl⟩
   ·rename_i h0;rw[ir h0];split at e
    ·rename_i h1;rw[iq h1];cases e;obtain⟨g1,g2⟩:=kr4 hi hn;exact⟨g1,g2,by rw[kps hn];rfl⟩
    ·cases e
  ·cases e
 case ust t p n=>
  simp only[opA,kf8] at e ⊢;split at e
  ·cases e;exact⟨hi,hn,rfl⟩
  ·rename_i id m;split at e
   ·rename_i cs ty hg;rw[khl hi hg];simp only;have hne:=knx hi hg;split at e
    ·rename_i hc;rw[iq hc];split at e
     ·rename_i l hl;simp only[Option.map_eq_some_iff] at e ⊢;obtain⟨q,hq,he⟩:=e;cases he;refine⟨by rw[T.get_put,ir hne];exact hi,hn,q,hq,?_⟩;simp only[St.ad];rw[T.put_comm _ _ _ (Ne.symm hne)]
     ·cases e
    ·cases e
   ·rename_i bs ty hg;rw[khl hi hg];simp only;split at e
    ·rename_i hc;rw[iq hc];cases e;exact⟨hi,hn,rfl⟩
    ·cases e
   ·cases e
  ·cases e
 case call f as=>cases e
 case fail=>cases e
theorem k31 {fn:AFn} (hi:s.h.get i=none) (e:kcg fn s=some v):kcg fn (s.ad i b)=some v:=by
 unfold kcg at e ⊢;have one: ∀ p y,kdi s p=some y->kdi (s.ad i b) p=some y:=fun p y hp=>by
  unfold kdi at hp ⊢;split at hp
  ·exact hp
  ·rename_i g n;have e1:(s.ad i b).rg p.1=s.rg p.1:=rfl;rw[e1];split at hp
   ·rename_i cs hcs;have:=k3r (kg8 hi b) hcs;rw[show(s.ad i b).h=s.h.put i (some b) from rfl,this];exact hp
   ·cases hp
 split at e
 ·rename_i x hx;rw[ki7 (fun p _ y=>one p y) hx];exact e
 ·rename_i vs hno hx;rw[ki7 (fun p _ y=>one p y) hx];cases vs with
  |nil=>exact e
  |cons x t=>cases t with
   |nil=>exact absurd rfl (hno x)
   |cons y t=>exact e
 ·cases e
theorem kw4 (hex:kfp ex) {f:Nat} {as:List AV} (hi:s.h.get i=none) (hn:i<s.nx) (e:kb1 F K ex f as s=some (v,s')):
  s'.h.get i=none/\i<s'.nx/\kb1 F K ex f as (s.ad i b)=some (v,s'.ad i b):=by
 have hs:=kg8 hi b;unfold kb1 at e ⊢;split at e
 ·cases e
 ·rename_i fn hF;split at e
  ·rename_i hp;rw[iq hp];split at e
   ·cases e
   ·rename_i xs hx;rw[show(s.ad i b).h=s.h.put i (some b) from rfl,ki7 (fun x _ y hy=>km9 hs hy) hx];simp only;split at e
    ·cases e
    ·rename_i r hr
     try simp only
     split at e
     ·rename_i hfl;rw[iq hfl];cases e;exact⟨hi,hn,rfl⟩
     ·rename_i hfl;rw[ir hfl];split at e
      ·rename_i h1 h2;cases e;obtain⟨h3,h4⟩:=kna (i:=i) (b:=b) (fun h h' v=>krh kbu h h' v) hi h2;rw[h4];exact⟨h3,hn,rfl⟩
      ·cases e
  ·rename_i hp;rw[ir hp];have hb:=fun e1 s1 h=>hex fn.body {r:=inits 0 as .nil,h:=s.h,nx:=s.nx} e1 s1 h i b hi hn
   split at e
   ·rename_i s1 h1;obtain⟨g1,g2,g3⟩:=hb _ _ h1;rw[show({r:=inits 0 as .nil,h:=(s.ad i b).h,nx:=(s.ad i b).nx}:St)=St.ad {r:=inits 0 as .nil,h:=s.h,nx:=s.nx} i b from rfl,g3];simp only;split at e
    ·rename_i u hu;cases e;rw[k31 g1 hu];exact⟨g1,g2,rfl⟩
    ·cases e
   ·rename_i s1 h1;obtain⟨g1,g2,g3⟩:=hb _ _ h1;rw[show({r:=inits 0 as .nil,h:=(s.ad i b).h,nx:=(s.ad i b).nx}:St)=St.ad {r:=inits 0 as .nil,h:=s.h,nx:=s.nx} i b from rfl,g3];simp only;split at e
    ·rename_i u hu;cases e;rw[k31 g1 hu];exact⟨g1,g2,rfl⟩
    ·cases e
   ·cases e
theorem qns (hex:kfp ex) {id:Nat} {as:List AV} (hi:s.h.get i=none) (hn:i<s.nx) (e:ke5 ex id as s=some (v,s')):
  s'.h.get i=none/\i<s'.nx/\ke5 ex id as (s.ad i b)=some (v,s'.ad i b):=by
 unfold ke5 at e ⊢;split at e
 ·rename_i l hl;rw[khl hi hl];simp only;have hne:=knx hi hl;split at e
  ·rename_i hp;rw[iq hp];split at e
   ·rename_i s1 h1;obtain⟨g1,g2,g3⟩:=hex _ _ _ _ h1 i b hi hn;rw[show({r:=kel l.r l.ps as,h:=(s.ad i b).h,nx:=(s.ad i b).nx}:St)=St.ad {r:=kel l.r l.ps as,h:=s.h,nx:=s.nx} i b from rfl,g3];simp only;split at e
    ·rename_i l1 hl1;rw[khl g1 hl1];simp only;split at e
     ·rename_i h0;rw[iq h0];split at e
      ·rename_i e1 s2 h2;obtain⟨k1,k2,k3⟩:=hex _ _ _ _ h2 i b (kng g1 hne) g2;rw[kmk hne,k3];simp only;split at e
       ·rename_i l2 hl2;rw[khl k1 hl2];simp only;cases e;refine⟨by rw[T.get_put,ir hne];exact k1,k2,?_⟩;simp only[St.ad];rw[T.put_comm _ _ _ (Ne.symm hne)]
       ·cases e
      ·cases e
     ·cases e
    ·cases e
   ·cases e
  ·cases e
 ·cases e
theorem kmd (hex:kfp ex) {o:AOp} (hi:s.h.get i=none) (hn:i<s.nx) (e:kbi F K ex o s=some (v,s')):
  s'.h.get i=none/\i<s'.nx/\kbi F K ex o (s.ad i b)=some (v,s'.ad i b):=by
 by_cases hc: ∃ f as,o= .call f as
 ·obtain⟨f,as,rfl⟩:=hc;simp only[kbi,kf8,kxr] at e ⊢;unfold keu at e ⊢;split at e
  ·exact kw4 hex hi hn e
  ·exact qns hex hi hn e
  ·cases e
 ·have h0: ∀ s:St,kbi F K ex o s=opA s o:=fun s=>by cases o <;> first |rfl |exact absurd ⟨_,_,rfl⟩ hc
  rw[h0] at e;rw[h0];exact kr9 hi hn e
theorem k47 (g:Option (Nat×Bool)):kb8 (s.ad i b) g=kb8 s g:=kgn g _ _
theorem kv1 (d:Option Nat) (v:AV):(s.ad i b).set d v=(s.set d v).ad i b:=by cases d <;> rfl
theorem kv2 (d:Option Nat) (v:AV):(s.set d v).h=s.h/\(s.set d v).nx=s.nx:=by cases d <;> exact⟨rfl,rfl⟩
theorem kvt (hex:kfp ex): ∀ {ops:List AOper} {s s':St},s.h.get i=none->i<s.nx->kb7 F K ex ops s=some s'->s'.h.get i=none/\i<s'.nx/\kb7 F K ex ops (s.ad i b)=some (s'.ad i b)
 | [],s,s',hi,hn,e=>by cases e;exact⟨hi,hn,rfl⟩
 |o::os,s,s',hi,hn,e=>by
  unfold kb7 at e ⊢;rw[k47];split at e
  ·rename_i hw;rw[iq hw];split at e
   ·rename_i u s1 h1;obtain⟨g1,g2,g3⟩:=kmd (b:=b) hex hi hn h1;rw[g3];simp only;rw[kv1];obtain⟨q1,q2⟩:=kv2 (s:=s1) o.dst u;exact kvt hex (by rw[q1];exact g1) (by rw[q2];exact g2) e
   ·cases e
  ·rename_i hw;rw[ir hw,kv1];obtain⟨q1,q2⟩:=kv2 (s:=s) o.dst (.tup []);exact kvt hex (by rw[q1];exact hi) (by rw[q2];exact hn) e
def adH (i:Nat) (b:Blk) (h:T Blk):T Blk:=h.put i (some b)
theorem qod {j:ADr} {hist:List (T Blk)}:j.seen (hist.map (adH i b))=(j.seen hist).map (adH i b):=by
 unfold ADr.seen;split
 ·rw[yag]
 ·rw[←List.map_drop,yag]
theorem k7i (hex:kfp ex) {nx0:Nat} {hist hist':List (T Blk)} {o:ADr} (hi:s.h.get i=none) (hn:i<s.nx) (h0:i<nx0) (hh: ∀ g ∈ hist,g.get i=none) (e:kav F K ex nx0 hist o s=some (v,s',hist')):
  s'.h.get i=none/\i<s'.nx/\(∀ g ∈ hist',g.get i=none)/\kav F K ex nx0 (hist.map (adH i b)) o (s.ad i b)=some (v,s'.ad i b,hist'.map (adH i b)):=by
 have cons: ∀ {s1:St},s1.h.get i=none-> ∀ g ∈ s1.h::hist,g.get i=none:=fun {s1} h1 g hg=>by
  rcases yah.1 hg with rfl |hg
  ·exact h1
  ·exact hh g hg
 unfold kav at e ⊢;rw[k47];split at e
 ·rename_i hw;rw[iq hw];split at e
  ·rename_i hk
   try simp only[hk]
   split at e
   ·rename_i hq;rw[iq hq];split at e
    ·rename_i u s1 h1;cases e;obtain⟨_,_,g3⟩:=kr9 (b:=b) hi hn h1;rw[g3];exact⟨hi,hn,hh,rfl⟩
    ·cases e
   ·rename_i hq;rw[ir hq];split at e
    ·rename_i f as hop;simp only[kf8,kxr];split at e
     ·rename_i g first caps hf
      try simp only
      split at e
      ·rename_i fn hF
       try simp only
       split at e
       ·rename_i hp;rw[iq hp];split at e
        ·rename_i xs hx;have hz:mapO (frz (s.ad i b).h kbu) (first++List.map (AO.ev s) as++caps)=some xs:=ki7 (fun x _ y hy=>km9 (kg8 hi b) hy) hx;rw[hz];simp only;split at e
         ·rename_i r hr;cases e;exact⟨hi,hn,hh,rfl⟩
         ·cases e
        ·cases e
       ·cases e
      ·cases e
     ·cases e
    ·cases e
  ·rename_i hk
   try simp only[hk]
   split at e
   ·rename_i hc;simp only[yaa,Option.isNone_iff_eq_none] at hc;have hne:nx0+o.i≠i:=by omega
    have hc2:(kjc o.o.op && ((s.ad i b).h.get (nx0+o.i)).isNone)=true:=by
     simp only[St.ad,T.get_put,ir (Ne.symm hne),hc.1,hc.2];rfl
    rw[iq hc2];split at e
    ·rename_i u s1 h1;cases e;obtain⟨x,rfl,hx⟩:=kny hc.1 h1;have h2:=hx (s.h.put i (some b));have h3:opA {s.ad i b with nx:=nx0+o.i} o.o.op=some (v,St.new {s.ad i b with nx:=nx0+o.i} x):=h2;rw[h3];refine⟨by simp only[St.new];rw[T.get_put,ir hne];exact hi,hn,hh,?_⟩;simp only[St.new,St.ad];rw[T.put_comm _ _ _ (Ne.symm hne)]
    ·cases e
   ·cases e
  ·rename_i hk
   try simp only[hk]
   split at e
   ·rename_i u s1 h1;cases e;obtain⟨g1,g2,g3⟩:=kmd (b:=b) hex hi hn h1;rw[g3];exact⟨g1,g2,cons g1,rfl⟩
   ·cases e
  ·rename_i hk
   try simp only[hk]
   split at e
   ·rename_i hc;rw[iq hc];split at e
    ·rename_i u s1 h1;cases e;obtain⟨g1,g2,g3⟩:=kmd (b:=b) hex hi hn h1;rw[g3];exact⟨g1,g2,cons g1,rfl⟩
    ·cases e
   ·cases e
  ·rename_i n1 n2 n3 n4;split at e
   ·rename_i hr;split at e
    ·rename_i u s1 h1;split at e
     ·rename_i hc;cases e;obtain⟨_,_,g3⟩:=kr9 (b:=b) hi hn h1;refine⟨hi,hn,hh,?_⟩
      ·rw[iq hr,g3];simp only;have hc3:(decide (o.back<(hist.map (adH i b)).length) && (o.seen (hist.map (adH i b))).all (kgm (s.ad i b) o.o.op v))=true:=by
        simp only[yaa] at hc ⊢;refine⟨by rw[List.length_map];exact hc.1,?_⟩;rw[qod,yae];intro g hg;obtain⟨g0,hg0,rfl⟩:=List.mem_map.1 hg;have h2:=yae.1 hc.2 g0 hg0;have hgi:g0.get i=none:=hh g0 (by
         unfold ADr.seen at hg0;split at hg0
         ·exact yac hg0
         ·exact List.mem_of_mem_drop (yac hg0))
        unfold kgm at h2 ⊢;split at h2
        ·rename_i w s2 h3;have h4:=kjl hr h3 (kg8 (h:=g0) hgi b);have h5:opA {s.ad i b with h:=adH i b g0} o.o.op=some (w,{s.ad i b with h:=adH i b g0}):=h4;rw[h5];exact h2
        ·cases h2
       rw[iq hc3]
     ·cases e
    ·cases e
   ·cases e
 ·rename_i hw;rw[ir hw];cases e;refine⟨hi,hn,?_,?_⟩
  ·split
   ·exact cons hi
   ·exact hh
  ·split
   ·rfl
   ·rfl
theorem kxk (hex:kfp ex) {nx0:Nat} (h0:i<nx0): ∀ {ops:List ADr} {s s':St} {hist:List (T Blk)},s.h.get i=none->i<s.nx->(∀ g ∈ hist,g.get i=none)->kch F K ex nx0 ops s hist=some s'->
  s'.h.get i=none/\i<s'.nx/\kch F K ex nx0 ops (s.ad i b) (hist.map (adH i b))=some (s'.ad i b)
 | [],s,s',hist,hi,hn,_,e=>by cases e;exact⟨hi,hn,rfl⟩
 |o::os,s,s',hist,hi,hn,hh,e=>by
  unfold kch at e ⊢;split at e
  ·rename_i u s1 hist1 h1;obtain⟨g1,g2,g3,g4⟩:=k7i (b:=b) hex hi hn h0 hh h1;rw[g4];simp only;rw[kv1];obtain⟨q1,q2⟩:=kv2 (s:=s1) o.o.dst u;exact kxk hex h0 (by rw[q1];exact g1) (by rw[q2];exact g2) g3 e
  ·cases e
theorem k76: ∀ n:Nat,kfp (exA F K n):=by
 intro n
 induction n with
 |zero=>intro c s e s' h;cases h
 |succ n ih=>
  intro c s e s' h i b hi hn;cases c with
  |skip=>cases h;exact⟨hi,hn,rfl⟩
  |label l=>cases h;exact⟨hi,hn,rfl⟩
  |exit id=>cases h;exact⟨hi,hn,rfl⟩
  |goto l=>cases h;exact⟨hi,hn,rfl⟩
  |ret=>cases h;exact⟨hi,hn,rfl⟩
  |reg ops=>
   simp only[exA] at h ⊢;split at h
   ·rename_i s1 h1;cases h;obtain⟨g1,g2,g3⟩:=kvt (b:=b) ih hi hn h1;rw[g3];exact⟨g1,g2,rfl⟩
   ·cases h
  |drw m ops=>
   simp only[exA] at h ⊢;split at h
   ·rename_i s1 h1;cases h;obtain⟨g1,g2,g3⟩:=kxk (b:=b) (nx0:=s.nx) ih hn (s:={s with nx:=s.nx+m}) hi (Nat.lt_of_lt_of_le hn (Nat.le_add_right _ _)) (fun g hg=>by rw[List.mem_singleton.1 hg];exact hi) h1;have g4:kch F K (exA F K n) (s.ad i b).nx ops {s.ad i b with nx:=(s.ad i b).nx+m} [(s.ad i b).h]=some (s'.ad i b):=g3;rw[g4];exact⟨g1,g2,rfl⟩
   ·cases h
  |seq a c=>
   simp only[exA] at h ⊢;split at h
   ·rename_i s1 h1;obtain⟨g1,g2,g3⟩:=ih _ _ _ _ h1 i b hi hn;rw[g3];exact ih _ _ _ _ h i b g1 g2
   ·rename_i hne;obtain⟨g1,g2,g3⟩:=ih _ _ _ _ h i b hi hn;rw[g3];refine⟨g1,g2,?_⟩;cases e with
    |nrm=>exact absurd h (hne _)
    |ext j=>rfl
    |gto l=>rfl
    |ret=>rfl
  |cond x a c=>
   simp only[exA,kf8] at h ⊢;split at h
   ·rename_i t ht
    try simp only
    split at h
    ·rename_i h1;rw[iq h1];exact ih _ _ _ _ h i b hi hn
    ·rename_i h1;rw[ir h1];exact ih _ _ _ _ h i b hi hn
   ·cases h
  |block id c=>
   simp only[exA] at h ⊢;split at h
   ·rename_i j s1 h1;obtain⟨g1,g2,g3⟩:=ih _ _ _ _ h1 i b hi hn;rw[g3];simp only;split at h
    ·rename_i hj;cases h;rw[iq hj];exact⟨g1,g2,rfl⟩
    ·rename_i hj;cases h;rw[ir hj];exact⟨g1,g2,rfl⟩
   ·rename_i hne;obtain⟨g1,g2,g3⟩:=ih _ _ _ _ h i b hi hn;rw[g3];refine⟨g1,g2,?_⟩;cases e with
    |ext j=>exact absurd h (hne _ _)
    |nrm=>rfl
    |gto l=>rfl
    |ret=>rfl
  |loop c=>
   rw[show exA F K (n+1) (.loop c) s=(match exA F K n c s with
    |some (.nrm,s1)=>exA F K n (.loop c) s1
    |r=>r) from rfl] at h
   rw[show exA F K (n+1) (.loop c) (s.ad i b)=(match exA F K n c (s.ad i b) with
    |some (.nrm,s1)=>exA F K n (.loop c) s1
    |r=>r) from rfl]
   split at h
   ·rename_i s1 h1;obtain⟨g1,g2,g3⟩:=ih _ _ _ _ h1 i b hi hn;rw[g3];exact ih _ _ _ _ h i b g1 g2
   ·rename_i hne;obtain⟨g1,g2,g3⟩:=ih _ _ _ _ h i b hi hn;rw[g3];refine⟨g1,g2,?_⟩;cases e with
    |nrm=>exact absurd h (hne _)
    |ext j=>rfl
    |gto l=>rfl
    |ret=>rfl
  |scope a c=>
   rw[show exA F K (n+1) (.scope a c) s=(match exA F K n a s with
    |some (.gto l,s1)=>match kgc c l with
     |some rest=>exA F K n (.scope rest c) s1
     |none=>some (.gto l,s1)
    |r=>r) from rfl] at h
   rw[show exA F K (n+1) (.scope a c) (s.ad i b)=(match exA F K n a (s.ad i b) with
    |some (.gto l,s1)=>match kgc c l with
     |some rest=>exA F K n (.scope rest c) s1
     |none=>some (.gto l,s1)
    |r=>r) from rfl]
   split at h
   ·rename_i l s1 h1;obtain⟨g1,g2,g3⟩:=ih _ _ _ _ h1 i b hi hn;rw[g3];simp only;split at h
    ·exact ih _ _ _ _ h i b g1 g2
    ·cases h;exact⟨g1,g2,rfl⟩
   ·rename_i hne;obtain⟨g1,g2,g3⟩:=ih _ _ _ _ h i b hi hn;rw[g3];refine⟨g1,g2,?_⟩;cases e with
    |gto l=>exact absurd h (hne _ _)
    |nrm=>rfl
    |ext j=>rfl
    |ret=>rfl
  |rngf nt f ps asg body=>
   simp only[exA] at h ⊢;split at h
   ·rename_i u s1 h1;unfold kf5 at h1;split at h1
    ·rename_i g first caps hf
     obtain⟨k1,k2⟩:=kr4 (x:= .loop {st:=0,pend:=none,r:=s.r,ps:=ps,asg:=asg,body:=body,nt:=nt}) hi hn;obtain⟨g1,g2,g3⟩:=kw4 (b:=b) ih k1 k2 h1;have g4:kf5 F K (exA F K n) (f.ev (s.ad i b)) [.yld (s.ad i b).nx] ((s.ad i b).new (.loop {st:=0,pend:=none,r:=(s.ad i b).r,ps:=ps,asg:=asg,body:=body,nt:=nt}))=some (u,s1.ad i b):=by
      rw[kf8,hf];unfold kf5;simp only;rw[show(s.ad i b).r=s.r from rfl,kps hn];exact g3
     rw[g4];simp only;split at h
     ·rename_i l hl;have hne:s.nx≠i:=by omega
      have hl2:(s1.ad i b).h.get (s.ad i b).nx=some (.loop l):=khl g1 hl;rw[hl2];simp only;split at h
      ·cases h
      ·rename_i hst;rw[ir hst];have fin: ∀ (q:Blk),({r:=(s.ad i b).r,h:=(s1.ad i b).h.put (s.ad i b).nx (some q),nx:=(s1.ad i b).nx}:St)=St.ad {r:=s.r,h:=s1.h.put s.nx (some q),nx:=s1.nx} i b:=fun q=>by
        simp only[St.ad];rw[T.put_comm _ _ _ (Ne.symm hne)]
       split at h
       ·cases h;refine⟨by simp only;rw[T.get_put,ir hne];exact g1,g2,?_⟩;rw[←fin]
       ·cases h;refine⟨by simp only;rw[T.get_put,ir hne];exact g1,g2,?_⟩;rw[←fin]
     ·cases h
    ·cases h1
   ·cases h
end
def isW (k:Nat):Bool:=k == 2 || k == 3
def kgg (x j:ADr):Bool:=j.k == 0 || (j.k == 1 && x.i != j.i) || (decide (4<=j.k) && (x.k != 1 || j.fl))
def kip (x j:AOper):Bool:=
 (match x.dst with
  |some d=> !j.looks.contains d && j.dst != some d
  |none=>true) &&
 (match j.dst with
  |some d=> !x.looks.contains d
  |none=>true)
theorem k52 {x j:AOper} (h:kip x j=true):(∀ d,x.dst=some d->d ∉ j.looks)/\(∀ d,x.dst=some d->j.dst≠some d)/\ ∀ d,j.dst=some d->d ∉ x.looks:=by
 refine⟨fun d hd=> ?_,fun d hd=> ?_,fun d hd=> ?_⟩ <;> simp[kip,hd] at h
 ·exact h.1.1
 ·exact h.1.2
 ·exact h.2
def kjs (s:St) (hist:List (T Blk)):Prop:=∃ h0 hr,hist=h0::hr/\h0.Sub s.h
theorem T.Sub.refl {α:Type} (a:T α):a.Sub a:=fun _ _ h=>h
theorem T.Sub.put {α:Type} {a b:T α} (h:a.Sub b) {i:Nat} (hi:b.get i=none) (x:α):a.Sub (b.put i (some x)):=fun j y hy=>by
 rw[T.get_put];by_cases e:i=j
 ·subst e;have:=h _ _ hy;rw[hi] at this;cases this
 ·rw[ir e];exact h _ _ hy
theorem ADr.up_zero (j:ADr):j.up 0=j:=by simp[ADr.up]
theorem ADr.up_up (j:ADr) (a b:Nat):(j.up a).up b=j.up (a+b):=by
 have h1:j.back - a - b=j.back - (a+b):=by omega
 have h2:(j.fl || decide (0<a) || decide (0<b))=(j.fl || decide (0<a+b)):=by
  by_cases ha:0<a <;> by_cases hb:0<b <;> simp[ha,hb] <;> omega
 simp only[ADr.up,h1,h2]
section
variable {F:Nat->Option AFn} {K:Nat->List AV->Option AV} {ex:AC->St->Option (AE×St)} {nx0:Nat} {s s1 s2:St} {hist hist1 hist2:List (T Blk)} {x j:ADr} {vx vj v:AV}
theorem k45 {m:Nat} (h:j.k<4):kav F K ex nx0 hist (j.up m) s=kav F K ex nx0 hist j s:=by
 unfold kav ADr.up;have:j.k=0\/j.k=1\/j.k=2\/j.k=3:=by omega
 rcases this with hk |hk |hk |hk <;> simp only[hk]
theorem ki5 (k:Nat):k=0\/k=1\/(k=2\/k=3)\/4<=k:=by omega
theorem kye (g:kjs s hist) (h:kav F K ex nx0 hist x s=some (v,s1,hist1)):kjs s1 hist1:=by
 rcases ki5 x.k with hk |hk |hk |hk
 ·obtain⟨rfl,rfl,_⟩:=step0 hk h;exact g
 ·obtain⟨rfl,⟨rfl,_⟩ | ⟨b,hb,rfl,_⟩⟩:=step1 hk h
  ·exact g
  ·obtain⟨h0,hr,rfl,hs⟩:=g;exact⟨h0,hr,rfl,hs.put hb _⟩
 ·obtain⟨rfl,_⟩:=step2 hk h;exact⟨_,_,rfl,T.Sub.refl _⟩
 ·obtain⟨rfl,rfl,_⟩:=kkt hk h;exact g
theorem k8x (hfr:kfp ex) {i:Nat} (hi:s.h.get i=none) (hn:i<s.nx) (hne:x.k=1->nx0+x.i≠i) (h:kav F K ex nx0 hist x s=some (v,s1,hist1)):s1.h.get i=none/\i<s1.nx:=by
 rcases ki5 x.k with hk |hk |hk |hk
 ·obtain⟨rfl,rfl,_⟩:=step0 hk h;exact⟨hi,hn⟩
 ·obtain⟨rfl,⟨rfl,_⟩ | ⟨b,hb,rfl,_⟩⟩:=step1 hk h
  ·exact⟨hi,hn⟩
  ·exact⟨by simp only;rw[T.get_put,ir (hne hk)];exact hi,hn⟩
 ·obtain⟨rfl,⟨_,rfl,_⟩ | ⟨h1,h2,_⟩⟩:=step2 hk h
  ·exact⟨hi,hn⟩
  ·obtain⟨h3,h4,_⟩:=kmd (b:= .cells [] false 0) hfr hi hn h1;exact⟨h3,h4⟩
 ·obtain⟨rfl,rfl,_⟩:=kkt hk h;exact⟨hi,hn⟩
inductive SubL:List (T Blk)->List (T Blk)->Prop
 |nil:SubL [] []
 |cons {a b:T Blk} {as bs:List (T Blk)} (h:a.Sub b) (t:SubL as bs):SubL (a::as) (b::bs)
theorem SubL.refl: ∀ l:List (T Blk),SubL l l
 | []=> .nil
 |_::l=> .cons (T.Sub.refl _) (SubL.refl l)
theorem SubL.length: ∀ {a b:List (T Blk)},SubL a b->a.length=b.length
 |_,_,.nil=>rfl
 |_,_,.cons _ t=>by simp[t.length]
theorem SubL.take: ∀ {a b:List (T Blk)} (n:Nat),SubL a b->SubL (a.take n) (b.take n)
 |_,_,0,_=>by simp only[List.take_zero];exact .nil
 |_,_,_+1,.nil=>by simp only[List.take_nil];exact .nil
 |_,_,n+1,.cons h t=>by simp only[yad];exact .cons h (t.take n)
theorem SubL.tail: ∀ {a b:List (T Blk)},SubL a b->SubL (a.drop 1) (b.drop 1)
 |_,_,.nil=> .nil
 |_,_,.cons _ t=>t
theorem SubL.mem: ∀ {a b:List (T Blk)},SubL a b-> ∀ y ∈ b,∃ x ∈ a,x.Sub y
 |_,_,.nil,_,h=>by cases h
 |_,_,.cons h t,y,hy=>by
  rcases yah.1 hy with rfl |hy
  ·exact⟨_,by simp,h⟩
  ·obtain⟨x,hx,hxy⟩:=t.mem y hy;exact⟨x,by simp[hx],hxy⟩
theorem SubL.seen {a b:List (T Blk)} (h:SubL a b) (j:ADr):SubL (j.seen a) (j.seen b):=by
 unfold ADr.seen;split
 ·exact h.take _
 ·exact h.tail.take _
theorem k96 {g:List (T Blk)} (hs:SubL hist g) (h:kav F K ex nx0 hist x s=some (v,s1,hist1)): ∃ g1,kav F K ex nx0 g x s=some (v,s1,g1)/\SubL hist1 g1:=by
 rcases ki5 x.k with hk |hk |hk |hk
 ·obtain⟨rfl,rfl,h1⟩:=step0 hk h;exact⟨g,h1 s1.h s1.nx g,hs⟩
 ·obtain⟨rfl,⟨rfl,h1⟩ | ⟨b,hb,rfl,h1⟩⟩:=step1 hk h
  ·exact⟨g,h1 s1.h s1.nx g,hs⟩
  ·exact⟨g,h1 s.h s.nx g hb,hs⟩
 ·obtain⟨rfl,⟨rfl,rfl,h1⟩ | ⟨h1,h2,h3⟩⟩:=step2 hk h
  ·exact⟨_,h1 s1.h s1.nx g,.cons (T.Sub.refl _) hs⟩
  ·exact⟨_,h3 s.h s.nx g _ _ h1,.cons (T.Sub.refl _) hs⟩
 ·obtain⟨rfl,rfl,h1 | ⟨⟨h1,h2,h3,h4,h5⟩,h6⟩⟩:=kkt hk h
  ·exact⟨g,h1 x s1.h s1.nx g rfl rfl,hs⟩
  ·refine⟨g,h5 x s1.h s1.nx g rfl rfl ⟨_,h3⟩ (by rw[←hs.length];exact h1) (fun y hy=> ?_) (fun hne=>h6 fun e=>hne ?_),hs⟩
   ·obtain⟨z,hz,hzy⟩:=(hs.seen x).mem y hy;obtain⟨u,hu⟩:=h2 z hz;exact⟨_,kjl h4 (s:={s1 with h:=z}) hu hzy⟩
   ·have:=(hs.seen x).length;rw[e] at this;exact List.length_eq_zero_iff.1 this.symm
theorem kyj {e:St}: ∀ {l:List ADr} {s:St} {hist g:List (T Blk)},SubL hist g->kch F K ex nx0 l s hist=some e->kch F K ex nx0 l s g=some e
 | [],_,_,_,_,h=>h
 |x::l,s,hist,g,hs,h=>by
  simp only[kch] at h ⊢;cases e1:kav F K ex nx0 hist x s with
  |none=>simp[e1] at h
  |some p=>
   obtain⟨v,s1,hist1⟩:=p;simp only[e1] at h;obtain⟨g1,h1,h2⟩:=k96 hs e1;rw[h1];exact kyj h2 h
theorem k91 (hfr:kfp ex) (hk:kgg x j=true) (hb:isW x.k=true->4<=j.k->1<=j.back) (hf:j.k=1->s.h.get (nx0+j.i)=none/\nx0+j.i<s.nx) (g:kjs s hist)
  (e1:kav F K ex nx0 hist x s=some (vx,s1,hist1)) (e2:kav F K ex nx0 hist1 j s1=some (vj,s2,hist2)):
  ∃ s1' hist3,kav F K ex nx0 hist (j.up (if isW x.k=true then 1 else 0)) s=some (vj,s1',hist)/\kav F K ex nx0 hist x s1'=some (vx,s2,hist3)/\SubL hist2 hist3:=by
 have hr1:s1.r=s.r:=kmz e1;have es:s={s1 with h:=s.h,nx:=s.nx}:=by cases s;simp only at hr1;simp[hr1]
 simp only[kgg,yab,yaa,beq_iff_eq,bne_iff_ne,ne_eq,decide_eq_true_eq] at hk;rcases hk with(hj | ⟨hj,hxi⟩) | ⟨hj,hx⟩
 ·obtain⟨rfl,rfl,h⟩:=step0 hj e2;refine⟨s,_,?_,e1,SubL.refl _⟩;rw[k45 (by omega),es];exact h s.h s.nx hist
 ·obtain⟨hf1,hf2⟩:=hf hj;rw[k45 (by omega)];obtain⟨rfl,h⟩:=step1 hj e2;have hj1:(s2=s1/\kav F K ex nx0 hist j s=some (vj,s,hist))\/ ∃ b,s1.h.get (nx0+j.i)=none/\s2={s1 with h:=s1.h.put (nx0+j.i) (some b)}/\kav F K ex nx0 hist j s=some (vj,{s with h:=s.h.put (nx0+j.i) (some b)},hist):=by
   rcases h with⟨rfl,h⟩ | ⟨b,hb',rfl,h⟩
   ·exact .inl ⟨rfl,by rw[es];exact h s.h s.nx hist⟩
   ·refine .inr ⟨b,hb',rfl,?_⟩;have:=h s.h s.nx hist hf1;rw[hr1] at this;exact this
  rcases hj1 with⟨rfl,hj1⟩ | ⟨b,hb',rfl,hj1⟩
  ·exact⟨s,_,hj1,e1,SubL.refl _⟩
  ·rcases ki5 x.k with hx' |hx' |hx' |hx'
   ·obtain⟨rfl,rfl,h'⟩:=step0 hx' e1;exact⟨_,_,hj1,h' _ _ _,SubL.refl _⟩
   ·obtain⟨rfl,⟨rfl,h'⟩ | ⟨b',hb2,rfl,h'⟩⟩:=step1 hx' e1
    ·exact⟨_,_,hj1,h' _ _ _,SubL.refl _⟩
    ·have hne:nx0+j.i≠nx0+x.i:=fun e=>hxi (by omega)
     refine⟨_,_,hj1,?_,SubL.refl _⟩;have:=h' (s.h.put (nx0+j.i) (some b)) s.nx hist2 (by rw[T.get_put,ir hne];exact hb2);rw[this];simp only;rw[T.put_comm _ _ _ hne]
   ·obtain⟨rfl,⟨rfl,rfl,h'⟩ | ⟨h1,h2,h3⟩⟩:=step2 hx' e1
    ·exact⟨_,_,hj1,h' _ _ _,.cons (kg8 hf1 b) (SubL.refl _)⟩
    ·obtain⟨h4,h5,h6⟩:=kmd (b:=b) hfr hf1 hf2 h1;exact⟨_,_,hj1,h3 _ s.nx _ _ _ h6,.cons (kg8 h4 b) (SubL.refl _)⟩
   ·obtain⟨rfl,rfl,h' | ⟨⟨h1,h2,h3,h4,h5⟩,h6⟩⟩:=kkt hx' e1
    ·exact⟨_,_,hj1,h' x _ _ _ rfl rfl,SubL.refl _⟩
    ·exact⟨_,_,hj1,h5 x _ s1.nx _ rfl rfl ⟨_,kjl h4 h3 ((T.Sub.refl _).put hb' _)⟩ h1 h2 h6,SubL.refl _⟩
 ·obtain⟨rfl,rfl,h⟩:=kkt hj e2;obtain⟨h0,hr,rfl,hs⟩:=g;refine⟨s,_,?_,e1,SubL.refl _⟩;rcases ki5 x.k with hx' |hx' |hx' |hx'
  ·obtain⟨rfl,rfl,h'⟩:=step0 hx' e1;rw[ir (by simp[isW,hx']),ADr.up_zero];exact e2
  ·rw[ir (by simp[isW,hx']),ADr.up_zero];obtain⟨rfl,h'⟩:=step1 hx' e1;rcases h with h | ⟨⟨h1,h2,h3,h4,h5⟩,h6⟩
   ·rw[es];exact h j _ _ _ rfl rfl
   ·have hfl:j.fl=true:=hx.resolve_left (fun hn=>hn hx');have hm:h0 ∈ j.seen (h0::hr):=by simp[ADr.seen,hfl]
    obtain⟨u,hu⟩:=h2 h0 hm;have h7:=kjl h4 (s:={s2 with h:=h0}) hu hs;rw[es];exact h5 j s.h s.nx (h0::hr) rfl rfl ⟨_,h7⟩ h1 h2 h6
  ·have hw:isW x.k=true:=by simpa[isW] using hx'
   rw[iq hw];obtain⟨rfl,_⟩:=step2 hx' e1;have hb1:=hb hw hj;rcases h with h | ⟨⟨h1,h2,h3,h4,h5⟩,h6⟩
   ·rw[es];exact h (j.up 1) _ _ _ rfl rfl
   ·obtain⟨q,hq⟩: ∃ q,j.back=q+1:=⟨j.back - 1,by omega⟩;have hm:h0 ∈ j.seen (s2.h::h0::hr):=by
     unfold ADr.seen;cases j.fl <;> simp[hq]
    obtain⟨u,hu⟩:=h2 h0 hm;have h7:=kjl h4 (s:={s2 with h:=h0}) hu hs;have hsub: ∀ g' ∈ (j.up 1).seen (h0::hr),g' ∈ j.seen (s2.h::h0::hr):=fun g' hg'=>by
     unfold ADr.seen ADr.up at hg';simp only[hq,Nat.lt_add_one,decide_true,Bool.or_true,if_true,Nat.add_sub_cancel] at hg';unfold ADr.seen;cases j.fl <;> simp only[hq,Bool.false_eq_true,if_false,if_true]
     ·exact hg'
     ·rw[yad];exact List.mem_cons_of_mem _ hg'
    rw[es];refine h5 (j.up 1) s.h s.nx (h0::hr) rfl rfl ⟨_,h7⟩ ?_ (fun g' hg'=>h2 g' (hsub g' hg')) (fun _=>h6 (List.ne_nil_of_mem hm));simp only[ADr.up,hq,List.length_cons] at h1 ⊢;omega
  ·obtain⟨rfl,rfl,h'⟩:=kkt hx' e1;rw[ir (by simp[isW];omega),ADr.up_zero];exact e2
theorem kkr (s:St) (d:Option Nat) (v:AV):s.set d v={s with r:=match d with |some d=>s.r.put d (some v) |none=>s.r}:=by cases d <;> rfl
theorem k34 {r:T AV} {d:Option Nat} {v:AV} {t:Nat} (h: ∀ e,d=some e->e≠t):((match d with |some d=>r.put d (some v) |none=>r).get t).getD (.tup [])=(r.get t).getD (.tup []):=by
 cases d with
 |none=>rfl
 |some d=>simp only[T.get_put,ir (h d rfl)]
theorem qev (hfr:kfp ex) {l2:List ADr} {e:St}: ∀ (l1:List ADr) (s:St) (hist:List (T Blk)),kjs s hist->(∀ x ∈ l1,kip x.o j.o=true/\kgg x j=true)->(4<=j.k->l1.countP (fun x=>isW x.k)<=j.back)->
  (j.k=1->s.h.get (nx0+j.i)=none/\nx0+j.i<s.nx)->
  kch F K ex nx0 (l1++j::l2) s hist=some e->kch F K ex nx0 (j.up (l1.countP fun x=>isW x.k)::(l1++l2)) s hist=some e:=by
 intro l1
 induction l1 with
 |nil=>intro s hist _ _ _ _ h;simpa[ADr.up_zero] using h
 |cons x l1 ih=>
  intro s hist g hx hc hf h;simp only[yaf,kch] at h;cases e1:kav F K ex nx0 hist x s with
  |none=>simp[e1] at h
  |some p=>
   obtain⟨vx,s1,hist1⟩:=p;simp only[e1] at h;obtain⟨hap,hkk⟩:=hx x (by simp);have hcnt:(x::l1).countP (fun x=>isW x.k)=l1.countP (fun x=>isW x.k)+(if isW x.k=true then 1 else 0):=by
    rw[List.countP_cons]
   have g1:=kye g e1;have gs:kjs (s1.set x.o.dst vx) hist1:=by rw[kkr];exact g1
   have h2:=ih (s1.set x.o.dst vx) hist1 gs (fun y hy=>hx y (by simp[hy])) (fun hj=>by have:=hc hj;omega) (fun hj=>by
    obtain⟨f1,f2⟩:=hf hj;simp only[kgg,hj,yab,yaa,bne_iff_ne,ne_eq,beq_iff_eq,decide_eq_true_eq] at hkk;have hq:x.i≠j.i:=by
     rcases hkk with(h | ⟨_,h⟩) | ⟨h,_⟩
     ·omega
     ·exact h
     ·omega
    have:=k8x hfr f1 f2 (fun _ e=>hq (by omega)) e1;rw[kkr];exact this) h
   generalize hm:l1.countP (fun x=>isW x.k)=c at*;simp only[kch] at h2;cases e2:kav F K ex nx0 hist1 (j.up c) (s1.set x.o.dst vx) with
   |none=>simp[e2] at h2
   |some p=>
    obtain⟨vj,s2,hist2⟩:=p;simp only[e2] at h2;obtain⟨a1,a2,a3⟩:=k52 hap;rw[kkr,kqh (o:=j.up c) fun t ht=>k34 fun d hd e=>a1 d hd (e ▸ ht)] at e2;cases e3:kav F K ex nx0 hist1 (j.up c) s1 with
    |none=>simp[e3] at e2
    |some p=>
     obtain⟨vj',s2',hist2'⟩:=p;simp only[e3,Option.map_some,Option.some.injEq,Prod.mk.injEq] at e2;obtain⟨rfl,rfl,rfl⟩:=e2;have hk2:kgg x (j.up c)=true:=by
      simp only[kgg,yab,yaa] at hkk ⊢;rcases hkk with hkk | ⟨h3,h4⟩
      ·exact .inl hkk
      ·exact .inr ⟨h3,h4.imp id fun h=>by simp[ADr.up,h]⟩
     obtain⟨s1',hist3,e4,e5,e8⟩:=k91 hfr hk2 (fun hx2 hj3=>by
      have:=hc hj3;rw[hcnt,iq hx2] at this;simp only[ADr.up];omega) hf g e1 e3
     rw[ADr.up_up,←hcnt] at e4;simp only[yaf,kch,e4];have r1:s1.r=s.r:=kmz e1;have r2:s1'.r=s.r:=kmz e4;have r3:s2'.r=s1.r:=kmz e3;have e6:kav F K ex nx0 hist x (s1'.set j.o.dst vj')=some (vx,{s2' with r:=(s1'.set j.o.dst vj').r},hist3):=by
      have e7:s1'.set j.o.dst vj'={s1' with r:=(s1'.set j.o.dst vj').r}:=by cases j.o.dst <;> rfl
      rw[e7,kqh (o:=x) (s:=s1') (fun t ht=>by rw[kkr];exact k34 fun d hd e=>a3 d hd (e ▸ ht)),e5];rfl
     rw[show(j.up (List.countP (fun x=>isW x.k) (x::l1))).o.dst=j.o.dst from rfl,e6];simp only;have:({s2' with r:=(s1'.set j.o.dst vj').r}:St).set x.o.dst vx=({r:=match x.o.dst with |some d=>s1.r.put d (some vx) |none=>s1.r,h:=s2'.h,nx:=s2'.nx}:St).set (j.up c).o.dst vj':=by
      have hd:(j.up c).o.dst=j.o.dst:=rfl;simp only[kkr,hd,r1,r2];cases hxd:x.o.dst with
      |none=>rfl
      |some d=>
       cases hjd:j.o.dst with
       |none=>rfl
       |some d'=>
        simp only[St.mk.injEq,and_self,and_true];exact T.put_comm _ _ _ (fun e=>a2 d hxd (hjd.trans (by rw[e])))
     rw[this];exact kyj e8 h2
end
end Go.Proofs.Hz
