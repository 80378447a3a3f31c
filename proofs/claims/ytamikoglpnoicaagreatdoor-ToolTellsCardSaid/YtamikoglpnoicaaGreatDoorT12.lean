/-
  Each operation: what the abstract evaluator says of it the machine does (ninth part: append; bytes to a string).
  Conditions: none.
-/
import Derived.Test.YtamikoglpnoicaaGreatDoorT11
namespace Go.Proofs.Hz
open Bool renaming false_eq_true->ya1
open Go.Builtin renaming zeroCells->yaa,append_->yab,firstCells->yac,nextslicecap->yai,lenOf->yaq
open Int renaming toNat_natCast->ya5
open List renaming getElem?_append_left->yad,getElem?_eq_some_iff->yaf,replicate->yag,take_of_length_le->yah,getElem?_append_right->yao,getElem?_cons_zero->yar,getElem?_cons_succ->yas,getElem?_toArray->yau,length_append->ya2,getElem?_take->ya4,size_toArray->ya6,append_assoc->ya7
open Nat renaming le_refl->yae,mul_le_mul_right->yaj,add_mul->yal,lt_succ_self->yan,le_succ->yat,zero_le->yaz,le_of_eq->ya8
open Option renaming map_some->yax
open Option.some renaming injEq->yap
open Prod.mk renaming injEq->ya3
open Ren renaming set_same->yam,set_ne->yay
open Go.Result renaming andThen_ok->yak
open Go.Sem renaming run_bind->yav,run_pure->yaw
open UInt8 renaming ofNat->ya0
open Go.RowKit
section
variable {G:Gl} {C:CodeRel} {P:Program} {D D':Nat->Prop} {ρ ρ':Ren} {w w':World} {V V':Ids} {h h':T Blk} {s s':St} {a:Act}
def BPost (C:CodeRel) (D:Nat->Prop) (ρ:Ren) (w:World) (V:Ids) (s s':St) (v:AV) (res:Result Value):Prop:=
 ∃ val w' D' ρ' V',res= .ok val w'/\R D' w' V' ρ' v val/\HRel C D' w' V' ρ' s'.h/\Ext D ρ w V D' ρ' w' V'/\s'.r=s.r/\s.nx<=s'.nx/\
  (∀ i,V' i->V i\/(s.nx<=i/\i<s'.nx))/\ ∀ b,D' b->b<w'.heap.size
theorem BPost.same (H:HRel C D w V ρ s.h) (db: ∀ b,D b->b<w.heap.size) {v:AV} {val:Value} {res:Result Value} (hr:res= .ok val w) (hv:R D w V ρ v val):BPost C D ρ w V s s v res:=
 ⟨val,w,D,ρ,V,hr,hv,H,.refl D ρ w V,rfl,yae _,fun _ h=> .inl h,db⟩
theorem Ext.drew:Ext D ρ w V D ρ w.drew V:=
 ⟨fun _ h=>h,rfl,rfl,rfl,yae _,fun _ h=>h,fun _ _ _=>rfl,fun _ real _ mk h=>⟨real,mk,h,rfl⟩,fun _ r h=>⟨r,h,rfl⟩,fun _ _ _ h=>h,fun id _ h=> .inl ⟨id,h⟩,fun _ h=> .inl h⟩
theorem HRel.drew (H:HRel C D w V ρ h) (db: ∀ b,D b->b<w.heap.size):HRel C D w.drew V ρ h:=
 ⟨H.lo,H.dom,H.inj,fun id k hk=>let ⟨b,h1,h2⟩:=H.bk id k hk;⟨b,h1,h2.ext Ext.drew db rfl (fun h=>h)⟩⟩
theorem kro {u:TypeId} (hs:ki3 P u=true):(∃ e,P.underlying u=some (.slice e))\/P.underlying u=some .string:=by
 unfold ki3 at hs;split at hs
 ·rename_i e hu;exact .inl ⟨e,hu⟩
 ·rename_i hu;exact .inr hu
 ·cases hs
theorem k37 {t u e:TypeId} (hu:P.underlying t=some (.slice e)) (hs:ki3 P u=true) {sz:Nat} (hsz:szO P e=some sz) {ts:Array TypeId} {ty:TypeId} (h0:ts[0]? =some t) (h1:ts[1]? =some u)
  {ad:Addr} {k cap n:Nat} {xv:Value} (hl:(yaq xv).run P w= .ok n w) {news:List Value} (hn:(yac sz n xv).run P w= .ok news.toArray w) (hfit:k+n<=cap)
  (hst:(storeCells (ad.add (k*sz)) news).run P w= .ok () w'):
  (yab ts ty #[.slice (some ad) k cap,xv]).run P w= .ok (.slice (some ad) (k+n) cap) w':=by
 rcases kro hs with⟨e',hd⟩ |hd <;> simp[yab,h0,h1,run_underlying hu,kcj hsz,run_underlying hd,hl,hfit,hn,hst]
theorem kl7 {t u e:TypeId} (hu:P.underlying t=some (.slice e)) (hs:ki3 P u=true) {sz:Nat} (hsz:szO P e=some sz) {ts:Array TypeId} {ty:TypeId} (h0:ts[0]? =some t) (h1:ts[1]? =some u)
  {ad:Option Addr} {k cap:Nat} {xv:Value} (hl:(yaq xv).run P w= .ok 0 w) (hn:(yac sz 0 xv).run P w= .ok #[] w) (hfit:k<=cap):
  (yab ts ty #[.slice ad k cap,xv]).run P w= .ok (.slice ad k cap) w:=by
 rcases kro hs with⟨e',hd⟩ |hd <;> cases ad <;> simp[yab,h0,h1,run_underlying hu,kcj hsz,run_underlying hd,hl,hfit,hn,storeCells]
theorem qnw {t u e:TypeId} (hu:P.underlying t=some (.slice e)) (hs:ki3 P u=true) {sz by_:Nat} (hsz:szO P e=some sz) (hby:byO P e=some by_) {zc:Value} (hz: ∀ w:World,(zeroValue e).run P w= .ok zc w) {ts:Array TypeId} {ty:TypeId} (h0:ts[0]? =some t) (h1:ts[1]? =some u)
  {ad:Option Addr} {k cap n:Nat} {xv:Value} (hl:(yaq xv).run P w= .ok n w) {olds news:List Value} (ho:(yac sz k (.slice ad k cap)).run P w.drew= .ok olds.toArray w.drew) (hn:(yac sz n xv).run P w.drew= .ok news.toArray w.drew)
  (hgrow: ¬k+n<=cap) (hroom:(k+n)*by_<=kaq) (hroom2:k+n<=kaq):
  ∃ nc,k+n<=nc/\(yab ts ty #[.slice ad k cap,xv]).run P w= .ok (.slice (some ⟨w.heap.size,0,none⟩) (k+n) nc) (w.drew.alloc (.cells (olds.toArray++news.toArray++yaa zc.cells (nc - (k+n))) e)):=by
 have hti: ∀ w:World,∃ i,(typeInfo e).run P w= .ok i w/\i.bytes=by_:=fun w=>ko7 hby w
 unfold kaq at hroom hroom2;have hfits:yai (k+n) cap*by_<=281474976710656:=growslice_fits (by omega) hroom;refine⟨(Question.appendCap (k+n) cap e).cut (w.tape w.drawn (.appendCap (k+n) cap e)),by simp[Question.cut],?_⟩;have hmax:IntKind.i64.max=9223372036854775807:=by decide
 obtain⟨i1,q1,q2⟩:=hti w;obtain⟨i2,q3,q4⟩:=hti w.drew;have hn48: ¬(yai (k+n) cap*i1.bytes > 2 ^ 48):=by rw[q2];omega
 have hbig: ¬(((k+n:Nat):Int) > IntKind.i64.max):=by rw[hmax];omega
 have hch:(choose (.appendCap (k+n) cap e)).run P w= .ok ((Question.appendCap (k+n) cap e).cut (w.tape w.drawn (.appendCap (k+n) cap e))) w.drew:=by
  rw[run_choose];rfl
 rcases kro hs with⟨e',hd⟩ |hd
 all_goals
  simp only[yab,h0,h1,yau,yar,yas,yav,run_underlying hu,run_underlying hd,yak,kcj hsz,yaw,ya1,if_false,Sem.run_ite,hl,hgrow,q1,hbig,false_and];simp only[hn48,if_false,hch,yak,q3,run_askRoom,ho,hn,hz,newRow,yav,run_newObj,yaw,Bool.not_false,if_true];rfl
theorem qrc {m:Int} (h0:0<=m) (h1:m<=140737488355328):IntKind.i64.wrap m=m:=by
 have:IntKind.i64.bits=64:=rfl;simp only[IntKind.wrap,IntKind.signed,this]
 first |omega |(simp;omega) |skip
theorem qnx {t u e:TypeId} (hu:P.underlying t=some (.slice e)) (hs:kka P u=true) {sz by_:Nat} (hsz:szO P e=some sz) (hby:byO P e=some by_) {zc:Value} (hz: ∀ w:World,(zeroValue e).run P w= .ok zc w) {ts:Array TypeId} {ty:TypeId} (h0:ts[0]? =some t) (h1:ts[1]? =some u)
  {ad:Option Addr} {k cap n:Nat} {kk:IntKind} {olds:List Value} (ho:(yac sz k (.slice ad k cap)).run P w.drew= .ok olds.toArray w.drew)
  (hgrow: ¬k+n<=cap) (hroom:(k+n)*by_<=kaq) (hroom2:k+n<=kaq) (hn0:n*sz≠0):
  ∃ nc,k+n<=nc/\(yab ts ty #[.slice ad k cap,.int kk n]).run P w= .ok (.slice (some ⟨w.heap.size,0,none⟩) (k+n) nc) (w.drew.alloc (.cells (olds.toArray++yaa zc.cells n++yaa zc.cells (nc - (k+n))) e)):=by
 have hti: ∀ w:World,∃ i,(typeInfo e).run P w= .ok i w/\i.bytes=by_:=fun w=>ko7 hby w
 unfold kaq at hroom hroom2;have hfits:yai (k+n) cap*by_<=281474976710656:=growslice_fits (by omega) hroom;refine⟨(Question.appendCap (k+n) cap e).cut (w.tape w.drawn (.appendCap (k+n) cap e)),by simp[Question.cut],?_⟩;have hmax:IntKind.i64.max=9223372036854775807:=by decide
 obtain⟨i1,q1,q2⟩:=hti w;obtain⟨i2,q3,q4⟩:=hti w.drew;have hn48: ¬(yai (k+n) cap*i1.bytes > 2 ^ 48):=by rw[q2];omega
 have hbig: ¬(((k+n:Nat):Int) > IntKind.i64.max):=by rw[hmax];omega
 have hw:IntKind.i64.wrap (n:Int)=(n:Int):=qrc (by omega) (by omega);have hneg: ¬((n:Int)<0):=by omega
 have h48: ¬((n:Int)*(i1.bytes:Int) > 2 ^ 48):=by
  rw[q2];have:n*by_<=(k+n)*by_:=yaj _ (by omega);have h3:((n*by_:Nat):Int)<=140737488355328:=by omega
  rw[Int.natCast_mul] at h3;omega
 have hch:(choose (.appendCap (k+n) cap e)).run P w= .ok ((Question.appendCap (k+n) cap e).cut (w.tape w.drawn (.appendCap (k+n) cap e))) w.drew:=by
  rw[run_choose];rfl
 have hai:(asInt (.int kk (n:Int))).run P w= .ok (n:Int) w:=by simp[asInt,asIntOf]
 unfold kka at hs;split at hs
 ·rename_i kd hd;simp only[yab,h0,h1,yau,yar,yas,yav,run_underlying hu,run_underlying hd,yak,kcj hsz,yaw,if_true,hai,hw,Sem.run_ite,hneg,if_false,q1,h48,ya5,hgrow,hbig,false_and];simp only[hn48,if_false,hch,yak,q3,run_askRoom,ho,hn0,hz,newRow,yav,run_newObj,yaw,Bool.not_true,ya1];rfl
 ·cases hs
theorem kk5 (H:HRel C D w V ρ s.h) (db: ∀ b,D b->b<w.heap.size) (hf: ¬V s.nx) {t u e:TypeId} (hu:P.underlying t=some (.slice e)) (hsq:ki3 P u=true) {sz by_:Nat} (hsz:szO P e=some sz) (hby:byO P e=some by_) {z:List AV} (hz:zO P e=some z) (hzl:z.length=sz) {ts:Array TypeId} {ty:TypeId} (h0:ts[0]? =some t) (h1:ts[1]? =some u)
  {ad:Option Addr} {k cap n:Nat} {xv:Value} {old xs:List AV} {x d:AV} (hRd:R D w V ρ d (.slice ad k cap)) (hRx:R D w V ρ x xv) (hd:kbn s.h sz d=some (k,old)) (hx:kbn s.h sz x=some (n,xs))
  (hgrow: ¬k+n<=cap) (hroom:(k+n)*by_<=kaq) (hroom2:k+n<=kaq):
  BPost C D ρ w V s (s.new (.cells (old++xs) false e)) (.sl s.nx 0 (k+n) sz none) ((yab ts ty #[.slice ad k cap,xv]).run P w):=by
 have H1:HRel C D w.drew V ρ s.h:=H.drew db;have e1:Ext D ρ w V D ρ w.drew V:=Ext.drew;have db1: ∀ b,D b->b<w.drew.heap.size:=db;obtain⟨zc,hz1,hz2⟩:=kid hz w;have hza: ∀ w:World,(zeroValue e).run P w= .ok zc w:=fun w1=>by
  obtain⟨zc',hz1',_⟩:=kid hz w1;unfold zO at hz;cases hi:P.info? e with
  |none=>simp[hi] at hz
  |some i=>
   simp only[hi] at hz;cases hq:i.zero with
   |none=>simp[hq] at hz
   |some z0=>
    simp[zeroValue,typeInfo,hi,hq] at hz1;simp[zeroValue,typeInfo,hi,hq,hz1]
 have hzs:zc.cells.size=sz:=by
  have:=(kf4 (D:=D) (w:=w) (V:=V) (ρ:=ρ) hz2).1;simp at this;omega
 obtain⟨olds,p1,p2,p3,p4⟩:=kiu (P:=P) H1 (hRd.ext e1 db) hd;obtain⟨news,q1,q2,q3,q4⟩:=kiu (P:=P) H1 (hRx.ext e1 db) hx;obtain⟨_,r1,_⟩:=kiu (P:=P) H hRx hx;have ho:=p4 k (yae _);have hn:=q4 n (yae _);have hol:olds.length=k*sz:=by rw[←p2.1,p3]
 have hnl:news.length=n*sz:=by rw[←q2.1,q3]
 rw[yah (by omega)] at ho hn;obtain⟨nc,hnc,hrun⟩:=qnw (ty:=ty) hu hsq hsz hby hza h0 h1 r1 ho hn hgrow hroom hroom2;have hR:=p2.append q2;have hsize:(olds.toArray++news.toArray++yaa zc.cells (nc - (k+n))).size=nc*sz:=by
  simp only[Array.size_append,ya6,hol,hnl,yaa,Array.size_map,Array.size_range,hzs];rw[←yal,←yal];congr 1;omega
 have hle:(old++xs).length<=(olds.toArray++news.toArray++yaa zc.cells (nc - (k+n))).size:=by
  rw[hsize,ya2,p3,q3,←yal];exact yaj _ hnc
 have hget: ∀ (j:Nat) (v:Value),(olds++news)[j]? =some v->(olds.toArray++news.toArray++yaa zc.cells (nc - (k+n)))[j]? =some v:=by
  intro j v hv;have hlt:=(yaf.1 hv).1;rw[←Array.getElem?_toList];simp only[Array.toList_append];rw[yad (by simpa using hlt)];exact hv
 obtain⟨H2,e2⟩:=kr5 (C:=C) (s:=s) H1 db1 hf hR hle hget e;refine⟨_,_,D,_,_,hrun,?_,H2,e1.trans e2,rfl,yat _,fun i hi=> ?_,fun b hb=> ?_⟩
 ·exact R.newSl (w:=w.drew) (kez w.drew _) hnc (fun m hm=>by cases hm) (ya8 hsize.symm)
 ·rcases hi with hi |hi
  ·exact .inl hi
  ·subst hi;exact .inr ⟨yae _,yan _⟩
 ·have:=db b hb;simp;omega
theorem kzk (H:HRel C D w V ρ h) (db: ∀ b,D b->b<w.heap.size) {id b i':Nat} (hb:ρ id=some b) (hi': ¬V i') (k:Blk)
  (hk:Ext D ρ w V D ((ρ.set id none).set i' (some b)) w (V.add i')->BRel C D w (V.add i') ((ρ.set id none).set i' (some b)) b k):
  HRel C D w (V.add i') ((ρ.set id none).set i' (some b)) ((h.put id none).put i' (some k))/\Ext D ρ w V D ((ρ.set id none).set i' (some b)) w (V.add i'):=by
 have e:Ext D ρ w V D ((ρ.set id none).set i' (some b)) w (V.add i'):=by
  refine⟨fun _ h=> .inl h,rfl,rfl,rfl,yae _,fun _ h=>h,fun _ _ _=>rfl,fun _ real _ mk h=>⟨real,mk,h,rfl⟩,fun _ r h=>⟨r,h,rfl⟩,fun j c hj hc=> ?_,fun j c hc=> ?_,fun _ h=> .inl h⟩
  ·have hne:i'≠j:=fun e=>hi' (e ▸ hj)
   rw[yay _ _ hne] at hc;by_cases hj2:id=j
   ·subst hj2;rw[yam] at hc;cases hc
   ·rwa[yay _ _ hj2] at hc
  ·by_cases h1:i'=j
   ·subst h1;rw[yam] at hc;cases hc;exact .inl ⟨id,hb⟩
   ·rw[yay _ _ h1] at hc;by_cases hj2:id=j
    ·subst hj2;rw[yam] at hc;cases hc
    ·rw[yay _ _ hj2] at hc;exact .inl ⟨j,hc⟩
 obtain⟨H1,_⟩:=H.kill db id;refine⟨H1.rename hi' (fun j hj=> ?_) k (hk e),e⟩;by_cases hj2:id=j
 ·subst hj2;rw[yam] at hj;cases hj
 ·rw[yay _ _ hj2] at hj;exact hj2 (H.inj _ _ _ hb hj)
theorem k38 {t u e:TypeId} (hu:P.underlying t=some (.slice e)) (hs:kka P u=true) {sz by_:Nat} (hsz:szO P e=some sz) (hby:byO P e=some by_) {ts:Array TypeId} {ty:TypeId} (h0:ts[0]? =some t) (h1:ts[1]? =some u)
  {ad:Option Addr} {k cap:Nat} {kk:IntKind} (hfit:k<=cap):(yab ts ty #[.slice ad k cap,.int kk 0]).run P w= .ok (.slice ad k cap) w:=by
 obtain⟨i1,q1,q2⟩:=ko7 hby w;have hw:IntKind.i64.wrap 0=0:=by decide
 have hai:(asInt (.int kk 0)).run P w= .ok 0 w:=by simp[asInt,asIntOf]
 unfold kka at hs;split at hs
 ·rename_i kd hd;cases ad <;> simp[yab,h0,h1,run_underlying hu,run_underlying hd,kcj hsz,hai,hw,q1,hfit,storeCells]
 ·cases hs
theorem qro {e:TypeId} {zc:Value} {z:List AV} (hz2:mapO (kio P e) zc.cells.toList=some z) (n:Nat):RL D w V ρ (yag n z).flatten (yaa zc.cells n).toList:=by
 have h1:RL D w V ρ z zc.cells.toList:=kf4 hz2;have h2: ∀ n:Nat,RL D w V ρ (yag n z).flatten (yag n zc.cells.toList).flatten:=fun n=>by
  induction n with
  |zero=>exact RL.nil
  |succ n ih=>simp only[List.replicate_succ,List.flatten_cons];exact h1.append ih
 by_cases h0:0<zc.cells.size
 ·have:=h2 n;rw[←kwo zc.cells n h0] at this;exact this
 ·have hs:zc.cells.size=0:=by omega
  have hz:z=[]:=List.length_eq_zero_iff.1 (by rw[h1.1];simpa using hs);subst hz;have:yaa zc.cells n= #[]:=by simp[yaa,hs]
  rw[this];have h3: ∀ n:Nat,(yag n ([]:List AV)).flatten=[]:=fun n=>by simp
  rw[h3];exact RL.nil
theorem kww (H:HRel C D w V ρ s.h) (db: ∀ b,D b->b<w.heap.size) (hf: ¬V s.nx) {t u e:TypeId} (hu:P.underlying t=some (.slice e)) (hs:kka P u=true) {sz by_:Nat} (hsz:szO P e=some sz) (hby:byO P e=some by_) {z:List AV} (hz:zO P e=some z) (hzl:z.length=sz) {ts:Array TypeId} {ty:TypeId} (h0:ts[0]? =some t) (h1:ts[1]? =some u)
  {ad:Option Addr} {k cap n:Nat} {kk:IntKind} {old:List AV} {d:AV} (hRd:R D w V ρ d (.slice ad k cap)) (hd:kbn s.h sz d=some (k,old))
  (hgrow: ¬k+n<=cap) (hroom:(k+n)*by_<=kaq) (hroom2:k+n<=kaq) (hn0:n*sz≠0):
  BPost C D ρ w V s (s.new (.cells (old++(yag n z).flatten) false e)) (.sl s.nx 0 (k+n) sz none) ((yab ts ty #[.slice ad k cap,.int kk n]).run P w):=by
 have H1:HRel C D w.drew V ρ s.h:=H.drew db;have e1:Ext D ρ w V D ρ w.drew V:=Ext.drew;have db1: ∀ b,D b->b<w.drew.heap.size:=db;obtain⟨zc,hz1,hz2⟩:=kid hz w;have hza: ∀ w:World,(zeroValue e).run P w= .ok zc w:=fun w1=>by
  obtain⟨zc',hz1',_⟩:=kid hz w1;unfold zO at hz;cases hi:P.info? e with
  |none=>simp[hi] at hz
  |some i=>
   simp only[hi] at hz;cases hq:i.zero with
   |none=>simp[hq] at hz
   |some z0=>
    simp[zeroValue,typeInfo,hi,hq] at hz1;simp[zeroValue,typeInfo,hi,hq,hz1]
 have hzs:zc.cells.size=sz:=by
  have:=(kf4 (D:=D) (w:=w) (V:=V) (ρ:=ρ) hz2).1;simp at this;omega
 obtain⟨olds,p1,p2,p3,p4⟩:=kiu (P:=P) H1 (hRd.ext e1 db) hd;have q2:RL D w.drew V ρ (yag n z).flatten (yaa zc.cells n).toList:=qro hz2 n;have ho:=p4 k (yae _);have hol:olds.length=k*sz:=by rw[←p2.1,p3]
 have hnl:(yaa zc.cells n).size=n*sz:=by simp[yaa,hzs]
 rw[yah (by omega)] at ho;obtain⟨nc,hnc,hrun⟩:=qnx (ty:=ty) (kk:=kk) hu hs hsz hby hza h0 h1 ho hgrow hroom hroom2 hn0;have hR:=p2.append q2;have hsize:(olds.toArray++yaa zc.cells n++yaa zc.cells (nc - (k+n))).size=nc*sz:=by
  simp only[Array.size_append,ya6,hol,hnl];simp only[yaa,Array.size_map,Array.size_range,hzs];rw[←yal,←yal];congr 1;omega
 have hle:(old++(yag n z).flatten).length<=(olds.toArray++yaa zc.cells n++yaa zc.cells (nc - (k+n))).size:=by
  rw[hsize,hR.1,ya2,hol,Array.length_toList,hnl,←yal];exact yaj _ hnc
 have hget: ∀ (j:Nat) (v:Value),(olds++(yaa zc.cells n).toList)[j]? =some v->(olds.toArray++yaa zc.cells n++yaa zc.cells (nc - (k+n)))[j]? =some v:=by
  intro j v hv;have hlt:=(yaf.1 hv).1;rw[←Array.getElem?_toList];simp only[Array.toList_append];rw[yad (by simpa using hlt)];exact hv
 obtain⟨H2,e2⟩:=kr5 (C:=C) (s:=s) H1 db1 hf hR hle hget e;refine⟨_,_,D,_,_,hrun,?_,H2,e1.trans e2,rfl,yat _,fun i hi=> ?_,fun b hb=> ?_⟩
 ·exact R.newSl (w:=w.drew) (kez w.drew _) hnc (fun m hm=>by cases hm) (ya8 hsize.symm)
 ·rcases hi with hi |hi
  ·exact .inl hi
  ·subst hi;exact .inr ⟨yae _,yan _⟩
 ·have:=db b hb;simp;omega
theorem k57 (H:HRel C D w V ρ s.h) (db: ∀ b,D b->b<w.heap.size) (hf: ¬V s.nx) {t u:TypeId} {d' x':AO} {ao:AOp} (hc:kqa P t u d' x'=some ao) {ts:Array TypeId} {ty:TypeId} (h0:ts[0]? =some t) (h1:ts[1]? =some u)
  {dv xv:Value} (hRd:R D w V ρ (d'.ev s) dv) (hRx:R D w V ρ (x'.ev s) xv) {v:AV} (he:opA s ao=some (v,s')):BPost C D ρ w V s s' v ((yab ts ty #[dv,xv]).run P w):=by
 unfold kqa at hc;split at hc
 ·rename_i e hel;split at hc
  ·rename_i sz by_ z hsz hby hz;split at hc
   ·rename_i hcond;obtain⟨hzl,hsq⟩:=hcond;cases hc;have hu:=kl8 hel;simp only[opA] at he;split at he
    ·rename_i n xs hxe;split at he
     ·rename_i hone;obtain⟨hone1,hsz0⟩:=hone;obtain⟨news,q1,q2,q3,q4⟩:=kiu (P:=P) H hRx hxe;have hf0:(yac sz 0 xv).run P w= .ok #[] w:=by
       have:=q4 0 (yaz _);simpa using this
      split at he
      ·
       rename_i els cl hde;rw[hde] at hRd;split at he
       ·rename_i hn0;cases he;subst hn0;cases hRd with
        |imn hc ha=>exact .same H db (kl7 (ty:=ty) hu hsq hsz h0 h1 q1 hf0 (yaz _)) (.imn hc ha)
        |im c hn hcl hD hl hc h1'=>exact .same H db (kl7 (ty:=ty) hu hsq hsz h0 h1 q1 hf0 hn) (.im c hn hcl hD hl hc h1')
       ·rename_i hn0;split at he
        ·rename_i hcc;obtain⟨hcl,hall,hr1,hr2⟩:=hcc;cases he;subst hcl;have hd:kbn s.h sz (.im els true)=some (els.length,els.flatten):=by simp only[kbn,hall,if_true]
         cases hRd with
         | @imn _ _ _ ad cap hc ha=>
           have:=hc rfl;subst this;exact kk5 H db hf hu hsq hsz hby hz hzl h0 h1 (.imn hc ha) hRx hd hxe (by simp;omega) hr1 hr2
         |im c hn hcl hD hl hc h1'=>
          have:=hcl rfl;subst this;exact kk5 H db hf hu hsq hsz hby hz hzl h0 h1 (.im c hn hcl hD hl hc h1') hRx hd hxe (by omega) hr1 hr2
        ·cases he
      ·
       rename_i hde;rw[hde] at hRd;cases hRd;split at he
       ·rename_i hn0;cases he;subst hn0;exact .same H db (kl7 (ty:=ty) hu hsq hsz h0 h1 q1 hf0 (yaz _)) .nils
       ·rename_i hn0;split at he
        ·rename_i hcc;obtain⟨hr1,hr2⟩:=hcc;cases he;have hd:kbn s.h sz (.im [] true)=some (0,[]):=by simp[kbn]
         have:=kk5 (ty:=ty) (ad:=none) (cap:=0) (k:=0) (n:=n) H db hf hu hsq hsz hby hz hzl h0 h1 (.imn (fun _=>rfl) (fun _=>rfl)) hRx hd hxe (by omega) (by simpa using hr1) (by simpa using hr2);simpa using this
        ·cases he
      ·
       rename_i id off k z' c hde;rw[hde] at hRd;split at he
       ·cases he
       ·rename_i hzz;have hzz':z'=sz:=by simpa using hzz
        subst hzz';split at he
        ·rename_i hn0;obtain⟨hn0,_⟩:=hn0;cases he;subst hn0;cases hRd with
         |sl hid hn hc ha=>exact .same H db (kl7 (ty:=ty) hu hsq hsz h0 h1 q1 hf0 hn) (.sl hid hn hc ha)
        ·rename_i hn0;split at he
         ·rename_i hroom;obtain⟨hr1,hr2⟩:=hroom;split at he
          ·rename_i cs fz bty hg;obtain⟨b,hb,hB⟩:=H.bk id _ hg;have hvl:news.length=n*z':=by rw[←q2.1,q3]
           have hnfull:=q4 n (yae _);rw[yah (by omega)] at hnfull;cases hRd with
           | @sl _ _ _ _ _ _ _ ad cap hid hn hc ha=>
             split at he
             ·rename_i m;have hn0: ¬n=0:=fun e=>hn0 ⟨e,rfl⟩
              have hcm:=hc m rfl;subst hcm;split at he
              ·
               rename_i hfit;cases hw:wrH s.h id (off+k*z') xs with
               |none=>simp[hw] at he
               |some h'=>
                simp only[hw,yax,yap,ya3] at he;obtain⟨rfl,rfl⟩:=he;obtain⟨b',hb',hrun,H',ex⟩:=kwn (P:=P) H db hw q2;rw[hb] at hb';cases hb';have had:ad=⟨b,off,none⟩:=by
                 rcases ha b hb with hz0 | ⟨e2,_⟩
                 ·omega
                 ·exact e2
                have hrn:=k37 (ty:=ty) (k:=k) (cap:=cap) (ad:=ad) hu hsq hsz h0 h1 q1 hnfull hfit (by rw[had,kdj];exact hrun);refine⟨_,_,D,ρ,V,hrn,?_,H',ex,rfl,yae _,fun _ h=> .inl h,fun c hc=>Nat.lt_of_lt_of_le (db c hc) ex.size⟩;exact .sl hid hfit (fun k hk=>Option.some.inj hk) (fun c hc'=>by
                 rcases ha c hc' with hz0 | ⟨e2,real,ty2,mk,k1,k2⟩
                 ·exact .inl hz0
                 ·obtain⟨real',mk',k3,k4⟩:=ex.shape _ _ _ _ k1;exact .inr ⟨e2,real',ty2,mk',k3,by omega⟩)
              ·rename_i hnf;split at he
               ·rename_i old hold;cases he;have hd:kbn s.h z' (.sl id off k z' (some cap))=some (k,old):=by simp only[kbn,if_true,hg,hold,yax]
                exact kk5 H db hf hu hsq hsz hby hz hzl h0 h1 (.sl hid hn hc ha) hRx hd hxe hnf hr1 hr2
               ·cases he
             ·split at he
              ·rename_i hcc;obtain⟨hfz,hoff,hlen,hbty⟩:=hcc;generalize hcs':cs.take (k*z')=cs' at he;have hlen':cs'.length=k*z':=by rw[←hcs'];simp;omega
               have hsub: ∀ (j:Nat) (x:AV),cs'[j]? =some x->cs[j]? =some x:=fun j x hx=>by
                rw[←hcs',ya4] at hx;split at hx
                ·exact hx
                ·cases hx
               subst hfz;subst hoff;subst hbty;simp only[yap,ya3] at he;obtain⟨rfl,rfl⟩:=he;by_cases hn1:n=0
               ·
                subst hn1;have hxs:xs=[]:=List.eq_nil_of_length_eq_zero (by rw[q3];simp);subst hxs;obtain⟨_,hnd,real,mk,k1,k2,k3,k4⟩:=hB;have hnD:=hnd rfl;obtain⟨H2,e2⟩:=kzk H db hb hf (.cells (cs'++[]) false bty) (fun e2=>⟨(fun h=>by cases h),(fun _=>hnD),real,mk,k1,k2,by simp[hlen'];omega,fun j x hx=>by
                 rw[List.append_nil] at hx;obtain⟨v,hv,hr⟩:=k4 j x (hsub j x hx);exact⟨v,hv,hr.ext e2 db⟩⟩)
                refine⟨_,_,D,_,_,kl7 (ty:=ty) hu hsq hsz h0 h1 q1 hf0 hn,?_,H2,e2,rfl,yat _,fun i hi=> ?_,db⟩
                ·refine .sl (.inr rfl) (by omega) (fun m hm=>by cases hm) (fun c hc'=> ?_);rw[yam] at hc';cases hc';exact ha b hb
                ·rcases hi with hi |hi
                 ·exact .inl hi
                 ·subst hi;exact .inr ⟨yae _,yan _⟩
               by_cases hfit:k+n<=cap
               ·
                obtain⟨_,hnd,real,mk,k1,k2,k3,k4⟩:=hB;have hnD:=hnd rfl;have had:ad=⟨b,0,none⟩/\cap*z'<=real.size:=by
                 rcases ha b hb with hz0 | ⟨e2,real',ty',mk',g1,g2⟩
                 ·omega
                 ·rw[k1] at g1;cases g1;exact⟨e2,by omega⟩
                obtain⟨had,hcap⟩:=had;have hkn:k*z'+n*z'<=real.size:=by
                 rw[←yal];exact Nat.le_trans (yaj _ hfit) hcap
                have hst:=k4d (P:=P) (off:=k*z') k1 k2 (vs:=news) (by omega) (q2.one hone1);obtain⟨m1,m2,m3,m4⟩:=kv0 b news (k*z') w;obtain⟨real',g1,g2⟩:=kvz b news (k*z') w real k1 (by omega);have hsz':real'.size=real.size:=by
                 have:=congrArg List.length g2;simp at this;omega
                have e1:Ext D ρ w V D ρ (w.setCells b (k*z') news) V:=Ext.upd hb hnD m1 m2 m3 m4 (fun c hc=>kma b hc news _ w) (fun r t m hr=>by
                 rw[k1] at hr;cases hr;exact⟨real',_,g1,hsz'⟩) (fun r hr=>by rw[k1] at hr;cases hr)
                have hkeep: ∀ j,j<k*z'->real'[j]? =real[j]? :=fun j hj=>by
                 rw[←Array.getElem?_toList,g2,ya7,yad (by simp;omega),ya4,iq hj,Array.getElem?_toList]
                have H1:HRel C D (w.setCells b (k*z') news) V ρ (s.h.put id (some (.cells cs' false bty))):=H.upd db hb e1 (fun c hc=>kma b hc news _ w) _
                 ⟨(fun h=>by cases h),(fun _=>hnD),real',mk,g1,by rw[hsz'];exact k2,by omega,fun j x hx=>by
                   obtain⟨v,hv,hr⟩:=k4 j x (hsub j x hx);exact⟨v,by rw[hkeep j (by have:=(yaf.1 hx).1;omega)];exact hv,hr.ext e1 db⟩⟩
                have db1: ∀ c,D c->c<(w.setCells b (k*z') news).heap.size:=fun c hc=>by rw[m4];exact db c hc
                obtain⟨H2,e2⟩:=kzk H1 db1 hb hf (.cells (cs'++xs) false bty) (fun e2=>by
                 refine⟨(fun h=>by cases h),(fun _=>hnD),real',mk,g1,by rw[hsz'];exact k2,by simp[hlen',q3];omega,fun j x hx=> ?_⟩;by_cases hj:j<cs'.length
                 ·rw[yad hj] at hx;obtain⟨v,hv,hr⟩:=k4 j x (hsub j x hx);exact⟨v,by rw[hkeep j (by omega)];exact hv,(hr.ext e1 db).ext e2 db1⟩
                 ·rw[yao (by omega)] at hx;have hlt:=(yaf.1 hx).1;have hv:=List.getElem?_eq_getElem (l:=news) (i:=j - cs'.length) (by omega);refine⟨news[j - cs'.length],?_,((q2.2 _ x _ hx hv).ext e1 db).ext e2 db1⟩;rw[←Array.getElem?_toList,g2,ya7,yao (by simp;omega)];have htl:(List.take (k*z') real.toList).length=k*z':=by simp;omega
                  rw[htl,yad (by omega),←hlen'];exact hv)
                have hrn:=k37 (ty:=ty) (k:=k) (cap:=cap) (ad:=ad) hu hsq hsz h0 h1 q1 hnfull hfit (by rw[had,kdj,Nat.zero_add];exact hst);have H3:HRel C D (w.setCells b (k*z') news) (V.add s.nx) ((ρ.set id none).set s.nx (some b)) ((s.h.put id none).put s.nx (some (.cells (cs'++xs) false bty))):=by
                 have hg2: ∀ j,((s.h.put id none).put s.nx (some (Blk.cells (cs'++xs) false bty))).get j=(((s.h.put id (some (Blk.cells cs' false bty))).put id none).put s.nx (some (.cells (cs'++xs) false bty))).get j:=fun j=>by
                  simp only[T.get_put];by_cases q1:s.nx=j
                  ·simp[q1]
                  ·by_cases q2:id=j
                   ·simp[q1,q2]
                   ·simp[q1,q2]
                 exact⟨fun j hj=>by rw[hg2];exact H2.lo j hj,fun j c hc=>by rw[hg2];exact H2.dom j c hc,H2.inj,fun j k hk=>by rw[hg2] at hk;exact H2.bk j k hk⟩
                refine⟨_,_,D,_,_,hrn,?_,H3,e1.trans e2,rfl,yat _,fun i hi=> ?_,db1⟩
                ·refine .sl (.inr rfl) hfit (fun m hm=>by cases hm) (fun c hc'=> ?_);rw[yam] at hc';cases hc';exact .inr ⟨had,real',bty,mk,g1,by omega⟩
                ·rcases hi with hi |hi
                 ·exact .inl hi
                 ·subst hi;exact .inr ⟨yae _,yan _⟩
               ·
                obtain⟨Hk,ek⟩:=H.kill db id;have hd:kbn s.h z' (.sl id 0 k z' none)=some (k,cs'):=by
                 simp only[kbn,if_true,hg];simp[kb2,hlen,hcs']
                obtain⟨val,w',D',ρ',V',p1,p2,p3,p4,p5,p6,p7,p8⟩:=kk5 (ty:=ty) H db hf hu hsq hsz hby hz hzl h0 h1 (.sl hid hn hc ha) hRx hd hxe hfit hr1 hr2;obtain⟨Hk2,ek2⟩:=p3.kill p8 id;refine⟨val,w',D',ρ'.set id none,V',p1,p2.ext ek2 p8,?_,p4.trans ek2,rfl,yat _,p7,p8⟩;have hne:id≠s.nx:=fun e=>hf (e ▸ hid)
                have hg2: ∀ j,((s.h.put id none).put s.nx (some (Blk.cells (cs'++xs) false bty))).get j=((s.new (.cells (cs'++xs) false bty)).h.put id none).get j:=fun j=>by
                 simp only[St.new,T.get_put];by_cases h1:s.nx=j
                 ·subst h1;simp[hne]
                 ·simp[h1]
                exact⟨fun j hj=>by rw[hg2];exact Hk2.lo j hj,fun j c hc=>by rw[hg2];exact Hk2.dom j c hc,Hk2.inj,fun j k hk=>by rw[hg2] at hk;exact Hk2.bk j k hk⟩
              ·cases he
          ·cases he
         ·cases he
      ·cases he
     ·cases he
    ·cases he
   ·split at hc
    ·rename_i hcond;obtain⟨hzl,hsi⟩:=hcond;cases hc;have hu:=kl8 hel;simp only[opA] at he;split at he
     ·rename_i m els cl hm hde;rw[hde] at hRd;unfold kcz at hm;split at hm
      ·rename_i kk q hq;split at hm
       ·rename_i hq0;cases hm;rw[hq] at hRx;cases hRx;obtain⟨n,rfl⟩: ∃ n:Nat,q=n:=⟨q.toNat,by omega⟩;rw[ya5] at he;split at he
        ·rename_i hn0;cases he;subst hn0;cases hRd with
         |imn hc ha=>exact .same H db (k38 (ty:=ty) (kk:=kk) hu hsi hsz hby h0 h1 (yaz _)) (.imn hc ha)
         |im c hn hcl hD hl hc h1'=>exact .same H db (k38 (ty:=ty) (kk:=kk) hu hsi hsz hby h0 h1 hn) (.im c hn hcl hD hl hc h1')
        ·rename_i hn0;split at he
         ·rename_i hcc;obtain⟨hcl,hall,hr1,hr2,hzz,hsz0,hone⟩:=hcc;cases he;subst hcl;have hd:kbn s.h sz (.im els true)=some (els.length,els.flatten):=by simp only[kbn,hall,if_true]
          have hns:n*sz≠0:=Nat.mul_ne_zero hn0 (by omega);cases hRd with
          | @imn _ _ _ ad cap hc ha=>
            have:=hc rfl;subst this;exact kww H db hf hu hsi hsz hby hz hzl h0 h1 (.imn hc ha) hd (by simp;omega) hr1 hr2 hns
          |im c hn hcl hD hl hc h1'=>
           have:=hcl rfl;subst this;exact kww H db hf hu hsi hsz hby hz hzl h0 h1 (.im c hn hcl hD hl hc h1') hd (by omega) hr1 hr2 hns
         ·cases he
       ·cases hm
      ·cases hm
     ·cases he
    ·cases hc
  ·cases hc
 ·cases hc
theorem k4z: ∀ {cs:List AV} {bs:List UInt8} {vs:List Value},kfl cs=some bs->RL D w V ρ cs vs-> ∃ ns:List Int,vs=ns.map (Value.int .u8)/\bs=ns.map fun n=>ya0 n.toNat
 | [],bs,vs,h,hR=>by
   cases h;have:=hR.inv_nil;subst this;exact⟨[],rfl,rfl⟩
 |c::cs,bs,vs,h,hR=>by
  obtain⟨v,us,rfl,r1,r2⟩:=hR.inv_cons;unfold kfl at h;split at h
  ·rename_i h0;cases h0
  ·rename_i n r h0;cases h0;cases hb:kfl cs with
   |none=>simp[hb] at h
   |some b=>
    simp[hb] at h;subst h;obtain⟨ns,e1,e2⟩:=k4z hb r2;cases r1;exact⟨n::ns,by simp[e1],by simp[e2]⟩
  ·cases h
theorem kx6: ∀ (ns:List Int) (b:ByteArray),(ns.foldl (fun r n=>r.push (ya0 n.toNat)) b).data.toList=b.data.toList++ns.map fun n=>ya0 n.toNat
 | [],b=>by simp
 |n::ns,b=>by rw[List.foldl_cons,kx6 ns];simp[ByteArray.push]
theorem k6m (H:HRel C D w V ρ s.h) (db: ∀ b,D b->b<w.heap.size) (hr:Regs D w V ρ s a) {o:Oper} {src dst e:TypeId} {x:Operand} (ho:o.op= .convert src dst x) (h1:P.underlying src=some (.slice e)) (h2:P.underlying dst=some .string) (h3:P.underlying e=some (.int .u8)) {x':AO} (hx:kar x=some x')
  {v:AV} (he:opA s (.b2s x')=some (v,s')):OpPost C D ρ w V s s' v ((execOp a.eval o).run P w):=by
 simp only[opA] at he;split at he
 ·rename_i n cs hel;have hR:=ka8 hr hx;generalize hxv:a.eval x=xv at hR;obtain⟨vs,q1,q2,q3,q4⟩:=kiu (P:=P) H hR hel;have hvl:vs.length=n:=by rw[←q2.1,q3];simp
  have hfull:=q4 n (yae _);rw[Nat.mul_one,yah (by omega)] at hfull;have key: ∀ (bs:List UInt8),kfl cs=some bs->(∃ ad l c,xv= .slice ad l c)->OpPost C D ρ w V s s (.str bs) ((execOp a.eval o).run P w):=by
   intro bs hb hsl;obtain⟨ad,l,c,rfl⟩:=hsl;obtain⟨ns,e1,e2⟩:=k4z hb q2;have hl:l=n:=by simpa[yaq] using q1
   subst hl;cases ad with
   |none=>
    have hv0:vs=[]:=by
     have: #[]=vs.toArray:=by simpa[yac] using hfull
     have:=congrArg Array.toList this;simpa using this.symm
    have hns:ns=[]:=by rw[hv0] at e1;simpa using e1.symm
    subst hns;exact .same H db (val:= .string .empty) (by simp[execOp,ho,hxv,convert,run_underlying h1,run_underlying h2,run_underlying h3,Conv.bytesToString]) (.str _ (by rw[e2];rfl))
   |some ad=>
    have hld:(loadCells ad l).run P w= .ok (ns.map (Value.int .u8)).toArray w:=by
     rw[←e1];simpa[yac] using hfull
    have hbt:=run_bytesToString (P:=P) w ad l c ns hld;exact .same H db (val:= .string (ns.foldl (fun r n=>r.push (ya0 n.toNat)) ByteArray.empty)) (by simp[execOp,ho,hxv,convert,run_underlying h1,run_underlying h2,run_underlying h3,hbt]) (.str _ (by rw[kx6,e2];rfl))
  split at he
  ·cases he
  ·rename_i hns;cases hb:kfl cs with
   |none=>simp[hb] at he
   |some bs=>
    simp only[hb,yax,yap,ya3] at he;obtain⟨rfl,rfl⟩:=he;refine key bs hb ?_;unfold kbn at hel;split at hel
    ·rename_i e0;rw[e0] at hR;cases hR
     ·exact⟨_,_,_,rfl⟩
     ·exact⟨_,_,_,rfl⟩
    ·rename_i e0;rw[e0] at hR;cases hR;exact⟨_,_,_,rfl⟩
    ·rename_i e0;exact absurd e0 (hns _)
    ·cases hel
 ·cases he
end
end Go.Proofs.Hz
