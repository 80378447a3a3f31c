/-
  Each operation: what the abstract evaluator says of it the machine does (third part: equality of structs, cutting slices, building).
  Conditions: none.
-/
import Derived.Test.YtamikoglpnoicaaGreatDoorT08
namespace Go.Proofs.Hz
open Bool renaming false_eq_true->yao
open Go.Builtin renaming cap_->yal,max_->yax,min_->yay
open List renaming length_flatten->yae,extract_eq_take_drop->yaf,drop_drop->yag,take->yah,drop->yai,length_eq_zero_iff->yaj,replicate_succ->yan,length_append->yap,length_cons->yaq,range'->yar,replicate->yav
open Nat renaming le_refl->yak,mul_le_mul_right->yam,add_mul->yau,sub_zero->yaw
open Go.Op renaming equalIn->yac,eqFields->yat
open Go.Result renaming andThen_ok->yaa
open Go.Sem renaming run_bind->yab,run_pure->yad,run_ite->yas
open Go.RowKit
section
variable {G:Gl} {C:CodeRel} {P:Program} {D D':Nat->Prop} {ρ ρ':Ren} {w w':World} {V V':Ids} {h:T Blk} {s s':St} {a:Act}
theorem kj4: ∀ {ks:List Nat} {xs ys:List AV} {b:Bool},kct ks xs ys=some b->xs.length=ks.length/\ys.length=ks.length
 | [],[],[],_,_=>⟨rfl,rfl⟩
 |k::ks,x::xs,y::ys,b,h=>by
  unfold kct at h;split at h
  ·rename_i _ _ _ h2;have:=kj4 h2;simp[this]
  ·cases h
 | [],_::_,_,_,h=>by cases h
 | [],[],_::_,_,h=>by cases h
 |_::_,[],_,_,h=>by cases h
 |_::_,_::_,[],_,h=>by cases h
theorem kqm: ∀ (k1:List Nat) {k2:List Nat} {xs ys:List AV} {b:Bool},kct (k1++k2) xs ys=some b->
  ∃ b1 b2,kct k1 (xs.take k1.length) (ys.take k1.length)=some b1/\kct k2 (xs.drop k1.length) (ys.drop k1.length)=some b2/\b=(b1 && b2)
 | [],k2,xs,ys,b,h=>⟨true,b,by simp[kct],by simpa using h,by simp⟩
 |k::k1,k2,x::xs,y::ys,b,h=>by
  simp only[List.cons_append,kct] at h;cases h1:kgt k x y with
  |none=>simp[h1] at h
  |some c=>
   cases h2:kct (k1++k2) xs ys with
   |none=>simp[h1,h2] at h
   |some d=>
    simp[h1,h2] at h;obtain⟨b1,b2,h3,h4,h5⟩:=kqm k1 h2;exact⟨c && b1,b2,by simp[kct,h1,h3],by simpa using h4,by rw[←h,h5,Bool.and_assoc]⟩
 |k::k1,_,[],_,_,h=>by cases h
 |k::k1,_,_::_,[],_,h=>by cases h
def mkV (P:Program) (t:TypeId) (l:List Value):Value:=if gO P t=some true then .agg l.toArray else l.headD undef
theorem kvv {t:TypeId} {n off:Nat} {g:Bool} (hg:gO P t=some g) (hn:szO P t=some n) (h1:g=false->n=1) {vs:Array Value} (hle:off+n<=vs.size):
  (part t vs off).run P w= .ok (mkV P t ((vs.toList.drop off).take n)) w:=by
 cases g with
 |true=>
  have:(yah n (yai off vs.toList)).toArray=vs.extract off (off+n):=by
   apply Array.ext';rw[Array.toList_extract,yaf];simp
  simp[part,kg5 hg,kcj hn,mkV,hg,this]
 |false=>
  have hn1:=h1 rfl;subst hn1;have hlt:off<vs.size:=by omega
  have:vs[off]? =some vs[off]:=Array.getElem?_eq_getElem hlt;have hd:(yah 1 (yai off vs.toList)).headD undef=vs[off]:=by
   rw[List.drop_eq_getElem_cons (by simpa using hlt)];simp
  simp only[part,yab,kg5 hg,yaa,this,mkV,hg,yao,if_false,yad,hd,Option.some.injEq]
theorem kql {k:Nat} {x y:AV} {b:Bool} (hb:kgt k x y=some b) {u v:Value} (hx:R D w V ρ x u) (hy:R D w V ρ y v):
  (k=0/\ ∃ k p q,u= .int k p/\v= .int k q/\b=(p == q))\/(k=1/\ ∃ p q,u= .bool p/\v= .bool q/\b=(p == q))\/(k=2/\ ∃ p q:ByteArray,u= .string p/\v= .string q/\b=(p == q)):=by
 unfold kgt at hb;split at hb
 ·split at hb
  ·rename_i hk;subst hk;cases hb;cases hx;cases hy;exact .inl ⟨rfl,_,_,_,rfl,rfl,rfl⟩
  ·cases hb
 ·cases hb;cases hx;cases hy;exact .inr (.inl ⟨rfl,_,_,rfl,rfl,rfl⟩)
 ·cases hb;cases hx with
  |str p hp=>cases hy with
   |str q hq=>
    refine .inr (.inr ⟨rfl,p,q,rfl,rfl,?_⟩);rw[beq_toListBytes,kjp,kjp,hp,hq]
 ·cases hb
theorem k0n {d:Nat} {t:TypeId} {ks:List Nat} (hp:kd4 P d t=some ks):szO P t=some ks.length/\ ∃ g,gO P t=some g/\(g=false->ks.length=1):=by
 cases d with
 |zero=>cases hp
 |succ d=>
  unfold kd4 at hp;split at hp
  ·rename_i hu;split at hp
   ·rename_i hs;cases hp;exact⟨hs,false,by simp[gO,hu],fun _=>rfl⟩
   ·cases hp
  ·rename_i hu;split at hp
   ·rename_i hs;cases hp;exact⟨hs,false,by simp[gO,hu],fun _=>rfl⟩
   ·cases hp
  ·rename_i hu;split at hp
   ·rename_i hs;cases hp;exact⟨hs,false,by simp[gO,hu],fun _=>rfl⟩
   ·cases hp
  ·rename_i fs hu;split at hp
   ·cases hp
   ·split at hp
    ·split at hp
     ·rename_i hs;cases hp;exact⟨hs,true,by simp[gO,hu],fun h=>by cases h⟩
     ·cases hp
    ·cases hp
  ·rename_i k e hu;split at hp
   ·split at hp
    ·rename_i hs;cases hp;exact⟨by rw[hs.1];simp[yae],true,by simp[gO,hu],fun h=>by cases h⟩
    ·cases hp
   ·cases hp
  ·cases hp
theorem k39 (d:Nat) {t:TypeId} {k k':IntKind} (hu:P.underlying t=some (.int k')) (x y:Int):(yac (d+1) t (.int k x) (.int k y)).run P w= .ok (x == y) w:=by
 simp only[yac,yab,run_underlying hu,yaa];simp
theorem qn0 (d:Nat) {t:TypeId} (hu:P.underlying t=some .string) (x y:ByteArray):(yac (d+1) t (.string x) (.string y)).run P w= .ok (x == y) w:=by
 simp only[yac,yab,run_underlying hu,yaa];rfl
def kiv (d e n:Nat) (xs ys:Array Value):List Nat->Sem Bool
 | []=>pure true
 |i::is=>do
  let x ←part e xs (i*n);let y ←part e ys (i*n);let r ←yac d e x y
  if(!r)=true then pure false else kiv d e n xs ys is
theorem qn1 (d len:Nat) {t e:TypeId} (hu:P.underlying t=some (.array len e)) {n:Nat} (hn:szO P e=some n) (xs ys:Array Value):
  (yac (d+1) t (.agg xs) (.agg ys)).run P w=(kiv d e n xs ys (yar 0 len)).run P w:=by
 simp only[yac,yab,run_underlying hu,yaa,kcj hn];simp only[Std.Legacy.Range.forIn_eq_forIn_range',Std.Legacy.Range.size,yaw,Nat.add_sub_cancel,Nat.div_one];generalize yar 0 len=l
 induction l generalizing w with
 |nil=>simp[kiv]
 |cons i l ih=>
  simp only[List.forIn_cons,kiv,yab,yas];generalize (part e xs (i*n)).run P w=r1;cases r1 with
  |halt x w1=>simp
  |ok a w1=>
   simp only[yaa];generalize (part e ys (i*n)).run P w1=r2;cases r2 with
   |halt x w2=>simp
   |ok b w2=>
    simp only[yaa];generalize (yac d e a b).run P w2=r3;cases r3 with
    |halt x w3=>simp
    |ok c w3=>
     simp only[yaa];cases c with
     |true=>simp only[Bool.not_true,yao,if_false,yad,yaa];exact ih
     |false=>simp
theorem k7q {d:Nat} (ih: ∀ {t:TypeId} {ks:List Nat},kd4 P d t=some ks-> ∀ {xs ys:List AV} {us vs:List Value} {b:Bool},RL D w V ρ xs us->RL D w V ρ ys vs->kct ks xs ys=some b-> ∀ dd,d<=dd->
   (yac dd t (mkV P t us) (mkV P t vs)).run P w= .ok b w) {us vs:Array Value} {dd:Nat} (hdd:d<=dd):
  ∀ (fs:List Field) (at_:Nat) (ks:List Nat),kkk (kd4 P d) at_ fs=some ks-> ∀ (xs ys:List AV) (b:Bool),RL D w V ρ xs (us.toList.drop at_)->RL D w V ρ ys (vs.toList.drop at_)->kct ks xs ys=some b->
   (yat dd us vs fs).run P w= .ok b w:=by
 intro fs
 induction fs with
 |nil=>
  intro at_ ks hk xs ys b _ _ hb;cases hk;have hl:=kj4 hb;have h1:xs=[]:=yaj.1 hl.1;have h2:ys=[]:=yaj.1 hl.2;subst h1;subst h2;cases hb;simp[yat]
 |cons f fs ihf=>
  intro at_ ks hk xs ys b hx hy hb;unfold kkk at hk;split at hk
  ·rename_i hname;split at hk
   ·rename_i k1 hk1;split at hk
    ·rename_i k2 hk2;cases hk;obtain⟨b1,b2,h1,h2,rfl⟩:=kqm k1 hb;obtain⟨hsz,g,hg,hg1⟩:=k0n hk1;have hlen:=kj4 hb;have hxl:xs.length=us.size - at_:=by rw[hx.1];simp
     have hyl:ys.length=vs.size - at_:=by rw[hy.1];simp
     have hp1:(part f.type us f.offset).run P w= .ok (mkV P f.type ((us.toList.drop at_).take k1.length)) w:=by
      by_cases h0:k1.length=0
      ·have hgt:g=true:=by cases g with
        |true=>rfl
        |false=>have:=hg1 rfl;omega
       subst hgt;have hz:(us.extract f.offset (f.offset+k1.length))= #[]:=by rw[h0];simp;omega
       simp only[part,yab,kg5 hg,yaa,kcj hsz,if_true,yad,hz,mkV,hg];simp[h0]
      ·rw[hname.2];exact kvv hg hsz hg1 (by simp at hlen;omega)
     have hp2:(part f.type vs f.offset).run P w= .ok (mkV P f.type ((vs.toList.drop at_).take k1.length)) w:=by
      by_cases h0:k1.length=0
      ·have hgt:g=true:=by cases g with
        |true=>rfl
        |false=>have:=hg1 rfl;omega
       subst hgt;have hz:(vs.extract f.offset (f.offset+k1.length))= #[]:=by rw[h0];simp;omega
       simp only[part,yab,kg5 hg,yaa,kcj hsz,if_true,yad,hz,mkV,hg];simp[h0]
      ·rw[hname.2];exact kvv hg hsz hg1 (by simp at hlen;omega)
     have he:=ih hk1 (hx.take _) (hy.take _) h1 dd hdd;have hrest:=ihf (at_+k1.length) k2 hk2 _ _ b2 (by simpa[yag] using hx.drop k1.length) (by simpa[yag] using hy.drop k1.length) h2;simp only[yat,hname.1,ne_eq,not_false_eq_true,if_true,yab,hp1,hp2,yaa,he,yas];cases b1 with
     |true=>simpa using hrest
     |false=>simp
    ·cases hk
   ·cases hk
  ·cases hk
theorem k7o {d:Nat} {e:TypeId} {ks:List Nat} (he:kd4 P d e=some ks) (ih: ∀ {xs ys:List AV} {us vs:List Value} {b:Bool},RL D w V ρ xs us->RL D w V ρ ys vs->kct ks xs ys=some b-> ∀ dd,d<=dd->
   (yac dd e (mkV P e us) (mkV P e vs)).run P w= .ok b w) {us vs:Array Value} {dd:Nat} (hdd:d<=dd):
  ∀ (m i:Nat) (xs ys:List AV) (b:Bool),RL D w V ρ xs (us.toList.drop (i*ks.length))->RL D w V ρ ys (vs.toList.drop (i*ks.length))->kct (yav m ks).flatten xs ys=some b->
   (kiv dd e ks.length us vs (yar i m)).run P w= .ok b w:=by
 intro m
 induction m with
 |zero=>
  intro i xs ys b _ _ hb;have hl:=kj4 hb;simp at hl;obtain⟨h1,h2⟩:=hl;subst h1;subst h2;cases hb;simp[kiv]
 |succ m ihm=>
  intro i xs ys b hx hy hb;rw[yan,List.flatten_cons] at hb;obtain⟨b1,b2,h1,h2,rfl⟩:=kqm ks hb;obtain⟨hsz,g,hg,hg1⟩:=k0n he;have hlen:=kj4 hb;have hxl:xs.length=us.size - i*ks.length:=by rw[hx.1];simp
  have hyl:ys.length=vs.size - i*ks.length:=by rw[hy.1];simp
  have hp: ∀ zs:Array Value,(i*ks.length+ks.length<=zs.size\/ks.length=0)->(part e zs (i*ks.length)).run P w= .ok (mkV P e ((zs.toList.drop (i*ks.length)).take ks.length)) w:=by
   intro zs hz;by_cases h0:ks.length=0
   ·have hgt:g=true:=by cases g with
     |true=>rfl
     |false=>have:=hg1 rfl;omega
    subst hgt;have hz:(zs.extract (i*ks.length) (i*ks.length+ks.length))= #[]:=by rw[h0];simp
    simp only[part,yab,kg5 hg,yaa,kcj hsz,if_true,yad,hz,mkV,hg];simp[h0]
   ·exact kvv hg hsz hg1 (hz.resolve_right h0)
  have hmk:(yav (m+1) ks).flatten.length=ks.length+m*ks.length:=by
   simp[yan,yae]
  have hl1:xs.length=ks.length+m*ks.length:=by rw[hlen.1,yap];simp[yae]
  have hl2:ys.length=ks.length+m*ks.length:=by rw[hlen.2,yap];simp[yae]
  have heq:=ih (hx.take _) (hy.take _) h1 dd hdd;have hi:(i+1)*ks.length=i*ks.length+ks.length:=Nat.succ_mul _ _;have hrest:=ihm (i+1) _ _ b2 (by rw[hi];simpa[yag] using hx.drop ks.length) (by rw[hi];simpa[yag] using hy.drop ks.length) h2;rw[List.range'_succ];simp only[kiv,yab,hp us (by omega),hp vs (by omega),yaa,heq,yas];cases b1 with
  |true=>simpa using hrest
  |false=>simp
theorem k72: ∀ (d:Nat) {t:TypeId} {ks:List Nat},kd4 P d t=some ks-> ∀ {xs ys:List AV} {us vs:List Value} {b:Bool},RL D w V ρ xs us->RL D w V ρ ys vs->kct ks xs ys=some b-> ∀ dd,d<=dd->
   (yac dd t (mkV P t us) (mkV P t vs)).run P w= .ok b w:=by
 intro d
 induction d with
 |zero=>intro t ks hp;cases hp
 |succ d ih=>
  intro t ks hp xs ys us vs b hx hy hb dd hdd;obtain⟨dd,rfl⟩: ∃ e,dd=e+1:=⟨dd - 1,by omega⟩;unfold kd4 at hp;have leaf: ∀ k,ks=[k]->gO P t=some false-> ∃ x y u v,us=[u]/\vs=[v]/\mkV P t us=u/\mkV P t vs=v/\kgt k x y=some b/\R D w V ρ x u/\R D w V ρ y v:=by
   intro k hk hg;subst hk;have hl:=kj4 hb
   match xs,ys,hl,hb with
   | [x],[y],_,hb=>
     obtain⟨u,us',rfl,r1,r2⟩:=hx.inv_cons;obtain⟨v,vs',rfl,r3,r4⟩:=hy.inv_cons;have e1:=r2.inv_nil;have e2:=r4.inv_nil;subst e1;subst e2;simp only[kct] at hb;cases hc:kgt k x y with
     |none=>simp[hc] at hb
     |some c=>
      simp[hc] at hb;subst hb;exact⟨x,y,u,v,rfl,rfl,by simp[mkV,hg],by simp[mkV,hg],hc,r1,r3⟩
  split at hp
  ·rename_i hu;split at hp
   ·cases hp;obtain⟨x,y,u,v,_,_,e1,e2,hc,r1,r2⟩:=leaf 1 rfl (by simp[gO,hu]);rw[e1,e2];rcases kql hc r1 r2 with⟨h0,_⟩ | ⟨_,p,q,rfl,rfl,rfl⟩ | ⟨h0,_⟩
    ·cases h0
    ·exact run_equalIn_bool w dd t p q hu
    ·cases h0
   ·cases hp
  ·rename_i hu;split at hp
   ·cases hp;obtain⟨x,y,u,v,_,_,e1,e2,hc,r1,r2⟩:=leaf 0 rfl (by simp[gO,hu]);rw[e1,e2];rcases kql hc r1 r2 with⟨_,k,p,q,rfl,rfl,rfl⟩ | ⟨h0,_⟩ | ⟨h0,_⟩
    ·exact k39 dd hu p q
    ·cases h0
    ·cases h0
   ·cases hp
  ·rename_i hu;split at hp
   ·cases hp;obtain⟨x,y,u,v,_,_,e1,e2,hc,r1,r2⟩:=leaf 2 rfl (by simp[gO,hu]);rw[e1,e2];rcases kql hc r1 r2 with⟨h0,_⟩ | ⟨h0,_⟩ | ⟨_,p,q,rfl,rfl,rfl⟩
    ·cases h0
    ·cases h0
    ·exact qn0 dd hu p q
   ·cases hp
  ·rename_i fs hu;split at hp
   ·cases hp
   ·rename_i hst;split at hp
    ·rename_i ks' hks;split at hp
     ·cases hp;have hg:gO P t=some true:=by simp[gO,hu]
      have hfo:P.fieldsOf t=fs:=by simp[Program.fieldsOf,hu]
      simp only[mkV,hg,if_true];rw[run_equalIn_struct w dd t _ _ (by rw[hfo];exact hu) (by simpa using hst),hfo];exact k7q (fun {t ks} hp {xs ys us vs b} h1 h2 h3 dd hd=>ih hp h1 h2 h3 dd hd) (by omega) fs.toList 0 ks hks xs ys b (by simpa using hx) (by simpa using hy) hb
     ·cases hp
    ·cases hp
  ·rename_i n e hu;split at hp
   ·rename_i ks' hks;split at hp
    ·rename_i hsz;cases hp;have hg:gO P t=some true:=by simp[gO,hu]
     simp only[mkV,hg,if_true];rw[qn1 dd n hu hsz.2];exact k7o hks (fun {xs ys us vs b} h1 h2 h3 dd hd=>ih hks h1 h2 h3 dd hd) (by omega) n 0 xs ys b (by simpa using hx) (by simpa using hy) hb
    ·cases hp
   ·cases hp
  ·cases hp
theorem k9g: ∀ (d:Nat) {t:TypeId} {ks:List Nat},kd4 P d t=some ks-> ∀ dd,d<=dd->P.eqGuardType dd t=false:=by
 intro d
 induction d with
 |zero=>intro t ks hp;cases hp
 |succ d ih=>
  intro t ks hp dd hdd;obtain⟨dd,rfl⟩: ∃ e,dd=e+1:=⟨dd - 1,by omega⟩;unfold kd4 at hp;split at hp
  ·rename_i hu;simp[Program.eqGuardType,hu]
  ·rename_i hu;simp[Program.eqGuardType,hu]
  ·rename_i hu;simp[Program.eqGuardType,hu]
  ·rename_i fs hu;split at hp
   ·cases hp
   ·split at hp
    ·rename_i ks' hks;simp only[Program.eqGuardType,hu];have: ∀ (l:List Field) (at_:Nat) (ks:List Nat),kkk (kd4 P d) at_ l=some ks-> ∀ f ∈ l,P.eqGuardType dd f.type=false:=by
      intro l
      induction l with
      |nil=>intro _ _ _ f hf;cases hf
      |cons g l ihl=>
       intro at_ ks hk f hf;unfold kkk at hk;split at hk
       ·split at hk
        ·rename_i k1 hk1;split at hk
         ·rename_i k2 hk2;rcases List.mem_cons.1 hf with rfl |hf
          ·exact ih hk1 dd (by omega)
          ·exact ihl _ _ hk2 f hf
         ·cases hk
        ·cases hk
       ·cases hk
     rw[Array.any_eq_false'];intro f hf;simp[this _ _ _ hks f (by simpa using hf)]
    ·cases hp
  ·rename_i n e hu;split at hp
   ·rename_i ks' hks;simp only[Program.eqGuardType,hu];exact ih hks dd (by omega)
   ·cases hp
  ·cases hp
theorem kxq (H:HRel C D w V ρ s.h) (db: ∀ b,D b->b<w.heap.size) (hr:Regs D w V ρ s a) {o:Oper} {op:BinOp} {t ty:TypeId} {x y:Operand} (ho:o.op= .binOp op t x y ty) (hop:op= .eql\/op= .neq) {ks:List Nat} (hp:kd4 P 12 t=some ks) (hg:gO P t=some true)
  {x' y':AO} (hx:kar x=some x') (hy:kar y=some y') {v:AV} (he:opA s (.eqa (op == .neq) ks x' y')=some (v,s')):OpPost C D ρ w V s s' v ((execOp a.eval o).run P w):=by
 simp only[opA] at he;split at he
 ·rename_i xs ys e1 e2;cases hb:kct ks xs ys with
  |none=>simp[hb] at he
  |some b=>
   simp[hb] at he;obtain⟨rfl,rfl⟩:=he;have h1:=ka8 hr hx;have h2:=ka8 hr hy;rw[e1] at h1;rw[e2] at h2;obtain⟨us,hus,r1⟩:=h1.agg_inv;obtain⟨vs,hvs,r2⟩:=h2.agg_inv;have heq:(Op.equal t (.agg us) (.agg vs)).run P w= .ok b w:=by
    have:=k72 (P:=P) (w:=w) 12 hp r1 r2 hb 10000 (by decide);simpa[mkV,hg,Op.equal,Op.maxDepth] using this
   have hdep:12<=P.depth:=by
    unfold Program.depth;have:Made.depth=100:=rfl;omega
   have hgu:(eqGuard op t x y (.agg us) (.agg vs)).run P w= .ok () w:=by
    have hgt:=k9g 12 hp P.depth hdep;unfold eqGuard;rcases hop with rfl |rfl <;> simp[hgt]
   rcases hop with rfl |rfl
   ·exact .same H db (val:= .bool b) (by simp only[execOp,ho,hus,hvs,yab,hgu,yaa,binOp,heq,yad]) (.bool _)
   ·exact .same H db (val:= .bool (!b)) (by simp only[execOp,ho,hus,hvs,yab,hgu,yaa,binOp,heq,yad]) (.bool _)
 ·cases he
theorem kjb (hr:Regs D w V ρ s a) {d:Nat} {x:Option Operand} {y:Option AO} (hx:kea x=some y) {n:Nat} (hn:kcv s d y=some n):
  (x=none/\y=none/\n=d)\/ ∃ x',x=some x'/\y.isSome=true/\ ∃ k i,a.eval x'= .int k i/\0<=i/\i.toNat=n:=by
 cases x with
 |none=>cases hx;cases hn;exact .inl ⟨rfl,rfl,rfl⟩
 |some x'=>
  simp only[kea] at hx;cases hy:kar x' with
  |none=>simp[hy] at hx
  |some y'=>
   simp[hy] at hx;subst hx;obtain⟨k,i,h1,h2,h3⟩:=kja (ka8 hr hy) hn;exact .inr ⟨x',rfl,rfl,k,i,h1,h2,h3⟩
theorem kg6 {x:Value} {k:IntKind} {i:Int} (hx:x= .int k i) (h0:0<=i) {y n:Nat} (hn:i.toNat=n) (hle:n<=y) (code:BoundsCode):(Instr.sliceBound x y code).run P w= .ok n w:=by
 subst hx;have:0<=i/\i<=(y:Int):=⟨h0,by omega⟩;simp[Instr.sliceBound,asIntOf,this,hn]
theorem ko5 (hr:Regs D w V ρ s a) {lo hi mx:Option Operand} {lo' hi' mx':Option AO} (h1:kea lo=some lo') (h2:kea hi=some hi') (h3:kea mx=some mx') {len capk cap l h' m:Nat} (hcap:capk<=cap) (hlen:len<=cap)
  (hb:kck s len capk lo' hi' mx'=some (l,h',m)) (is:Bool):
  (Instr.sliceBounds is len cap (lo.map a.eval) (hi.map a.eval) (mx.map a.eval)).run P w= .ok (l,h',if mx'.isSome then m else cap) w/\l<=h'/\h'<=m/\m<=capk/\(mx'.isSome=false->m=capk):=by
 unfold kck at hb;split at hb
 ·rename_i m0 h0 l0 em eh el;split at hb
  ·rename_i hc;cases hb;obtain⟨c1,c2,c3,c4⟩:=hc;refine⟨?_,c3,c2,c1,?_⟩
   ·rcases kjb hr h3 em with⟨rfl,rfl,rfl⟩ | ⟨xm,rfl,sm,km,im,vm,pm,qm⟩
    ·rcases kjb hr h2 eh with⟨rfl,rfl,rfl⟩ | ⟨xh,rfl,sh,kh,ih,vh,ph,qh⟩
     ·rcases kjb hr h1 el with⟨rfl,rfl,rfl⟩ | ⟨xl,rfl,sl,kl,il,vl,pl,ql⟩
      ·simp[Instr.sliceBounds]
      ·simp[Instr.sliceBounds,kg6 vl pl ql c3]
     ·rcases kjb hr h1 el with⟨rfl,rfl,rfl⟩ | ⟨xl,rfl,sl,kl,il,vl,pl,ql⟩
      ·simp[Instr.sliceBounds,kg6 vh ph qh (show h'<=cap by omega)]
      ·simp[Instr.sliceBounds,kg6 vh ph qh (show h'<=cap by omega),kg6 vl pl ql c3]
    ·rcases kjb hr h2 eh with⟨rfl,rfl,rfl⟩ | ⟨xh,rfl,sh,kh,ih,vh,ph,qh⟩
     ·have:=c4 sm;cases this
     ·rcases kjb hr h1 el with⟨rfl,rfl,rfl⟩ | ⟨xl,rfl,sl,kl,il,vl,pl,ql⟩
      ·simp[Instr.sliceBounds,kg6 vm pm qm (show m<=cap by omega),kg6 vh ph qh c2,sm]
      ·simp[Instr.sliceBounds,kg6 vm pm qm (show m<=cap by omega),kg6 vh ph qh c2,kg6 vl pl ql c3,sm]
   ·intro hn;rcases kjb hr h3 em with⟨_,_,e⟩ | ⟨_,_,sm,_⟩
    ·exact e
    ·rw[sm] at hn;cases hn
  ·cases hb
 ·cases hb
end
open Go.RowKit
section
variable {G:Gl} {C:CodeRel} {P:Program} {D D':Nat->Prop} {ρ ρ':Ren} {w w':World} {V V':Ids} {h:T Blk} {s s':St} {a:Act}
theorem qog (H:HRel C D w V ρ s.h) (db: ∀ b,D b->b<w.heap.size) (hr:Regs D w V ρ s a) {o:Oper} {t e:TypeId} {n sz:Nat} {x:Operand} {lo hi mx:Option Operand} (ho:o.op= .slice t x lo hi mx) (hu:P.underlying t=some (.array n e)) (hsz:szO P e=some sz)
  {x':AO} {lo' hi' mx':Option AO} (hx:kar x=some x') (h1:kea lo=some lo') (h2:kea hi=some hi') (h3:kea mx=some mx') {v:AV} (he:opA s (.slA n sz x' lo' hi' mx')=some (v,s')):OpPost C D ρ w V s s' v ((execOp a.eval o).run P w):=by
 simp only[opA] at he;split at he
 ·rename_i l h' m id off hb e1;split at he
  ·rename_i cs fz hg;split at he
   ·rename_i hc;cases he;obtain⟨hrun,c1,c2,c3,c4⟩:=ko5 (P:=P) (w:=w) hr h1 h2 h3 (yak n) (yak n) hb false;have hR:=ka8 hr hx;rw[e1] at hR;generalize hxv:a.eval x=xv at hR;cases hR with
    |ptr hid ha=>
     rename_i ad;obtain⟨b,hb',hB⟩:=H.bk id _ hg;have:=ha b hb';subst this;obtain⟨_,_,real,mk,k1,_,k2,_⟩:=hB;have hm:(if mx'.isSome=true then m else n)=m:=by
      split
      ·rfl
      ·rename_i hn;exact(c4 (by simpa using hn)).symm
     rw[hm] at hrun;refine .same H db (val:= .slice (some (if m=l then⟨b,off,none⟩ else⟨b,off+l*sz,none⟩)) (h' - l) (m - l)) ?_ (.sl hid (by omega) (fun k hk=>(Option.some.inj hk)) fun c hc'=> ?_)
     ·simp[execOp,ho,hxv,Instr.sliceAt,run_underlying hu,Instr.sureAddr,hrun,kcj hsz,kdj]
     ·rw[hb'] at hc';cases hc';by_cases hml:m=l
      ·exact .inl (by omega)
      ·refine .inr ⟨by rw[ir hml],real,_,mk,k1,?_⟩;have:l*sz+(m - l)*sz<=n*sz:=by rw[←yau];exact yam _ (by omega)
       omega
   ·cases he
  ·cases he
 ·cases he
theorem qoh (H:HRel C D w V ρ s.h) (db: ∀ b,D b->b<w.heap.size) (hr:Regs D w V ρ s a) {o:Oper} {t e:TypeId} {sz:Nat} {x:Operand} {lo hi mx:Option Operand} (ho:o.op= .slice t x lo hi mx) (hu:P.underlying t=some (.slice e)) (hsz:szO P e=some sz)
  {x':AO} {lo' hi' mx':Option AO} (hx:kar x=some x') (h1:kea lo=some lo') (h2:kea hi=some hi') (h3:kea mx=some mx') {v:AV} (he:opA s (.slS sz x' lo' hi' mx')=some (v,s')):OpPost C D ρ w V s s' v ((execOp a.eval o).run P w):=by
 simp only[opA] at he;split at he
 ·rename_i els cl e1;split at he
  ·rename_i l h' m hb;split at he
   ·rename_i hall;cases he;have hR:=ka8 hr hx;rw[e1] at hR;generalize hxv:a.eval x=xv at hR;have hall': ∀ e ∈ els,e.length=sz:=fun e he=>by simpa using List.all_eq_true.1 hall e he
    have run: ∀ (ad:Option Addr) (cap:Nat),xv= .slice ad els.length cap->els.length<=cap-> ∃ m',(m'=if mx'.isSome=true then m else cap)/\m'<=cap/\l<=h'/\h'<=m'/\h'<=els.length/\
      (execOp a.eval o).run P w= .ok (.value (.slice (if m'=l then ad else ad.map (·.add (l*sz))) (h' - l) (m' - l))) w:=by
     intro ad cap hxe hle;obtain⟨hrun,c1,c2,c3,c4⟩:=ko5 (P:=P) (w:=w) hr h1 h2 h3 hle hle hb true;refine⟨_,rfl,?_,c1,?_,by omega,?_⟩
     ·split <;> omega
     ·split <;> omega
     ·simp[execOp,ho,hxv,hxe,Instr.sliceAt,Instr.slice,run_underlying hu,hrun,kcj hsz]
    have clipOk: ∀ (cap m':Nat),(cl=true->cap=els.length)->(m'=if mx'.isSome=true then m else cap)->h'<=els.length->(if mx'.isSome=true then m == h' else cl && h' == els.length)=true->m' - l=h' - l:=by
     intro cap m' hcl hm' hle hq;subst hm';split at hq
     ·rename_i hs;rw[iq hs];simp at hq;omega
     ·rename_i hs;rw[ir hs];simp at hq;have:=hcl hq.1;omega
    cases hR with
    |imn hc ha=>
     rename_i ad cap;obtain⟨m',hm',q1,q2,q3,q4,hrun⟩:=run ad cap rfl (Nat.zero_le _);have h0:h'=0:=by simpa using q4
     subst h0;have hl0:l=0:=by omega
     subst hl0;have hz:(yah (0 - 0) (yai 0 ([]:List (List AV))))=[]:=rfl;rw[hz];refine .same H db hrun ?_;simp only[yaw];refine .imn (fun hq=> ?_) (fun hn=> ?_)
     ·have:=clipOk cap m' (fun h=>hc h) hm' (Nat.zero_le _) hq;omega
     ·split at hn
      ·omega
      ·have:cap=0:=ha (by simpa using hn);omega
    | @im _ _ els clip b o' sz' cap c hn' hcl hD hl hc' hh1=>
      obtain⟨m',hm',q1,q2,q3,q4,hrun⟩:=run _ cap rfl hn';by_cases h0:h' - l=0
      ·have hz:yah (h' - l) (yai l els)=[]:=by rw[h0];rfl
       rw[hz];rw[h0] at hrun;refine .same H db hrun (.imn (fun hq=> ?_) (fun hn=> ?_))
       ·have:=clipOk cap m' hcl hm' q4 hq;omega
       ·split at hn <;> simp at hn
      ·have hml: ¬m'=l:=by omega
       rw[ir hml] at hrun;have hlen:(yah (h' - l) (yai l els)).length=h' - l:=by simp;omega
       have hne:els≠[]:=fun e=>by subst e;simp at q4;omega
       have hsz':sz'=sz:=by
        obtain⟨e0,he0⟩:=List.exists_mem_of_ne_nil els hne;rw[←hl e0 he0];exact hall' e0 he0
       subst hsz';refine .same H db (val:= .slice (some ⟨b,o'+l*sz',none⟩) (h' - l) (m' - l)) (by simpa[kdj] using hrun) ?_;have key:R D w V ρ (.im (yah (h' - l) (yai l els)) (if mx'.isSome=true then m == h' else cl && h' == els.length)) (.slice (some ⟨b,o'+l*sz',none⟩) (yah (h' - l) (yai l els)).length (m' - l)):=by
        refine .im (fun i j=>c (l+i) j) (by rw[hlen];omega) (fun hq=>by rw[hlen];exact clipOk cap m' hcl hm' q4 hq) hD (sz:=sz') ?_ ?_ ?_
        ·intro e he;exact hl e (List.mem_of_mem_drop (List.mem_of_mem_take he))
        ·intro i j hi hj;rw[hlen] at hi;have:=hc' (l+i) j (by omega) hj;rw[show o'+l*sz'+(i*sz'+j)=o'+((l+i)*sz'+j) by rw[yau];omega];exact this
        ·intro i j e x hei hx;rw[List.getElem?_take] at hei;split at hei
         ·rw[List.getElem?_drop] at hei;exact hh1 (l+i) j e x hei hx
         ·cases hei
       rw[hlen] at key;exact key
   ·cases he
  ·cases he
 ·rename_i id off n z c e1;split at he
  ·rename_i hz;subst hz;split at he
   ·rename_i l h' m hb;cases he;have hR:=ka8 hr hx;rw[e1] at hR;generalize hxv:a.eval x=xv at hR;cases hR with
    |sl hid hn hc ha=>
     rename_i ad cap;have hck:c.getD n<=cap:=by
      cases c with
      |none=>exact hn
      |some k=>have:=hc k rfl;simp;omega
     obtain⟨hrun,c1,c2,c3,c4⟩:=ko5 (P:=P) (w:=w) hr h1 h2 h3 hck hn hb true;generalize hm':(if mx'.isSome=true then m else cap)=m' at hrun;have hmle:m'<=cap:=by rw[←hm'];split <;> omega
     have hhle:h'<=m':=by rw[←hm'];split <;> omega
     refine .same H db (val:= .slice (some (if m'=l then ad else ad.add (l*z))) (h' - l) (m' - l)) ?_ (.sl hid (by omega) (fun k hk=> ?_) fun b hb'=> ?_)
     ·simp only[execOp,ho,hxv,Instr.sliceAt,Instr.slice,run_underlying hu,yab,yaa,hrun,kcj hsz,yad];split <;> rfl
     ·split at hk
      ·rename_i hs;cases hk;rw[←hm',iq hs]
      ·rename_i hs;rw[←hm',ir hs];cases c with
       |none=>cases hk
       |some k0=>simp at hk;have:=hc k0 rfl;omega
     ·by_cases hml:m'=l
      ·exact .inl (by omega)
      ·rcases ha b hb' with h0 | ⟨e2,real,ty,mk,k1,k2⟩
       ·exact .inl (by omega)
       ·refine .inr ⟨by rw[ir hml,e2,kdj],real,ty,mk,k1,?_⟩;have:l*z+(m' - l)*z<=cap*z:=by rw[←yau];exact yam _ (by omega)
        omega
   ·cases he
  ·cases he
 ·cases he
theorem qoi (H:HRel C D w V ρ s.h) (db: ∀ b,D b->b<w.heap.size) (hr:Regs D w V ρ s a) {o:Oper} {t:TypeId} {x:Operand} {lo hi:Option Operand} (ho:o.op= .slice t x lo hi none) (hu:P.underlying t=some .string)
  {x':AO} {lo' hi':Option AO} (hx:kar x=some x') (h1:kea lo=some lo') (h2:kea hi=some hi') {v:AV} (he:opA s (.slT x' lo' hi')=some (v,s')):OpPost C D ρ w V s s' v ((execOp a.eval o).run P w):=by
 simp only[opA] at he;split at he
 ·rename_i b e1;split at he
  ·rename_i l h' m hb;cases he;have hR:=ka8 hr hx;rw[e1] at hR;generalize hxv:a.eval x=xv at hR;cases hR with
   |str sx hsx=>
    subst hsx;obtain⟨hrun,c1,c2,c3,c4⟩:=ko5 (P:=P) (w:=w) hr h1 h2 (mx:=none) (mx':=none) rfl (yak _) (yak _) hb false;rw[←kks] at hrun;refine .same H db (val:= .string (sx.extract l h')) ?_ (.str _ ?_)
    ·simp only[execOp,ho,hxv,Instr.sliceAt,Instr.slice,run_underlying hu,yab,yaa,Option.map_none] at hrun ⊢;simp[hrun]
    ·rw[ByteArray.data_extract,Array.toList_extract,yaf]
  ·cases he
 ·cases he
theorem k5t (H:HRel C D w V ρ s.h) (db: ∀ b,D b->b<w.heap.size) (hr:Regs D w V ρ s a) {o:Oper} {t e:TypeId} {n:Nat} {x:Operand} (ho:o.op= .sliceToArrayPointer t x) (hu:P.underlying t=some (.array n e)) {x':AO} (hx:kar x=some x')
  {v:AV} (he:opA s (.a2p n x')=some (v,s')):OpPost C D ρ w V s s' v ((execOp a.eval o).run P w):=by
 simp only[opA] at he;split at he
 ·rename_i id off k sz c e1;split at he
  ·rename_i hc;cases he;have hR:=ka8 hr hx;rw[e1] at hR;generalize hxv:a.eval x=xv at hR;cases hR with
   |sl hid hn hc' ha=>
    rename_i ad cap;refine .same H db (val:= .pointer (some ad)) ?_ (.ptr hid fun b hb=> ?_)
    ·simp[execOp,ho,hxv,Instr.arrayAt,run_underlying hu,show ¬k<n by omega]
    ·rcases ha b hb with h0 | ⟨h1,_⟩
     ·omega
     ·exact h1
  ·cases he
 ·cases he
theorem k64 {t e:TypeId} {xv:Value} {x':AO} (hR:R D w V ρ (x'.ev s) xv) {args:Array Value} {ts:Array TypeId} {ty:TypeId} (ht:ts[0]? =some t) (hrest:args[0]? =some xv) (hu:P.underlying t=some (.slice e)) {v:AV} (he:opA s (.cap x')=some (v,s')):
  ∃ u,s'=s/\(yal ts ty args).run P w= .ok u w/\R D w V ρ v u:=by
 simp only[opA] at he;split at he
 ·rename_i els e1;cases he;rw[e1] at hR;cases hR with
  |imn hc ha=>have:=hc rfl;subst this;exact⟨goInt 0,rfl,by simp[yal,ht,hrest,run_underlying hu],.int _ _⟩
  |im c hn hcl hD hl hc h1=>have:=hcl rfl;subst this;exact⟨goInt els.length,rfl,by simp[yal,ht,hrest,run_underlying hu],.int _ _⟩
 ·rename_i id off n sz c e1;cases he;rw[e1] at hR;cases hR with
  |sl hid hn hc ha=>have:=hc c rfl;subst this;exact⟨goInt _,rfl,by simp[yal,ht,hrest,run_underlying hu],.int _ _⟩
 ·cases he
theorem qdv {xv yv:Value} {x' y':AO} (h1:R D w V ρ (x'.ev s) xv) (h2:R D w V ρ (y'.ev s) yv) {ts:Array TypeId} {ty:TypeId} {v:AV} (he:opA s (.mxi x' y')=some (v,s')):
  ∃ u,s'=s/\(yax ts ty #[xv,yv]).run P w= .ok u w/\R D w V ρ v u:=by
 simp only[opA] at he;split at he
 ·rename_i k p k' q e1 e2;cases he;rw[e1] at h1;rw[e2] at h2;cases h1;cases h2;exact⟨.int k (if q > p then q else p),rfl,by simp[yax,Builtin.max2],.int _ _⟩
 ·cases he
theorem qb9 {xv yv:Value} {x' y':AO} (h1:R D w V ρ (x'.ev s) xv) (h2:R D w V ρ (y'.ev s) yv) {ts:Array TypeId} {ty:TypeId} {v:AV} (he:opA s (.mni x' y')=some (v,s')):
  ∃ u,s'=s/\(yay ts ty #[xv,yv]).run P w= .ok u w/\R D w V ρ v u:=by
 simp only[opA] at he;split at he
 ·rename_i k p k' q e1 e2;cases he;rw[e1] at h1;rw[e2] at h2;cases h1;cases h2;exact⟨.int k (if q<p then q else p),rfl,by simp[yay,Builtin.min2],.int _ _⟩
 ·cases he
theorem k8w (vs:List Value): ∀ (off j:Nat) (cs:Array Value),off+j+vs.length<=cs.size->
  ((vs.zipIdx j).foldl (fun cs (p:Value×Nat)=>cs.setIfInBounds (off+p.2) p.1) cs).toList=cs.toList.take (off+j)++vs++cs.toList.drop (off+j+vs.length):=by
 induction vs with
 |nil=>intro off j cs _;simp
 |cons v vs ih=>
  intro off j cs h;simp only[yaq] at h;simp only[List.zipIdx_cons,List.foldl_cons];rw[ih off (j+1) _ (by simp;omega)];simp only[Array.toList_setIfInBounds,yaq];have hlt:off+j<cs.toList.length:=by rw[Array.length_toList];omega
  rw[show off+(j+1)=off+j+1 by omega];rw[List.take_add_one,List.take_set_of_le (yak _),List.getElem?_set_self hlt,List.drop_set_of_lt (by omega)];simp[show off+j+1+vs.length=off+j+(vs.length+1) by omega]
end
end Go.Proofs.Hz
