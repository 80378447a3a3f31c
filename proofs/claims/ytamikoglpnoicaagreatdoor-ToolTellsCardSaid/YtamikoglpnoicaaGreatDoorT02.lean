/-
  Regions whose order is drawn: two operations that are apart may change places (abstract; no machine in sight).
  Conditions: none.
-/
import Derived.Test.YtamikoglpnoicaaGreatDoorT01
namespace Go.Proofs.Hz
open Bool renaming false_eq_true->yab,and_eq_true->yad
open Function renaming comp_def->yaa
open List renaming mem_append->yag,map_congr_left->yah,flatMap_cons->yaj,any_eq_false->yak,all_eq_true->yal,map_cons->yam
open Option renaming map_eq_some_iff->yaf,map_some->yai
open Option.some renaming injEq->yac
open Prod.mk renaming injEq->yae
def AO.tm:AO->List Nat
 | .t n=>[n]
 | .c _=>[]
def AO.tmo:Option AO->List Nat
 |none=>[]
 |some x=>x.tm
def AO.tml (l:List AO):List Nat:=l.flatMap AO.tm
def AO.tmp (l:List (Nat×Nat×AO)):List Nat:=l.flatMap fun p=>p.2.2.tm
def AOp.looks:AOp->List Nat
 | .mov x | .box _ x | .load _ _ x | .nilck x | .un _ x | .conv _ x | .mvs x | .b2s x | .faddr _ x | .fld _ _ _ x | .a2p _ x | .extr _ x | .len _ x | .cap x | .cvp _ _ x | .usd x | .s2b _ x | .mki _ x=>x.tm
 | .pick c a b=>c.tm++(a.tm++b.tm)
 | .alloc _ _ | .mkmap | .lenc _ | .fail=>[]
 | .build _ ps=>AO.tmp ps
 | .bsl _ _ _ ps=>AO.tmp ps
 | .store _ a x | .bin _ a x | .eqa _ _ a x | .eqn _ _ a x | .eqb _ a x | .iaA _ _ a x | .iaS _ a x | .ixA _ _ _ a x | .ixS a x | .mksl _ _ _ _ a x | .look _ _ _ a x | .app _ _ _ a x | .appn _ _ _ _ a x | .cpy _ a x | .mxi a x | .mni a x | .del _ a x | .ust _ a x | .eqp _ a x | .eqi _ _ a x | .ext _ a x=>a.tm++x.tm
 | .mkfn _ a b=>AO.tml a++AO.tml b
 | .slA _ _ x l h m | .slS _ x l h m=>x.tm++(AO.tmo l++(AO.tmo h++AO.tmo m))
 | .slT x l h=>x.tm++(AO.tmo l++AO.tmo h)
 | .mapup _ m k x=>m.tm++(k.tm++x.tm)
 | .call f as=>f.tm++AO.tml as
def AOper.looks (o:AOper):List Nat:=o.op.looks++(match o.guard with |some (t,_)=>[t] |none=>[])
section
variable {s:St} {r:T AV}
theorem kaw {x:AO} (h: ∀ t ∈ x.tm,(r.get t).getD (.tup [])=s.rg t):x.ev {s with r:=r}=x.ev s:=by
 cases x with
 |t n=>exact h n (by simp[AO.tm])
 |c v=>rfl
theorem klc: ∀ {l:List AO},(∀ t ∈ AO.tml l,(r.get t).getD (.tup [])=s.rg t)->l.map (AO.ev {s with r:=r})=l.map (AO.ev s)
 | [],_=>rfl
 |x::l,h=>by
  simp only[yam];rw[kaw (x:=x) fun t ht=>h t (by simp only[AO.tml,yaj,yag];exact .inl ht),klc (l:=l) fun t ht=>h t (by simp only[AO.tml,yaj,yag] at ht ⊢;exact .inr ht)]
theorem kqv: ∀ {l:List (Nat×Nat×AO)},(∀ t ∈ AO.tmp l,(r.get t).getD (.tup [])=s.rg t)->evp {s with r:=r} l=evp s l
 | [],_=>rfl
 |x::l,h=>by
  have ih:=kqv (l:=l) fun t ht=>h t (by simp only[AO.tmp,yaj,yag] at ht ⊢;exact .inr ht)
  unfold evp at ih ⊢;simp only[yam];rw[kaw (x:=x.2.2) fun t ht=>h t (by simp only[AO.tmp,yaj,yag];exact .inl ht),ih]
theorem kr2 {d:Nat} {x:Option AO} (h: ∀ t ∈ AO.tmo x,(r.get t).getD (.tup [])=s.rg t):kcv {s with r:=r} d x=kcv s d x:=by
 cases x with
 |none=>rfl
 |some x=>simp only[kcv];rw[kaw h]
theorem kp2 {a b:Nat} {l h m:Option AO} (hl: ∀ t ∈ AO.tmo l,(r.get t).getD (.tup [])=s.rg t) (hh: ∀ t ∈ AO.tmo h,(r.get t).getD (.tup [])=s.rg t) (hm: ∀ t ∈ AO.tmo m,(r.get t).getD (.tup [])=s.rg t):
  kck {s with r:=r} a b l h m=kck s a b l h m:=by
 unfold kck;rw[kr2 hl,kr2 hh,kr2 hm]
def ka7 (r:T AV) (p:AV×St):AV×St:=(p.1,{p.2 with r:=r})
theorem kl0 {o:AOp} (h: ∀ t ∈ o.looks,(r.get t).getD (.tup [])=s.rg t):opA {s with r:=r} o=(opA s o).map (ka7 r):=by
 have hw: ∀ v:AV,ka7 r (v,s)=(v,{s with r:=r}):=fun _=>rfl
 cases o <;> simp only[AOp.looks,yag] at h
 case mov x=>
  simp only[opA,kaw h]
  (repeat' split) <;> simp_all [ka7]
 case box t x=>
  simp only[opA,kaw h]
  (repeat' split) <;> simp_all [ka7,St.new]
 case load g n x=>
  simp only[opA,kaw h]
  (repeat' split) <;> simp_all [ka7,yaa]
 case nilck x=>
  simp only[opA,kaw h]
  (repeat' split) <;> simp_all [ka7]
 case un op x=>
  simp only[opA,kaw h]
  (repeat' split) <;> simp_all [ka7,yaa]
 case conv k x=>
  simp only[opA,kaw h]
  (repeat' split) <;> simp_all [ka7]
 case mvs x=>
  simp only[opA,kaw h]
  (repeat' split) <;> simp_all [ka7]
 case b2s x=>
  simp only[opA,kaw h]
  (repeat' split) <;> simp_all [ka7,yaa]
 case faddr off x=>
  simp only[opA,kaw h]
  (repeat' split) <;> simp_all [ka7]
 case fld g off n x=>
  simp only[opA,kaw h]
  (repeat' split) <;> simp_all [ka7,yaa]
 case a2p n x=>
  simp only[opA,kaw h]
  (repeat' split) <;> simp_all [ka7]
 case extr i x=>
  simp only[opA,kaw h]
  (repeat' split) <;> simp_all [ka7,yaa]
 case len k x=>
  simp only[opA,kaw h]
  (repeat' split) <;> simp_all [ka7]
 case cap x=>
  simp only[opA,kaw h]
  (repeat' split) <;> simp_all [ka7]
 case store n a x=>
  simp only[opA,kaw (x:=a) fun t ht=>h t (.inl ht),kaw (x:=x) fun t ht=>h t (.inr ht)]
  (repeat' split) <;> simp_all [ka7,yaa]
 case bin op a x=>
  simp only[opA,kaw (x:=a) fun t ht=>h t (.inl ht),kaw (x:=x) fun t ht=>h t (.inr ht)]
  (repeat' split) <;> simp_all [ka7,yaa]
 case eqa neg ks a x=>
  simp only[opA,kaw (x:=a) fun t ht=>h t (.inl ht),kaw (x:=x) fun t ht=>h t (.inr ht)]
  (repeat' split) <;> simp_all [ka7,yaa]
 case eqn k neg a x=>
  simp only[opA,kaw (x:=a) fun t ht=>h t (.inl ht),kaw (x:=x) fun t ht=>h t (.inr ht)]
  (repeat' split) <;> simp_all [ka7]
 case eqb neg a x=>
  simp only[opA,kaw (x:=a) fun t ht=>h t (.inl ht),kaw (x:=x) fun t ht=>h t (.inr ht)]
  (repeat' split) <;> simp_all [ka7]
 case iaA len sz a x=>
  simp only[opA,kaw (x:=a) fun t ht=>h t (.inl ht),kaw (x:=x) fun t ht=>h t (.inr ht)]
  (repeat' split) <;> simp_all [ka7]
 case iaS sz a x=>
  simp only[opA,kaw (x:=a) fun t ht=>h t (.inl ht),kaw (x:=x) fun t ht=>h t (.inr ht)]
  (repeat' split) <;> simp_all [ka7]
 case ixA g len sz a x=>
  simp only[opA,kaw (x:=a) fun t ht=>h t (.inl ht),kaw (x:=x) fun t ht=>h t (.inr ht)]
  (repeat' split) <;> simp_all [ka7,yaa]
 case ixS a x=>
  simp only[opA,kaw (x:=a) fun t ht=>h t (.inl ht),kaw (x:=x) fun t ht=>h t (.inr ht)]
  (repeat' split) <;> simp_all [ka7,yaa]
 case mksl t sz b z a x=>
  simp only[opA,kaw (x:=a) fun t ht=>h t (.inl ht),kaw (x:=x) fun t ht=>h t (.inr ht)]
  (repeat' split) <;> simp_all [ka7,St.new]
 case look kk z ok a x=>
  simp only[opA,kaw (x:=a) fun t ht=>h t (.inl ht),kaw (x:=x) fun t ht=>h t (.inr ht)]
  (repeat' split) <;> simp_all [ka7]
 case app t sz b a x=>
  simp only[opA,kaw (x:=a) fun t ht=>h t (.inl ht),kaw (x:=x) fun t ht=>h t (.inr ht)]
  (repeat' split) <;> simp_all [ka7,St.new,yaa]
 case cpy sz a x=>
  simp only[opA,kaw (x:=a) fun t ht=>h t (.inl ht),kaw (x:=x) fun t ht=>h t (.inr ht)]
  (repeat' split) <;> simp_all [ka7,yaa]
 case mxi a x=>
  simp only[opA,kaw (x:=a) fun t ht=>h t (.inl ht),kaw (x:=x) fun t ht=>h t (.inr ht)]
  (repeat' split) <;> simp_all [ka7]
 case mni a x=>
  simp only[opA,kaw (x:=a) fun t ht=>h t (.inl ht),kaw (x:=x) fun t ht=>h t (.inr ht)]
  (repeat' split) <;> simp_all [ka7]
 case del kk a x=>
  simp only[opA,kaw (x:=a) fun t ht=>h t (.inl ht),kaw (x:=x) fun t ht=>h t (.inr ht)]
  (repeat' split) <;> simp_all [ka7,St.hp]
 case pick c a b=>
  simp only[opA,kaw (x:=c) fun t ht=>h t (.inl ht),kaw (x:=a) fun t ht=>h t (.inr (.inl ht)),kaw (x:=b) fun t ht=>h t (.inr (.inr ht))]
  (repeat' split) <;> simp_all [ka7]
 case mapup kk c a b=>
  simp only[opA,kaw (x:=c) fun t ht=>h t (.inl ht),kaw (x:=a) fun t ht=>h t (.inr (.inl ht)),kaw (x:=b) fun t ht=>h t (.inr (.inr ht))]
  (repeat' split) <;> simp_all [ka7,St.hp]
 case alloc t z=>
  simp only[opA]
  (repeat' split) <;> simp_all [ka7,St.new]
 case mkmap=>
  simp only[opA]
  (repeat' split) <;> simp_all [ka7,St.new]
 case lenc n=>
  simp only[opA]
  (repeat' split) <;> simp_all [ka7]
 case build z ps=>
  simp only[opA,kqv h]
  (repeat' split) <;> simp_all [ka7,yaa]
 case bsl t sz z ps=>
  simp only[opA,kqv h]
  (repeat' split) <;> simp_all [ka7,St.new]
 case mkfn f a b=>
  simp only[opA,klc (l:=a) fun t ht=>h t (.inl ht),klc (l:=b) fun t ht=>h t (.inr ht)]
  (repeat' split) <;> simp_all [ka7]
 case slA len sz x lo hi mx=>
  simp only[opA,kaw (x:=x) fun t ht=>h t (.inl ht),kp2 (l:=lo) (h:=hi) (m:=mx) (fun t ht=>h t (.inr (.inl ht))) (fun t ht=>h t (.inr (.inr (.inl ht)))) (fun t ht=>h t (.inr (.inr (.inr ht))))]
  (repeat' split) <;> simp_all [ka7]
 case slS sz x lo hi mx=>
  simp only[opA,kaw (x:=x) fun t ht=>h t (.inl ht),kp2 (l:=lo) (h:=hi) (m:=mx) (fun t ht=>h t (.inr (.inl ht))) (fun t ht=>h t (.inr (.inr (.inl ht)))) (fun t ht=>h t (.inr (.inr (.inr ht))))]
  (repeat' split) <;> simp_all [ka7]
 case slT x lo hi=>
  simp only[opA,kaw (x:=x) fun t ht=>h t (.inl ht),kp2 (l:=lo) (h:=hi) (m:=none) (fun t ht=>h t (.inr (.inl ht))) (fun t ht=>h t (.inr (.inr ht))) (fun t ht=>by simp[AO.tmo] at ht)]
  (repeat' split) <;> simp_all [ka7]
 case call f as=>rfl
 case appn t sz b z a x=>
  simp only[opA,kaw (x:=a) fun t ht=>h t (.inl ht),kaw (x:=x) fun t ht=>h t (.inr ht)]
  (repeat' split) <;> simp_all [ka7,St.new]
 case cvp t n x=>
  simp only[opA,kaw h]
  (repeat' split) <;> simp_all [ka7]
 case usd x=>
  simp only[opA,kaw h]
  (repeat' split) <;> simp_all [ka7]
 case s2b t x=>
  simp only[opA,kaw h]
  (repeat' split) <;> simp_all [ka7,St.new]
 case mki t x=>
  simp only[opA,kaw h]
  simp_all [ka7]
 case ust t a x=>
  simp only[opA,kaw (x:=a) fun t ht=>h t (.inl ht),kaw (x:=x) fun t ht=>h t (.inr ht)]
  (repeat' split) <;> simp_all [ka7,yaa]
 case eqp neg a x=>
  simp only[opA,kaw (x:=a) fun t ht=>h t (.inl ht),kaw (x:=x) fun t ht=>h t (.inr ht)]
  (repeat' split) <;> simp_all [ka7]
 case eqi neg t a x=>
  simp only[opA,kaw (x:=a) fun t ht=>h t (.inl ht),kaw (x:=x) fun t ht=>h t (.inr ht)]
  (repeat' split) <;> simp_all [ka7]
 case ext k a x=>
  simp only[opA,kaw (x:=a) fun t ht=>h t (.inl ht),kaw (x:=x) fun t ht=>h t (.inr ht)]
  (repeat' split) <;> simp_all [ka7]
 case fail=>rfl
theorem qnq (t:Nat):St.rg {s with r:=r} t=(r.get t).getD (.tup []):=rfl
section
variable {F:Nat->Option AFn} {K:Nat->List AV->Option AV} {ex:AC->St->Option (AE×St)}
theorem k6x (f:Nat) (as:List AV):kb1 F K ex f as {s with r:=r}=(kb1 F K ex f as s).map (ka7 r):=by
 unfold kb1;cases F f with
 |none=>rfl
 |some fn=>
  simp only;by_cases hp:fn.pure=true
  ·simp only[hp,if_true];cases mapO (frz s.h kbu) as with
   |none=>rfl
   |some as'=>
    simp only;cases K f as' with
    |none=>rfl
    |some v=>
     simp only;split
     ·rfl
     ·cases fzL (fzs kbu) s.h as <;> rfl
  ·simp only[hp,if_false,yab]
   (repeat' split) <;> simp_all [ka7]
theorem qnt (id:Nat) (as:List AV):ke5 ex id as {s with r:=r}=(ke5 ex id as s).map (ka7 r):=by
 unfold ke5;simp only[St.hp]
 (repeat' split) <;> simp_all [ka7]
theorem kv9 {o:AOp} (h: ∀ t ∈ o.looks,(r.get t).getD (.tup [])=s.rg t):kbi F K ex o {s with r:=r}=(kbi F K ex o s).map (ka7 r):=by
 unfold kbi;split
 ·rename_i f as;simp only[AOp.looks,yag] at h;rw[kaw (x:=f) fun t ht=>h t (.inl ht),klc (l:=as) fun t ht=>h t (.inr ht)];unfold keu;split
  ·exact k6x _ _
  ·exact qnt _ _
  ·rfl
 ·exact kl0 h
end
def T.Sub {α:Type} (a b:T α):Prop:=∀ i x,a.get i=some x->b.get i=some x
theorem k3r {h h':T Blk} (hs:h.Sub h') {x:AV} {n:Nat} {cs:List AV} (e:rdH h x n=some cs):rdH h' x n=some cs:=by
 unfold rdH at e ⊢;split
 ·rename_i id off;simp only at e;split at e
  ·rename_i l fz hg;rw[hs _ _ hg];exact e
  ·cases e
 ·exact e
 ·simp_all
theorem kqk {h h':T Blk} (hs:h.Sub h') {sz:Nat} {x:AV} {p:Nat×List AV} (e:kbn h sz x=some p):kbn h' sz x=some p:=by
 unfold kbn at e ⊢;split
 ·exact e
 ·rename_i id off n z c;simp only at e;split at e
  ·rename_i hz;rw[iq hz];split at e
   ·rename_i l fz hg;rw[hs _ _ hg];exact e
   ·cases e
  ·cases e
 ·exact e
 ·simp_all
theorem k3v {o:AOp} (hr:kfk o=true) {v:AV} {s':St} (e:opA s o=some (v,s')):s'=s:=by
 cases o <;> simp only[kfk,yab] at hr
 all_goals
  simp only[opA] at e
  (repeat' split at e) <;> simp_all
 all_goals (obtain⟨_,_,_,h3⟩:=e;exact h3.symm)
theorem kjl {o:AOp} (hr:kfk o=true) {v:AV} {s':St} (e:opA s o=some (v,s')) {h:T Blk} (hs:s.h.Sub h):opA {s with h:=h} o=some (v,{s with h:=h}):=by
 have ev: ∀ x:AO,x.ev {s with h:=h}=x.ev s:=fun x=>by cases x <;> rfl
 have eb: ∀ a b l m n,kck {s with h:=h} a b l m n=kck s a b l m n:=fun a b l m n=>by
  unfold kck;have: ∀ d x,kcv {s with h:=h} d x=kcv s d x:=fun d x=>by cases x <;> simp[kcv,ev]
  simp only[this]
 cases o <;> simp only[kfk,yab] at hr
 case load g n a=>
  simp only[opA,ev] at e ⊢;split at e
  ·rename_i cs hc;rw[k3r hs hc];simp only;cases hv:kdh g cs with
   |none=>simp[hv] at e
   |some u=>simp[hv] at e ⊢;exact e.1
  ·cases e
 case look kk z ok m k=>
  simp only[opA,ev] at e ⊢;split at e
  ·rename_i id hm;split at e
   ·rename_i es hg;rw[hs _ _ hg];simp only
    (repeat' split at e) <;> simp_all
   ·cases e
  ·cases e
 case b2s x=>
  simp only[opA,ev] at e ⊢;split at e
  ·rename_i n cs hc;rw[kqk hs hc];simp only;split at e
   ·cases e
   ·cases hv:kfl cs with
    |none=>simp[hv] at e
    |some u=>simp[hv] at e ⊢;exact e.1
  ·cases e
 case slA len sz x lo hi mx=>
  simp only[opA,ev,eb] at e ⊢;split at e
  ·split at e
   ·rename_i cs fz hg;rw[hs _ _ hg];simp only
    (repeat' split at e) <;> simp_all
   ·cases e
  ·cases e
 case len k x=>
  simp only[opA,ev] at e ⊢;split at e
  ·simp_all
  ·simp_all
  ·simp_all
  ·simp_all
  ·split at e
   ·rename_i es hg;rw[hs _ _ hg]
    simp_all
   ·cases e
  ·cases e
 case cvp t n x=>
  simp only[opA,ev] at e ⊢;split at e
  ·simp_all
  ·split at e
   ·rename_i cs fz ty hg;rw[hs _ _ hg]
    (repeat' split at e) <;> simp_all
   ·cases e
  ·cases e
 case eqp neg x y=>
  simp only[opA,ev] at e ⊢;split at e
  ·split at e
   ·rename_i hc;obtain⟨rfl,hg⟩:=hc;obtain⟨k,hk⟩:=Option.isSome_iff_exists.1 hg;have:=hs _ _ hk
    simp_all
   ·cases e
  ·cases e
theorem k3a {o:AOp} (hq:kgk o=true) {v:AV} {s':St} (e:opA s o=some (v,s')):s'=s:=by
 cases o <;> simp only[kgk,yab] at hq
 all_goals
  simp only[opA] at e
  (repeat' split at e) <;> simp_all
 all_goals (first |(rcases e with⟨_,_,h3⟩ | ⟨_,_,h3⟩ <;> exact h3.symm) |(obtain⟨_,_,_,h3⟩:=e;exact h3.symm))
def k49 (h:T Blk) (n:Nat) (p:AV×St):AV×St:=(p.1,{p.2 with h:=h,nx:=n})
theorem k29 {o:AOp} (hq:kgk o=true) (h:T Blk) (n:Nat):opA {s with h:=h,nx:=n} o=(opA s o).map (k49 h n):=by
 have ev: ∀ x:AO,x.ev {s with h:=h,nx:=n}=x.ev s:=fun x=>by cases x <;> rfl
 have evs: ∀ l:List AO,l.map (AO.ev {s with h:=h,nx:=n})=l.map (AO.ev s):=fun l=>yah fun x _=>ev x
 have evps: ∀ l:List (Nat×Nat×AO),evp {s with h:=h,nx:=n} l=evp s l:=fun l=>yah fun x _=>by rw[ev]
 have eb: ∀ a b l m k,kck {s with h:=h,nx:=n} a b l m k=kck s a b l m k:=fun a b l m k=>by
  unfold kck;have: ∀ d x,kcv {s with h:=h,nx:=n} d x=kcv s d x:=fun d x=>by cases x <;> simp[kcv,ev]
  simp only[this]
 cases o <;> simp only[kgk,yab] at hq
 all_goals
  simp only[opA,ev,evs,evps,eb]
  (repeat' split) <;> simp_all [k49,yaa]
theorem kny {o:AOp} (hn:kjc o=true) {v:AV} {s':St} (e:opA s o=some (v,s')):
  ∃ b,s'=s.new b/\ ∀ h:T Blk,opA {s with h:=h} o=some (v,St.new {s with h:=h} b):=by
 have ev: ∀ (h:T Blk) (x:AO),x.ev {s with h:=h}=x.ev s:=fun h x=>by cases x <;> rfl
 have evps: ∀ (h:T Blk) (l:List (Nat×Nat×AO)),evp {s with h:=h} l=evp s l:=fun h l=>yah fun x _=>by rw[ev]
 cases o <;> simp only[kjc,yab] at hn
 all_goals
  simp only[opA,ev,evps] at e ⊢
  (repeat' split at e) <;> first |(cases e;done) |(cases e;exact⟨_,rfl,fun h=>by simp_all [St.new]⟩)
end
mutual
theorem AV.beq_eq: ∀ {a b:AV},AV.beq a b=true->a=b
 | .bool a,b,h=>by cases b <;> simp_all [AV.beq]
 | .int k a,b,h=>by cases b <;> simp_all [AV.beq]
 | .str a,b,h=>by cases b <;> simp_all [AV.beq]
 | .nilp,b,h=>by cases b <;> simp_all [AV.beq]
 | .ptr i o,b,h=>by cases b <;> simp_all [AV.beq]
 | .ip cs o,b,h=>by
   cases b <;> simp only[AV.beq,yad,beq_iff_eq,yab] at h
   rename_i cs' o';rw[kgp h.1,h.2]
 | .sl a b c d e,x,h=>by cases x <;> simp_all [AV.beq]
 | .im els c,b,h=>by
   cases b <;> simp only[AV.beq,yad,beq_iff_eq,yab] at h
   rw[kw1 h.1,h.2]
 | .fn f a c,b,h=>by
   cases b <;> simp only[AV.beq,yad,beq_iff_eq,yab] at h
   rw[h.1.1,kgp h.1.2,kgp h.2]
 | .yld i,b,h=>by cases b <;> simp_all [AV.beq]
 | .nilf,b,h=>by cases b <;> simp_all [AV.beq]
 | .nilm,b,h=>by cases b <;> simp_all [AV.beq]
 | .mp i,b,h=>by cases b <;> simp_all [AV.beq]
 | .nili,b,h=>by cases b <;> simp_all [AV.beq]
 | .ifv,b,h=>by cases b <;> simp[AV.beq] at h
 | .ifc t x,b,h=>by
   cases b <;> simp only[AV.beq,yad,beq_iff_eq,yab] at h
   rw[h.1,AV.beq_eq h.2]
 | .nils,b,h=>by cases b <;> simp_all [AV.beq]
 | .agg cs,b,h=>by
   cases b <;> simp only[AV.beq,yab] at h
   rw[kgp h]
 | .tup cs,b,h=>by
   cases b <;> simp only[AV.beq,yab] at h
   rw[kgp h]
 | .var f i,b,h=>by cases b <;> simp_all [AV.beq]
theorem kgp: ∀ {a b:List AV},kcy a b=true->a=b
 | [],[],_=>rfl
 | [],_::_,h=>by simp[kcy] at h
 |_::_,[],h=>by simp[kcy] at h
 |x::xs,y::ys,h=>by
  simp only[kcy,yad] at h;rw[AV.beq_eq h.1,kgp h.2]
theorem kw1: ∀ {a b:List (List AV)},ket a b=true->a=b
 | [],[],_=>rfl
 | [],_::_,h=>by simp[ket] at h
 |_::_,[],h=>by simp[ket] at h
 |x::xs,y::ys,h=>by
  simp only[ket,yad] at h;rw[kgp h.1,kw1 h.2]
end
theorem kkf {α β:Type} {f g:α->Option β}: ∀ {l:List α},(∀ x ∈ l,f x=g x)->mapO f l=mapO g l
 | [],_=>rfl
 |a::as,h=>by
  unfold mapO;rw[h a (by simp),kkf (l:=as) fun x hx=>h x (by simp[hx])]
theorem klh {h h':T Blk}: ∀ {n:Nat} {v:AV},AV.hasSl n v=false->frz h n v=frz h' n v
 |0,_,_=>rfl
 |n+1,v,hs=>by
  cases v <;> simp only[AV.hasSl,yak,Bool.or_eq_false_iff,Bool.true_eq_false] at hs <;> simp only[frz]
  case fn f a b=>
   rw[kkf (l:=a) fun x hx=>klh (h:=h) (h':=h') (by simpa using hs.1 x hx),kkf (l:=b) fun x hx=>klh (h:=h) (h':=h') (by simpa using hs.2 x hx)]
  case agg cs=>rw[kkf (l:=cs) fun x hx=>klh (h:=h) (h':=h') (by simpa using hs x hx)]
  case tup cs=>rw[kkf (l:=cs) fun x hx=>klh (h:=h) (h':=h') (by simpa using hs x hx)]
  case ifc t x=>cases x <;> rfl
namespace T
variable {α:Type}
theorem k8d: ∀ (f:Nat) (t:T α) (n m:Nat) (x y:Option α),n≠m->n<f->m<f->kdo f (kdo f t n x) m y=kdo f (kdo f t m y) n x:=by
 intro f
 induction f with
 |zero=>intro t n m x y _ h;omega
 |succ f ih=>
  intro t n m x y hne hn hm;by_cases n0:n=0
  ·subst n0;have m0: ¬m=0:=fun e=>hne e.symm
   simp only[kdo,if_true,m0,if_false];split <;> simp[left,right,top]
  ·by_cases m0:m=0
   ·subst m0;simp only[kdo,if_true,n0,if_false];split <;> simp[left,right,top]
   ·simp only[kdo,n0,m0,if_false];by_cases n1:n % 2=1 <;> by_cases m1:m % 2=1
    ·simp only[n1,m1,if_true,left,right,top];rw[ih _ _ _ _ _ (by omega) (by omega) (by omega)]
    ·simp only[n1,m1,if_true,if_false,left,right,top]
    ·simp only[n1,m1,if_true,if_false,left,right,top]
    ·simp only[n1,m1,if_false,left,right,top];rw[ih _ _ _ _ _ (by omega) (by omega) (by omega)]
theorem qew: ∀ (f g:Nat) (t:T α) (n:Nat) (x:Option α),n<f->n<g->kdo f t n x=kdo g t n x:=by
 intro f
 induction f with
 |zero=>intro g t n x h;omega
 |succ f ih=>
  intro g t n x hf hg;cases g with
  |zero=>omega
  |succ g=>
   simp only[kdo];split
   ·rfl
   ·split
    ·rw[ih g _ _ _ (by omega) (by omega)]
    ·rw[ih g _ _ _ (by omega) (by omega)]
theorem put_comm (t:T α) {n m:Nat} (x y:Option α) (h:n≠m):(t.put n x).put m y=(t.put m y).put n x:=by
 unfold put;have e1: ∀ (s:T α) (k:Nat) (z:Option α),k<n+m+1->kdo (k+1) s k z=kdo (n+m+1) s k z:=fun s k z hk=>qew _ _ s k z (Nat.lt_succ_self k) hk
 rw[e1 _ n x (by omega),e1 _ m y (by omega),e1 _ m y (by omega),e1 _ n x (by omega)];exact k8d _ _ _ _ _ _ h (by omega) (by omega)
end T
section
variable {F:Nat->Option AFn} {K:Nat->List AV->Option AV} {ex:AC->St->Option (AE×St)} {nx0:Nat} {s s':St} {hist hist':List (T Blk)} {o:ADr} {v:AV}
theorem qq5 {r:T AV} {g:Option (Nat×Bool)} (h: ∀ t b,g=some (t,b)->(r.get t).getD (.tup [])=s.rg t):kb8 {s with r:=r} g=kb8 s g:=by
 cases g with
 |none=>rfl
 |some p=>
  obtain⟨t,b⟩:=p;unfold kb8;simp only[qnq,h t b rfl]
theorem kgn (g:Option (Nat×Bool)) (h:T Blk) (n:Nat):kb8 {s with h:=h,nx:=n} g=kb8 s g:=by cases g <;> rfl
theorem kqh {r:T AV} (h: ∀ t ∈ o.o.looks,(r.get t).getD (.tup [])=s.rg t):
  kav F K ex nx0 hist o {s with r:=r}=(kav F K ex nx0 hist o s).map fun p=>(p.1,{p.2.1 with r:=r},p.2.2):=by
 have h1: ∀ t ∈ o.o.op.looks,(r.get t).getD (.tup [])=s.rg t:=fun t ht=>h t (List.mem_append_left _ ht)
 have hw:kb8 {s with r:=r} o.o.guard=kb8 s o.o.guard:=qq5 fun t b e=>h t (List.mem_append_right _ (by rw[e];simp))
 unfold kav;rw[hw];split
 ·split
  ·split
   ·rw[kl0 h1];cases opA s o.o.op with
    |none=>rfl
    |some p=>rfl
   ·split
    ·rename_i f as hop;rw[hop] at h1;simp only[AOp.looks,yag] at h1;rw[kaw (x:=f) fun t ht=>h1 t (.inl ht),klc (l:=as) fun t ht=>h1 t (.inr ht)]
     (repeat' split) <;> simp_all
    ·rfl
  ·split
   ·have:=kl0 (s:={s with nx:=nx0+o.i}) (r:=r) (o:=o.o.op) h1;simp only at this;rw[this];cases opA {s with nx:=nx0+o.i} o.o.op with
    |none=>rfl
    |some p=>rfl
   ·rfl
  ·rw[kv9 h1];cases kbi F K ex o.o.op s with
   |none=>rfl
   |some p=>rfl
  ·split
   ·rw[kv9 h1];cases kbi F K ex o.o.op s with
    |none=>rfl
    |some p=>rfl
   ·rfl
  ·split
   ·rw[kl0 h1];cases opA s o.o.op with
    |none=>rfl
    |some p=>
     have hb:kgm {s with r:=r} o.o.op p.1=kgm s o.o.op p.1:=by
      funext h;unfold kgm;rw[show({r:=r,h:=h,nx:=s.nx}:St)={({s with h:=h}:St) with r:=r} from rfl,kl0 (s:={s with h:=h}) (r:=r) (o:=o.o.op) h1];cases opA {s with h:=h} o.o.op <;> rfl
     simp only[yai,ka7];rw[hb];split <;> rfl
   ·rfl
 ·rfl
theorem kmz (h:kav F K ex nx0 hist o s=some (v,s',hist')):s'.r=s.r:=by
 have:=kqh (F:=F) (K:=K) (ex:=ex) (nx0:=nx0) (hist:=hist) (o:=o) (s:=s) (r:=s.r) (fun _ _=>rfl);have e:({s with r:=s.r}:St)=s:=rfl;rw[e,h] at this;simp only[yai,yac,yae,true_and,and_true] at this;rw[this]
theorem step0 (hk:o.k=0) (h:kav F K ex nx0 hist o s=some (v,s',hist')):
  s'=s/\hist'=hist/\ ∀ (g:T Blk) (n:Nat) (hist2:List (T Blk)),kav F K ex nx0 hist2 o {s with h:=g,nx:=n}=some (v,{s with h:=g,nx:=n},hist2):=by
 unfold kav at h;split at h
 ·rename_i hw;simp only[hk] at h;split at h
  ·rename_i hq;cases ho:opA s o.o.op with
   |none=>simp[ho] at h
   |some p=>
    obtain⟨u,s1⟩:=p;simp only[ho,yac,yae] at h;obtain⟨rfl,rfl,rfl⟩:=h;refine⟨rfl,rfl,fun g n hist2=> ?_⟩;unfold kav;rw[kgn,iq hw];simp only[hk];rw[iq hq,k29 hq,ho];rfl
  ·rename_i hq;split at h
   ·rename_i f as hop;split at h
    ·rename_i g first caps hf
     split at h
     ·rename_i fn hF;split at h
      ·rename_i hp;split at h
       ·rename_i xs hx;split at h
        ·rename_i r hr;simp only[yac,yae] at h;obtain⟨rfl,rfl,rfl⟩:=h;refine⟨rfl,rfl,fun g' n hist2=> ?_⟩;have ev: ∀ x:AO,x.ev {s with h:=g',nx:=n}=x.ev s:=fun x=>by cases x <;> rfl
         have evs:as.map (AO.ev {s with h:=g',nx:=n})=as.map (AO.ev s):=yah fun x _=>ev x
         unfold kav;rw[kgn,iq hw];simp only[hk];rw[ir hq,hop];simp only[ev,evs,hf,hF,hp,if_true];have hz:mapO (frz g' kbu) (first++List.map (AO.ev s) as++caps)=some xs:=by
          rw[←hx];refine kkf fun x hxm=>klh ?_
          simp only[yad,Bool.not_eq_true'] at hp;have:=hp.2;rw[yak] at this;simpa using this x hxm
         rw[hz];simp only[hr]
        ·cases h
       ·cases h
      ·cases h
     ·cases h
    ·cases h
   ·cases h
 ·rename_i hw;simp only[hk,yac,yae] at h;obtain⟨rfl,rfl,h⟩:=h;refine⟨rfl,by simpa using h.symm,fun g n hist2=> ?_⟩;unfold kav;rw[kgn,ir hw];simp[hk]
theorem step1 (hk:o.k=1) (h:kav F K ex nx0 hist o s=some (v,s',hist')):
  hist'=hist/\((s'=s/\ ∀ (g:T Blk) (n:Nat) (hist2:List (T Blk)),kav F K ex nx0 hist2 o {s with h:=g,nx:=n}=some (v,{s with h:=g,nx:=n},hist2))\/
   ∃ b,s.h.get (nx0+o.i)=none/\s'={s with h:=s.h.put (nx0+o.i) (some b)}/\
    ∀ (g:T Blk) (n:Nat) (hist2:List (T Blk)),g.get (nx0+o.i)=none->kav F K ex nx0 hist2 o {s with h:=g,nx:=n}=some (v,{s with h:=g.put (nx0+o.i) (some b),nx:=n},hist2)):=by
 unfold kav at h;split at h
 ·rename_i hw;simp only[hk] at h;split at h
  ·rename_i hn;simp only[yad,Option.isNone_iff_eq_none] at hn;cases ho:opA {s with nx:=nx0+o.i} o.o.op with
   |none=>simp[ho] at h
   |some p=>
    obtain⟨u,s1⟩:=p;simp only[ho,yac,yae] at h;obtain⟨rfl,rfl,rfl⟩:=h;obtain⟨b,rfl,hb⟩:=kny hn.1 ho;refine⟨rfl,.inr ⟨b,hn.2,rfl,fun g n hist2 hg=> ?_⟩⟩;unfold kav;have hw':kb8 {s with h:=g,nx:=n} o.o.guard=true:=(kgn o.o.guard g n).trans hw;rw[iq hw'];simp only[hk];rw[iq (by simp[hn.1,hg])];have:=hb g;simp only at this;rw[this];rfl
  ·cases h
 ·rename_i hw;simp only[hk,yac,yae] at h;obtain⟨rfl,rfl,h⟩:=h;refine⟨by simpa using h.symm,.inl ⟨rfl,fun g n hist2=> ?_⟩⟩;unfold kav;have hw': ¬kb8 {s with h:=g,nx:=n} o.o.guard=true:=fun e=>hw ((kgn o.o.guard g n).symm.trans e)
  rw[ir hw'];simp[hk]
theorem step2 (hk:o.k=2\/o.k=3) (h:kav F K ex nx0 hist o s=some (v,s',hist')):hist'=s'.h::hist/\
  ((v= .tup []/\s'=s/\ ∀ (g:T Blk) (n:Nat) (hist2:List (T Blk)),kav F K ex nx0 hist2 o {s with h:=g,nx:=n}=some (v,{s with h:=g,nx:=n},g::hist2))\/
    (kbi F K ex o.o.op s=some (v,s')/\(o.k=3->khg F o.o.op=true)/\ ∀ (g:T Blk) (n:Nat) (hist2:List (T Blk)) (u:AV) (s2:St),kbi F K ex o.o.op {s with h:=g,nx:=n}=some (u,s2)->kav F K ex nx0 hist2 o {s with h:=g,nx:=n}=some (u,s2,s2.h::hist2))):=by
 unfold kav at h;split at h
 ·rename_i hw;have key: ∀ q,kbi F K ex o.o.op s=some q->(o.k=3->khg F o.o.op=true)->(v,s',hist')=(q.1,q.2,q.2.h::hist)->hist'=s'.h::hist/\
    ((v= .tup []/\s'=s/\ ∀ (g:T Blk) (n:Nat) (hist2:List (T Blk)),kav F K ex nx0 hist2 o {s with h:=g,nx:=n}=some (v,{s with h:=g,nx:=n},g::hist2))\/
      (kbi F K ex o.o.op s=some (v,s')/\(o.k=3->khg F o.o.op=true)/\ ∀ (g:T Blk) (n:Nat) (hist2:List (T Blk)) (u:AV) (s2:St),kbi F K ex o.o.op {s with h:=g,nx:=n}=some (u,s2)->kav F K ex nx0 hist2 o {s with h:=g,nx:=n}=some (u,s2,s2.h::hist2))):=by
   intro q hq hc he;obtain⟨u,s1⟩:=q;simp only[yae] at he;obtain⟨rfl,rfl,rfl⟩:=he;refine⟨rfl,.inr ⟨hq,hc,fun g n hist2 u s2 hu=> ?_⟩⟩;unfold kav;rw[kgn,iq hw];rcases hk with hk |hk
   ·simp only[hk,hu]
   ·simp only[hk,hc hk,hu,if_true]
  rcases hk with hk |hk
  ·simp only[hk] at h;cases ho:kbi F K ex o.o.op s with
   |none=>simp[ho] at h
   |some p=>simp only[ho,yac] at h;rw[←ho];exact key p ho (fun e=>by omega) h.symm
  ·simp only[hk] at h;split at h
   ·rename_i hc;cases ho:kbi F K ex o.o.op s with
    |none=>simp[ho] at h
    |some p=>simp only[ho,yac] at h;rw[←ho];exact key p ho (fun _=>hc) h.symm
   ·cases h
 ·rename_i hw;simp only[yac,yae] at h;obtain⟨rfl,rfl,rfl⟩:=h;refine⟨rfl,.inl ⟨rfl,rfl,fun g n hist2=> ?_⟩⟩;unfold kav;rw[kgn,ir hw,iq hk]
def ADr.up (j:ADr) (m:Nat):ADr:={j with back:=j.back - m,fl:=j.fl || decide (0<m)}
theorem k3t {a:AOp} (hr:kfk a=true) {g:T Blk} (n:Nat) {u:St} (e:opA {s with h:=g} a=some (v,u)):opA {s with h:=g,nx:=n} a=some (v,{s with h:=g,nx:=n}):=by
 have ev: ∀ (m:Nat) (x:AO),x.ev {s with h:=g,nx:=m}=x.ev s:=fun m x=>by cases x <;> rfl
 have eb: ∀ (m:Nat) a b l k j,kck {s with h:=g,nx:=m} a b l k j=kck s a b l k j:=fun m a b l k j=>by
  unfold kck;have: ∀ d x,kcv {s with h:=g,nx:=m} d x=kcv s d x:=fun d x=>by cases x <;> simp[kcv,ev]
  simp only[this]
 cases a <;> simp only[kfk,yab] at hr
 case eqp neg x y=>
  simp only[opA,ev] at e ⊢;split at e
  ·split at e
   ·rename_i hc;rw[iq hc];cases e;rfl
   ·cases e
  ·cases e
 all_goals
  simp only[opA,ev,eb] at e ⊢
  (repeat' split at e) <;> simp_all
 all_goals first |(obtain⟨_,h1,h2,_⟩:=e;first |exact⟨_,h1,h2⟩ |(subst h2;exact h1)) |exact e.1
theorem kkt (hk:4<=o.k) (h:kav F K ex nx0 hist o s=some (v,s',hist')):
  s'=s/\hist'=hist/\((∀ (o':ADr) (g:T Blk) (n:Nat) (hist2:List (T Blk)),o'.o=o.o->o'.k=o.k->kav F K ex nx0 hist2 o' {s with h:=g,nx:=n}=some (v,{s with h:=g,nx:=n},hist2))\/
   (o.back<hist.length/\(∀ g ∈ o.seen hist,∃ u,opA {s with h:=g} o.o.op=some (v,u))/\opA s o.o.op=some (v,s)/\kfk o.o.op=true/\
    ∀ (o':ADr) (g:T Blk) (n:Nat) (hist2:List (T Blk)),o'.o=o.o->o'.k=o.k->(∃ u,opA {s with h:=g} o.o.op=some (v,u))->o'.back<hist2.length->(∀ g' ∈ o'.seen hist2,∃ u,opA {s with h:=g'} o.o.op=some (v,u))->
     (o'.seen hist2≠[]->AV.beq v v=true)->kav F K ex nx0 hist2 o' {s with h:=g,nx:=n}=some (v,{s with h:=g,nx:=n},hist2))/\(o.seen hist≠[]->AV.beq v v=true)):=by
 obtain⟨k,hk'⟩: ∃ k,o.k=k+4:=⟨o.k - 4,by omega⟩;unfold kav at h;split at h
 ·rename_i hw;simp only[hk'] at h;split at h
  ·rename_i hr;cases ho:opA s o.o.op with
   |none=>simp[ho] at h
   |some p=>
    obtain⟨u,s1⟩:=p;have:=k3v hr ho;subst this;simp only[ho] at h;split at h
    ·rename_i hc;simp only[yac,yae] at h;obtain⟨rfl,rfl,rfl⟩:=h;simp only[yad,decide_eq_true_eq] at hc;have hall: ∀ g ∈ o.seen hist,∃ u',opA {s1 with h:=g} o.o.op=some (u,u')/\AV.beq u u=true:=fun g hg=>by
      have:=yal.1 hc.2 g hg;unfold kgm at this;split at this
      ·rename_i u' s'' hu;have e:=AV.beq_eq this;subst e;exact⟨_,hu,this⟩
      ·cases this
     refine⟨rfl,rfl,.inr ⟨⟨hc.1,fun g hg=>(hall g hg).elim fun u' h1=>⟨u',h1.1⟩,rfl,hr,fun o' g n hist2 e1 e2 hg hb hs hbb=> ?_⟩,fun hne=> ?_⟩⟩
     ·unfold kav;have hw':kb8 {s1 with h:=g,nx:=n} o.o.guard=true:=(kgn o.o.guard g n).trans hw;rw[e1,iq hw',e2,hk'];simp only;obtain⟨u',hu⟩:=hg;have hu2:=k3t hr n hu;rw[iq hr,hu2];simp only;rw[iq];simp only[yad,decide_eq_true_eq];refine⟨hb,yal.2 fun g' hg'=> ?_⟩;obtain⟨u'',hu''⟩:=hs g' hg';have:opA {r:=s1.r,h:=g',nx:=n} o.o.op=some (u,{s1 with h:=g',nx:=n}):=k3t hr n hu'';unfold kgm;simp only[this,hbb (List.ne_nil_of_mem hg')]
     ·obtain⟨g,hg⟩:=List.exists_mem_of_ne_nil _ hne;obtain⟨_,_,hb⟩:=hall g hg;exact hb
    ·cases h
  ·cases h
 ·rename_i hw;simp only[hk',yac,yae] at h;obtain⟨rfl,rfl,h⟩:=h;refine⟨rfl,by simpa using h.symm,.inl fun o' g n hist2 e1 e2=> ?_⟩;unfold kav;have hw': ¬kb8 {s with h:=g,nx:=n} o.o.guard=true:=fun e=>hw ((kgn o.o.guard g n).symm.trans e)
  rw[e1,ir hw',e2,hk'];simp
end
theorem kg8 {α:Type} {h:T α} {i:Nat} (hi:h.get i=none) (b:α):h.Sub (h.put i (some b)):=fun j y hy=>by
 rw[T.get_put];by_cases e:i=j
 ·subst e;rw[hi] at hy;cases hy
 ·rw[ir e];exact hy
section
variable {h h':T Blk} {i:Nat} {b:Blk}
theorem kwl {id off:Nat} {xs:List AV} (hi:h.get i=none) (e:wrH h id off xs=some h'):h'.get i=none/\wrH (h.put i (some b)) id off xs=some (h'.put i (some b)):=by
 unfold wrH at e ⊢;split at e
 ·rename_i cs ty hg;have hne:i≠id:=fun x=>by subst x;rw[hi] at hg;cases hg
  split at e
  ·rename_i hc;cases e;refine⟨by rw[T.get_put,ir (fun x=>hne x.symm)];exact hi,?_⟩;have:(h.put i (some b)).get id=some (.cells cs false ty):=by rw[T.get_put,ir hne];exact hg
   rw[this];simp only;rw[iq hc,T.put_comm _ _ _ hne]
  ·cases e
 ·cases e
theorem ki7 {α β:Type} {f g:α->Option β}: ∀ {l:List α} {r:List β},(∀ x ∈ l,∀ y,f x=some y->g x=some y)->mapO f l=some r->mapO g l=some r
 | [],r,_,e=>e
 |a::as,r,hfg,e=>by
  unfold mapO at e ⊢;split at e
  ·cases e
  ·rename_i y hy;rw[hfg a (by simp) y hy];simp only;split at e
   ·cases e
   ·rename_i ys hys;rw[ki7 (fun x hx=>hfg x (by simp[hx])) hys];exact e
theorem km9 (hs:h.Sub h'): ∀ {n:Nat} {v u:AV},frz h n v=some u->frz h' n v=some u
 |0,_,_,e=>by cases e
 |n+1,v,u,e=>by
  have ih:=fun(l r:List AV)=>ki7 (l:=l) (r:=r) fun x _ y (hy:frz h n x=some y)=>km9 hs hy
  cases v <;> simp only[frz] at e ⊢
  case sl id off k sz c=>
   split at e
   ·rename_i cs fz hg;rw[hs _ _ hg]
    try simp only
    split at e
    ·rename_i l hl
     try simp only[hl]
     split at e
     ·rename_i r hr
      try simp only[ih _ _ hr]
      exact e
     ·cases e
    ·cases e
   ·cases e
  case agg cs=>
   simp only[yaf] at e ⊢;obtain⟨r,hr,e⟩:=e;exact⟨r,ih _ _ hr,e⟩
  case tup cs=>
   simp only[yaf] at e ⊢;obtain⟨r,hr,e⟩:=e;exact⟨r,ih _ _ hr,e⟩
  case fn f a c=>
   split at e
   ·rename_i a' c' ha hc
    try simp only[ih _ _ ha,ih _ _ hc]
    exact e
   ·cases e
  case ifc t x=>cases x <;> exact e
  all_goals exact e
theorem kna {f:T Blk->AV->Option (T Blk)} (hf: ∀ h h' v,h.get i=none->f h v=some h'->h'.get i=none/\f (h.put i (some b)) v=some (h'.put i (some b))):
  ∀ {l:List AV} {h h':T Blk},h.get i=none->fzL f h l=some h'->h'.get i=none/\fzL f (h.put i (some b)) l=some (h'.put i (some b))
 | [],h,h',hi,e=>by cases e;exact⟨hi,rfl⟩
 |x::xs,h,h',hi,e=>by
  unfold fzL at e ⊢;split at e
  ·rename_i h1 hx;obtain⟨h2,h3⟩:=hf _ _ _ hi hx;rw[h3];exact kna hf h2 e
  ·cases e
theorem krh: ∀ (n:Nat) (h h':T Blk) (v:AV),h.get i=none->fzs n h v=some h'->h'.get i=none/\fzs n (h.put i (some b)) v=some (h'.put i (some b))
 |0,_,_,_,_,e=>by cases e
 |n+1,h,h',v,hi,e=>by
  have ih: ∀ {l:List AV} {h h':T Blk},h.get i=none->fzL (fzs n) h l=some h'->h'.get i=none/\fzL (fzs n) (h.put i (some b)) l=some (h'.put i (some b)):=fun hi e=>kna (fun h h' v=>krh n h h' v) hi e
  cases v <;> simp only[fzs] at e ⊢
  case sl id off k sz c=>
   split at e
   ·rename_i cs fz ty hg;have hne:i≠id:=fun x=>by subst x;rw[hi] at hg;cases hg
    have:(h.put i (some b)).get id=some (.cells cs fz ty):=by rw[T.get_put,ir hne];exact hg
    rw[this];simp only;rw[T.put_comm _ _ _ hne];exact ih (by rw[T.get_put,ir (fun x=>hne x.symm)];exact hi) e
   ·cases e
  case agg cs=>exact ih hi e
  case tup cs=>exact ih hi e
  case fn f a c=>
   split at e
   ·rename_i h1 ha;obtain⟨h2,h3⟩:=ih hi ha;rw[h3];exact ih h2 e
   ·cases e
  all_goals (cases e;exact⟨hi,rfl⟩)
end
section
variable {F:Nat->Option AFn} {K:Nat->List AV->Option AV} {ex:AC->St->Option (AE×St)} {s s':St} {i:Nat} {b:Blk} {v:AV} {o:AOp}
theorem evH (h:T Blk) (x:AO):x.ev {s with h:=h}=x.ev s:=by cases x <;> rfl
theorem kp7 (hc:khg F o=true) (hi:s.h.get i=none) (hn:i<s.nx) (e:kbi F K ex o s=some (v,s')):
  s'.h.get i=none/\i<s'.nx/\kbi F K ex o {s with h:=s.h.put i (some b)}=some (v,{s' with h:=s'.h.put i (some b)}):=by
 have hs:=kg8 hi b;unfold khg at hc;split at hc
 ·rename_i g as;split at hc
  ·rename_i fn hF;have evs:as.map (AO.ev {s with h:=s.h.put i (some b)})=as.map (AO.ev s):=yah fun x _=>evH _ x
   simp only[kbi,AO.ev,keu,kb1,hF,hc,if_true,List.nil_append,List.append_nil,evs] at e ⊢;split at e
   ·cases e
   ·rename_i xs hx;rw[ki7 (fun x _ y hy=>km9 hs hy) hx]
    try simp only
    split at e
    ·cases e
    ·rename_i r hr
     try simp only[hr]
     split at e
     ·rename_i hfl;rw[iq hfl];cases e;exact⟨hi,hn,by first |trivial |rfl⟩
     ·rename_i hfl;rw[ir hfl];split at e
      ·rename_i h1 h2;cases e;obtain⟨h3,h4⟩:=kna (i:=i) (b:=b) (fun h h' v=>krh kbu h h' v) hi h2;rw[h4];exact⟨h3,hn,by first |trivial |rfl⟩
      ·cases e
  ·cases hc
 ·rename_i n a x;simp only[kbi,opA,evH] at e ⊢;split at e
  ·rename_i hl;rw[iq hl];unfold wrA at e ⊢;split at e
   ·rename_i id off;simp only[yaf] at e;obtain⟨h1,h2,h3⟩:=e;cases h3;obtain⟨h4,h5⟩:=kwl (b:=b) hi h2;simp only[h5,yai];exact⟨h4,hn,by first |trivial |rfl⟩
   ·simp at e
  ·cases e
 ·rename_i t sz by_ d x;simp only[kbi,opA,evH] at e ⊢;split at e
  ·rename_i n xs hx;rw[kqk hs hx]
   try simp only
   split at e
   ·rename_i hc1;rw[iq hc1];split at e
    ·rename_i els cl hd
     try simp only
     split at e
     ·rename_i h0;rw[iq h0];cases e;exact⟨hi,hn,by first |trivial |rfl⟩
     ·rename_i h0;rw[ir h0];split at e
      ·rename_i h1;rw[iq h1];cases e;refine⟨by simp only[St.new];rw[T.get_put,ir (by omega)];exact hi,by simp only[St.new];omega,?_⟩;simp only[St.new];rw[T.put_comm _ _ _ (by omega:i≠s.nx)]
      ·cases e
    ·rename_i hd
     try simp only
     split at e
     ·rename_i h0;rw[iq h0];cases e;exact⟨hi,hn,by first |trivial |rfl⟩
     ·rename_i h0;rw[ir h0];split at e
      ·rename_i h1;rw[iq h1];cases e;refine⟨by simp only[St.new];rw[T.get_put,ir (by omega)];exact hi,by simp only[St.new];omega,?_⟩;simp only[St.new];rw[T.put_comm _ _ _ (by omega:i≠s.nx)]
      ·cases e
    ·rename_i id off k z c hd
     try simp only
     split at e
     ·cases e
     ·rename_i hz;rw[ir hz];split at e
      ·rename_i h0;rw[iq h0];cases e;exact⟨hi,hn,by first |trivial |rfl⟩
      ·rename_i h0;rw[ir h0];split at e
       ·rename_i h1;rw[iq h1];split at e
        ·rename_i cs fz hg;have hne:i≠id:=fun x=>by subst x;rw[hi] at hg;cases hg
         rw[hs _ _ hg]
         try simp only
         split at e
         ·rename_i m
          try simp only
          split at e
          ·rename_i hm;rw[iq hm];simp only[yaf] at e;obtain⟨h4,h5,h6⟩:=e;cases h6;obtain⟨h7,h8⟩:=kwl (b:=b) hi h5;simp only[h8,yai];exact⟨h7,hn,by first |trivial |rfl⟩
          ·rename_i hm;rw[ir hm];split at e
           ·rename_i old ho
            try simp only[ho]
            cases e;refine⟨by simp only[St.new];rw[T.get_put,ir (by omega)];exact hi,by simp only[St.new];omega,?_⟩;simp only[St.new];rw[T.put_comm _ _ _ (by omega:i≠s.nx)]
           ·cases e
         ·try simp only
          split at e
          ·rename_i hq;rw[iq hq];cases e;refine⟨by rw[T.get_put,ir (by omega),T.get_put,ir (fun x=>hne x.symm)];exact hi,Nat.lt_succ_of_lt hn,?_⟩;rw[T.put_comm _ _ _ hne,T.put_comm _ _ _ (by omega:i≠s.nx)]
          ·cases e
        ·cases e
       ·cases e
    ·cases e
   ·cases e
  ·cases e
 ·rename_i sz d x;simp only[kbi,opA,evH] at e ⊢;split at e
  ·rename_i n xs id off k z c hx hd;rw[kqk hs hx,hd]
   try simp only
   split at e
   ·rename_i hz;rw[iq hz];simp only[yaf] at e;obtain⟨h4,h5,h6⟩:=e;cases h6;obtain⟨h7,h8⟩:=kwl (b:=b) hi h5;simp only[h8,yai];exact⟨h7,hn,by first |trivial |rfl⟩
   ·cases e
  ·cases e
 ·cases hc
end
end Go.Proofs.Hz
