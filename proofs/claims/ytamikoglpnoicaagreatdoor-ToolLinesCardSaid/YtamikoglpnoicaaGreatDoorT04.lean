/-
  Symbolic runs: values with something not looked into, and what they stand for.
  Conditions: none.
-/
import Derived.Test.YtamikoglpnoicaaGreatDoorT01
import Derived.Test.YtamikoglpnoicaaGreatDoorT03
namespace Go.Proofs.Hz
structure Val where
 v:Bool→Nat→AV
 σ:Nat→Nat
 lo:Nat
 hid:List (Nat×Blk):=[]
def BIG:Nat:=1000000
def gn (ρ:Val) (n:Nat):Nat:=if n<BIG then n else match ρ.v false n with
 | .im els _=>els.length
 |_=>0
def ownC (ρ:Val) (n:Nat):List AV:=match ρ.v false n with
 | .im els _=>els.flatten
 |_=>[]
def kci:AV→Bool
 | .bool _=>true
 | .int .. =>true
 | .str _=>true
 | .nilp=>true
 | .ip .. =>true
 | .im .. =>true
 | .nilf=>true
 | .nilm=>true
 | .nili=>true
 |_=>false
structure Good (ρ:Val):Prop where
 v: ∀ fl i,kci (ρ.v fl i)=true∧(ρ.v fl i).flat=fl
 inj: ∀ i j,ρ.σ i=ρ.σ j→i=j
 own: ∀ k,BIG≤k→ ∃ els,ρ.v false k= .im els false∧(∀ e ∈ els,e.length=k % 1000)∧els.flatten.all kci=true
mutual
def gm (ρ:Val):AV→AV
 | .var fl i=>ρ.v fl i
 | .ip cs off=> .ip (gmL ρ cs) off
 | .im els c=> .im (gmLL ρ els) c
 | .fn f a b=> .fn f (gmL ρ a) (gmL ρ b)
 | .agg cs=> .agg (gmL ρ cs)
 | .tup cs=> .tup (gmL ρ cs)
 | .bool b=> .bool b
 | .int k n=> .int k n
 | .str s=> .str s
 | .nilp=> .nilp
 | .ptr i o=> .ptr (ρ.σ i) o
 | .sl a b c d e=> .sl (ρ.σ a) b (gn ρ c) d e
 | .yld i=> .yld (ρ.σ i)
 | .nilf=> .nilf
 | .nilm=> .nilm
 | .mp i=> .mp (ρ.σ i)
 | .nili=> .nili
 | .ifv=> .ifv
 | .ifc t x=> .ifc t (gm ρ x)
 | .nils=> .nils
def gmL (ρ:Val):List AV→List AV
 | []=>[]
 |a::as=>gm ρ a::gmL ρ as
def gmLL (ρ:Val):List (List AV)→List (List AV)
 | []=>[]
 |a::as=>gmL ρ a::gmLL ρ as
end
mutual
def kda:AV→Bool
 | .var _ _=>false
 | .ip cs _=>kdt cs
 | .im els _=>kli els
 | .fn _ a b=>kdt a && kdt b
 | .agg cs=>kdt cs
 | .tup cs=>kdt cs
 | .bool _=>true
 | .int .. =>true
 | .str _=>true
 | .nilp=>true
 | .ptr .. =>false
 | .sl .. =>false
 | .yld _=>false
 | .nilf=>true
 | .nilm=>true
 | .mp _=>false
 | .nili=>true
 | .ifv=>true
 | .ifc _ x=>kda x
 | .nils=>true
def kdt:List AV→Bool
 | []=>true
 |a::as=>kda a && kdt as
def kli:List (List AV)→Bool
 | []=>true
 |a::as=>kdt a && kli as
end
mutual
theorem kkr (ρ:Val): ∀ {v:AV},kda v=true→gm ρ v=v
 | .var _ _,h=>by simp[kda] at h
 | .ip cs _,h=>by simp only[kda] at h;simp only[gm,kd1 ρ h]
 | .im els _,h=>by simp only[kda] at h;simp only[gm,ktp ρ h]
 | .fn _ a b,h=>by simp only[kda,Bool.and_eq_true] at h;simp only[gm,kd1 ρ h.1,kd1 ρ h.2]
 | .agg cs,h=>by simp only[kda] at h;simp only[gm,kd1 ρ h]
 | .tup cs,h=>by simp only[kda] at h;simp only[gm,kd1 ρ h]
 | .bool _,_=>rfl
 | .int ..,_=>rfl
 | .str _,_=>rfl
 | .nilp,_=>rfl
 | .ptr ..,h=>by simp[kda] at h
 | .sl ..,h=>by simp[kda] at h
 | .yld _,h=>by simp[kda] at h
 | .nilf,_=>rfl
 | .nilm,_=>rfl
 | .mp _,h=>by simp[kda] at h
 | .nili,_=>rfl
 | .ifv,_=>rfl
 | .ifc _ x,h=>by simp only[kda] at h;simp only[gm,kkr ρ h]
 | .nils,_=>rfl
theorem kd1 (ρ:Val): ∀ {l:List AV},kdt l=true→gmL ρ l=l
 | [],_=>rfl
 |a::as,h=>by simp only[kdt,Bool.and_eq_true] at h;simp only[gmL,kkr ρ h.1,kd1 ρ h.2]
theorem ktp (ρ:Val): ∀ {l:List (List AV)},kli l=true→gmLL ρ l=l
 | [],_=>rfl
 |a::as,h=>by simp only[kli,Bool.and_eq_true] at h;simp only[gmLL,kd1 ρ h.1,ktp ρ h.2]
end
theorem kbu (ρ:Val): ∀ l:List AV,gmL ρ l=l.map (gm ρ)
 | []=>rfl
 |a::as=>by simp only[gmL,List.map_cons,kbu ρ as]
theorem kc9 (ρ:Val): ∀ l:List (List AV),gmLL ρ l=l.map (List.map (gm ρ))
 | []=>rfl
 |a::as=>by simp only[gmLL,List.map_cons,kc9 ρ as,kbu]
def fitL (m:Nat) (l:List AV):List AV:=(l++List.replicate m AV.nilp).take m
theorem ktg (m:Nat) (l:List AV):(fitL m l).length=m:=by simp[fitL]
theorem khm {m:Nat} {l:List AV} (h:l.length=m):fitL m l=l:=by unfold fitL;rw[List.take_left' h]
def gB (ρ:Val):Blk→Blk
 | .cells cs fz ty=> .cells (cs.map (gm ρ)) fz ty
 | .map es=> .map (es.map fun p=>(gm ρ p.1,gm ρ p.2))
 | .loop l=> .loop l
 | .own k fz ty=> .cells (ownC ρ k) fz ty
 | .text v ty=> .text (gm ρ v) ty
 | .pre n c vs ty=> .cells (fitL (gn ρ n - vs.length) (ownC ρ c)++vs.map (gm ρ)) false ty
structure HSim (ρ:Val) (h g:T Blk):Prop where
 get: ∀ id k,h.get id=some k→g.get (ρ.σ id)=some (gB ρ k)
 absent: ∀ id,ρ.lo≤id→h.get id=none→g.get (ρ.σ id)=none
 inj: ∀ i j,ρ.σ i=ρ.σ j→i=j
 hid: ∀ p ∈ ρ.hid,g.get p.1=some p.2∧ ∀ i,ρ.σ i≠p.1
structure Sim (ρ:Val) (s c:St):Prop where
 regs: ∀ t v,s.r.get t=some v→c.r.get t=some (gm ρ v)
 heap:HSim ρ s.h c.h
 nxs: ∀ i,ρ.σ (s.nx+i)=c.nx+i
 lo:ρ.lo≤s.nx
section
variable {ρ:Val} {h g:T Blk}
theorem Sim.nx {s c:St} (S:Sim ρ s c):ρ.σ s.nx=c.nx:=S.nxs 0
theorem HSim.cells (H:HSim ρ h g) {id:Nat} {cs:List AV} {fz:Bool} {ty:Nat} (e:h.get id=some (.cells cs fz ty)):g.get (ρ.σ id)=some (.cells (cs.map (gm ρ)) fz ty):=H.get _ _ e
theorem HSim.own (H:HSim ρ h g) {id:Nat} {k:Nat} {fz:Bool} {ty:Nat} (e:h.get id=some (.own k fz ty)):g.get (ρ.σ id)=some (.cells (ownC ρ k) fz ty):=H.get _ _ e
theorem HSim.text (H:HSim ρ h g) {id:Nat} {v:AV} {ty:Nat} (e:h.get id=some (.text v ty)):g.get (ρ.σ id)=some (.text (gm ρ v) ty):=H.get _ _ e
theorem HSim.map (H:HSim ρ h g) {id:Nat} {es:List (AV×AV)} (e:h.get id=some (.map es)):g.get (ρ.σ id)=some (.map (es.map fun p=>(gm ρ p.1,gm ρ p.2))):=H.get _ _ e
theorem HSim.put (H:HSim ρ h g) (id:Nat) (b:Blk):HSim ρ (h.put id (some b)) (g.put (ρ.σ id) (some (gB ρ b))):=⟨fun j k hk=>by
 rw[T.get_put] at hk ⊢
 split at hk
 ·rename_i e;subst e;cases hk;rw[if_pos rfl]
 ·rename_i e;rw[if_neg fun x=>e (H.inj _ _ x)];exact H.get _ _ hk,fun j hl hj=>by
 rw[T.get_put] at hj ⊢
 split at hj
 ·cases hj
 ·rename_i e;rw[if_neg fun x=>e (H.inj _ _ x)];exact H.absent _ hl hj,H.inj,fun p hp=>⟨by rw[T.get_put,if_neg ((H.hid p hp).2 id)];exact(H.hid p hp).1,(H.hid p hp).2⟩⟩
theorem HSim.kill (H:HSim ρ h g) (id:Nat):HSim ρ (h.put id none) (g.put (ρ.σ id) none):=⟨fun j k hk=>by
 rw[T.get_put] at hk ⊢
 split at hk
 ·cases hk
 ·rename_i e;rw[if_neg fun x=>e (H.inj _ _ x)];exact H.get _ _ hk,fun j hl hj=>by
 rw[T.get_put] at hj ⊢
 split at hj
 ·rename_i e;subst e;rw[if_pos rfl]
 ·rename_i e;rw[if_neg fun x=>e (H.inj _ _ x)];exact H.absent _ hl hj,H.inj,fun p hp=>⟨by rw[T.get_put,if_neg ((H.hid p hp).2 id)];exact(H.hid p hp).1,(H.hid p hp).2⟩⟩
theorem klp (G:Good ρ) (v:AV):(gm ρ v).one=v.one:=by
 cases v <;> simp only[gm,AV.one]
 rename_i fl i
 have:=(G.v fl i).1
 cases h:ρ.v fl i <;> simp[h,kci] at this <;> rfl
theorem kj7 (G:Good ρ) (l:List AV):(l.map (gm ρ)).all AV.one=l.all AV.one:=by
 rw[List.all_map]
 congr 1
 funext v
 exact klp G v
theorem kng (G:Good ρ) (v:AV):(gm ρ v).cells=v.cells.map (gm ρ):=by
 cases v <;> simp only[gm,AV.cells,List.map_cons,List.map_nil,kbu]
 rename_i fl i
 have:=(G.v fl i).1
 cases h:ρ.v fl i <;> simp[h,kci] at this <;> rfl
theorem k2p (G:Good ρ) (v:AV):(gm ρ v).flat=v.flat:=by
 cases v <;> simp only[gm,AV.flat]
 ·rename_i cs
  rw[kbu,List.all_map]
  congr 1
  funext v
  cases v <;> simp only[Function.comp,gm]
  rename_i fl i
  obtain⟨h1,h2⟩:=G.v fl i
  generalize ρ.v fl i=x at h1 h2
  subst h2
  cases x <;> simp[kci] at h1 <;> rfl
 ·exact(G.v _ _).2
theorem kef {cs l:List AV} {off n:Nat} (e:rdAt cs off n=some l):rdAt (cs.map (gm ρ)) off n=some (l.map (gm ρ)):=by
 unfold rdAt at e ⊢
 split at e
 ·rename_i hl
  cases e
  rw[if_pos (by simpa using hl)]
  simp[List.map_drop,List.map_take]
 ·cases e
theorem kxx (H:HSim ρ h g) {x:AV} {n:Nat} {l:List AV} (e:rdH h x n=some l):rdH g (gm ρ x) n=some (l.map (gm ρ)):=by
 unfold rdH at e
 split at e
 ·rename_i id off
  split at e
  ·rename_i cs fz ty hg
   simp only[gm,rdH,H.cells hg]
   exact kef e
  ·cases e
 ·rename_i cs off
  simp only[gm,rdH,kbu]
  exact kef e
 ·cases e
theorem ki7 {b:Bool} {cs:List AV} {v:AV} (e:kct b cs=some v):kct b (cs.map (gm ρ))=some (gm ρ v):=by
 unfold kct at e ⊢
 split at e
 ·cases e;rename_i hb;rw[if_pos hb];simp only[gm,kbu]
 ·rename_i hb
  rw[if_neg hb]
  split at e
  ·cases e;rfl
  ·cases e
theorem kyl (cs:List AV) (off:Nat) (xs:List AV):(splice cs off xs).map (gm ρ)=splice (cs.map (gm ρ)) off (xs.map (gm ρ)):=by
 unfold splice
 simp[List.map_append,List.map_take,List.map_drop]
theorem kr5 (G:Good ρ) (H:HSim ρ h g) {id off:Nat} {xs:List AV} {h':T Blk} (e:wrH h id off xs=some h'): ∃ g',wrH g (ρ.σ id) off (xs.map (gm ρ))=some g'∧HSim ρ h' g':=by
 unfold wrH at e ⊢
 split at e
 ·rename_i cs ty hg
  split at e
  ·rename_i hc
   cases e
   rw[H.cells hg]
   simp only
   rw[if_pos (by rw[kj7 G];simpa using hc)]
   refine⟨_,rfl,?_⟩
   have:=H.put id (.cells (splice cs off xs) false ty)
   simpa only[gB,kyl] using this
  ·cases e
 ·cases e
theorem kod (G:Good ρ): ∀ {ps:List (Nat×Nat×AV)} {cs l:List AV},kd0 cs ps=some l→kd0 (cs.map (gm ρ)) (ps.map fun p=>(p.1,p.2.1,gm ρ p.2.2))=some (l.map (gm ρ))
 | [],cs,l,e=>by cases e;rfl
 |(off,n,x)::ps,cs,l,e=>by
  unfold kd0 at e
  split at e
  ·rename_i hc
   simp only[List.map_cons,kd0,kng G,List.length_map]
   rw[if_pos hc,←kyl]
   exact kod G e
  ·cases e
def AV.small:AV→Bool
 | .sl _ _ n _ _=>decide (n<BIG)
 |_=>true
theorem kbz {n:Nat} (h:n<BIG):gn ρ n=n:=by unfold gn;rw[if_pos h]
theorem knt (H:HSim ρ h g) {sz:Nat} {x:AV} {n:Nat} {l:List AV} (hs:x.small=true) (e:ka8 h sz x=some (n,l)):ka8 g sz (gm ρ x)=some (n,l.map (gm ρ)):=by
 unfold ka8 at e
 split at e
 ·rename_i els c
  split at e
  ·rename_i hc
   cases e
   simp only[gm,ka8,kc9]
   rw[if_pos (by simpa[List.all_map,Function.comp_def] using hc)]
   simp[List.map_flatten]
  ·cases e
 ·rename_i id off k z c
  simp only[AV.small,decide_eq_true_eq] at hs
  simp only[gm,ka8,kbz hs]
  split at e
  ·rename_i hz
   rw[if_pos hz]
   split at e
   ·rename_i cs fz ty hg
    rw[H.cells hg]
    simp only[Option.map_eq_some_iff] at e ⊢
    obtain⟨l',hl,e⟩:=e
    cases e
    exact⟨_,kef hl,rfl⟩
   ·cases e
  ·cases e
 ·rename_i s
  simp only[gm,ka8]
  split at e
  ·rename_i hz
   cases e
   rw[if_pos hz]
   simp[Function.comp_def,gm]
  ·cases e
 ·cases e
theorem kft {x:AV} {n:Nat} (e:kca x=some n):kca (gm ρ x)=some n:=by
 unfold kca at e
 split at e
 ·exact e
 ·cases e
theorem k0x {op:BinOp} {x y v:AV} (e:binA op x y=some v):binA op (gm ρ x) (gm ρ y)=some v∧gm ρ v=v:=by
 have h1: ∀ {op:BinOp} {k:IntKind} {a b:Int} {v:AV},kdp op k a b=some v→gm ρ v=v:=fun {op k a b v} h=>by
  unfold kdp at h
  (repeat' split at h) <;> first |(cases h;done) |(cases h;rfl) |(simp only[Option.map_eq_some_iff] at h;obtain⟨_,_,rfl⟩:=h;rfl)
 have h2: ∀ {op:BinOp} {k:IntKind} {a b:Int} {v:AV},kjw op k a b=some v→gm ρ v=v:=fun {op k a b v} h=>by
  unfold kjw at h
  (repeat' split at h) <;> first |(cases h;done) |(cases h;rfl)
 have h3: ∀ {op:BinOp} {a b:List UInt8} {v:AV},kia op a b=some v→gm ρ v=v:=fun {op a b v} h=>by
  unfold kia at h
  (repeat' split at h) <;> first |(cases h;done) |(cases h;rfl)
 unfold binA at e
 split at e
 ·refine⟨e,?_⟩
  split at e
  ·exact h2 e
  ·split at e
   ·exact h1 e
   ·cases e
 ·exact⟨e,h3 e⟩
 ·cases e
theorem k1y {k:Nat} {x y:AV} {b:Bool} (e:ke3 k x y=some b):ke3 k (gm ρ x) (gm ρ y)=some b:=by
 unfold ke3 at e
 split at e <;> first |exact e |cases e
theorem ks5: ∀ {ks:List Nat} {xs ys:List AV} {b:Bool},kb6 ks xs ys=some b→kb6 ks (xs.map (gm ρ)) (ys.map (gm ρ))=some b
 | [],[],[],_,e=>e
 |k::ks,x::xs,y::ys,b,e=>by
  simp only[kb6] at e
  split at e
  ·rename_i a c h1 h2
   simp only[List.map_cons,kb6,k1y h1,ks5 h2]
   exact e
  ·cases e
 | [],[],_::_,_,e=>by simp[kb6] at e
 | [],_::_,_,_,e=>by simp[kb6] at e
 |_::_,[],_,_,e=>by simp[kb6] at e
 |_::_,_::_,[],_,e=>by simp[kb6] at e
theorem ktz {k:Nat} {x:AV} {b:Bool} (e:kd3 k x=some b):kd3 k (gm ρ x)=some b:=by
 unfold kd3 at e
 split at e <;> first |exact e |cases e
theorem qhe {op:UnOp} {x v:AV} (e:unA op x=some v):unA op (gm ρ x)=some v∧gm ρ v=v:=by
 unfold unA at e
 split at e
 ·cases e;exact⟨rfl,rfl⟩
 ·cases e;exact⟨rfl,rfl⟩
 ·refine⟨e,?_⟩
  simp only[Option.map_eq_some_iff] at e
  obtain⟨_,_,rfl⟩:=e
  rfl
 ·cases e
theorem ky2: ∀ {l:List AV} {b:List UInt8},kd7 l=some b→kd7 (l.map (gm ρ))=some b
 | [],_,e=>e
 |x::l,b,e=>by
  unfold kd7 at e
  split at e
  ·rename_i heq;cases heq
  ·rename_i n r heq
   cases heq
   simp only[Option.map_eq_some_iff] at e
   obtain⟨b',h1,h2⟩:=e
   simp only[List.map_cons,gm,kd7,ky2 h1,Option.map_some,h2]
  ·cases e
theorem ky0: ∀ {l:List AV} {b:List UInt8},kd8 l=some b→kd8 (l.map (gm ρ))=some b
 | [],_,e=>e
 |x::l,b,e=>by
  unfold kd8 at e
  split at e
  ·rename_i heq;cases heq
  ·rename_i n r heq
   cases heq
   split at e
   ·rename_i hn
    simp only[Option.map_eq_some_iff] at e
    obtain⟨b',h1,h2⟩:=e
    simp only[List.map_cons,gm,kd8,ky0 h1,Option.map_some,h2]
    rw[if_pos hn]
   ·cases e
  ·cases e
theorem kt3 {x y:AV} {b:Bool} (e:khs x y=some b):khs (gm ρ x) (gm ρ y)=some b:=by
 unfold khs at e
 split at e <;> first |exact e |cases e
theorem kgq {k:AV}: ∀ {es:List (AV×AV)} {i:Nat} {r:Option (Nat×AV)},kdm k es i=some r→kdm (gm ρ k) (es.map fun p=>(gm ρ p.1,gm ρ p.2)) i=some (r.map fun p=>(p.1,gm ρ p.2))
 | [],i,r,e=>by cases e;rfl
 |(x,v)::es,i,r,e=>by
  unfold kdm at e
  simp only[List.map_cons,kdm]
  split at e
  ·rename_i h;rw[kt3 h];cases e;rfl
  ·rename_i h;rw[kt3 h];exact kgq e
  ·cases e
theorem kot {k:Nat} {x:AV} (e:kdr k x=true):kdr k (gm ρ x)=true:=by
 unfold kdr at e
 split at e <;> first |rfl |cases e
end
end Go.Proofs.Hz
