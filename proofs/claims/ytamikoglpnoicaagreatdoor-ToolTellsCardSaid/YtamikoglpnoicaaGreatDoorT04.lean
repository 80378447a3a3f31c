/-
  Symbolic runs: values with something not looked into, and what they stand for.
  Conditions: none.
-/
import Derived.Test.YtamikoglpnoicaaGreatDoorT01
import Derived.Test.YtamikoglpnoicaaGreatDoorT03
namespace Go.Proofs.Hz
open Bool renaming and_eq_true->yae
open Function renaming comp_def->yai
open List renaming length_map->yab,map_cons->yad,replicate->yag,map_append->yah,map_flatten->yaj,all_map->yal,map_take->yam,map_drop->yan,map_replicate->yao,getElem?_map->yap,all_cons->yaq,map_nil->yar
open Option renaming map_eq_some_iff->yaa,map_some->yac
open Option.some renaming injEq->yaf
open Prod.mk renaming injEq->yak
structure Val where
 v:Bool->Nat->AV
 σ:Nat->Nat
 lo:Nat
 hid:List (Nat×Blk):=[]
def BIG:Nat:=1000000
def gn (ρ:Val) (n:Nat):Nat:=if n<BIG then n else match ρ.v false n with
 | .im els _=>els.length
 |_=>0
def kep (ρ:Val) (n:Nat):List AV:=match ρ.v false n with
 | .im els _=>els.flatten
 |_=>[]
def kda:AV->Bool
 | .bool _=>true
 | .int .. =>true
 | .str _=>true
 | .nilp=>true
 | .ip .. =>true
 | .im .. =>true
 | .nilf=>true
 | .nilm=>true
 | .nili=>true
 |_=>false
structure Good (ρ:Val):Prop where
 v: ∀ fl i,kda (ρ.v fl i)=true/\(ρ.v fl i).flat=fl
 inj: ∀ i j,ρ.σ i=ρ.σ j->i=j
 own: ∀ k,BIG<=k-> ∃ els,ρ.v false k= .im els false/\(∀ e ∈ els,e.length=k % 1000)/\els.flatten.all kda=true
mutual
def gm (ρ:Val):AV->AV
 | .var fl i=>ρ.v fl i
 | .ip cs off=> .ip (gmL ρ cs) off
 | .im els c=> .im (kdw ρ els) c
 | .fn f a b=> .fn f (gmL ρ a) (gmL ρ b)
 | .agg cs=> .agg (gmL ρ cs)
 | .tup cs=> .tup (gmL ρ cs)
 | .bool b=> .bool b
 | .int k n=> .int k n
 | .str s=> .str s
 | .nilp=> .nilp
 | .ptr i o=> .ptr (ρ.σ i) o
 | .sl a b c d e=> .sl (ρ.σ a) b (gn ρ c) d e
 | .yld i=> .yld (ρ.σ i)
 | .nilf=> .nilf
 | .nilm=> .nilm
 | .mp i=> .mp (ρ.σ i)
 | .nili=> .nili
 | .ifv=> .ifv
 | .ifc t x=> .ifc t (gm ρ x)
 | .nils=> .nils
def gmL (ρ:Val):List AV->List AV
 | []=>[]
 |a::as=>gm ρ a::gmL ρ as
def kdw (ρ:Val):List (List AV)->List (List AV)
 | []=>[]
 |a::as=>gmL ρ a::kdw ρ as
end
mutual
def ked:AV->Bool
 | .var _ _=>false
 | .ip cs _=>ke4 cs
 | .im els _=>knz els
 | .fn _ a b=>ke4 a && ke4 b
 | .agg cs=>ke4 cs
 | .tup cs=>ke4 cs
 | .bool _=>true
 | .int .. =>true
 | .str _=>true
 | .nilp=>true
 | .ptr .. =>false
 | .sl .. =>false
 | .yld _=>false
 | .nilf=>true
 | .nilm=>true
 | .mp _=>false
 | .nili=>true
 | .ifv=>true
 | .ifc _ x=>ked x
 | .nils=>true
def ke4:List AV->Bool
 | []=>true
 |a::as=>ked a && ke4 as
def knz:List (List AV)->Bool
 | []=>true
 |a::as=>ke4 a && knz as
end
mutual
theorem knc (ρ:Val): ∀ {v:AV},ked v=true->gm ρ v=v
 | .var _ _,h=>by simp[ked] at h
 | .ip cs _,h=>by simp only[ked] at h;simp only[gm,kfd ρ h]
 | .im els _,h=>by simp only[ked] at h;simp only[gm,kyc ρ h]
 | .fn _ a b,h=>by simp only[ked,yae] at h;simp only[gm,kfd ρ h.1,kfd ρ h.2]
 | .agg cs,h=>by simp only[ked] at h;simp only[gm,kfd ρ h]
 | .tup cs,h=>by simp only[ked] at h;simp only[gm,kfd ρ h]
 | .bool _,_=>rfl
 | .int ..,_=>rfl
 | .str _,_=>rfl
 | .nilp,_=>rfl
 | .ptr ..,h=>by simp[ked] at h
 | .sl ..,h=>by simp[ked] at h
 | .yld _,h=>by simp[ked] at h
 | .nilf,_=>rfl
 | .nilm,_=>rfl
 | .mp _,h=>by simp[ked] at h
 | .nili,_=>rfl
 | .ifv,_=>rfl
 | .ifc _ x,h=>by simp only[ked] at h;simp only[gm,knc ρ h]
 | .nils,_=>rfl
theorem kfd (ρ:Val): ∀ {l:List AV},ke4 l=true->gmL ρ l=l
 | [],_=>rfl
 |a::as,h=>by simp only[ke4,yae] at h;simp only[gmL,knc ρ h.1,kfd ρ h.2]
theorem kyc (ρ:Val): ∀ {l:List (List AV)},knz l=true->kdw ρ l=l
 | [],_=>rfl
 |a::as,h=>by simp only[knz,yae] at h;simp only[kdw,kfd ρ h.1,kyc ρ h.2]
end
theorem kca (ρ:Val): ∀ l:List AV,gmL ρ l=l.map (gm ρ)
 | []=>rfl
 |a::as=>by simp only[gmL,yad,kca ρ as]
theorem keb (ρ:Val): ∀ l:List (List AV),kdw ρ l=l.map (List.map (gm ρ))
 | []=>rfl
 |a::as=>by simp only[kdw,yad,keb ρ as,kca]
def kfb (m:Nat) (l:List AV):List AV:=(l++yag m AV.nilp).take m
theorem kx4 (m:Nat) (l:List AV):(kfb m l).length=m:=by simp[kfb]
theorem kgd {m:Nat} {l:List AV} (h:l.length=m):kfb m l=l:=by unfold kfb;rw[List.take_left' h]
def gB (ρ:Val):Blk->Blk
 | .cells cs fz ty=> .cells (cs.map (gm ρ)) fz ty
 | .map es=> .map (es.map fun p=>(gm ρ p.1,gm ρ p.2))
 | .loop l=> .loop l
 | .own k fz ty=> .cells (kep ρ k) fz ty
 | .text v ty=> .text (gm ρ v) ty
 | .pre n c vs ty=> .cells (kfb (gn ρ n - vs.length) (kep ρ c)++vs.map (gm ρ)) false ty
structure HSim (ρ:Val) (h g:T Blk):Prop where
 get: ∀ id k,h.get id=some k->g.get (ρ.σ id)=some (gB ρ k)
 absent: ∀ id,ρ.lo<=id->h.get id=none->g.get (ρ.σ id)=none
 inj: ∀ i j,ρ.σ i=ρ.σ j->i=j
 hid: ∀ p ∈ ρ.hid,g.get p.1=some p.2/\ ∀ i,ρ.σ i≠p.1
structure Sim (ρ:Val) (s c:St):Prop where
 regs: ∀ t v,s.r.get t=some v->c.r.get t=some (gm ρ v)
 heap:HSim ρ s.h c.h
 nxs: ∀ i,ρ.σ (s.nx+i)=c.nx+i
 lo:ρ.lo<=s.nx
section
variable {ρ:Val} {h g:T Blk}
theorem Sim.nx {s c:St} (S:Sim ρ s c):ρ.σ s.nx=c.nx:=S.nxs 0
theorem HSim.cells (H:HSim ρ h g) {id:Nat} {cs:List AV} {fz:Bool} {ty:Nat} (e:h.get id=some (.cells cs fz ty)):g.get (ρ.σ id)=some (.cells (cs.map (gm ρ)) fz ty):=H.get _ _ e
theorem HSim.own (H:HSim ρ h g) {id:Nat} {k:Nat} {fz:Bool} {ty:Nat} (e:h.get id=some (.own k fz ty)):g.get (ρ.σ id)=some (.cells (kep ρ k) fz ty):=H.get _ _ e
theorem HSim.text (H:HSim ρ h g) {id:Nat} {v:AV} {ty:Nat} (e:h.get id=some (.text v ty)):g.get (ρ.σ id)=some (.text (gm ρ v) ty):=H.get _ _ e
theorem HSim.map (H:HSim ρ h g) {id:Nat} {es:List (AV×AV)} (e:h.get id=some (.map es)):g.get (ρ.σ id)=some (.map (es.map fun p=>(gm ρ p.1,gm ρ p.2))):=H.get _ _ e
theorem HSim.put (H:HSim ρ h g) (id:Nat) (b:Blk):HSim ρ (h.put id (some b)) (g.put (ρ.σ id) (some (gB ρ b))):=⟨fun j k hk=>by
 rw[T.get_put] at hk ⊢;split at hk
 ·rename_i e;subst e;cases hk;rw[iq rfl]
 ·rename_i e;rw[ir fun x=>e (H.inj _ _ x)];exact H.get _ _ hk,fun j hl hj=>by
 rw[T.get_put] at hj ⊢;split at hj
 ·cases hj
 ·rename_i e;rw[ir fun x=>e (H.inj _ _ x)];exact H.absent _ hl hj,H.inj,fun p hp=>⟨by rw[T.get_put,ir ((H.hid p hp).2 id)];exact(H.hid p hp).1,(H.hid p hp).2⟩⟩
theorem HSim.kill (H:HSim ρ h g) (id:Nat):HSim ρ (h.put id none) (g.put (ρ.σ id) none):=⟨fun j k hk=>by
 rw[T.get_put] at hk ⊢;split at hk
 ·cases hk
 ·rename_i e;rw[ir fun x=>e (H.inj _ _ x)];exact H.get _ _ hk,fun j hl hj=>by
 rw[T.get_put] at hj ⊢;split at hj
 ·rename_i e;subst e;rw[iq rfl]
 ·rename_i e;rw[ir fun x=>e (H.inj _ _ x)];exact H.absent _ hl hj,H.inj,fun p hp=>⟨by rw[T.get_put,ir ((H.hid p hp).2 id)];exact(H.hid p hp).1,(H.hid p hp).2⟩⟩
theorem kn7 (G:Good ρ) (v:AV):(gm ρ v).one=v.one:=by
 cases v <;> simp only[gm,AV.one]
 rename_i fl i;have:=(G.v fl i).1;cases h:ρ.v fl i <;> simp[h,kda] at this <;> rfl
theorem kml (G:Good ρ) (l:List AV):(l.map (gm ρ)).all AV.one=l.all AV.one:=by
 rw[yal];congr 1;funext v;exact kn7 G v
theorem kp8 (G:Good ρ) (v:AV):(gm ρ v).cells=v.cells.map (gm ρ):=by
 cases v <;> simp only[gm,AV.cells,yad,yar,kca]
 rename_i fl i;have:=(G.v fl i).1;cases h:ρ.v fl i <;> simp[h,kda] at this <;> rfl
theorem k8t (G:Good ρ) (v:AV):(gm ρ v).flat=v.flat:=by
 cases v <;> simp only[gm,AV.flat]
 ·rename_i cs;rw[kca,yal];congr 1;funext v;cases v <;> simp only[Function.comp,gm]
  rename_i fl i;obtain⟨h1,h2⟩:=G.v fl i;generalize ρ.v fl i=x at h1 h2;subst h2;cases x <;> simp[kda] at h1 <;> rfl
 ·exact(G.v _ _).2
theorem kfz {cs l:List AV} {off n:Nat} (e:kb2 cs off n=some l):kb2 (cs.map (gm ρ)) off n=some (l.map (gm ρ)):=by
 unfold kb2 at e ⊢;split at e
 ·rename_i hl;cases e;rw[iq (by simpa using hl)];simp[yan,yam]
 ·cases e
theorem k3q (H:HSim ρ h g) {x:AV} {n:Nat} {l:List AV} (e:rdH h x n=some l):rdH g (gm ρ x) n=some (l.map (gm ρ)):=by
 unfold rdH at e;split at e
 ·rename_i id off;split at e
  ·rename_i cs fz ty hg;simp only[gm,rdH,H.cells hg];exact kfz e
  ·cases e
 ·rename_i cs off;simp only[gm,rdH,kca];exact kfz e
 ·cases e
theorem klw {b:Bool} {cs:List AV} {v:AV} (e:kdh b cs=some v):kdh b (cs.map (gm ρ))=some (gm ρ v):=by
 unfold kdh at e ⊢;split at e
 ·cases e;rename_i hb;rw[iq hb];simp only[gm,kca]
 ·rename_i hb;rw[ir hb];split at e
  ·cases e;rfl
  ·cases e
theorem k4i (cs:List AV) (off:Nat) (xs:List AV):(splice cs off xs).map (gm ρ)=splice (cs.map (gm ρ)) off (xs.map (gm ρ)):=by
 unfold splice;simp[yah,yam,yan]
theorem kwm (G:Good ρ) (H:HSim ρ h g) {id off:Nat} {xs:List AV} {h':T Blk} (e:wrH h id off xs=some h'): ∃ g',wrH g (ρ.σ id) off (xs.map (gm ρ))=some g'/\HSim ρ h' g':=by
 unfold wrH at e ⊢;split at e
 ·rename_i cs ty hg;split at e
  ·rename_i hc;cases e;rw[H.cells hg];simp only;rw[iq (by rw[kml G];simpa using hc)];refine⟨_,rfl,?_⟩;have:=H.put id (.cells (splice cs off xs) false ty);simpa only[gB,k4i] using this
  ·cases e
 ·cases e
theorem kq6 (G:Good ρ): ∀ {ps:List (Nat×Nat×AV)} {cs l:List AV},kfa cs ps=some l->kfa (cs.map (gm ρ)) (ps.map fun p=>(p.1,p.2.1,gm ρ p.2.2))=some (l.map (gm ρ))
 | [],cs,l,e=>by cases e;rfl
 |(off,n,x)::ps,cs,l,e=>by
  unfold kfa at e;split at e
  ·rename_i hc;simp only[yad,kfa,kp8 G,yab];rw[iq hc,←k4i];exact kq6 G e
  ·cases e
def AV.small:AV->Bool
 | .sl _ _ n _ _=>decide (n<BIG)
 |_=>true
theorem kci {n:Nat} (h:n<BIG):gn ρ n=n:=by unfold gn;rw[iq h]
theorem kqj (H:HSim ρ h g) {sz:Nat} {x:AV} {n:Nat} {l:List AV} (hs:x.small=true) (e:kbn h sz x=some (n,l)):kbn g sz (gm ρ x)=some (n,l.map (gm ρ)):=by
 unfold kbn at e;split at e
 ·rename_i els c;split at e
  ·rename_i hc;cases e;simp only[gm,kbn,keb];rw[iq (by simpa[yal,yai] using hc)];simp[yaj]
  ·cases e
 ·rename_i id off k z c;simp only[AV.small,decide_eq_true_eq] at hs;simp only[gm,kbn,kci hs];split at e
  ·rename_i hz;rw[iq hz];split at e
   ·rename_i cs fz ty hg;rw[H.cells hg];simp only[yaa] at e ⊢;obtain⟨l',hl,e⟩:=e;cases e;exact⟨_,kfz hl,rfl⟩
   ·cases e
  ·cases e
 ·rename_i s;simp only[gm,kbn];split at e
  ·rename_i hz;cases e;rw[iq hz];simp[yai,gm]
  ·cases e
 ·cases e
theorem khs {x:AV} {n:Nat} (e:kcz x=some n):kcz (gm ρ x)=some n:=by
 unfold kcz at e;split at e
 ·exact e
 ·cases e
theorem k6o {op:BinOp} {x y v:AV} (e:kd0 op x y=some v):kd0 op (gm ρ x) (gm ρ y)=some v/\gm ρ v=v:=by
 have h1: ∀ {op:BinOp} {k:IntKind} {a b:Int} {v:AV},kei op k a b=some v->gm ρ v=v:=fun {op k a b v} h=>by
  unfold kei at h
  (repeat' split at h) <;> first |(cases h;done) |(cases h;rfl) |(simp only[yaa] at h;obtain⟨_,_,rfl⟩:=h;rfl)
 have h2: ∀ {op:BinOp} {k:IntKind} {a b:Int} {v:AV},kmc op k a b=some v->gm ρ v=v:=fun {op k a b v} h=>by
  unfold kmc at h
  (repeat' split at h) <;> first |(cases h;done) |(cases h;rfl)
 have h3: ∀ {op:BinOp} {a b:List UInt8} {v:AV},kkv op a b=some v->gm ρ v=v:=fun {op a b v} h=>by
  unfold kkv at h
  (repeat' split at h) <;> first |(cases h;done) |(cases h;rfl)
 unfold kd0 at e;split at e
 ·refine⟨e,?_⟩;split at e
  ·exact h2 e
  ·split at e
   ·exact h1 e
   ·cases e
 ·exact⟨e,h3 e⟩
 ·cases e
theorem k7p {k:Nat} {x y:AV} {b:Bool} (e:kgt k x y=some b):kgt k (gm ρ x) (gm ρ y)=some b:=by
 unfold kgt at e;split at e <;> first |exact e |cases e
theorem kxo: ∀ {ks:List Nat} {xs ys:List AV} {b:Bool},kct ks xs ys=some b->kct ks (xs.map (gm ρ)) (ys.map (gm ρ))=some b
 | [],[],[],_,e=>e
 |k::ks,x::xs,y::ys,b,e=>by
  simp only[kct] at e;split at e
  ·rename_i a c h1 h2;simp only[yad,kct,k7p h1,kxo h2];exact e
  ·cases e
 | [],[],_::_,_,e=>by simp[kct] at e
 | [],_::_,_,_,e=>by simp[kct] at e
 |_::_,[],_,_,e=>by simp[kct] at e
 |_::_,_::_,[],_,e=>by simp[kct] at e
theorem kyn {k:Nat} {x:AV} {b:Bool} (e:kfe k x=some b):kfe k (gm ρ x)=some b:=by
 unfold kfe at e;split at e <;> first |exact e |cases e
theorem qqy {op:UnOp} {x v:AV} (e:unA op x=some v):unA op (gm ρ x)=some v/\gm ρ v=v:=by
 unfold unA at e;split at e
 ·cases e;exact⟨rfl,rfl⟩
 ·cases e;exact⟨rfl,rfl⟩
 ·refine⟨e,?_⟩;simp only[yaa] at e;obtain⟨_,_,rfl⟩:=e;rfl
 ·cases e
theorem k4y: ∀ {l:List AV} {b:List UInt8},kfl l=some b->kfl (l.map (gm ρ))=some b
 | [],_,e=>e
 |x::l,b,e=>by
  unfold kfl at e;split at e
  ·rename_i heq;cases heq
  ·rename_i n r heq;cases heq;simp only[yaa] at e;obtain⟨b',h1,h2⟩:=e;simp only[yad,gm,kfl,k4y h1,yac,h2]
  ·cases e
theorem k4w: ∀ {l:List AV} {b:List UInt8},kfm l=some b->kfm (l.map (gm ρ))=some b
 | [],_,e=>e
 |x::l,b,e=>by
  unfold kfm at e;split at e
  ·rename_i heq;cases heq
  ·rename_i n r heq;cases heq;split at e
   ·rename_i hn;simp only[yaa] at e;obtain⟨b',h1,h2⟩:=e;simp only[yad,gm,kfm,k4w h1,yac,h2];rw[iq hn]
   ·cases e
  ·cases e
theorem kys {x y:AV} {b:Bool} (e:kkc x y=some b):kkc (gm ρ x) (gm ρ y)=some b:=by
 unfold kkc at e;split at e <;> first |exact e |cases e
theorem kiz {k:AV}: ∀ {es:List (AV×AV)} {i:Nat} {r:Option (Nat×AV)},kew k es i=some r->kew (gm ρ k) (es.map fun p=>(gm ρ p.1,gm ρ p.2)) i=some (r.map fun p=>(p.1,gm ρ p.2))
 | [],i,r,e=>by cases e;rfl
 |(x,v)::es,i,r,e=>by
  unfold kew at e;simp only[yad,kew];split at e
  ·rename_i h;rw[kys h];cases e;rfl
  ·rename_i h;rw[kys h];exact kiz e
  ·cases e
theorem krr {k:Nat} {x:AV} (e:ke2 k x=true):ke2 k (gm ρ x)=true:=by
 unfold ke2 at e;split at e <;> first |rfl |cases e
end
def AO.cl:AO->Bool
 | .t _=>true
 | .c v=>ked v
def AO.clo:Option AO->Bool
 |none=>true
 |some x=>x.cl
def AOp.cl:AOp->Bool
 | .mov x | .box _ x | .load _ _ x | .nilck x | .un _ x | .conv _ x | .mvs x | .b2s x | .faddr _ x | .fld _ _ _ x | .a2p _ x | .extr _ x | .len _ x | .cap x | .cvp _ _ x | .usd x | .s2b _ x | .mki _ x=>x.cl
 | .pick c a b=>c.cl && (a.cl && b.cl)
 | .alloc _ z=>ke4 z
 | .mkmap | .lenc _ | .fail=>true
 | .build z ps=>ke4 z && ps.all fun p=>p.2.2.cl
 | .bsl _ _ z ps=>ke4 z && ps.all fun p=>p.2.2.cl
 | .store _ a x | .bin _ a x | .eqa _ _ a x | .eqn _ _ a x | .eqb _ a x | .iaA _ _ a x | .iaS _ a x | .ixA _ _ _ a x | .ixS a x | .app _ _ _ a x | .cpy _ a x | .mxi a x | .mni a x | .del _ a x | .ust _ a x | .eqp _ a x | .eqi _ _ a x | .ext _ a x=>a.cl && x.cl
 | .mksl _ _ _ z a x | .appn _ _ _ z a x=>ke4 z && (a.cl && x.cl)
 | .look _ z _ a x=>ked z && (a.cl && x.cl)
 | .mkfn _ a b=>a.all AO.cl && b.all AO.cl
 | .slA _ _ x l h m | .slS _ x l h m=>x.cl && (AO.clo l && (AO.clo h && AO.clo m))
 | .slT x l h=>x.cl && (AO.clo l && AO.clo h)
 | .mapup _ m k x=>m.cl && (k.cl && x.cl)
 | .call f as=>f.cl && as.all AO.cl
theorem kzd {α β:Type} (f:α->β): ∀ (l:List α) (i:Nat),(l.eraseIdx i).map f=(l.map f).eraseIdx i
 | [],_=>rfl
 |_::_,0=>rfl
 |a::l,i+1=>by simp only[List.eraseIdx_cons_succ,yad,kzd f l i]
section
variable {ρ:Val} {s s1 c:St} {v:AV}
def SetIn (s:St) (l:List Nat):Prop:=∀ t ∈ l,∃ v,s.r.get t=some v
theorem SetIn.left {a b:List Nat} (h:SetIn s (a++b)):SetIn s a:=fun t ht=>h t (List.mem_append_left _ ht)
theorem SetIn.right {a b:List Nat} (h:SetIn s (a++b)):SetIn s b:=fun t ht=>h t (List.mem_append_right _ ht)
theorem kag (S:Sim ρ s c) {x:AO} (h:SetIn s x.tm) (hc:x.cl=true):x.ev c=gm ρ (x.ev s):=by
 cases x with
 |t n=>
  obtain⟨v,hv⟩:=h n (by simp[AO.tm]);simp only[AO.ev,St.rg,hv,S.regs n v hv,Option.getD_some]
 |c v=>simp only[AO.ev];exact(knc ρ hc).symm
theorem kj5 (S:Sim ρ s c): ∀ {l:List AO},SetIn s (AO.tml l)->l.all AO.cl=true->l.map (AO.ev c)=(l.map (AO.ev s)).map (gm ρ)
 | [],_,_=>rfl
 |x::l,h,hc=>by
  simp only[yaq,yae] at hc;have h':SetIn s (x.tm++AO.tml l):=h;simp only[yad];rw[kag S h'.left hc.1,kj5 S h'.right hc.2]
theorem km1 (S:Sim ρ s c): ∀ {l:List (Nat×Nat×AO)},SetIn s (AO.tmp l)->(l.all fun p=>p.2.2.cl)=true->evp c l=(evp s l).map fun p=>(p.1,p.2.1,gm ρ p.2.2)
 | [],_,_=>rfl
 |x::l,h,hc=>by
  simp only[yaq,yae] at hc;have h':SetIn s (x.2.2.tm++AO.tmp l):=h;have ih:=km1 S (l:=l) h'.right hc.2;unfold evp at ih ⊢;simp only[yad];rw[kag S h'.left hc.1,ih]
theorem kr3 (S:Sim ρ s c) {d n:Nat} {x:Option AO} (h:SetIn s (AO.tmo x)) (hc:AO.clo x=true) (e:kcv s d x=some n):kcv c d x=some n:=by
 cases x with
 |none=>exact e
 |some x=>simp only[kcv] at e ⊢;rw[kag S h hc];exact khs e
theorem kp3 (S:Sim ρ s c) {a b:Nat} {l h m:Option AO} {r:Nat×Nat×Nat} (hl:SetIn s (AO.tmo l)) (hh:SetIn s (AO.tmo h)) (hm:SetIn s (AO.tmo m)) (cl:AO.clo l=true) (ch:AO.clo h=true) (cm:AO.clo m=true)
  (e:kck s a b l h m=some r):kck c a b l h m=some r:=by
 unfold kck at e ⊢;split at e
 ·rename_i x y z h1 h2 h3;rw[kr3 S hm cm h1,kr3 S hh ch h2,kr3 S hl cl h3];exact e
 ·cases e
theorem Sim.new (S:Sim ρ s c) (b:Blk):Sim ρ (s.new b) (c.new (gB ρ b)):=⟨S.regs,by
 simp only[St.new];rw[←S.nx];exact S.heap.put _ _,fun i=>by
 have:=S.nxs (i+1);simp only[St.new];rw[show s.nx+1+i=s.nx+(i+1) by omega,this];omega,by have:=S.lo;simp only[St.new];omega⟩
theorem Sim.heap' (S:Sim ρ s c) {h g:T Blk} (H:HSim ρ h g):Sim ρ {s with h:=h} {c with h:=g}:=⟨S.regs,H,S.nxs,S.lo⟩
def AOp.sm (s:St) (v:AV):AOp->Bool
 | .bsl .. | .slA .. | .mksl .. | .appn .. | .s2b .. =>v.small
 | .b2s x | .iaS _ x _ | .a2p _ x | .len _ x | .cap x | .usd x=>(x.ev s).small
 | .slS _ x _ _ _=>(x.ev s).small && v.small
 | .app _ _ _ d x=>(d.ev s).small && ((x.ev s).small && v.small)
 | .cpy _ d x=>(d.ev s).small && (x.ev s).small
 |_=>true
theorem kdr {a b n d:Nat} {e:Option Nat} (h:(AV.sl a b n d e).small=true):n<BIG:=by simpa[AV.small] using h
theorem qd6 (G:Good ρ) (S:Sim ρ s c) {o:AOp} (hset:SetIn s o.looks) (hcl:o.cl=true) (he:opA s o=some (v,s1)) (hsm:o.sm s v=true): ∃ c1,opA c o=some (gm ρ v,c1)/\Sim ρ s1 c1:=by
 cases o <;> simp only[AOp.looks] at hset <;> simp only[AOp.cl,yae] at hcl <;> simp only[AOp.sm,yae] at hsm
 case mov x=>
  have ex:=kag S hset hcl;simp only[opA,yaf,yak] at he ⊢;obtain⟨rfl,rfl⟩:=he;exact⟨c,⟨ex,rfl⟩,S⟩
 case pick t a b=>
  have e1:=kag S hset.left hcl.1;have e2:=kag S hset.right.left hcl.2.1;have e3:=kag S hset.right.right hcl.2.2;simp only[opA] at he ⊢;split at he
  ·rename_i q hq;cases he;rw[hq] at e1;simp only[gm] at e1;rw[e1];refine⟨c,?_,S⟩;cases q <;> simp[e2,e3]
  ·cases he
 case alloc ty z=>
  simp only[opA,yaf,yak] at he ⊢;obtain⟨rfl,rfl⟩:=he;have:=S.new (.cells z false ty);simp only[gB,←kca,kfd ρ hcl] at this;exact⟨_,⟨by simp only[gm,S.nx],rfl⟩,this⟩
 case box ty x=>
  have ex:=kag S hset hcl;simp only[opA] at he ⊢;split at he
  ·rename_i h1;cases he;rw[ex,kp8 G,kml G,iq h1];have:=S.new (.cells (x.ev s).cells false ty);exact⟨_,by simp only[gm,S.nx];rfl,this⟩
  ·cases he
 case build z ps=>
  have ep:=km1 S hset hcl.2;simp only[opA,yaa] at he ⊢;obtain⟨l,h1,h2⟩:=he;cases h2;have:=kq6 G h1;rw[←kca,kfd ρ hcl.1] at this;exact⟨c,⟨_,by rw[ep];exact this,by simp only[gm,kca]⟩,S⟩
 case bsl ty sz z ps=>
  have ep:=km1 S hset hcl.2;simp only[opA] at he ⊢;split at he
  ·cases he
  ·rename_i h0;rw[ir h0];split at he
   ·rename_i l h1;split at he
    ·rename_i h2;cases he;have h3:=kq6 G h1;rw[←kca,kfd ρ hcl.1] at h3;rw[ep,h3];simp only;rw[kml G,iq h2];exact⟨_,by simp only[gm,S.nx,kci (kdr hsm)];rfl,S.new (.cells l false ty)⟩
    ·cases he
   ·cases he
 case load g n a=>
  have ea:=kag S hset hcl;simp only[opA] at he ⊢;split at he
  ·rename_i l h1;simp only[yaa] at he;obtain⟨u,h2,h3⟩:=he;cases h3;rw[ea,k3q S.heap h1];simp only[klw h2,yac];exact⟨c,rfl,S⟩
  ·cases he
 case store n a x=>
  have ea:=kag S hset.left hcl.1;have ex:=kag S hset.right hcl.2;simp only[opA] at he ⊢;split at he
  ·rename_i h1;simp only[yaa] at he;obtain⟨h',h2,h3⟩:=he;cases h3;unfold wrA at h2;split at h2
   ·rename_i id off hp;rw[hp] at ea;obtain⟨g',h4,h5⟩:=kwm G S.heap h2;rw[ea,ex,kp8 G,yab,iq h1];simp only[gm,wrA,h4,yac];exact⟨_,rfl,S.heap' h5⟩
   ·cases h2
  ·cases he
 case nilck x=>
  have ex:=kag S hset hcl;simp only[opA] at he ⊢;split at he <;> first |(cases he;done) |skip
  all_goals (rename_i hx;cases he;rw[hx] at ex;rw[ex];exact⟨c,rfl,S⟩)
 case bin op x y=>
  have e1:=kag S hset.left hcl.1;have e2:=kag S hset.right hcl.2;simp only[opA,yaa] at he ⊢;obtain⟨u,h1,h2⟩:=he;cases h2;obtain⟨h3,h4⟩:=k6o (ρ:=ρ) h1;exact⟨c,⟨_,by rw[e1,e2];exact h3,by rw[h4]⟩,S⟩
 case eqa neg ks x y=>
  have e1:=kag S hset.left hcl.1;have e2:=kag S hset.right hcl.2;simp only[opA] at he ⊢;split at he
  ·rename_i xs ys hx hy;simp only[yaa] at he;obtain⟨b,h1,h2⟩:=he;cases h2;rw[hx] at e1;rw[hy] at e2;rw[e1,e2];simp only[gm,kca,kxo h1,yac];exact⟨c,rfl,S⟩
  ·cases he
 case eqn k neg x y=>
  have e1:=kag S hset.left hcl.1;have e2:=kag S hset.right hcl.2;simp only[opA] at he ⊢;split at he
  ·rename_i a b h1 h2;rw[e1,e2,kyn h1,kyn h2];simp only;split at he
   ·rename_i h3;rw[iq h3];cases he;exact⟨c,rfl,S⟩
   ·cases he
  ·cases he
 case eqb neg x y=>
  have e1:=kag S hset.left hcl.1;have e2:=kag S hset.right hcl.2;simp only[opA] at he ⊢;split at he
  ·rename_i a b hx hy;cases he;rw[hx] at e1;rw[hy] at e2;rw[e1,e2];exact⟨c,rfl,S⟩
  ·cases he
 case un op x=>
  have ex:=kag S hset hcl;simp only[opA,yaa] at he ⊢;obtain⟨u,h1,h2⟩:=he;cases h2;obtain⟨h3,h4⟩:=qqy (ρ:=ρ) h1;exact⟨c,⟨_,by rw[ex];exact h3,by rw[h4]⟩,S⟩
 case conv k x=>
  have ex:=kag S hset hcl;simp only[opA] at he ⊢;split at he
  ·rename_i hx;cases he;rw[hx] at ex;rw[ex];exact⟨c,rfl,S⟩
  ·cases he
 case mvs x=>
  have ex:=kag S hset hcl;simp only[opA] at he ⊢;split at he
  ·rename_i hx;cases he;rw[hx] at ex;rw[ex];exact⟨c,rfl,S⟩
  ·cases he
 case b2s x=>
  have ex:=kag S hset hcl;simp only[opA] at he ⊢;split at he
  ·rename_i n cs h1;rw[ex,kqj S.heap hsm h1];simp only;split at he
   ·cases he
   ·rename_i hns;simp only[yaa] at he;obtain⟨b,h2,h3⟩:=he;cases h3;have hx: ∀ q,gm ρ (x.ev s)≠ .str q:=fun q hq=>by
     cases hv:x.ev s <;> rw[hv] at hq <;> simp only[gm] at hq <;> first |(cases hq;done) |skip
     ·exact hns _ hv
     ·rw[hv] at h1;simp[kbn] at h1
    split
    ·rename_i q hq;exact absurd hq (hx q)
    ·exact⟨c,by simp only[k4y h2,yac];rfl,S⟩
  ·cases he
 case mkfn f a b=>
  have e1:=kj5 S hset.left hcl.1;have e2:=kj5 S hset.right hcl.2;simp only[opA,yaf,yak] at he ⊢;obtain⟨rfl,rfl⟩:=he;exact⟨c,⟨by rw[e1,e2];simp only[gm,kca],rfl⟩,S⟩
 case faddr off x=>
  have ex:=kag S hset hcl;simp only[opA] at he ⊢;split at he <;> first |(cases he;done) |skip
  all_goals (rename_i hx;cases he;rw[hx] at ex;rw[ex];exact⟨c,rfl,S⟩)
 case fld g off n x=>
  have ex:=kag S hset hcl;simp only[opA] at he ⊢;split at he
  ·rename_i cs hx;rw[hx] at ex;split at he
   ·rename_i l h1;simp only[yaa] at he;obtain⟨u,h2,h3⟩:=he;cases h3;rw[ex];simp only[gm,kca,kfz h1,klw h2,yac];exact⟨c,rfl,S⟩
   ·cases he
  ·cases he
 case iaA len sz x i=>
  have e1:=kag S hset.left hcl.1;have e2:=kag S hset.right hcl.2;simp only[opA] at he ⊢;split at he
  ·rename_i j h1;rw[e2,khs h1];simp only;split at he
   ·rename_i h2;rw[iq h2];split at he <;> first |(cases he;done) |skip
    all_goals (rename_i hx;cases he;rw[hx] at e1;rw[e1];exact⟨c,rfl,S⟩)
   ·cases he
  ·cases he
 case iaS sz x i=>
  have e1:=kag S hset.left hcl.1;have e2:=kag S hset.right hcl.2;simp only[opA] at he ⊢;split at he
  ·rename_i j h1;rw[e2,khs h1];simp only;split at he
   ·rename_i els cl hx;rw[hx] at e1;rw[e1];simp only[gm,keb,yap];split at he
    ·rename_i e h2;split at he
     ·rename_i h3;cases he;simp only[h2,yac,yab];rw[iq h3];exact⟨c,by simp only[gm,kca],S⟩
     ·cases he
    ·cases he
   ·rename_i hx;rw[hx] at e1 hsm;rw[e1];simp only[gm,kci (kdr hsm)];split at he
    ·rename_i h2;rw[iq h2];cases he;exact⟨c,rfl,S⟩
    ·cases he
   ·cases he
  ·cases he
 case ixA g len sz x i=>
  have e1:=kag S hset.left hcl.1;have e2:=kag S hset.right hcl.2;simp only[opA] at he ⊢;split at he
  ·rename_i j cs h1 hx;rw[hx] at e1;rw[e2,khs h1,e1];simp only[gm,kca];split at he
   ·rename_i h2;rw[iq h2];split at he
    ·rename_i l h3;simp only[yaa] at he;obtain⟨u,h4,h5⟩:=he;cases h5;simp only[kfz h3,klw h4,yac];exact⟨c,rfl,S⟩
    ·cases he
   ·cases he
  ·cases he
 case ixS x i=>
  have e1:=kag S hset.left hcl.1;have e2:=kag S hset.right hcl.2;simp only[opA] at he ⊢;split at he
  ·rename_i j b h1 hx;rw[hx] at e1;rw[e2,khs h1,e1];simp only[gm,yaa] at he ⊢;obtain⟨u,h2,h3⟩:=he;cases h3;exact⟨c,⟨u,h2,rfl⟩,S⟩
  ·cases he
 case slA len sz x lo hi mx=>
  have e1:=kag S hset.left hcl.1;simp only[opA] at he ⊢;split at he
  ·rename_i l h m id o h1 hx;rw[hx] at e1;rw[kp3 S hset.right.left hset.right.right.left hset.right.right.right hcl.2.1 hcl.2.2.1 hcl.2.2.2 h1,e1];simp only[gm];split at he
   ·rename_i cs fz ty' hg;rw[S.heap.cells hg];simp only[yab];split at he
    ·rename_i h2;rw[iq h2];cases he;exact⟨c,by simp only[gm,kci (kdr hsm)],S⟩
    ·cases he
   ·cases he
  ·cases he
 case slS sz x lo hi mx=>
  have e1:=kag S hset.left hcl.1;have hb:=fun {a b:Nat} {r:Nat×Nat×Nat}=>kp3 S (a:=a) (b:=b) (r:=r) hset.right.left hset.right.right.left hset.right.right.right hcl.2.1 hcl.2.2.1 hcl.2.2.2
  simp only[opA] at he ⊢;split at he
  ·rename_i els cl hx;rw[hx] at e1;rw[e1];simp only[gm,keb,yab];split at he
   ·rename_i l h m h1;rw[hb h1];simp only;split at he
    ·rename_i h2;cases he;rw[iq (by simpa[yal,yai] using h2)];exact⟨c,by simp only[gm,keb,yam,yan],S⟩
    ·cases he
   ·cases he
  ·rename_i id off n z cc hx;rw[hx] at e1 hsm;rw[e1];simp only[gm,kci (kdr hsm.1)];split at he
   ·rename_i hz;rw[iq hz];split at he
    ·rename_i l h m h1;rw[hb h1];cases he;exact⟨c,by simp only[gm,kci (kdr hsm.2)],S⟩
    ·cases he
   ·cases he
  ·cases he
 case slT x lo hi=>
  have e1:=kag S hset.left hcl.1;simp only[opA] at he ⊢;split at he
  ·rename_i b hx;rw[hx] at e1;rw[e1];simp only[gm];split at he
   ·rename_i l h m h1;rw[kp3 S hset.right.left hset.right.right (fun t ht=>by simp[AO.tmo] at ht) hcl.2.1 hcl.2.2 rfl h1];cases he;exact⟨c,rfl,S⟩
   ·cases he
  ·cases he
 case a2p n x=>
  have ex:=kag S hset hcl;simp only[opA] at he ⊢;split at he
  ·rename_i hx;rw[hx] at ex hsm;rw[ex];simp only[gm,kci (kdr hsm)];split at he
   ·rename_i h2;rw[iq h2];cases he;exact⟨c,rfl,S⟩
   ·cases he
  ·cases he
 case mksl ty sz bytes z l k=>
  have e1:=kag S hset.left hcl.2.1;have e2:=kag S hset.right hcl.2.2;simp only[opA] at he ⊢;split at he
  ·rename_i a b h1 h2;rw[e1,e2,khs h1,khs h2];simp only;split at he
   ·rename_i h3;rw[iq h3];cases he;have:=S.new (.cells (yag b z).flatten false ty);have hz:((yag b z).flatten).map (gm ρ)=(yag b z).flatten:=by
     rw[yaj,yao,←kca,kfd ρ hcl.1]
    simp only[gB,hz] at this;exact⟨_,by simp only[gm,S.nx,kci (kdr hsm)],this⟩
   ·cases he
  ·cases he
 case mkmap=>
  simp only[opA,yaf,yak] at he ⊢;obtain⟨rfl,rfl⟩:=he;exact⟨_,⟨by simp only[gm,S.nx],rfl⟩,S.new (.map [])⟩
 case look kk z ok m k=>
  have e1:=kag S hset.left hcl.2.1;have e2:=kag S hset.right hcl.2.2;simp only[opA] at he ⊢;split at he
  ·rename_i id hm;rw[hm] at e1;rw[e1];simp only[gm];split at he
   ·rename_i es hg;rw[S.heap.map hg];simp only;split at he
    ·rename_i hk;rw[e2,iq (krr hk)];split at he
     ·rename_i h1;rw[kiz h1];cases he;refine⟨c,?_,S⟩;cases ok <;> simp[gm,gmL]
     ·rename_i h1;rw[kiz h1];cases he;refine⟨c,?_,S⟩;cases ok <;> simp[gm,gmL,knc ρ hcl.1]
     ·cases he
    ·cases he
   ·cases he
  ·cases he
 case mapup kk m k x=>
  have e1:=kag S hset.left hcl.1;have e2:=kag S hset.right.left hcl.2.1;have e3:=kag S hset.right.right hcl.2.2;simp only[opA] at he ⊢;split at he
  ·rename_i id hm;rw[hm] at e1;rw[e1];simp only[gm];split at he
   ·rename_i es hg;rw[S.heap.map hg];simp only;split at he
    ·rename_i hk;rw[e2,iq (krr hk)];split at he
     ·rename_i i _ h1;rw[kiz h1];cases he;refine⟨_,rfl,S.heap' ?_⟩;rw[e3];have:=S.heap.put id (.map (es.set i (k.ev s,x.ev s)));simpa only[gB,List.map_set] using this
     ·rename_i h1;rw[kiz h1];cases he;refine⟨_,rfl,S.heap' ?_⟩;rw[e3];have:=S.heap.put id (.map (es++[(k.ev s,x.ev s)]));simpa only[gB,yah,yad,yar] using this
     ·cases he
    ·cases he
   ·cases he
  ·cases he
 case del kk m k=>
  have e1:=kag S hset.left hcl.1;have e2:=kag S hset.right hcl.2;simp only[opA] at he ⊢;split at he
  ·rename_i id hm;rw[hm] at e1;rw[e1];simp only[gm];split at he
   ·rename_i es hg;rw[S.heap.map hg];simp only;split at he
    ·rename_i hk;rw[e2,iq (krr hk)];split at he
     ·rename_i i _ h1;rw[kiz h1];cases he;refine⟨_,rfl,S.heap' ?_⟩;have:=S.heap.put id (.map (es.eraseIdx i));simpa only[gB,kzd] using this
     ·rename_i h1;rw[kiz h1];cases he;exact⟨_,rfl,S⟩
     ·cases he
    ·cases he
   ·cases he
  ·cases he
 case extr i x=>
  have ex:=kag S hset hcl;simp only[opA] at he ⊢;split at he
  ·rename_i vs hx;rw[hx] at ex;rw[ex];simp only[gm,kca,yap,yaa] at he ⊢;obtain⟨u,h1,h2⟩:=he;cases h2;exact⟨c,⟨_,⟨_,h1,rfl⟩,rfl⟩,S⟩
  ·cases he
 case len k x=>
  have ex:=kag S hset hcl;simp only[opA] at he ⊢;split at he
  ·rename_i hx;cases he;rw[hx] at ex;rw[ex];exact⟨c,by simp only[gm,keb,yab],S⟩
  ·rename_i hx;cases he;rw[hx] at ex hsm;rw[ex];exact⟨c,by simp only[gm,kci (kdr hsm)],S⟩
  ·rename_i hx;cases he;rw[hx] at ex;rw[ex];exact⟨c,rfl,S⟩
  ·rename_i hx;cases he;rw[hx] at ex;rw[ex];exact⟨c,rfl,S⟩
  ·rename_i id hx;rw[hx] at ex;rw[ex];simp only[gm];split at he
   ·rename_i es hg;rw[S.heap.map hg];cases he;exact⟨c,by simp only[yab];rfl,S⟩
   ·cases he
  ·cases he
 case lenc n=>
  simp only[opA,yaf,yak] at he ⊢;obtain⟨rfl,rfl⟩:=he;exact⟨c,⟨rfl,rfl⟩,S⟩
 case cap x=>
  have ex:=kag S hset hcl;simp only[opA] at he ⊢;split at he
  ·rename_i hx;cases he;rw[hx] at ex;rw[ex];exact⟨c,by simp only[gm,keb,yab],S⟩
  ·rename_i hx;cases he;rw[hx] at ex hsm;rw[ex];exact⟨c,by simp only[gm,kci (kdr hsm)],S⟩
  ·cases he
 case mxi x y=>
  have e1:=kag S hset.left hcl.1;have e2:=kag S hset.right hcl.2;simp only[opA] at he ⊢;split at he
  ·rename_i hx hy;cases he;rw[hx] at e1;rw[hy] at e2;rw[e1,e2];exact⟨c,rfl,S⟩
  ·cases he
 case mni x y=>
  have e1:=kag S hset.left hcl.1;have e2:=kag S hset.right hcl.2;simp only[opA] at he ⊢;split at he
  ·rename_i hx hy;cases he;rw[hx] at e1;rw[hy] at e2;rw[e1,e2];exact⟨c,rfl,S⟩
  ·cases he
 case app ty sz bytes d x=>
  have e1:=kag S hset.left hcl.1;have e2:=kag S hset.right hcl.2;simp only[opA] at he ⊢;split at he
  ·rename_i n xs hx;rw[e2,kqj S.heap hsm.2.1 hx];simp only;split at he
   ·rename_i hc1;rw[kml G,iq hc1];split at he
    ·rename_i els cl hd;rw[hd] at e1;rw[e1];simp only[gm,keb,yab];split at he
     ·rename_i h0;rw[iq h0];cases he;exact⟨c,by simp only[gm,keb],S⟩
     ·rename_i h0;rw[ir h0];split at he
      ·rename_i h1;rw[iq (by simpa[yal,yai] using h1)];cases he;have:=S.new (.cells (els.flatten++xs) false ty);simp only[gB,yah,yaj] at this;exact⟨_,by simp only[gm,S.nx,kci (kdr hsm.2.2)],this⟩
      ·cases he
    ·rename_i hd;rw[hd] at e1;rw[e1];simp only[gm];split at he
     ·rename_i h0;rw[iq h0];cases he;exact⟨c,by simp only[gm],S⟩
     ·rename_i h0;rw[ir h0];split at he
      ·rename_i h1;rw[iq h1];cases he;exact⟨_,by simp only[gm,S.nx,kci (kdr hsm.2.2)];rfl,S.new (.cells xs false ty)⟩
      ·cases he
    ·rename_i id off k z cc hd;rw[hd] at e1 hsm;have hk:=kdr hsm.1;rw[e1];simp only[gm,kci hk];split at he
     ·cases he
     ·rename_i hz;rw[ir hz];split at he
      ·rename_i h0;rw[iq h0];cases he;exact⟨c,by simp only[gm,kci hk],S⟩
      ·rename_i h0;rw[ir h0];split at he
       ·rename_i h1;rw[iq h1];split at he
        ·rename_i cs fz ty' hg;rw[S.heap.cells hg];simp only;split at he
         ·rename_i m
          try simp only
          split at he
          ·rename_i hm;rw[iq hm];simp only[yaa] at he;obtain⟨h',h4,h5⟩:=he;cases h5;obtain⟨g',h6,h7⟩:=kwm G S.heap h4;simp only[h6,yac];exact⟨_,by simp only[gm,kci (kdr hsm.2.2)],S.heap' h7⟩
          ·rename_i hm;rw[ir hm];split at he
           ·rename_i old ho;rw[kfz ho];cases he;have:=S.new (.cells (old++xs) false ty);simp only[gB,yah] at this;exact⟨_,by simp only[gm,S.nx,kci (kdr hsm.2.2)],this⟩
           ·cases he
         ·simp only[yab];split at he
          ·rename_i hq;rw[iq hq];cases he;have:=(S.heap.kill id).put s.nx (.cells (cs.take (k*sz)++xs) false ty);simp only[gB,yah,yam] at this;refine⟨{r:=c.r,h:=(c.h.put (ρ.σ id) none).put c.nx (some (.cells ((cs.map (gm ρ)).take (k*sz)++xs.map (gm ρ)) false ty)),nx:=c.nx+1},by simp only[gm,S.nx,kci (kdr hsm.2.2)],⟨S.regs,by rw[←S.nx];exact this,fun i=> ?_,Nat.le_succ_of_le S.lo⟩⟩;have:=S.nxs (i+1);show ρ.σ (s.nx+1+i)=c.nx+1+i;rw[show s.nx+1+i=s.nx+(i+1) by omega,this];omega
          ·cases he
        ·cases he
       ·cases he
    ·cases he
   ·cases he
  ·cases he
 case cpy sz d x=>
  have e1:=kag S hset.left hcl.1;have e2:=kag S hset.right hcl.2;simp only[opA] at he ⊢;split at he
  ·rename_i n xs id off k z cc hx hd;rw[hd] at e1 hsm;rw[e2,kqj S.heap hsm.2 hx,e1];simp only[gm,kci (kdr hsm.1)];split at he
   ·rename_i hz;rw[iq hz];simp only[yaa] at he;obtain⟨h',h1,h2⟩:=he;cases h2;obtain⟨g',h3,h4⟩:=kwm G S.heap h1;rw[yam] at h3;simp only[h3,yac];exact⟨_,rfl,S.heap' h4⟩
   ·cases he
  ·cases he
 case appn ty sz bytes z d x=>
  have e1:=kag S hset.left hcl.2.1;have e2:=kag S hset.right hcl.2.2;simp only[opA] at he ⊢;split at he
  ·rename_i n els cl hn hd;rw[hd] at e1;rw[e2,khs hn,e1];simp only[gm,keb,yab];split at he
   ·rename_i h0;rw[iq h0];cases he;exact⟨c,by simp only[gm,keb],S⟩
   ·rename_i h0;rw[ir h0];split at he
    ·rename_i h1;rw[iq (by simpa[yal,yai] using h1)];cases he;have:=S.new (.cells (els.flatten++(yag n z).flatten) false ty);have hz:((yag n z).flatten).map (gm ρ)=(yag n z).flatten:=by
      rw[yaj,yao,←kca,kfd ρ hcl.1]
     simp only[gB,yah,hz,yaj] at this;exact⟨_,by simp only[gm,S.nx,kci (kdr hsm)],this⟩
    ·cases he
  ·cases he
 case cvp t n x=>
  have ex:=kag S hset hcl;simp only[opA] at he ⊢;split at he
  ·rename_i hx;cases he;rw[hx] at ex;rw[ex];exact⟨c,rfl,S⟩
  ·rename_i id hx;rw[hx] at ex;rw[ex];simp only[gm];split at he
   ·rename_i cs fz ty hg;rw[S.heap.cells hg];simp only[yab];split at he
    ·rename_i h1;rw[iq h1];cases he;exact⟨c,rfl,S⟩
    ·cases he
   ·cases he
  ·cases he
 case usd x=>
  have ex:=kag S hset hcl;simp only[opA] at he ⊢;split at he
  ·rename_i hx;cases he;rw[hx] at ex;rw[ex];exact⟨c,rfl,S⟩
  ·rename_i hx;rw[hx] at ex hsm;rw[ex];simp only[gm,kci (kdr hsm)];split at he
   ·rename_i h1;rw[iq h1];cases he;exact⟨c,rfl,S⟩
   ·cases he
  ·cases he
 case ust t p n=>
  have e1:=kag S hset.left hcl.1;have e2:=kag S hset.right hcl.2;simp only[opA] at he ⊢;split at he
  ·rename_i hp hn;cases he;rw[hp] at e1;rw[hn] at e2;rw[e1,e2];exact⟨c,rfl,S⟩
  ·rename_i id m hp hn;rw[hp] at e1;rw[hn] at e2;rw[e1,e2];simp only[gm];split at he
   ·rename_i cs ty hg;rw[S.heap.cells hg];simp only;split at he
    ·rename_i h1;rw[iq h1];split at he
     ·rename_i l hl;simp only[yaa] at he;obtain⟨b,h2,h3⟩:=he;cases h3;simp only[kfz hl,k4w h2,yac];exact⟨_,rfl,S.heap' (S.heap.put id (.text (.str b) ty))⟩
     ·cases he
    ·cases he
   ·rename_i b ty hg;rw[S.heap.text hg];simp only[gm];split at he
    ·rename_i h1;rw[iq h1];cases he;exact⟨_,rfl,S⟩
    ·cases he
   ·cases he
  ·cases he
 case s2b t x=>
  have ex:=kag S hset hcl;simp only[opA] at he ⊢;split at he
  ·rename_i b hx;cases he;rw[hx] at ex;rw[ex];have:=S.new (.cells (b.map fun c=> .int .u8 c.toNat) false t);have hz:(b.map fun c=>AV.int .u8 c.toNat).map (gm ρ)=b.map fun c=>AV.int .u8 c.toNat:=by
    rw[List.map_map];rfl
   simp only[gB,hz] at this;exact⟨_,by simp only[gm,S.nx,kci (kdr hsm)],this⟩
  ·cases he
 case eqp neg x y=>
  have e1:=kag S hset.left hcl.1;have e2:=kag S hset.right hcl.2;simp only[opA] at he ⊢;split at he
  ·rename_i i o j p hx hy;rw[hx] at e1;rw[hy] at e2;rw[e1,e2];simp only[gm];split at he
   ·rename_i h1;cases he;obtain⟨k,hk⟩:=Option.isSome_iff_exists.1 h1.2;rw[iq ⟨by rw[h1.1],by rw[S.heap.get _ _ hk];rfl⟩];exact⟨c,rfl,S⟩
   ·cases he
  ·cases he
 case mki t x=>
  have ex:=kag S hset hcl;simp only[opA,yaf,yak] at he ⊢;obtain⟨rfl,rfl⟩:=he;exact⟨c,⟨by rw[ex];simp only[gm],rfl⟩,S⟩
 case eqi neg t x y=>
  have e1:=kag S hset.left hcl.1;have e2:=kag S hset.right hcl.2;simp only[opA] at he ⊢;split at he
  ·rename_i a k m b j n hx hy;rw[hx] at e1;rw[hy] at e2;rw[e1,e2];simp only[gm];split at he
   ·rename_i h1;rw[iq h1];split at he
    ·rename_i h2;rw[iq h2];cases he;exact⟨c,rfl,S⟩
    ·cases he
   ·rename_i h1;rw[ir h1];cases he;exact⟨c,rfl,S⟩
  ·cases he
 case ext k x y=>
  have e1:=kag S hset.left hcl.1;have e2:=kag S hset.right hcl.2;simp only[opA] at he ⊢;split at he
  ·cases he;exact⟨c,by rw[e1],S⟩
  ·rename_i hx hy;cases he;rw[hx] at e1;rw[hy] at e2;rw[e1,e2];exact⟨c,rfl,S⟩
  ·rename_i hx hy;cases he;rw[hx] at e1;rw[hy] at e2;rw[e1,e2];exact⟨c,rfl,S⟩
  ·cases he
 case call f as=>cases he
 case fail=>cases he
end
end Go.Proofs.Hz
