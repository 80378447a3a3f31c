/-
  Symbolic runs: each operation, and what it stands for.
  Conditions: none.
-/
import Derived.Test.YtamikoglpnoicaaGreatDoorT04
namespace Go.Proofs.Hz
def AO.cl:AO→Bool
 | .t _=>true
 | .c v=>kda v
def AO.clo:Option AO→Bool
 |none=>true
 |some x=>x.cl
def AOp.cl:AOp→Bool
 | .mov x | .box _ x | .load _ _ x | .nilck x | .un _ x | .conv _ x | .mvs x | .b2s x | .faddr _ x | .fld _ _ _ x | .a2p _ x | .extr _ x | .len _ x | .cap x | .cvp _ _ x | .usd x | .s2b _ x | .mki _ x=>x.cl
 | .pick c a b=>c.cl && (a.cl && b.cl)
 | .alloc _ z=>kdt z
 | .mkmap | .lenc _ | .fail=>true
 | .build z ps=>kdt z && ps.all fun p=>p.2.2.cl
 | .bsl _ _ z ps=>kdt z && ps.all fun p=>p.2.2.cl
 | .store _ a x | .bin _ a x | .eqa _ _ a x | .eqn _ _ a x | .eqb _ a x | .iaA _ _ a x | .iaS _ a x | .ixA _ _ _ a x | .ixS a x | .app _ _ _ a x | .cpy _ a x | .mxi a x | .mni a x | .del _ a x | .ust _ a x | .eqp _ a x | .eqi _ _ a x | .ext _ a x=>a.cl && x.cl
 | .mksl _ _ _ z a x | .appn _ _ _ z a x=>kdt z && (a.cl && x.cl)
 | .look _ z _ a x=>kda z && (a.cl && x.cl)
 | .mkfn _ a b=>a.all AO.cl && b.all AO.cl
 | .slA _ _ x l h m | .slS _ x l h m=>x.cl && (AO.clo l && (AO.clo h && AO.clo m))
 | .slT x l h=>x.cl && (AO.clo l && AO.clo h)
 | .mapup _ m k x=>m.cl && (k.cl && x.cl)
 | .call f as=>f.cl && as.all AO.cl
theorem kup {α β:Type} (f:α→β): ∀ (l:List α) (i:Nat),(l.eraseIdx i).map f=(l.map f).eraseIdx i
 | [],_=>rfl
 |_::_,0=>rfl
 |a::l,i+1=>by simp only[List.eraseIdx_cons_succ,List.map_cons,kup f l i]
section
variable {ρ:Val} {s s1 c:St} {v:AV}
def SetIn (s:St) (l:List Nat):Prop:=∀ t ∈ l,∃ v,s.r.get t=some v
theorem SetIn.left {a b:List Nat} (h:SetIn s (a++b)):SetIn s a:=fun t ht=>h t (List.mem_append_left _ ht)
theorem SetIn.right {a b:List Nat} (h:SetIn s (a++b)):SetIn s b:=fun t ht=>h t (List.mem_append_right _ ht)
theorem kae (S:Sim ρ s c) {x:AO} (h:SetIn s x.tm) (hc:x.cl=true):x.ev c=gm ρ (x.ev s):=by
 cases x with
 |t n=>
  obtain⟨v,hv⟩:=h n (by simp[AO.tm])
  simp only[AO.ev,St.rg,hv,S.regs n v hv,Option.getD_some]
 |c v=>simp only[AO.ev];exact(kkr ρ hc).symm
theorem khl (S:Sim ρ s c): ∀ {l:List AO},SetIn s (AO.tml l)→l.all AO.cl=true→l.map (AO.ev c)=(l.map (AO.ev s)).map (gm ρ)
 | [],_,_=>rfl
 |x::l,h,hc=>by
  simp only[List.all_cons,Bool.and_eq_true] at hc
  have h':SetIn s (x.tm++AO.tml l):=h
  simp only[List.map_cons]
  rw[kae S h'.left hc.1,khl S h'.right hc.2]
theorem kkl (S:Sim ρ s c): ∀ {l:List (Nat×Nat×AO)},SetIn s (AO.tmp l)→(l.all fun p=>p.2.2.cl)=true→evp c l=(evp s l).map fun p=>(p.1,p.2.1,gm ρ p.2.2)
 | [],_,_=>rfl
 |x::l,h,hc=>by
  simp only[List.all_cons,Bool.and_eq_true] at hc
  have h':SetIn s (x.2.2.tm++AO.tmp l):=h
  have ih:=kkl S (l:=l) h'.right hc.2
  unfold evp at ih ⊢
  simp only[List.map_cons]
  rw[kae S h'.left hc.1,ih]
theorem ko4 (S:Sim ρ s c) {d n:Nat} {x:Option AO} (h:SetIn s (AO.tmo x)) (hc:AO.clo x=true) (e:kb8 s d x=some n):kb8 c d x=some n:=by
 cases x with
 |none=>exact e
 |some x=>simp only[kb8] at e ⊢;rw[kae S h hc];exact kft e
theorem knc (S:Sim ρ s c) {a b:Nat} {l h m:Option AO} {r:Nat×Nat×Nat} (hl:SetIn s (AO.tmo l)) (hh:SetIn s (AO.tmo h)) (hm:SetIn s (AO.tmo m)) (cl:AO.clo l=true) (ch:AO.clo h=true) (cm:AO.clo m=true)
  (e:kb3 s a b l h m=some r):kb3 c a b l h m=some r:=by
 unfold kb3 at e ⊢
 split at e
 ·rename_i x y z h1 h2 h3
  rw[ko4 S hm cm h1,ko4 S hh ch h2,ko4 S hl cl h3]
  exact e
 ·cases e
theorem Sim.new (S:Sim ρ s c) (b:Blk):Sim ρ (s.new b) (c.new (gB ρ b)):=⟨S.regs,by
 simp only[St.new];rw[←S.nx];exact S.heap.put _ _,fun i=>by
 have:=S.nxs (i+1)
 simp only[St.new]
 rw[show s.nx+1+i=s.nx+(i+1) by omega,this];omega,by have:=S.lo;simp only[St.new];omega⟩
theorem Sim.heap' (S:Sim ρ s c) {h g:T Blk} (H:HSim ρ h g):Sim ρ {s with h:=h} {c with h:=g}:=⟨S.regs,H,S.nxs,S.lo⟩
def AOp.sm (s:St) (v:AV):AOp→Bool
 | .bsl .. | .slA .. | .mksl .. | .appn .. | .s2b .. =>v.small
 | .b2s x | .iaS _ x _ | .a2p _ x | .len _ x | .cap x | .usd x=>(x.ev s).small
 | .slS _ x _ _ _=>(x.ev s).small && v.small
 | .app _ _ _ d x=>(d.ev s).small && ((x.ev s).small && v.small)
 | .cpy _ d x=>(d.ev s).small && (x.ev s).small
 |_=>true
theorem kcw {a b n d:Nat} {e:Option Nat} (h:(AV.sl a b n d e).small=true):n<BIG:=by simpa[AV.small] using h
theorem k63 (G:Good ρ) (S:Sim ρ s c) {o:AOp} (hset:SetIn s o.looks) (hcl:o.cl=true) (he:opA s o=some (v,s1)) (hsm:o.sm s v=true): ∃ c1,opA c o=some (gm ρ v,c1)∧Sim ρ s1 c1:=by
 cases o <;> simp only[AOp.looks] at hset <;> simp only[AOp.cl,Bool.and_eq_true] at hcl <;> simp only[AOp.sm,Bool.and_eq_true] at hsm
 case mov x=>
  have ex:=kae S hset hcl
  simp only[opA,Option.some.injEq,Prod.mk.injEq] at he ⊢
  obtain⟨rfl,rfl⟩:=he
  exact⟨c,⟨ex,rfl⟩,S⟩
 case pick t a b=>
  have e1:=kae S hset.left hcl.1
  have e2:=kae S hset.right.left hcl.2.1
  have e3:=kae S hset.right.right hcl.2.2
  simp only[opA] at he ⊢
  split at he
  ·rename_i q hq
   cases he
   rw[hq] at e1
   simp only[gm] at e1
   rw[e1]
   refine⟨c,?_,S⟩
   cases q <;> simp[e2,e3]
  ·cases he
 case alloc ty z=>
  simp only[opA,Option.some.injEq,Prod.mk.injEq] at he ⊢
  obtain⟨rfl,rfl⟩:=he
  have:=S.new (.cells z false ty)
  simp only[gB,←kbu,kd1 ρ hcl] at this
  exact⟨_,⟨by simp only[gm,S.nx],rfl⟩,this⟩
 case box ty x=>
  have ex:=kae S hset hcl
  simp only[opA] at he ⊢
  split at he
  ·rename_i h1
   cases he
   rw[ex,kng G,kj7 G,if_pos h1]
   have:=S.new (.cells (x.ev s).cells false ty)
   exact⟨_,by simp only[gm,S.nx];rfl,this⟩
  ·cases he
 case build z ps=>
  have ep:=kkl S hset hcl.2
  simp only[opA,Option.map_eq_some_iff] at he ⊢
  obtain⟨l,h1,h2⟩:=he
  cases h2
  have:=kod G h1
  rw[←kbu,kd1 ρ hcl.1] at this
  exact⟨c,⟨_,by rw[ep];exact this,by simp only[gm,kbu]⟩,S⟩
 case bsl ty sz z ps=>
  have ep:=kkl S hset hcl.2
  simp only[opA] at he ⊢
  split at he
  ·cases he
  ·rename_i h0
   rw[if_neg h0]
   split at he
   ·rename_i l h1
    split at he
    ·rename_i h2
     cases he
     have h3:=kod G h1
     rw[←kbu,kd1 ρ hcl.1] at h3
     rw[ep,h3]
     simp only
     rw[kj7 G,if_pos h2]
     exact⟨_,by simp only[gm,S.nx,kbz (kcw hsm)];rfl,S.new (.cells l false ty)⟩
    ·cases he
   ·cases he
 case load g n a=>
  have ea:=kae S hset hcl
  simp only[opA] at he ⊢
  split at he
  ·rename_i l h1
   simp only[Option.map_eq_some_iff] at he
   obtain⟨u,h2,h3⟩:=he
   cases h3
   rw[ea,kxx S.heap h1]
   simp only[ki7 h2,Option.map_some]
   exact⟨c,rfl,S⟩
  ·cases he
 case store n a x=>
  have ea:=kae S hset.left hcl.1
  have ex:=kae S hset.right hcl.2
  simp only[opA] at he ⊢
  split at he
  ·rename_i h1
   simp only[Option.map_eq_some_iff] at he
   obtain⟨h',h2,h3⟩:=he
   cases h3
   unfold wrA at h2
   split at h2
   ·rename_i id off hp
    rw[hp] at ea
    obtain⟨g',h4,h5⟩:=kr5 G S.heap h2
    rw[ea,ex,kng G,List.length_map,if_pos h1]
    simp only[gm,wrA,h4,Option.map_some]
    exact⟨_,rfl,S.heap' h5⟩
   ·cases h2
  ·cases he
 case nilck x=>
  have ex:=kae S hset hcl
  simp only[opA] at he ⊢
  split at he <;> first |(cases he;done) |skip
  all_goals (rename_i hx;cases he;rw[hx] at ex;rw[ex];exact⟨c,rfl,S⟩)
 case bin op x y=>
  have e1:=kae S hset.left hcl.1
  have e2:=kae S hset.right hcl.2
  simp only[opA,Option.map_eq_some_iff] at he ⊢
  obtain⟨u,h1,h2⟩:=he
  cases h2
  obtain⟨h3,h4⟩:=k0x (ρ:=ρ) h1
  exact⟨c,⟨_,by rw[e1,e2];exact h3,by rw[h4]⟩,S⟩
 case eqa neg ks x y=>
  have e1:=kae S hset.left hcl.1
  have e2:=kae S hset.right hcl.2
  simp only[opA] at he ⊢
  split at he
  ·rename_i xs ys hx hy
   simp only[Option.map_eq_some_iff] at he
   obtain⟨b,h1,h2⟩:=he
   cases h2
   rw[hx] at e1;rw[hy] at e2
   rw[e1,e2]
   simp only[gm,kbu,ks5 h1,Option.map_some]
   exact⟨c,rfl,S⟩
  ·cases he
 case eqn k neg x y=>
  have e1:=kae S hset.left hcl.1
  have e2:=kae S hset.right hcl.2
  simp only[opA] at he ⊢
  split at he
  ·rename_i a b h1 h2
   rw[e1,e2,ktz h1,ktz h2]
   simp only
   split at he
   ·rename_i h3;rw[if_pos h3];cases he;exact⟨c,rfl,S⟩
   ·cases he
  ·cases he
 case eqb neg x y=>
  have e1:=kae S hset.left hcl.1
  have e2:=kae S hset.right hcl.2
  simp only[opA] at he ⊢
  split at he
  ·rename_i a b hx hy
   cases he
   rw[hx] at e1;rw[hy] at e2
   rw[e1,e2]
   exact⟨c,rfl,S⟩
  ·cases he
 case un op x=>
  have ex:=kae S hset hcl
  simp only[opA,Option.map_eq_some_iff] at he ⊢
  obtain⟨u,h1,h2⟩:=he
  cases h2
  obtain⟨h3,h4⟩:=qhe (ρ:=ρ) h1
  exact⟨c,⟨_,by rw[ex];exact h3,by rw[h4]⟩,S⟩
 case conv k x=>
  have ex:=kae S hset hcl
  simp only[opA] at he ⊢
  split at he
  ·rename_i hx;cases he;rw[hx] at ex;rw[ex];exact⟨c,rfl,S⟩
  ·cases he
 case mvs x=>
  have ex:=kae S hset hcl
  simp only[opA] at he ⊢
  split at he
  ·rename_i hx;cases he;rw[hx] at ex;rw[ex];exact⟨c,rfl,S⟩
  ·cases he
 case b2s x=>
  have ex:=kae S hset hcl
  simp only[opA] at he ⊢
  split at he
  ·rename_i n cs h1
   rw[ex,knt S.heap hsm h1]
   simp only
   split at he
   ·cases he
   ·rename_i hns
    simp only[Option.map_eq_some_iff] at he
    obtain⟨b,h2,h3⟩:=he
    cases h3
    have hx: ∀ q,gm ρ (x.ev s)≠ .str q:=fun q hq=>by
     cases hv:x.ev s <;> rw[hv] at hq <;> simp only[gm] at hq <;> first |(cases hq;done) |skip
     ·exact hns _ hv
     ·rw[hv] at h1;simp[ka8] at h1
    split
    ·rename_i q hq;exact absurd hq (hx q)
    ·exact⟨c,by simp only[ky2 h2,Option.map_some];rfl,S⟩
  ·cases he
 case mkfn f a b=>
  have e1:=khl S hset.left hcl.1
  have e2:=khl S hset.right hcl.2
  simp only[opA,Option.some.injEq,Prod.mk.injEq] at he ⊢
  obtain⟨rfl,rfl⟩:=he
  exact⟨c,⟨by rw[e1,e2];simp only[gm,kbu],rfl⟩,S⟩
 case faddr off x=>
  have ex:=kae S hset hcl
  simp only[opA] at he ⊢
  split at he <;> first |(cases he;done) |skip
  all_goals (rename_i hx;cases he;rw[hx] at ex;rw[ex];exact⟨c,rfl,S⟩)
 case fld g off n x=>
  have ex:=kae S hset hcl
  simp only[opA] at he ⊢
  split at he
  ·rename_i cs hx
   rw[hx] at ex
   split at he
   ·rename_i l h1
    simp only[Option.map_eq_some_iff] at he
    obtain⟨u,h2,h3⟩:=he
    cases h3
    rw[ex]
    simp only[gm,kbu,kef h1,ki7 h2,Option.map_some]
    exact⟨c,rfl,S⟩
   ·cases he
  ·cases he
 case iaA len sz x i=>
  have e1:=kae S hset.left hcl.1
  have e2:=kae S hset.right hcl.2
  simp only[opA] at he ⊢
  split at he
  ·rename_i j h1
   rw[e2,kft h1]
   simp only
   split at he
   ·rename_i h2
    rw[if_pos h2]
    split at he <;> first |(cases he;done) |skip
    all_goals (rename_i hx;cases he;rw[hx] at e1;rw[e1];exact⟨c,rfl,S⟩)
   ·cases he
  ·cases he
 case iaS sz x i=>
  have e1:=kae S hset.left hcl.1
  have e2:=kae S hset.right hcl.2
  simp only[opA] at he ⊢
  split at he
  ·rename_i j h1
   rw[e2,kft h1]
   simp only
   split at he
   ·rename_i els cl hx
    rw[hx] at e1
    rw[e1]
    simp only[gm,kc9,List.getElem?_map]
    split at he
    ·rename_i e h2
     split at he
     ·rename_i h3
      cases he
      simp only[h2,Option.map_some,List.length_map]
      rw[if_pos h3]
      exact⟨c,by simp only[gm,kbu],S⟩
     ·cases he
    ·cases he
   ·rename_i hx
    rw[hx] at e1 hsm
    rw[e1]
    simp only[gm,kbz (kcw hsm)]
    split at he
    ·rename_i h2;rw[if_pos h2];cases he;exact⟨c,rfl,S⟩
    ·cases he
   ·cases he
  ·cases he
 case ixA g len sz x i=>
  have e1:=kae S hset.left hcl.1
  have e2:=kae S hset.right hcl.2
  simp only[opA] at he ⊢
  split at he
  ·rename_i j cs h1 hx
   rw[hx] at e1
   rw[e2,kft h1,e1]
   simp only[gm,kbu]
   split at he
   ·rename_i h2
    rw[if_pos h2]
    split at he
    ·rename_i l h3
     simp only[Option.map_eq_some_iff] at he
     obtain⟨u,h4,h5⟩:=he
     cases h5
     simp only[kef h3,ki7 h4,Option.map_some]
     exact⟨c,rfl,S⟩
    ·cases he
   ·cases he
  ·cases he
 case ixS x i=>
  have e1:=kae S hset.left hcl.1
  have e2:=kae S hset.right hcl.2
  simp only[opA] at he ⊢
  split at he
  ·rename_i j b h1 hx
   rw[hx] at e1
   rw[e2,kft h1,e1]
   simp only[gm,Option.map_eq_some_iff] at he ⊢
   obtain⟨u,h2,h3⟩:=he
   cases h3
   exact⟨c,⟨u,h2,rfl⟩,S⟩
  ·cases he
 case slA len sz x lo hi mx=>
  have e1:=kae S hset.left hcl.1
  simp only[opA] at he ⊢
  split at he
  ·rename_i l h m id o h1 hx
   rw[hx] at e1
   rw[knc S hset.right.left hset.right.right.left hset.right.right.right hcl.2.1 hcl.2.2.1 hcl.2.2.2 h1,e1]
   simp only[gm]
   split at he
   ·rename_i cs fz ty' hg
    rw[S.heap.cells hg]
    simp only[List.length_map]
    split at he
    ·rename_i h2;rw[if_pos h2];cases he;exact⟨c,by simp only[gm,kbz (kcw hsm)],S⟩
    ·cases he
   ·cases he
  ·cases he
 case slS sz x lo hi mx=>
  have e1:=kae S hset.left hcl.1
  have hb:=fun {a b:Nat} {r:Nat×Nat×Nat}=>knc S (a:=a) (b:=b) (r:=r) hset.right.left hset.right.right.left hset.right.right.right hcl.2.1 hcl.2.2.1 hcl.2.2.2
  simp only[opA] at he ⊢
  split at he
  ·rename_i els cl hx
   rw[hx] at e1
   rw[e1]
   simp only[gm,kc9,List.length_map]
   split at he
   ·rename_i l h m h1
    rw[hb h1]
    simp only
    split at he
    ·rename_i h2
     cases he
     rw[if_pos (by simpa[List.all_map,Function.comp_def] using h2)]
     exact⟨c,by simp only[gm,kc9,List.map_take,List.map_drop],S⟩
    ·cases he
   ·cases he
  ·rename_i id off n z cc hx
   rw[hx] at e1 hsm
   rw[e1]
   simp only[gm,kbz (kcw hsm.1)]
   split at he
   ·rename_i hz
    rw[if_pos hz]
    split at he
    ·rename_i l h m h1
     rw[hb h1]
     cases he
     exact⟨c,by simp only[gm,kbz (kcw hsm.2)],S⟩
    ·cases he
   ·cases he
  ·cases he
 case slT x lo hi=>
  have e1:=kae S hset.left hcl.1
  simp only[opA] at he ⊢
  split at he
  ·rename_i b hx
   rw[hx] at e1
   rw[e1]
   simp only[gm]
   split at he
   ·rename_i l h m h1
    rw[knc S hset.right.left hset.right.right (fun t ht=>by simp[AO.tmo] at ht) hcl.2.1 hcl.2.2 rfl h1]
    cases he
    exact⟨c,rfl,S⟩
   ·cases he
  ·cases he
 case a2p n x=>
  have ex:=kae S hset hcl
  simp only[opA] at he ⊢
  split at he
  ·rename_i hx
   rw[hx] at ex hsm
   rw[ex]
   simp only[gm,kbz (kcw hsm)]
   split at he
   ·rename_i h2;rw[if_pos h2];cases he;exact⟨c,rfl,S⟩
   ·cases he
  ·cases he
 case mksl ty sz bytes z l k=>
  have e1:=kae S hset.left hcl.2.1
  have e2:=kae S hset.right hcl.2.2
  simp only[opA] at he ⊢
  split at he
  ·rename_i a b h1 h2
   rw[e1,e2,kft h1,kft h2]
   simp only
   split at he
   ·rename_i h3
    rw[if_pos h3]
    cases he
    have:=S.new (.cells (List.replicate b z).flatten false ty)
    have hz:((List.replicate b z).flatten).map (gm ρ)=(List.replicate b z).flatten:=by
     rw[List.map_flatten,List.map_replicate,←kbu,kd1 ρ hcl.1]
    simp only[gB,hz] at this
    exact⟨_,by simp only[gm,S.nx,kbz (kcw hsm)],this⟩
   ·cases he
  ·cases he
 case mkmap=>
  simp only[opA,Option.some.injEq,Prod.mk.injEq] at he ⊢
  obtain⟨rfl,rfl⟩:=he
  exact⟨_,⟨by simp only[gm,S.nx],rfl⟩,S.new (.map [])⟩
 case look kk z ok m k=>
  have e1:=kae S hset.left hcl.2.1
  have e2:=kae S hset.right hcl.2.2
  simp only[opA] at he ⊢
  split at he
  ·rename_i id hm
   rw[hm] at e1
   rw[e1]
   simp only[gm]
   split at he
   ·rename_i es hg
    rw[S.heap.map hg]
    simp only
    split at he
    ·rename_i hk
     rw[e2,if_pos (kot hk)]
     split at he
     ·rename_i h1
      rw[kgq h1]
      cases he
      refine⟨c,?_,S⟩
      cases ok <;> simp[gm,gmL]
     ·rename_i h1
      rw[kgq h1]
      cases he
      refine⟨c,?_,S⟩
      cases ok <;> simp[gm,gmL,kkr ρ hcl.1]
     ·cases he
    ·cases he
   ·cases he
  ·cases he
 case mapup kk m k x=>
  have e1:=kae S hset.left hcl.1
  have e2:=kae S hset.right.left hcl.2.1
  have e3:=kae S hset.right.right hcl.2.2
  simp only[opA] at he ⊢
  split at he
  ·rename_i id hm
   rw[hm] at e1
   rw[e1]
   simp only[gm]
   split at he
   ·rename_i es hg
    rw[S.heap.map hg]
    simp only
    split at he
    ·rename_i hk
     rw[e2,if_pos (kot hk)]
     split at he
     ·rename_i i _ h1
      rw[kgq h1]
      cases he
      refine⟨_,rfl,S.heap' ?_⟩
      rw[e3]
      have:=S.heap.put id (.map (es.set i (k.ev s,x.ev s)))
      simpa only[gB,List.map_set] using this
     ·rename_i h1
      rw[kgq h1]
      cases he
      refine⟨_,rfl,S.heap' ?_⟩
      rw[e3]
      have:=S.heap.put id (.map (es++[(k.ev s,x.ev s)]))
      simpa only[gB,List.map_append,List.map_cons,List.map_nil] using this
     ·cases he
    ·cases he
   ·cases he
  ·cases he
 case del kk m k=>
  have e1:=kae S hset.left hcl.1
  have e2:=kae S hset.right hcl.2
  simp only[opA] at he ⊢
  split at he
  ·rename_i id hm
   rw[hm] at e1
   rw[e1]
   simp only[gm]
   split at he
   ·rename_i es hg
    rw[S.heap.map hg]
    simp only
    split at he
    ·rename_i hk
     rw[e2,if_pos (kot hk)]
     split at he
     ·rename_i i _ h1
      rw[kgq h1]
      cases he
      refine⟨_,rfl,S.heap' ?_⟩
      have:=S.heap.put id (.map (es.eraseIdx i))
      simpa only[gB,kup] using this
     ·rename_i h1
      rw[kgq h1]
      cases he
      exact⟨_,rfl,S⟩
     ·cases he
    ·cases he
   ·cases he
  ·cases he
 case extr i x=>
  have ex:=kae S hset hcl
  simp only[opA] at he ⊢
  split at he
  ·rename_i vs hx
   rw[hx] at ex
   rw[ex]
   simp only[gm,kbu,List.getElem?_map,Option.map_eq_some_iff] at he ⊢
   obtain⟨u,h1,h2⟩:=he
   cases h2
   exact⟨c,⟨_,⟨_,h1,rfl⟩,rfl⟩,S⟩
  ·cases he
 case len k x=>
  have ex:=kae S hset hcl
  simp only[opA] at he ⊢
  split at he
  ·rename_i hx;cases he;rw[hx] at ex;rw[ex];exact⟨c,by simp only[gm,kc9,List.length_map],S⟩
  ·rename_i hx;cases he;rw[hx] at ex hsm;rw[ex];exact⟨c,by simp only[gm,kbz (kcw hsm)],S⟩
  ·rename_i hx;cases he;rw[hx] at ex;rw[ex];exact⟨c,rfl,S⟩
  ·rename_i hx;cases he;rw[hx] at ex;rw[ex];exact⟨c,rfl,S⟩
  ·rename_i id hx
   rw[hx] at ex
   rw[ex]
   simp only[gm]
   split at he
   ·rename_i es hg
    rw[S.heap.map hg]
    cases he
    exact⟨c,by simp only[List.length_map];rfl,S⟩
   ·cases he
  ·cases he
 case lenc n=>
  simp only[opA,Option.some.injEq,Prod.mk.injEq] at he ⊢
  obtain⟨rfl,rfl⟩:=he
  exact⟨c,⟨rfl,rfl⟩,S⟩
 case cap x=>
  have ex:=kae S hset hcl
  simp only[opA] at he ⊢
  split at he
  ·rename_i hx;cases he;rw[hx] at ex;rw[ex];exact⟨c,by simp only[gm,kc9,List.length_map],S⟩
  ·rename_i hx;cases he;rw[hx] at ex hsm;rw[ex];exact⟨c,by simp only[gm,kbz (kcw hsm)],S⟩
  ·cases he
 case mxi x y=>
  have e1:=kae S hset.left hcl.1
  have e2:=kae S hset.right hcl.2
  simp only[opA] at he ⊢
  split at he
  ·rename_i hx hy;cases he;rw[hx] at e1;rw[hy] at e2;rw[e1,e2];exact⟨c,rfl,S⟩
  ·cases he
 case mni x y=>
  have e1:=kae S hset.left hcl.1
  have e2:=kae S hset.right hcl.2
  simp only[opA] at he ⊢
  split at he
  ·rename_i hx hy;cases he;rw[hx] at e1;rw[hy] at e2;rw[e1,e2];exact⟨c,rfl,S⟩
  ·cases he
 case app ty sz bytes d x=>
  have e1:=kae S hset.left hcl.1
  have e2:=kae S hset.right hcl.2
  simp only[opA] at he ⊢
  split at he
  ·rename_i n xs hx
   rw[e2,knt S.heap hsm.2.1 hx]
   simp only
   split at he
   ·rename_i hc1
    rw[kj7 G,if_pos hc1]
    split at he
    ·rename_i els cl hd
     rw[hd] at e1
     rw[e1]
     simp only[gm,kc9,List.length_map]
     split at he
     ·rename_i h0;rw[if_pos h0];cases he;exact⟨c,by simp only[gm,kc9],S⟩
     ·rename_i h0
      rw[if_neg h0]
      split at he
      ·rename_i h1
       rw[if_pos (by simpa[List.all_map,Function.comp_def] using h1)]
       cases he
       have:=S.new (.cells (els.flatten++xs) false ty)
       simp only[gB,List.map_append,List.map_flatten] at this
       exact⟨_,by simp only[gm,S.nx,kbz (kcw hsm.2.2)],this⟩
      ·cases he
    ·rename_i hd
     rw[hd] at e1
     rw[e1]
     simp only[gm]
     split at he
     ·rename_i h0;rw[if_pos h0];cases he;exact⟨c,by simp only[gm],S⟩
     ·rename_i h0
      rw[if_neg h0]
      split at he
      ·rename_i h1
       rw[if_pos h1]
       cases he
       exact⟨_,by simp only[gm,S.nx,kbz (kcw hsm.2.2)];rfl,S.new (.cells xs false ty)⟩
      ·cases he
    ·rename_i id off k z cc hd
     rw[hd] at e1 hsm
     have hk:=kcw hsm.1
     rw[e1]
     simp only[gm,kbz hk]
     split at he
     ·cases he
     ·rename_i hz
      rw[if_neg hz]
      split at he
      ·rename_i h0;rw[if_pos h0];cases he;exact⟨c,by simp only[gm,kbz hk],S⟩
      ·rename_i h0
       rw[if_neg h0]
       split at he
       ·rename_i h1
        rw[if_pos h1]
        split at he
        ·rename_i cs fz ty' hg
         rw[S.heap.cells hg]
         simp only
         split at he
         ·rename_i m
          try simp only
          split at he
          ·rename_i hm
           rw[if_pos hm]
           simp only[Option.map_eq_some_iff] at he
           obtain⟨h',h4,h5⟩:=he
           cases h5
           obtain⟨g',h6,h7⟩:=kr5 G S.heap h4
           simp only[h6,Option.map_some]
           exact⟨_,by simp only[gm,kbz (kcw hsm.2.2)],S.heap' h7⟩
          ·rename_i hm
           rw[if_neg hm]
           split at he
           ·rename_i old ho
            rw[kef ho]
            cases he
            have:=S.new (.cells (old++xs) false ty)
            simp only[gB,List.map_append] at this
            exact⟨_,by simp only[gm,S.nx,kbz (kcw hsm.2.2)],this⟩
           ·cases he
         ·simp only[List.length_map]
          split at he
          ·rename_i hq
           rw[if_pos hq]
           cases he
           have:=(S.heap.kill id).put s.nx (.cells (cs.take (k*sz)++xs) false ty)
           simp only[gB,List.map_append,List.map_take] at this
           refine⟨{r:=c.r,h:=(c.h.put (ρ.σ id) none).put c.nx (some (.cells ((cs.map (gm ρ)).take (k*sz)++xs.map (gm ρ)) false ty)),nx:=c.nx+1},by simp only[gm,S.nx,kbz (kcw hsm.2.2)],⟨S.regs,by rw[←S.nx];exact this,fun i=> ?_,Nat.le_succ_of_le S.lo⟩⟩
           have:=S.nxs (i+1)
           show ρ.σ (s.nx+1+i)=c.nx+1+i
           rw[show s.nx+1+i=s.nx+(i+1) by omega,this];omega
          ·cases he
        ·cases he
       ·cases he
    ·cases he
   ·cases he
  ·cases he
 case cpy sz d x=>
  have e1:=kae S hset.left hcl.1
  have e2:=kae S hset.right hcl.2
  simp only[opA] at he ⊢
  split at he
  ·rename_i n xs id off k z cc hx hd
   rw[hd] at e1 hsm
   rw[e2,knt S.heap hsm.2 hx,e1]
   simp only[gm,kbz (kcw hsm.1)]
   split at he
   ·rename_i hz
    rw[if_pos hz]
    simp only[Option.map_eq_some_iff] at he
    obtain⟨h',h1,h2⟩:=he
    cases h2
    obtain⟨g',h3,h4⟩:=kr5 G S.heap h1
    rw[List.map_take] at h3
    simp only[h3,Option.map_some]
    exact⟨_,rfl,S.heap' h4⟩
   ·cases he
  ·cases he
 case appn ty sz bytes z d x=>
  have e1:=kae S hset.left hcl.2.1
  have e2:=kae S hset.right hcl.2.2
  simp only[opA] at he ⊢
  split at he
  ·rename_i n els cl hn hd
   rw[hd] at e1
   rw[e2,kft hn,e1]
   simp only[gm,kc9,List.length_map]
   split at he
   ·rename_i h0;rw[if_pos h0];cases he;exact⟨c,by simp only[gm,kc9],S⟩
   ·rename_i h0
    rw[if_neg h0]
    split at he
    ·rename_i h1
     rw[if_pos (by simpa[List.all_map,Function.comp_def] using h1)]
     cases he
     have:=S.new (.cells (els.flatten++(List.replicate n z).flatten) false ty)
     have hz:((List.replicate n z).flatten).map (gm ρ)=(List.replicate n z).flatten:=by
      rw[List.map_flatten,List.map_replicate,←kbu,kd1 ρ hcl.1]
     simp only[gB,List.map_append,hz,List.map_flatten] at this
     exact⟨_,by simp only[gm,S.nx,kbz (kcw hsm)],this⟩
    ·cases he
  ·cases he
 case cvp t n x=>
  have ex:=kae S hset hcl
  simp only[opA] at he ⊢
  split at he
  ·rename_i hx;cases he;rw[hx] at ex;rw[ex];exact⟨c,rfl,S⟩
  ·rename_i id hx
   rw[hx] at ex
   rw[ex]
   simp only[gm]
   split at he
   ·rename_i cs fz ty hg
    rw[S.heap.cells hg]
    simp only[List.length_map]
    split at he
    ·rename_i h1;rw[if_pos h1];cases he;exact⟨c,rfl,S⟩
    ·cases he
   ·cases he
  ·cases he
 case usd x=>
  have ex:=kae S hset hcl
  simp only[opA] at he ⊢
  split at he
  ·rename_i hx;cases he;rw[hx] at ex;rw[ex];exact⟨c,rfl,S⟩
  ·rename_i hx
   rw[hx] at ex hsm
   rw[ex]
   simp only[gm,kbz (kcw hsm)]
   split at he
   ·rename_i h1;rw[if_pos h1];cases he;exact⟨c,rfl,S⟩
   ·cases he
  ·cases he
 case ust t p n=>
  have e1:=kae S hset.left hcl.1
  have e2:=kae S hset.right hcl.2
  simp only[opA] at he ⊢
  split at he
  ·rename_i hp hn;cases he;rw[hp] at e1;rw[hn] at e2;rw[e1,e2];exact⟨c,rfl,S⟩
  ·rename_i id m hp hn
   rw[hp] at e1;rw[hn] at e2
   rw[e1,e2]
   simp only[gm]
   split at he
   ·rename_i cs ty hg
    rw[S.heap.cells hg]
    simp only
    split at he
    ·rename_i h1
     rw[if_pos h1]
     split at he
     ·rename_i l hl
      simp only[Option.map_eq_some_iff] at he
      obtain⟨b,h2,h3⟩:=he
      cases h3
      simp only[kef hl,ky0 h2,Option.map_some]
      exact⟨_,rfl,S.heap' (S.heap.put id (.text (.str b) ty))⟩
     ·cases he
    ·cases he
   ·rename_i b ty hg
    rw[S.heap.text hg]
    simp only[gm]
    split at he
    ·rename_i h1
     rw[if_pos h1]
     cases he
     exact⟨_,rfl,S⟩
    ·cases he
   ·cases he
  ·cases he
 case s2b t x=>
  have ex:=kae S hset hcl
  simp only[opA] at he ⊢
  split at he
  ·rename_i b hx
   cases he
   rw[hx] at ex
   rw[ex]
   have:=S.new (.cells (b.map fun c=> .int .u8 c.toNat) false t)
   have hz:(b.map fun c=>AV.int .u8 c.toNat).map (gm ρ)=b.map fun c=>AV.int .u8 c.toNat:=by
    rw[List.map_map];rfl
   simp only[gB,hz] at this
   exact⟨_,by simp only[gm,S.nx,kbz (kcw hsm)],this⟩
  ·cases he
 case eqp neg x y=>
  have e1:=kae S hset.left hcl.1
  have e2:=kae S hset.right hcl.2
  simp only[opA] at he ⊢
  split at he
  ·rename_i i o j p hx hy
   rw[hx] at e1;rw[hy] at e2
   rw[e1,e2]
   simp only[gm]
   split at he
   ·rename_i h1
    cases he
    obtain⟨k,hk⟩:=Option.isSome_iff_exists.1 h1.2
    rw[if_pos ⟨by rw[h1.1],by rw[S.heap.get _ _ hk];rfl⟩]
    exact⟨c,rfl,S⟩
   ·cases he
  ·cases he
 case mki t x=>
  have ex:=kae S hset hcl
  simp only[opA,Option.some.injEq,Prod.mk.injEq] at he ⊢
  obtain⟨rfl,rfl⟩:=he
  exact⟨c,⟨by rw[ex];simp only[gm],rfl⟩,S⟩
 case eqi neg t x y=>
  have e1:=kae S hset.left hcl.1
  have e2:=kae S hset.right hcl.2
  simp only[opA] at he ⊢
  split at he
  ·rename_i a k m b j n hx hy
   rw[hx] at e1;rw[hy] at e2
   rw[e1,e2]
   simp only[gm]
   split at he
   ·rename_i h1
    rw[if_pos h1]
    split at he
    ·rename_i h2;rw[if_pos h2];cases he;exact⟨c,rfl,S⟩
    ·cases he
   ·rename_i h1;rw[if_neg h1];cases he;exact⟨c,rfl,S⟩
  ·cases he
 case ext k x y=>
  have e1:=kae S hset.left hcl.1
  have e2:=kae S hset.right hcl.2
  simp only[opA] at he ⊢
  split at he
  ·cases he;exact⟨c,by rw[e1],S⟩
  ·rename_i hx hy;cases he;rw[hx] at e1;rw[hy] at e2;rw[e1,e2];exact⟨c,rfl,S⟩
  ·rename_i hx hy;cases he;rw[hx] at e1;rw[hy] at e2;rw[e1,e2];exact⟨c,rfl,S⟩
  ·cases he
 case call f as=>cases he
 case fail=>cases he
end
end Go.Proofs.Hz
