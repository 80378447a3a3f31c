/-
  Symbolic runs are sound: what they come to, the evaluator comes to, whatever the unknown stands for.
  Conditions: none.
-/
import Derived.Test.YtamikoglpnoicaaGreatDoorT06
import Derived.Test.YtamikoglpnoicaaGreatDoorT18
namespace Go.Proofs.Hz
def kfg (ρ:Val):Prop:=Good ρ∧ ∀ fl i,AV.beq (ρ.v fl i) (ρ.v fl i)=true
mutual
theorem km8 {ρ:Val} (G:kfg ρ): ∀ {a:AV},AV.beq a a=true→AV.beq (gm ρ a) (gm ρ a)=true
 | .var f i,_=>by simp only[gm];exact G.2 f i
 | .ip cs o,h=>by simp only[AV.beq,Bool.and_eq_true,gm] at h ⊢;exact⟨kgk G h.1,h.2⟩
 | .im els c,h=>by simp only[AV.beq,Bool.and_eq_true,gm] at h ⊢;exact⟨ksm G h.1,h.2⟩
 | .fn f a b,h=>by simp only[AV.beq,Bool.and_eq_true,gm] at h ⊢;exact⟨⟨h.1.1,kgk G h.1.2⟩,kgk G h.2⟩
 | .agg cs,h=>by simp only[AV.beq,gm] at h ⊢;exact kgk G h
 | .tup cs,h=>by simp only[AV.beq,gm] at h ⊢;exact kgk G h
 | .bool _,h=>h
 | .int ..,h=>h
 | .str _,h=>h
 | .nilp,h=>h
 | .ptr ..,h=>by simp[gm,AV.beq]
 | .sl ..,h=>by simp[gm,AV.beq]
 | .yld _,h=>by simp[gm,AV.beq]
 | .nilf,h=>h
 | .nilm,h=>h
 | .mp _,h=>by simp[gm,AV.beq]
 | .nili,h=>h
 | .ifv,h=>h
 | .ifc t x,h=>by simp only[AV.beq,Bool.and_eq_true,gm] at h ⊢;exact⟨h.1,km8 G h.2⟩
 | .nils,h=>h
theorem kgk {ρ:Val} (G:kfg ρ): ∀ {a:List AV},beqL a a=true→beqL (gmL ρ a) (gmL ρ a)=true
 | [],_=>rfl
 |x::xs,h=>by simp only[beqL,Bool.and_eq_true,gmL] at h ⊢;exact⟨km8 G h.1,kgk G h.2⟩
theorem ksm {ρ:Val} (G:kfg ρ): ∀ {a:List (List AV)},kdk a a=true→kdk (gmLL ρ a) (gmLL ρ a)=true
 | [],_=>rfl
 |x::xs,h=>by simp only[kdk,Bool.and_eq_true,gmLL] at h ⊢;exact⟨kgk G h.1,ksm G h.2⟩
end
section
variable {ρ:Val} {h g:T Blk}
theorem ki9 {v:AV} (hp:kci v=true) (g:T Blk) (n:Nat):frz g (n+1) v=some v:=by cases v <;> simp only[kci,Bool.false_eq_true] at hp <;> rfl
theorem kvm {v:AV} (hp:kci v=true) (g:T Blk) (n:Nat):fzs (n+1) g v=some g:=by cases v <;> simp only[kci,Bool.false_eq_true] at hp <;> rfl
theorem k7i {v:AV} (hp:kci v=true) (n:Nat):AV.hasSl (n+1) v=false:=by cases v <;> simp only[kci,Bool.false_eq_true] at hp <;> rfl
theorem ki3 {f f':AV→Option AV}: ∀ {l r:List AV},(∀ x ∈ l,∀ y,f x=some y→f' (gm ρ x)=some (gm ρ y))→mapO f l=some r→mapO f' (l.map (gm ρ))=some (r.map (gm ρ))
 | [],r,_,e=>by cases e;rfl
 |x::l,r,hf,e=>by
  unfold mapO at e
  split at e
  ·cases e
  ·rename_i y hy
   split at e
   ·cases e
   ·rename_i ys hys
    cases e
    simp only[List.map_cons,mapO,hf x (by simp) y hy,ki3 (fun x hx=>hf x (by simp[hx])) hys]
theorem khe (sz:Nat): ∀ (k:Nat) (l:List AV),kbt sz k (l.map (gm ρ))=(kbt sz k l).map (List.map (gm ρ))
 |0,_=>rfl
 |k+1,l=>by simp only[kbt,List.map_cons,List.map_take,←List.map_drop,khe sz k]
theorem ki4 {f:AV→Option AV}: ∀ {l:List AV},(∀ x ∈ l,f x=some x)→mapO f l=some l
 | [],_=>rfl
 |x::l,h=>by unfold mapO;rw[h x (by simp),ki4 fun y hy=>h y (by simp[hy])]
theorem kij {sz:Nat}: ∀ {els:List (List AV)},(∀ e ∈ els,e.length=sz)→kbt sz els.length els.flatten=els
 | [],_=>rfl
 |e::es,h=>by
  have h1:=h e (by simp)
  simp only[List.length_cons,kbt,List.flatten_cons]
  rw[List.take_left' h1,List.drop_left' h1,kij fun x hx=>h x (by simp[hx])]
theorem ked {sz:Nat}: ∀ {els:List (List AV)},(∀ e ∈ els,e.length=sz)→els.flatten.length=els.length*sz
 | [],_=>by simp
 |e::es,h=>by
  simp only[List.flatten_cons,List.length_append,List.length_cons,h e (by simp),ked (els:=es) fun x hx=>h x (by simp[hx])]
  rw[Nat.add_mul];omega
theorem kip {sz:Nat}: ∀ {n:Nat} {l:List AV},l.length=n*sz→(kbt sz n l).flatten=l∧(kbt sz n l).length=n∧ ∀ e ∈ kbt sz n l,e.length=sz
 |0,l,h=>by
  have:l=[]:=List.eq_nil_of_length_eq_zero (by simpa using h)
  subst this
  exact⟨rfl,rfl,fun e he=>by cases he⟩
 |n+1,l,h=>by
  rw[Nat.add_mul] at h
  obtain⟨h1,h2,h3⟩:=kip (sz:=sz) (n:=n) (l:=l.drop sz) (by simp;omega)
  refine⟨by simp only[kbt,List.flatten_cons,h1,List.take_append_drop],by simp only[kbt,List.length_cons,h2],fun e he=> ?_⟩
  simp only[kbt,List.mem_cons] at he
  rcases he with rfl |he
  ·simp;omega
  ·exact h3 e he
theorem ke9 {l:List AV} {n:Nat} (h:l.length=n):rdAt l 0 n=some l:=by
 unfold rdAt;rw[if_pos (by omega)];simp[List.take_of_length_le (Nat.le_of_eq h)]
theorem kch {j:Nat} (hj:BIG≤j) {els:List (List AV)} {c:Bool} (h:ρ.v false j= .im els c):gn ρ j=els.length:=by
 unfold gn;rw[if_neg (by omega),h]
theorem kc1 {j:Nat} {els:List (List AV)} {c:Bool} (h:ρ.v false j= .im els c):ownC ρ j=els.flatten:=by
 unfold ownC;rw[h]
theorem krc {cs l:List AV} {off n:Nat} (e:rdAt cs off n=some l):l.length=n:=by
 unfold rdAt at e
 split at e
 ·cases e;simp;omega
 ·cases e
theorem kgr (G:Good ρ) (H:HSim ρ h g): ∀ {n:Nat} {v u:AV},frzS h n v=some u→frz g n (gm ρ v)=some (gm ρ u)
 |0,_,_,e=>by cases e
 |n+1,v,u,e=>by
  have ih: ∀ {l r:List AV},mapO (frzS h n) l=some r→mapO (frz g n) (l.map (gm ρ))=some (r.map (gm ρ)):=fun e=>ki3 (fun x _ y hy=>kgr G H hy) e
  cases v <;> simp only[frzS] at e
  case sl id off k sz c=>
   split at e
   ·rename_i cs fz ty hg
    split at e
    ·rename_i hk
     split at e
     ·rename_i l hl
      split at e
      ·rename_i r hr
       cases e
       simp only[gm,frz,H.cells hg,kbz hk,kef hl,ih hr,khe,kc9]
      ·cases e
     ·cases e
    ·cases e
   ·rename_i j fz ty hg
    split at e
    ·rename_i hc
     obtain⟨rfl,rfl,hj,hs,rfl,hn⟩:=hc
     cases e
     obtain⟨els,h1,h2,h3⟩:=G.own _ hj
     rw[hs] at h2
     obtain⟨m,rfl⟩: ∃ m,n=m+1:=⟨n - 1,by omega⟩
     have h4:mapO (frz g (m+1)) els.flatten=some els.flatten:=ki4 fun x hx=>ki9 (List.all_eq_true.1 h3 x hx) g m
     simp only[gm]
     unfold frz
     simp only[H.own hg,kch hj h1,kc1 h1,ke9 (ked h2),h4,kij h2,h1]
     rfl
    ·cases e
   ·cases e
  case agg cs=>
   simp only[Option.map_eq_some_iff] at e
   obtain⟨r,hr,rfl⟩:=e
   simp only[gm,frz,kbu,ih hr,Option.map_some]
  case tup cs=>
   simp only[Option.map_eq_some_iff] at e
   obtain⟨r,hr,rfl⟩:=e
   simp only[gm,frz,kbu,ih hr,Option.map_some]
  case fn f a b=>
   split at e
   ·rename_i a' b' ha hb
    cases e
    simp only[gm,frz,kbu,ih ha,ih hb]
   ·cases e
  case var fl i=>cases e;simp only[gm];exact ki9 (G.v fl i).1 g n
  case ifc t x=>cases x <;> first |(cases e;rfl) |(cases e;done)
  all_goals first |(cases e;rfl) |(cases e;done)
theorem kts {c u k}: ∀ {l:List AFact},kcm ρ l→hasP l c u k=true→ ∃ o by_ cb,AHold ρ o 1 by_ (.var false c) (.im [[u]] cb) k
 | [],_,h=>by cases h
 |p::l,hl,h=>by
  unfold hasP at h
  split at h
  ·rename_i hp
   simp only[Bool.and_eq_true,Bool.or_eq_true,beq_iff_eq] at hp
   obtain⟨rfl,h1,h2,h3⟩:=hp
   have hA:=hl p (List.mem_cons_self ..)
   rw[h1,AV.beq_eq h2] at hA
   rcases h3 with h3 |h3
   ·rw[AV.beq_eq h3] at hA;exact⟨_,_,_,hA⟩
   ·rw[AV.beq_eq h3] at hA;exact⟨_,_,_,hA⟩
  ·exact kts (fun q hq=>hl q (List.mem_cons_of_mem _ hq)) h
theorem kun {f:AV→Option AV}: ∀ {l r:List AV} {x y:AV},mapO f l=some r→f x=some y→mapO f (l++[x])=some (r++[y])
 | [],r,x,y,e,hx=>by cases e;simp only[List.nil_append];unfold mapO;rw[hx];rfl
 |a::l,r,x,y,e,hx=>by
  unfold mapO at e
  split at e
  ·cases e
  ·rename_i b hb
   split at e
   ·cases e
   ·rename_i bs hbs
    cases e
    rw[List.cons_append]
    unfold mapO
    rw[hb,kun hbs hx];rfl
theorem k2y (G:Good ρ) (H:HSim ρ h g) {l:List AFact} (hA:kcm ρ l) {v u:AV} (e:frzR l h v=some u):frz g 23 (gm ρ v)=some (gm ρ u):=by
 unfold frzR at e
 split at e
 ·rename_i u' hu
  cases e
  exact kgr G H hu
 ·split at e
  ·rename_i id k
   split at e
   ·rename_i n c w ty hg
    split at e
    ·rename_i hc
     obtain⟨rfl,hn⟩:=hc
     split at e
     ·rename_i u' hu
      split at e
      ·rename_i hp
       cases e
       obtain⟨o,by_,cb,⟨A,ca,B,g1,g2,g3,g4,g5,g6⟩,g7,g8,g9⟩:=kts hA hp
       have gB':B=[[gm ρ u']]:=by
        rcases g2 with⟨cb',g2⟩ | ⟨_,t',g2,_⟩
        ·simp only[gm,gmLL,gmL,AV.im.injEq] at g2
         exact g2.1.symm
        ·simp[gm] at g2
       subst gB'
       obtain⟨els,e1,e2,e3⟩:=G.own _ g7
       rw[g3] at e1
       cases e1
       rw[g8] at e2
       have hkn:gn ρ n=A.length+1:=by rw[kch g7 g3,List.length_append];rfl
       have hAl: ∀ e ∈ A,e.length=1:=fun e he=>e2 e (by simp[he])
       have hoc:ownC ρ c=A.flatten:=kc1 (by simpa only[gm] using g1)
       have hfl:=ked hAl
       have hb:=H.get _ _ hg
       simp only[gB,List.length_singleton,List.map_cons,List.map_nil,hkn,hoc,Nat.add_sub_cancel] at hb
       rw[khm (by rw[hfl];omega)] at hb
       have hm:mapO (frz g 22) (A.flatten++[gm ρ w])=some (A.flatten++[gm ρ u']):=kun (ki4 fun x hx=>ki9 (List.all_eq_true.1 e3 x (by
        rw[List.flatten_append];exact List.mem_append_left _ hx)) g 21) (kgr G H hu)
       simp only[gm]
       unfold frz
       simp only[hb,hkn,g3]
       rw[ke9 (by rw[List.length_append,hfl];simp)]
       simp only[hm]
       have hch:=kij e2
       rw[List.length_append,List.flatten_append] at hch
       simp only[List.length_singleton,List.flatten_singleton] at hch
       rw[hch];rfl
      ·cases e
     ·cases e
    ·cases e
   ·cases e
  ·cases e
theorem k2x (G:Good ρ) (H:HSim ρ h g) {l:List AFact} (hA:kcm ρ l) {v u:AV} (e:frzQ l h v=some u):frz g DEEP (gm ρ v)=some (gm ρ u):=by
 unfold frzQ at e
 split at e
 ·rename_i u' hu
  cases e
  exact kgr G H hu
 ·split at e
  ·simp only[Option.map_eq_some_iff] at e
   obtain⟨r,hr,rfl⟩:=e
   have:=ki3 (f:=frzR l h) (f':=frz g 23) (fun x _ y hy=>k2y G H hA hy) hr
   have hh: ∀ l,frz g DEEP (.agg l)=(mapO (frz g 23) l).map .agg:=fun _=>rfl
   simp only[gm,kbu,hh,this,Option.map_some]
  ·cases e
theorem ktt (G:Good ρ): ∀ (n:Nat) (v:AV),AV.hasSl n (gm ρ v)=AV.hasSl n v
 |0,_=>rfl
 |n+1,v=>by
  have ih: ∀ l:List AV,(l.map (gm ρ)).any (AV.hasSl n)=l.any (AV.hasSl n):=fun l=>by
   rw[List.any_map];congr 1;funext x;exact ktt G n x
  cases v <;> simp only[gm,AV.hasSl,kbu,ih]
  rename_i fl i
  exact k7i (G.v fl i).1 n
theorem kom {f f':T Blk→AV→Option (T Blk)} (hf: ∀ {h g h':T Blk} {v:AV},HSim ρ h g→f h v=some h'→ ∃ g',f' g (gm ρ v)=some g'∧HSim ρ h' g'):
  ∀ {l:List AV} {h g h':T Blk},HSim ρ h g→fzL f h l=some h'→ ∃ g',fzL f' g (l.map (gm ρ))=some g'∧HSim ρ h' g'
 | [],h,g,h',H,e=>by cases e;exact⟨g,rfl,H⟩
 |x::l,h,g,h',H,e=>by
  unfold fzL at e
  split at e
  ·rename_i h1 hx
   obtain⟨g1,h2,h3⟩:=hf H hx
   obtain⟨g2,h4,h5⟩:=kom (f:=f) hf h3 e
   exact⟨g2,by simp only[List.map_cons,fzL,h2,h4],h5⟩
  ·cases e
theorem ktm {g:T Blk} {n:Nat}: ∀ {l:List AV},l.all kci=true→fzL (fzs (n+1)) g l=some g
 | [],_=>rfl
 |x::l,h=>by
  simp only[List.all_cons,Bool.and_eq_true] at h
  unfold fzL
  rw[kvm h.1]
  exact ktm h.2
theorem ktn (G:Good ρ): ∀ {n:Nat} {h g h':T Blk} {v:AV},HSim ρ h g→fzsS n h v=some h'→ ∃ g',fzs n g (gm ρ v)=some g'∧HSim ρ h' g'
 |0,_,_,_,_,_,e=>by cases e
 |n+1,h,g,h',v,H,e=>by
  have ih: ∀ {l:List AV} {h g h':T Blk},HSim ρ h g→fzL (fzsS n) h l=some h'→ ∃ g',fzL (fzs n) g (l.map (gm ρ))=some g'∧HSim ρ h' g':=fun H e=>kom (fun H e=>ktn G H e) H e
  cases v <;> simp only[fzsS] at e
  case sl id off k sz c=>
   split at e
   ·rename_i cs fz ty hg
    simp only[gm,fzs,H.cells hg]
    exact ih (H.put id (.cells cs true ty)) e
   ·rename_i j fz ty hg
    split at e
    ·rename_i hc
     obtain⟨hn,hj⟩:=hc
     cases e
     obtain⟨els,h1,h2,h3⟩:=G.own _ hj
     obtain⟨m,rfl⟩: ∃ m,n=m+1:=⟨n - 1,by omega⟩
     have:=H.put id (.own j true ty)
     simp only[gB,kc1 h1] at this
     refine⟨_,?_,this⟩
     simp only[gm]
     unfold fzs
     simp only[H.own hg,kc1 h1]
     exact ktm h3
    ·cases e
   ·cases e
  case agg cs=>simp only[gm,fzs,kbu];exact ih H e
  case tup cs=>simp only[gm,fzs,kbu];exact ih H e
  case fn f a b=>
   split at e
   ·rename_i h1 ha
    obtain⟨g1,h2,h3⟩:=ih H ha
    simp only[gm,fzs,kbu,h2]
    exact ih h3 e
   ·cases e
  case var fl i=>cases e;exact⟨g,by simp only[gm];exact kvm (G.v fl i).1 g n,H⟩
  all_goals (cases e;exact⟨g,rfl,H⟩)
end
section
variable {ρ:Val} {s s1 c:St} {v:AV} {Φ:Facts} {F:Nat→Option AFn} {KS K:Nat→List AV→Option AV}
theorem kmv (hΦ:kb5 ρ Φ.ops) {b:Bool} (h:kie Φ v=some b):gm ρ v= .bool b:=by
 unfold kie at h
 split at h
 ·cases h;rfl
 ·rename_i f i
  split at h
  ·rename_i b' hl
   cases h
   have:=hΦ _ (kds hl) {r:= .nil,h:= .nil,nx:=0}
   simp only[AOp.gmO,AOp.mapO,AO.gmO,opA,AO.ev,Option.some.injEq,Prod.mk.injEq,and_true] at this
   exact this
  ·cases h
 ·cases h
theorem kdw (hΦ:kb5 ρ Φ.ops) (S:Sim ρ s c) {q:Option (Nat×Bool)} {b:Bool} (h:kgf Φ s q=some b):kbs c q=b:=by
 unfold kgf at h
 split at h
 ·cases h;rfl
 ·rename_i t b'
  unfold kbs
  split at h
  ·rename_i x hx
   cases h
   simp only[St.rg,S.regs t _ hx,Option.getD_some,gm]
  ·rename_i x hx
   cases h
   simp only[St.rg,S.regs t _ hx,Option.getD_some,gm]
  ·rename_i f i hx
   simp only[Option.map_eq_some_iff] at h
   obtain⟨y,hy,rfl⟩:=h
   have:=kmv hΦ hy
   simp only[St.rg,S.regs t _ hx,Option.getD_some,this]
  ·cases h
theorem kva (G:Good ρ) (S:Sim ρ s c) {o:AOp} (hset:SetIn s o.looks) (hcl:o.cl=true) (h:opB s o=some (v,s1)): ∃ c1,opA c o=some (gm ρ v,c1)∧Sim ρ s1 c1:=by
 unfold opB at h
 split at h
 ·rename_i v' s' hr
  split at h
  ·rename_i hsm
   cases h
   exact k63 G S hset hcl hr hsm
  ·cases h
 ·cases h
def kse (ρ:Val) (sz:Nat) (u:AV) (B:List (List AV)):Prop:=(∃ cb,gm ρ u= .im B cb)∨sz=1∧ ∃ t,gm ρ u= .str t∧B=t.map eB
theorem kns (t:List UInt8):(t.map eB).flatten=t.map fun b=> .int .u8 b.toNat:=by
 induction t with
 |nil=>rfl
 |cons b t ih=>simp only[List.map_cons,List.flatten_cons,ih,eB];rfl
theorem krv (G:Good ρ) (S:Sim ρ s c) {sz:Nat} {x u:AV} (h:kgd s sz x=some u) {B:List (List AV)} (hu:kse ρ sz u B) (hB: ∀ e ∈ B,e.length=sz):ka8 c.h sz (gm ρ x)=some (B.length,B.flatten):=by
 have him: ∀ cb,ka8 c.h sz (.im B cb)=some (B.length,B.flatten):=fun cb=>by
  unfold ka8
  simp only
  rw[if_pos (List.all_eq_true.2 fun e he=>by simp[hB e he])]
 have hstr: ∀ t,sz=1→B=t.map eB→ka8 c.h sz (.str t)=some (B.length,B.flatten):=fun t h1 h2=>by
  subst h1;subst h2
  unfold ka8
  simp only[if_true,kns,List.length_map]
 have hself: ∀ {v:AV},kse ρ sz v B→ka8 c.h sz (gm ρ v)=some (B.length,B.flatten):=fun {v} hv=>by
  rcases hv with⟨cb,hv⟩ | ⟨h1,t,hv,h2⟩
  ·rw[hv];exact him cb
  ·rw[hv];exact hstr t h1 h2
 unfold kgd at h
 split at h
 ·cases h;exact hself hu
 ·split at h
  ·cases h;exact hself hu
  ·cases h
 ·split at h
  ·cases h;exact hself hu
  ·cases h
 ·cases h;exact hself hu
 ·rename_i id off n z cc
  split at h
  ·rename_i hz
   subst hz
   split at h
   ·rename_i j fz ty hg
    split at h
    ·rename_i hc
     obtain⟨rfl,rfl,hj⟩:=hc
     cases h
     obtain⟨els,e1,_⟩:=G.own _ hj
     have hv:gm ρ (.var false n)= .im els false:=by simp only[gm,e1]
     rcases hu with⟨cb,hu⟩ | ⟨_,t,hu,_⟩
     ·simp only[gm] at hu
      simp only[gm,ka8,if_true,S.heap.own hg,kch hj hu,kc1 hu,ke9 (ked hB),Option.map_some]
     ·rw[hv] at hu;cases hu
    ·cases h
   ·rename_i cs fz ty hg
    split at h
    ·rename_i hn
     simp only[Option.map_eq_some_iff] at h
     obtain⟨l,hl,rfl⟩:=h
     have hll:=krc hl
     rcases hu with⟨cb,hu⟩ | ⟨_,t,hu,_⟩
     ·simp only[gm,kc9,←khe,AV.im.injEq] at hu
      obtain⟨rfl,_⟩:=hu
      obtain⟨h1,h2,_⟩:=kip (sz:=z) (n:=n) (l:=l.map (gm ρ)) (by simpa using hll)
      simp only[gm,ka8,if_true,S.heap.cells hg,kbz hn,kef hl,Option.map_some,h1,h2]
     ·simp[gm] at hu
    ·cases h
   ·cases h
  ·cases h
 ·cases h
theorem kvn {x:AV} (h:kci x=true):x.one=true:=by cases x <;> simp[kci] at h <;> rfl
theorem kz2 (G:Good ρ) {l:List AFact} (hl:kcm ρ l) (S:Sim ρ s c) {t sz by_:Nat} {d x:AV} {d' x':AO} (hd:d'.ev c=gm ρ d) (hx:x'.ev c=gm ρ x) (h:appS l s t sz by_ d x=some (v,s1)): ∃ c1,opA c (.app t sz by_ d' x')=some (gm ρ v,c1)∧Sim ρ s1 c1:=by
 unfold appS at h
 split at h
 ·cases h
 ·rename_i xr hxr
  have key: ∀ {o:Bool} {b:AV} {k:Nat},kdg l o sz by_ b xr=some k→ ∃ A ca B,gm ρ b= .im A ca∧ka8 c.h sz (gm ρ x)=some (B.length,B.flatten)∧(B.flatten.all AV.one=true)∧0<sz∧ρ.v false k= .im (A++B) false∧BIG≤k∧
    (∀ e ∈ A,e.length=sz)∧(A.length+B.length)*by_≤kah∧A.length+B.length≤kah∧(o=false→ca=true∧B.length≠0):=fun {o b k} hk=>by
   obtain⟨⟨A,ca,B,h1,h2,h3,h4,h5,h6⟩,h7,h8,h9⟩:=ki1 hl hk
   obtain⟨els,e1,e2,e3⟩:=G.own k h7
   rw[h3] at e1
   cases e1
   rw[h8] at e2
   refine⟨A,ca,B,h1,krv G S hxr h2 fun e he=>e2 e (by simp[he]),?_,h9,h3,h7,fun e he=>e2 e (by simp[he]),h4,h5,fun ho=>⟨(h6 ho).1,fun e=>(h6 ho).2 (List.eq_nil_of_length_eq_zero e)⟩⟩
   refine List.all_eq_true.2 fun y hy=>kvn (List.all_eq_true.1 e3 y ?_)
   simp only[List.flatten_append,List.mem_append]
   exact .inr hy
  have newOk: ∀ {k:Nat} {cs:List AV},ownC ρ k=cs→Sim ρ (s.new (.own k false t)) (c.new (.cells cs false t)):=fun {k cs} e=>by
   have:=S.new (.own k false t)
   simp only[gB,e] at this
   exact this
  have hall: ∀ {A:List (List AV)},(∀ e ∈ A,e.length=sz)→A.all (fun e=>e.length == sz)=true:=fun h=>List.all_eq_true.2 fun e he=>by simp[h e he]
  split at h
  ·rename_i j
   simp only[Option.map_eq_some_iff,Prod.mk.injEq] at h
   obtain⟨k,hk,rfl,rfl⟩:=h
   obtain⟨A,ca,B,h1,h2,h3,h4,h5,h6,h7,h8,h9,h10⟩:=key hk
   obtain⟨rfl,hB⟩:=h10 rfl
   refine⟨c.new (.cells (A.flatten++B.flatten) false t),?_,newOk (by rw[kc1 h5];simp)⟩
   simp only[opA,hd,hx,h2,h1,h3,h4,and_self,if_true,if_neg hB,hall h7,h8,h9]
   simp only[gm,kch h6 h5,S.nx,List.length_append]
  ·rename_i els cc
   simp only[Option.map_eq_some_iff,Prod.mk.injEq] at h
   obtain⟨k,hk,rfl,rfl⟩:=h
   obtain⟨A,ca,B,h1,h2,h3,h4,h5,h6,h7,h8,h9,h10⟩:=key hk
   obtain⟨rfl,hB⟩:=h10 rfl
   refine⟨c.new (.cells (A.flatten++B.flatten) false t),?_,newOk (by rw[kc1 h5];simp)⟩
   simp only[opA,hd,hx,h2,h1,h3,h4,and_self,if_true,if_neg hB,hall h7,h8,h9]
   simp only[gm,kch h6 h5,S.nx,List.length_append]
  ·simp only[Option.map_eq_some_iff,Prod.mk.injEq] at h
   obtain⟨k,hk,rfl,rfl⟩:=h
   obtain⟨A,ca,B,h1,h2,h3,h4,h5,h6,h7,h8,h9,h10⟩:=key hk
   obtain⟨_,hB⟩:=h10 rfl
   simp only[gm,gmLL,AV.im.injEq] at h1
   obtain⟨rfl,_⟩:=h1
   simp only[List.length_nil,Nat.zero_add] at h8 h9
   simp only[List.nil_append] at h5
   refine⟨c.new (.cells B.flatten false t),?_,newOk (kc1 h5)⟩
   simp only[opA,hd,hx,gm,h2,h3,h4,and_self,if_true,if_neg hB,h8,h9]
   simp only[kch h6 h5,S.nx]
  ·rename_i id off n z cc
   split at h
   ·rename_i hz
    subst hz
    have ownOk: ∀ {k:Nat} {A B:List (List AV)},BIG≤k→ρ.v false k= .im (A++B) false→
      Sim ρ {s with h:=(s.h.put id none).put s.nx (some (.own k false t)),nx:=s.nx+1} {c with h:=(c.h.put (ρ.σ id) none).put c.nx (some (.cells (A.flatten++B.flatten) false t)),nx:=c.nx+1}:=fun {k A B} hk e=>by
     have:=(S.heap.kill id).put s.nx (.own k false t)
     simp only[gB,kc1 e,List.flatten_append] at this
     refine⟨S.regs,by rw[←S.nx];exact this,fun i=> ?_,Nat.le_succ_of_le S.lo⟩
     have:=S.nxs (i+1)
     show ρ.σ (s.nx+1+i)=c.nx+1+i
     rw[show s.nx+1+i=s.nx+(i+1) by omega,this];omega
    split at h
    ·rename_i j ty hg
     split at h
     rotate_left
     ·cases h
     rename_i hty
     subst hty
     split at h
     ·rename_i hc
      obtain⟨rfl,rfl,hj⟩:=hc
      simp only[Option.map_eq_some_iff,Prod.mk.injEq] at h
      obtain⟨k,hk,rfl,rfl⟩:=h
      obtain⟨A,ca,B,h1,h2,h3,h4,h5,h6,h7,h8,h9,_⟩:=key hk
      simp only[gm] at h1
      refine⟨_,?_,ownOk h6 h5⟩
      simp only[opA,hd,hx,gm,h2,h3,h4,and_self,if_true,kch hj h1,S.heap.own hg,kc1 h1,ked h7,h8,h9,List.take_of_length_le (Nat.le_of_eq (ked h7)),kch h6 h5,S.nx,List.length_append]
      simp
     ·split at h
      ·rename_i hc
       obtain⟨rfl,rfl⟩:=hc
       simp only[Option.map_eq_some_iff,Prod.mk.injEq] at h
       obtain⟨k,hk,rfl,rfl⟩:=h
       obtain⟨A,ca,B,h1,h2,h3,h4,h5,h6,h7,h8,h9,_⟩:=key hk
       simp only[gm,gmLL,AV.im.injEq] at h1
       obtain⟨rfl,_⟩:=h1
       have h0:(0:Nat)<BIG:=by decide
       simp only[List.length_nil,Nat.zero_add] at h8 h9
       refine⟨_,?_,ownOk h6 h5⟩
       simp only[opA,hd,hx,gm,h2,h3,h4,and_self,if_true,kbz h0,S.heap.own hg,h8,h9,kch h6 h5,S.nx,Nat.zero_mul,Nat.zero_add,Nat.zero_le,List.take_zero,List.nil_append,List.flatten_nil]
       simp
      ·cases h
    ·rename_i cs ty hg
     split at h
     ·rename_i hc
      obtain⟨rfl,hle,hn,rfl⟩:=hc
      simp only[Option.map_eq_some_iff,Prod.mk.injEq] at h
      obtain⟨k,hk,rfl,rfl⟩:=h
      obtain⟨A,ca,B,h1,h2,h3,h4,h5,h6,h7,h8,h9,_⟩:=key hk
      simp only[gm,kc9,←khe,AV.im.injEq] at h1
      obtain⟨rfl,_⟩:=h1
      obtain⟨q1,q2,_⟩:=kip (sz:=z) (n:=n) (l:=(cs.take (n*z)).map (gm ρ)) (by simp;omega)
      refine⟨_,?_,ownOk h6 h5⟩
      rw[q2] at h8 h9
      simp only[opA,hd,hx,gm,h2,h3,h4,and_self,if_true,kbz hn,S.heap.cells hg,h8,h9,kch h6 h5,S.nx,List.length_append,List.length_map,hle,List.map_take]
      simp only[List.map_take] at q1 q2
      simp[q1,q2]
     ·cases h
    ·rename_i m cs fz ty hg
     split at h
     ·rename_i hc
      obtain⟨rfl,hn⟩:=hc
      split at h
      ·rename_i old hold
       simp only[Option.map_eq_some_iff,Prod.mk.injEq] at h
       obtain⟨k,hk,rfl,rfl⟩:=h
       obtain⟨A,ca,B,h1,h2,h3,h4,h5,h6,h7,h8,h9,h10⟩:=key hk
       obtain⟨_,hB⟩:=h10 rfl
       simp only[gm,kc9,←khe,AV.im.injEq] at h1
       obtain⟨rfl,_⟩:=h1
       obtain⟨q1,q2,_⟩:=kip (sz:=z) (n:=m) (l:=old.map (gm ρ)) (by simpa using krc hold)
       rw[q2] at h8 h9
       have hno: ¬m+B.length≤m:=by omega
       refine⟨c.new (.cells (old.map (gm ρ)++B.flatten) false t),?_,newOk (by rw[kc1 h5];simp[q1])⟩
       simp only[opA,hd,hx,gm,h2,h3,h4,and_self,if_true,kbz hn,S.heap.cells hg,h8,h9,kch h6 h5,S.nx,List.length_append,q2,kef hold,hno,if_false]
       simp[hB]
      ·cases h
     ·cases h
    ·cases h
   ·cases h
  ·cases h
theorem kz5 (G:Good ρ) {l:List NFact} (hl:keb ρ l) (S:Sim ρ s c) {t sz by_:Nat} {z:List AV} {d x:AV} {d' x':AO} (hd:d'.ev c=gm ρ d) (hx:x'.ev c=gm ρ x) (h:km5 l s t sz by_ z d x=some (v,s1)): ∃ c1,opA c (.appn t sz by_ z d' x')=some (gm ρ v,c1)∧Sim ρ s1 c1:=by
 unfold km5 at h
 simp only[Option.map_eq_some_iff,Prod.mk.injEq] at h
 obtain⟨k,hk,rfl,rfl⟩:=h
 obtain⟨⟨A,N,kk,h1,h2,h3,h4,h5,h6⟩,h7,h8,h9⟩:=kuj hl hk
 obtain⟨els,e1,e2,e3⟩:=G.own k h7
 rw[h4] at e1
 cases e1
 rw[h8] at e2
 have hz:z ∈ A++List.replicate N z:=by simp[h3]
 have hA:A.all (fun e=>e.length == sz)=true:=List.all_eq_true.2 fun e he=>by simp[e2 e (by simp[he])]
 have hone:z.all AV.one=true:=List.all_eq_true.2 fun y hy=>kvn (List.all_eq_true.1 e3 y (List.mem_flatten.2 ⟨z,hz,hy⟩))
 have hs:=S.new (.own k false t)
 simp only[gB,kc1 h4,List.flatten_append] at hs
 refine⟨_,?_,hs⟩
 have hn:kca (.int kk (N:Int))=some N:=by simp[kca]
 simp only[opA,hd,hx,h1,h2,hn,if_neg h3,hA,h5,h6,e2 z hz,h9,hone,and_self,if_true]
 simp only[gm,kch h7 h4,S.nx,List.length_append,List.length_replicate]
theorem qe4 (G:Good ρ) {l:List AFact} (hl:kcm ρ l) (S:Sim ρ s c) {t:Nat} {x:AV} {x':AO} (hx:x'.ev c=gm ρ x) (h:s2bS l s t x=some (v,s1)): ∃ c1,opA c (.s2b t x')=some (gm ρ v,c1)∧Sim ρ s1 c1:=by
 unfold s2bS at h
 split at h
 ·rename_i j
  simp only[Option.map_eq_some_iff,Prod.mk.injEq] at h
  obtain⟨k,hk,rfl,rfl⟩:=h
  obtain⟨⟨A,ca,B,h1,h2,h3,h4,h5,h6⟩,h7,h8,h9⟩:=ki1 hl hk
  simp only[gm,gmLL,AV.im.injEq] at h1
  obtain⟨rfl,_⟩:=h1
  simp only[List.nil_append] at h3
  have hT:=(G.v true j).2
  rcases h2 with⟨cb,h2⟩ | ⟨_,b,h2,rfl⟩
  ·simp only[gm] at h2
   rw[h2] at hT
   cases hT
  ·have hs:=S.new (.own k false t)
   simp only[gB,kc1 h3,kns] at hs
   refine⟨_,?_,hs⟩
   simp only[opA,hx,h2]
   simp only[gm,kch h7 h3,S.nx,List.length_map]
 ·cases h
theorem k3x {x:AV} (h:x.isVt=true): ∃ i,x= .var true i:=by
 unfold AV.isVt at h
 split at h
 ·exact⟨_,rfl⟩
 ·cases h
theorem kys: ∀ {l:List AFact} {k:Nat} {x:AV},kcm ρ l→kmr l k=some x→(∃ i,x= .var true i)∧ ∃ o by_,AHold ρ o 1 by_ (.im [] true) x k
 | [],_,_,_,h=>by cases h
 |p::l,k,x,hl,h=>by
  unfold kmr at h
  split at h
  ·rename_i he
   cases h
   simp only[Bool.and_eq_true,beq_iff_eq] at he
   obtain⟨h1,h2,h3,h4⟩:=he
   have:=hl p (by simp)
   rw[h1,h2,AV.beq_eq h3] at this
   exact⟨k3x h4,p.own,p.by_,this⟩
  ·exact kys (fun q hq=>hl q (List.mem_cons_of_mem _ hq)) h
theorem k02 (t:List UInt8):kd8 (t.map fun b=> .int .u8 b.toNat)=some t:=by
 induction t with
 |nil=>rfl
 |cons b t ih=>
  have h1:b.toNat<256:=b.toNat_lt
  simp only[List.map_cons,kd8,ih,Option.map_some]
  rw[if_pos ⟨by omega,by omega⟩]
  simp
theorem qhh (G:Good ρ) (hΦ:kb5 ρ Φ.ops) (hA:kcm ρ Φ.apps) (S:Sim ρ s c) {t:Nat} {p n:AV} {p' n':AO} (hp:p'.ev c=gm ρ p) (hn:n'.ev c=gm ρ n) (h:ustS Φ s t p n=some (v,s1)): ∃ c1,opA c (.ust t p' n')=some (gm ρ v,c1)∧Sim ρ s1 c1:=by
 unfold ustS at h
 split at h
 ·rename_i id
  split at h
  ·rename_i k ty hg
   split at h
   ·rename_i hty
    subst hty
    split at h
    ·rename_i x hx
     split at h
     ·rename_i m h1 h2
      split at h
      ·rename_i hm
       cases h
       obtain⟨⟨i,rfl⟩,o,by_,hh⟩:=kys hA hx
       obtain⟨⟨A,ca,B,g1,g2,g3,g4,g5,g6⟩,g7,g8,g9⟩:=hh
       simp only[gm,gmLL,AV.im.injEq] at g1
       obtain⟨rfl,_⟩:=g1
       simp only[List.nil_append] at g3
       simp only[List.length_nil,Nat.zero_add] at g5
       have hT:=(G.v true i).2
       rcases g2 with⟨cb,g2⟩ | ⟨_,b,g2,rfl⟩
       ·simp only[gm] at g2
        rw[g2] at hT
        cases hT
       ·have e1:=hΦ _ (kds h1) c
        simp only[AOp.gmO,AOp.mapO,AO.gmO,opA,AO.ev,g2,Option.some.injEq,Prod.mk.injEq,and_true] at e1
        have e2:=hΦ _ (kds h2) c
        rw[←AV.beq_eq hm] at hn e2
        simp only[AOp.gmO,AOp.mapO,AO.gmO,opA,AO.ev,gm,←e1,binA,isSh,kdp] at e2
        have e3:0<(b.length:Int):=by simpa using e2
        refine⟨_,?_,S.heap' (S.heap.put id (.text (.var true i) ty))⟩
        simp only[List.length_map] at g5
        have hr:rdAt (List.map (fun b=>AV.int IntKind.u8 b.toNat) b) 0 b.length=some (List.map (fun b=>AV.int IntKind.u8 b.toNat) b):=ke9 (by simp)
        have ho:=S.heap.own hg
        rw[kc1 g3,kns] at ho
        simp only[opA,hp,hn,gm,←e1,ho]
        simp only[gm] at g2
        rw[if_pos ⟨trivial,e3,by omega⟩]
        simp only[Int.toNat_natCast,hr,k02,Option.map_some,gB,gm,g2]
      ·cases h
     ·cases h
    ·cases h
   ·cases h
  ·rename_i x ty hg
   split at h
   ·rename_i hty
    subst hty
    split at h
    ·rename_i m h1 h2
     split at h
     ·rename_i hm
      cases h
      have e1:=hΦ _ (kds h1) c
      simp only[AOp.gmO,AOp.mapO,AO.gmO,opA,AO.ev] at e1
      have hxs: ∃ b,gm ρ v= .str b:=by
       generalize gm ρ v=y at e1
       cases y <;> first |exact⟨_,rfl⟩ |cases e1
      obtain⟨b,hb⟩:=hxs
      simp only[hb,Option.some.injEq,Prod.mk.injEq,and_true] at e1
      have e2:=hΦ _ (kds h2) c
      rw[←AV.beq_eq hm] at hn e2
      simp only[AOp.gmO,AOp.mapO,AO.gmO,opA,AO.ev,gm,←e1,binA,isSh,kdp] at e2
      have e3:0<(b.length:Int):=by simpa using e2
      refine⟨c,?_,S⟩
      simp only[opA,hp,hn,gm,←e1,S.heap.text hg,hb]
      rw[if_pos ⟨trivial,trivial,e3⟩]
     ·cases h
    ·cases h
   ·cases h
  ·cases h
 ·cases h
theorem k0k (G:Good ρ) (S:Sim ρ s c) {x u r:AV} {x':AO} (hx:x'.ev c=gm ρ x) (h:kgd s 1 x=some u) (hu:opA c (.b2s (.c (gm ρ u)))=some (r,c)):opA c (.b2s x')=some (r,c):=by
 have same:u=x→opA c (.b2s x')=some (r,c):=fun e=>by
  subst e
  simp only[opA,hx]
  simpa only[opA,AO.ev] using hu
 have key: ∀ {id off n z:Nat} {q:Option Nat} {B:List (List AV)} {cb:Bool},gm ρ x= .sl id off n z q→gm ρ u= .im B cb→(∀ e ∈ B,e.length=1)→ka8 c.h 1 (gm ρ x)=some (B.length,B.flatten)→opA c (.b2s x')=some (r,c):=fun {id off n z q B cb} h1 h2 h3 h4=>by
  simp only[opA,AO.ev,h2,ka8] at hu
  rw[if_pos (List.all_eq_true.2 fun e he=>by simp[h3 e he])] at hu
  simp only[opA,hx,h4]
  rw[h1]
  exact hu
 unfold kgd at h
 split at h
 ·cases h;exact same rfl
 ·split at h
  ·cases h;exact same rfl
  ·cases h
 ·split at h
  ·cases h;exact same rfl
  ·cases h
 ·cases h;exact same rfl
 ·rename_i id off n z cc
  split at h
  ·rename_i hz
   subst hz
   split at h
   ·rename_i j fz ty hg
    split at h
    ·rename_i hc
     obtain⟨rfl,rfl,hj⟩:=hc
     cases h
     obtain⟨els,e1,e2,_⟩:=G.own _ hj
     simp only[gm] at key ⊢
     by_cases hall: ∀ e ∈ els,e.length=1
     ·refine key rfl e1 hall ?_
      have hfl:rdAt els.flatten 0 els.length=some els.flatten:=ke9 (by have:=ked hall;omega)
      simp only[ka8,if_true,S.heap.own hg,kch hj e1,kc1 e1,Nat.mul_one,hfl,Option.map_some]
     ·exfalso
      simp only[opA,AO.ev,gm,e1,ka8] at hu
      rw[if_neg (fun hq=>hall fun e he=>by simpa using List.all_eq_true.1 hq e he)] at hu
      cases hu
    ·cases h
   ·rename_i cs fz ty hg
    split at h
    ·rename_i hn
     simp only[Option.map_eq_some_iff] at h
     obtain⟨l,hl,rfl⟩:=h
     obtain⟨h1,h2,h3⟩:=kip (sz:=1) (n:=n) (l:=l.map (gm ρ)) (by simpa using krc hl)
     have e1:gm ρ (.sl id off n 1 cc)= .sl (ρ.σ id) off (gn ρ n) 1 cc:=by simp only[gm]
     have e2:gm ρ (.im (kbt 1 n l) true)= .im (kbt 1 n (l.map (gm ρ))) true:=by simp only[gm,kc9,←khe]
     refine key e1 e2 h3 ?_
     simp only[gm,ka8,if_true,S.heap.cells hg,kbz hn,kef hl,Option.map_some,h1,h2]
    ·cases h
   ·cases h
  ·cases h
 ·cases h
theorem kt7 (hΦ:kb5 ρ Φ.ops) {h a:AV} {id off m z:Nat} {q:Option Nat} (e:lenP Φ h=some a) (hg:gm ρ h= .sl id off m z q):gm ρ a= .int .i64 m∧0<m∧m≤1000:=by
 unfold lenP at e
 split at e
 ·rename_i a' h1
  split at e
  ·rename_i h2 h3
   cases e
   have e1:=hΦ _ (kds h1) {r:= .nil,h:= .nil,nx:=0}
   have e2:=hΦ _ (kds h2) {r:= .nil,h:= .nil,nx:=0}
   have e3:=hΦ _ (kds h3) {r:= .nil,h:= .nil,nx:=0}
   simp only[AOp.gmO,AOp.mapO,AO.gmO,opA,AO.ev,hg,Option.some.injEq,Prod.mk.injEq,and_true] at e1
   simp only[AOp.gmO,AOp.mapO,AO.gmO,opA,AO.ev,gm,←e1,binA,isSh,kdp] at e2 e3
   have k2:(0:Int)<m:=by simpa using e2
   have k3:(m:Int)≤1000:=by simpa using e3
   exact⟨e1.symm,by omega,by omega⟩
  ·cases e
 ·cases e
theorem k33 (hΦ:kb5 ρ Φ.ops) {h i:AV} {id off m z:Nat} {q:Option Nat} (e:kox Φ h i=true) (hg:gm ρ h= .sl id off m z q):gm ρ i= .int .i64 ((m:Int) - 1)∧0<m∧m≤1000:=by
 unfold kox at e
 split at e
 ·rename_i a ha
  obtain⟨k1,k2,k3⟩:=kt7 hΦ ha hg
  split at e
  ·rename_i b hb
   have e1:=hΦ _ (kds hb) {r:= .nil,h:= .nil,nx:=0}
   simp only[AOp.gmO,AOp.mapO,AO.gmO,opA,AO.ev,gm,k1,binA,isSh,kdp] at e1
   rw[←AV.beq_eq e]
   have:IntKind.wrap .i64 ((m:Int) - 1)=(m:Int) - 1:=by
    unfold IntKind.wrap
    simp[IntKind.signed,IntKind.bits]
    omega
   simp only[Bool.false_eq_true,if_false,if_true,Option.map_some,Option.some.injEq,Prod.mk.injEq,and_true,this] at e1
   exact⟨e1.symm,k2,k3⟩
  ·cases e
 ·cases e
theorem HSim.pre {h g:T Blk} (H:HSim ρ h g) {id n c' ty:Nat} {vs:List AV} (e:h.get id=some (.pre n c' vs ty)):g.get (ρ.σ id)=some (.cells (fitL (gn ρ n - vs.length) (ownC ρ c')++vs.map (gm ρ)) false ty):=H.get _ _ e
theorem kz0 (G:Good ρ) (hΦ:kb5 ρ Φ.ops) (hA:kcm ρ Φ.apps) (S:Sim ρ s c) {t sz by_:Nat} {d x:AV} {d' x':AO} (hd:d'.ev c=gm ρ d) (hx:x'.ev c=gm ρ x) (h:appP Φ s t sz by_ d x=some (v,s1)): ∃ c1,opA c (.app t sz by_ d' x')=some (gm ρ v,c1)∧Sim ρ s1 c1:=by
 unfold appP at h
 split at h
 ·rename_i id j
  split at h
  ·rename_i n c' v0 ty hg
   split at h
   ·rename_i hc
    obtain⟨rfl,rfl,rfl,hn⟩:=hc
    split at h
    ·rename_i cb ht
     split at h
     ·rename_i a k ha hk
      cases h
      obtain⟨⟨A,ca,B,g1,g2,g3,g4,g5,g6⟩,g7,g8,g9⟩:=ki1 hA hk
      have gB':B=[[.im [] true]]:=by
       rcases g2 with⟨cb',g2⟩ | ⟨_,t',g2,_⟩
       ·simp only[gm,gmLL,gmL,AV.im.injEq] at g2
        exact g2.1.symm
       ·simp[gm] at g2
      subst gB'
      have hgn:gn ρ n=A.length:=kch hn (by simpa only[gm] using g1)
      have hkn:gn ρ k=A.length+1:=by rw[kch g7 g3,List.length_append];rfl
      obtain⟨_,hp,_⟩:=kt7 hΦ ha (by simp only[gm];rfl)
      rw[hgn] at hp
      have he:=krv G S ht (B:=[[.im [] true]]) (.inl ⟨cb,rfl⟩) (by simp)
      have hb:=S.heap.pre hg
      simp only[List.length_singleton,List.map_cons,List.map_nil,hgn] at hb
      generalize hP:fitL (A.length - 1) (ownC ρ c')=P at hb
      have hPl:P.length=A.length - 1:=by rw[←hP,ktg]
      simp only[List.length_singleton] at g4 g5
      have hm:A.length*1=(P++[gm ρ v0]).length:=by rw[List.length_append,hPl];simp;omega
      refine⟨{c with h:=(c.h.put (ρ.σ id) none).put c.nx (some (.cells (P++[gm ρ v0]++[.im [] true]) false ty)),nx:=c.nx+1},?_,?_⟩
      ·simp only[opA,hx,he,hd,gm,hgn,hb]
       rw[if_pos ⟨by simp[AV.one],by decide⟩]
       simp only[ne_eq,not_true_eq_false,if_false,Option.isSome_none,Bool.false_eq_true,and_false,List.length_singleton,List.flatten_singleton]
       rw[if_pos ⟨g4,g5⟩]
       rw[if_pos ⟨trivial,trivial,by rw[hm];exact Nat.le_refl _,trivial⟩,hm,List.take_length,S.nx,hkn]
      ·have hs:=(S.heap.kill id).put s.nx (.pre k c' [v0,.im [] true] ty)
       simp only[gB,List.length_cons,List.length_nil,List.map_cons,List.map_nil,hkn,gm,gmLL,S.nx] at hs
       rw[show A.length+1 - (0+1+1)=A.length - 1 by omega,hP] at hs
       refine⟨S.regs,?_,fun i=> ?_,Nat.le_succ_of_le S.lo⟩
       ·rw[List.append_assoc];exact hs
       ·show ρ.σ (s.nx+1+i)=c.nx+1+i
        rw[show s.nx+1+i=s.nx+(1+i) by omega,S.nxs];omega
     ·cases h
    ·cases h
   ·cases h
  ·cases h
 ·cases h
theorem kz1 (G:Good ρ) (hA:kcm ρ Φ.apps) (S:Sim ρ s c) {t sz by_:Nat} {d x:AV} {d' x':AO} (hd:d'.ev c=gm ρ d) (hx:x'.ev c=gm ρ x) (h:appQ Φ s t sz by_ d x=some (v,s1)): ∃ c1,opA c (.app t sz by_ d' x')=some (gm ρ v,c1)∧Sim ρ s1 c1:=by
 unfold appQ at h
 split at h
 ·rename_i id j
  split at h
  ·rename_i n ty hg
   split at h
   ·rename_i hc
    obtain⟨rfl,rfl,rfl,hn⟩:=hc
    split at h
    ·rename_i v0 cb ht
     split at h
     ·rename_i hone
      split at h
      ·rename_i u hu
       simp only[Option.map_eq_some_iff,Prod.mk.injEq] at h
       obtain⟨k,hk,rfl,rfl⟩:=h
       obtain⟨⟨A,ca,B,g1,g2,g3,g4,g5,g6⟩,g7,g8,g9⟩:=ki1 hA hk
       have gB':B=[[gm ρ u]]:=by
        rcases g2 with⟨cb',g2⟩ | ⟨_,t',g2,_⟩
        ·simp only[gm,gmLL,gmL,AV.im.injEq] at g2
         exact g2.1.symm
        ·simp[gm] at g2
       subst gB'
       obtain⟨els,e1,e2,e3⟩:=G.own _ g7
       rw[g3] at e1
       cases e1
       rw[g8] at e2
       simp only[gm] at g1
       have hAl: ∀ e ∈ A,e.length=1:=fun e he=>e2 e (by simp[he])
       have hgn:gn ρ n=A.length:=kch hn g1
       have hkn:gn ρ k=A.length+1:=by rw[kch g7 g3,List.length_append];rfl
       have hfl:=ked hAl
       have he:=krv G S ht (B:=[[gm ρ v0]]) (.inl ⟨cb,by simp only[gm,gmLL,gmL]⟩) (by simp)
       have hb:=S.heap.own hg
       rw[kc1 g1] at hb
       simp only[List.length_singleton] at g4 g5
       refine⟨{c with h:=(c.h.put (ρ.σ id) none).put c.nx (some (.cells (A.flatten++[gm ρ v0]) false ty)),nx:=c.nx+1},?_,?_⟩
       ·simp only[opA,hx,he,hd,gm,hgn,hb]
        rw[if_pos ⟨by simp only[List.flatten_singleton,List.all_cons,List.all_nil,Bool.and_true,klp G,hone],by decide⟩]
        simp only[ne_eq,not_true_eq_false,if_false,Option.isSome_none,Bool.false_eq_true,and_false,List.length_singleton,List.flatten_singleton]
        rw[if_pos ⟨g4,g5⟩]
        rw[if_pos ⟨trivial,trivial,by rw[hfl];exact Nat.le_refl _,trivial⟩,←hfl,List.take_length,S.nx,hkn]
       ·have hs:=(S.heap.kill id).put s.nx (.pre k n [v0] ty)
        simp only[gB,List.length_singleton,List.map_cons,List.map_nil,hkn,kc1 g1,Nat.add_sub_cancel,S.nx] at hs
        rw[khm (by rw[hfl];omega)] at hs
        refine⟨S.regs,hs,fun i=> ?_,Nat.le_succ_of_le S.lo⟩
        show ρ.σ (s.nx+1+i)=c.nx+1+i
        rw[show s.nx+1+i=s.nx+(1+i) by omega,S.nxs];omega
      ·cases h
     ·cases h
    ·cases h
   ·cases h
  ·cases h
 ·cases h
theorem klq (G:Good ρ) (hΦ:kb5 ρ Φ.ops) (hA:kcm ρ Φ.apps) (hN:keb ρ Φ.apns) (S:Sim ρ s c) {o:AOp} (hset:SetIn s o.looks) (hcl:o.cl=true) (h:opS Φ s o=some (v,s1)): ∃ c1,opA c o=some (gm ρ v,c1)∧Sim ρ s1 c1:=by
 unfold opS at h
 split at h
 ·rename_i r hr
  cases h
  exact kva G S hset hcl hr
 ·split at h
  ·rename_i ty sz by_ d x
   split at h
   ·rename_i r hr
    cases h
    simp only[AOp.looks] at hset
    simp only[AOp.cl,Bool.and_eq_true] at hcl
    exact kz2 G hA S (kae S hset.left hcl.1) (kae S hset.right hcl.2) hr
   ·split at h
    ·rename_i r hr
     cases h
     simp only[AOp.looks] at hset
     simp only[AOp.cl,Bool.and_eq_true] at hcl
     exact kz0 G hΦ hA S (kae S hset.left hcl.1) (kae S hset.right hcl.2) hr
    ·split at h
     ·rename_i r hr
      cases h
      simp only[AOp.looks] at hset
      simp only[AOp.cl,Bool.and_eq_true] at hcl
      exact kz1 G hA S (kae S hset.left hcl.1) (kae S hset.right hcl.2) hr
     ·split at h
      ·rename_i r hr
       cases h
       exact⟨c,koa S hΦ hset hcl hr,S⟩
      ·cases h
  ·rename_i ty sz by_ z d x
   simp only[AOp.looks] at hset
   simp only[AOp.cl,Bool.and_eq_true] at hcl
   exact kz5 G hN S (kae S hset.left hcl.2.1) (kae S hset.right hcl.2.2) h
  ·simp only[AOp.looks] at hset
   simp only[AOp.cl] at hcl
   exact qe4 G hA S (kae S hset hcl) h
  ·split at h
   ·rename_i r hr
    cases h
    exact⟨c,koa S hΦ hset hcl hr,S⟩
   ·split at h
    ·rename_i u hu
     simp only[Option.map_eq_some_iff,Prod.mk.injEq] at h
     obtain⟨r,hr,rfl,rfl⟩:=h
     simp only[AOp.looks] at hset
     simp only[AOp.cl] at hcl
     exact⟨c,k0k G S (kae S hset hcl) hu (hΦ _ (kds hr) c),S⟩
    ·cases h
  ·simp only[AOp.looks] at hset
   simp only[AOp.cl,Bool.and_eq_true] at hcl
   exact qhh G hΦ hA S (kae S hset.left hcl.1) (kae S hset.right hcl.2) h
  ·rename_i t a b
   split at h
   ·rename_i q hq
    cases h
    simp only[AOp.looks] at hset
    simp only[AOp.cl,Bool.and_eq_true] at hcl
    have e1:=kae S hset.left hcl.1
    rw[kmv hΦ hq] at e1
    refine⟨c,?_,S⟩
    simp only[opA,e1]
    cases q <;> simp[kae S hset.right.left hcl.2.1,kae S hset.right.right hcl.2.2]
   ·cases h
  ·split at h
   ·rename_i r hr
    cases h
    exact⟨c,koa S hΦ hset hcl hr,S⟩
   ·cases h
theorem Sim.set (S:Sim ρ s c) (d:Option Nat) (v:AV):Sim ρ (s.set d v) (c.set d (gm ρ v)):=by
 cases d with
 |none=>exact S
 |some d=>
  refine⟨fun t u hu=> ?_,S.heap,S.nxs,S.lo⟩
  simp only[St.set,T.get_put] at hu ⊢
  by_cases e:d=t
  ·rw[if_pos e] at hu ⊢;cases hu;rfl
  ·rw[if_neg e] at hu ⊢;exact S.regs t u hu
theorem Sim.inits {args:List AV} {h g:T Blk} {n m:Nat} (H:HSim ρ h g) (hN: ∀ i,ρ.σ (n+i)=m+i) (hlo:ρ.lo≤n):Sim ρ {r:=inits 0 args .nil,h:=h,nx:=n} {r:=inits 0 (args.map (gm ρ)) .nil,h:=g,nx:=m}:=by
 refine⟨fun t u hu=> ?_,H,hN,hlo⟩
 simp only[kgt,Nat.zero_le,true_and,Nat.zero_add,Nat.sub_zero,List.length_map,T.get_nil] at hu ⊢
 by_cases e:t<args.length
 ·rw[if_pos e] at hu ⊢
  rw[List.getElem?_map,hu];rfl
 ·rw[if_neg e] at hu;cases hu
theorem kmj (S:Sim ρ s c) {fn:AFn} (h:ke0.resS fn s=some v):resA fn c=some (gm ρ v):=by
 unfold ke0.resS at h
 split at h
 ·rename_i hset
  have hset:=kfr hset
  have one: ∀ {p:Nat×Option (Bool×Nat)} {u:AV},(∃ x,s.r.get p.1=some x)→kcu s p=some u→kcu c p=some (gm ρ u):=fun {p u} ⟨x,hx⟩ hu=>by
   have hsx:s.rg p.1=x:=by simp[St.rg,hx]
   have hcx:c.rg p.1=gm ρ x:=by simp[St.rg,S.regs _ _ hx]
   unfold kcu at hu ⊢
   rw[hsx] at hu
   rw[hcx]
   split at hu
   ·cases hu;rfl
   ·split at hu
    ·rename_i cs hr
     rw[kxx S.heap hr]
     exact ki7 hu
    ·cases hu
  have key: ∀ {l:List (Nat×Option (Bool×Nat))} {us:List AV},SetIn s (l.map (·.1))→mapO (kcu s) l=some us→mapO (kcu c) l=some (us.map (gm ρ)):=by
   intro l
   induction l with
   |nil=>intro us _ e;cases e;rfl
   |cons p l ih=>
    intro us hs e
    unfold mapO at e ⊢
    split at e
    ·cases e
    ·rename_i u hu
     split at e
     ·cases e
     ·rename_i us' hus
      cases e
      rw[one (hs p.1 (by simp)) hu,ih (fun t ht=>hs t (by simp at ht ⊢;exact .inr ht)) hus]
      rfl
  unfold resA at h ⊢
  split at h
  ·rename_i u hu
   cases h
   rw[key hset hu];rfl
  ·rename_i us hne hu
   cases h
   rw[key hset hu]
   cases us with
   |nil=>rfl
   |cons a us=>
    cases us with
    |nil=>exact absurd rfl (hne a)
    |cons b us=>simp only[List.map_cons,gm,gmL,kbu]
  ·cases h
 ·cases h
end
end Go.Proofs.Hz
