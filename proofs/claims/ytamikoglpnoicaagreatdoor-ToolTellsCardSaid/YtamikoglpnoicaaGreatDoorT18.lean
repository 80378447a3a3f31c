/-
  Symbolic runs are sound: what they come to, the evaluator comes to, whatever the unknown stands for.
  Conditions: none.
-/
import Derived.Test.YtamikoglpnoicaaGreatDoorT05
import Derived.Test.YtamikoglpnoicaaGreatDoorT17
namespace Go.Proofs.Hz
open AO renaming gmO->ya2,ev->ya3
open Bool renaming and_eq_true->yab,false_eq_true->yai
open Go.IntKind renaming wrap->ya6,u8->ya8
open List renaming length_append->yac,length_singleton->yae,all_eq_true->yaf,map_cons->yah,flatten_append->yaj,flatten_singleton->yak,nil_append->yam,length_map->yan,flatten_cons->yao,length_cons->yap,eq_nil_of_length_eq_zero->yaq,length_nil->yar,take_of_length_le->yav,map_nil->yaw,mem_cons_of_mem->yax,map_take->yay,take_length->ya1,all_cons->ya4,map->ya7
open Nat renaming zero_add->yas,le_succ_of_le->yat,add_sub_cancel->yaz,le_of_eq->ya5
open Option renaming map_eq_some_iff->yaa,map_some->yag,getD_some->yau,isSome_none->ya0
open Option.some renaming injEq->yal
open Prod.mk renaming injEq->yad
def khc (ρ:Val):Prop:=Good ρ/\ ∀ fl i,AV.beq (ρ.v fl i) (ρ.v fl i)=true
mutual
theorem kpz {ρ:Val} (G:khc ρ): ∀ {a:AV},AV.beq a a=true->AV.beq (gm ρ a) (gm ρ a)=true
 | .var f i,_=>by simp only[gm];exact G.2 f i
 | .ip cs o,h=>by simp only[AV.beq,yab,gm] at h ⊢;exact⟨kiq G h.1,h.2⟩
 | .im els c,h=>by simp only[AV.beq,yab,gm] at h ⊢;exact⟨kw2 G h.1,h.2⟩
 | .fn f a b,h=>by simp only[AV.beq,yab,gm] at h ⊢;exact⟨⟨h.1.1,kiq G h.1.2⟩,kiq G h.2⟩
 | .agg cs,h=>by simp only[AV.beq,gm] at h ⊢;exact kiq G h
 | .tup cs,h=>by simp only[AV.beq,gm] at h ⊢;exact kiq G h
 | .bool _,h=>h
 | .int ..,h=>h
 | .str _,h=>h
 | .nilp,h=>h
 | .ptr ..,h=>by simp[gm,AV.beq]
 | .sl ..,h=>by simp[gm,AV.beq]
 | .yld _,h=>by simp[gm,AV.beq]
 | .nilf,h=>h
 | .nilm,h=>h
 | .mp _,h=>by simp[gm,AV.beq]
 | .nili,h=>h
 | .ifv,h=>h
 | .ifc t x,h=>by simp only[AV.beq,yab,gm] at h ⊢;exact⟨h.1,kpz G h.2⟩
 | .nils,h=>h
theorem kiq {ρ:Val} (G:khc ρ): ∀ {a:List AV},kcy a a=true->kcy (gmL ρ a) (gmL ρ a)=true
 | [],_=>rfl
 |x::xs,h=>by simp only[kcy,yab,gmL] at h ⊢;exact⟨kpz G h.1,kiq G h.2⟩
theorem kw2 {ρ:Val} (G:khc ρ): ∀ {a:List (List AV)},ket a a=true->ket (kdw ρ a) (kdw ρ a)=true
 | [],_=>rfl
 |x::xs,h=>by simp only[ket,yab,kdw] at h ⊢;exact⟨kiq G h.1,kw2 G h.2⟩
end
section
variable {ρ:Val} {h g:T Blk}
theorem kkl {v:AV} (hp:kda v=true) (g:T Blk) (n:Nat):frz g (n+1) v=some v:=by cases v <;> simp only[kda,yai] at hp <;> rfl
theorem k0l {v:AV} (hp:kda v=true) (g:T Blk) (n:Nat):fzs (n+1) g v=some g:=by cases v <;> simp only[kda,yai] at hp <;> rfl
theorem qeo {v:AV} (hp:kda v=true) (n:Nat):AV.hasSl (n+1) v=false:=by cases v <;> simp only[kda,yai] at hp <;> rfl
theorem klt {f f':AV->Option AV}: ∀ {l r:List AV},(∀ x ∈ l,∀ y,f x=some y->f' (gm ρ x)=some (gm ρ y))->mapO f l=some r->mapO f' (l.map (gm ρ))=some (r.map (gm ρ))
 | [],r,_,e=>by cases e;rfl
 |x::l,r,hf,e=>by
  unfold mapO at e;split at e
  ·cases e
  ·rename_i y hy;split at e
   ·cases e
   ·rename_i ys hys;cases e;simp only[yah,mapO,hf x (by simp) y hy,klt (fun x hx=>hf x (by simp[hx])) hys]
theorem kjx (sz:Nat): ∀ (k:Nat) (l:List AV),kb9 sz k (l.map (gm ρ))=(kb9 sz k l).map (ya7 (gm ρ))
 |0,_=>rfl
 |k+1,l=>by simp only[kb9,yah,yay,←List.map_drop,kjx sz k]
theorem kkg {f:AV->Option AV}: ∀ {l:List AV},(∀ x ∈ l,f x=some x)->mapO f l=some l
 | [],_=>rfl
 |x::l,h=>by unfold mapO;rw[h x (by simp),kkg fun y hy=>h y (by simp[hy])]
theorem kjw {sz:Nat}: ∀ {els:List (List AV)},(∀ e ∈ els,e.length=sz)->kb9 sz els.length els.flatten=els
 | [],_=>rfl
 |e::es,h=>by
  have h1:=h e (by simp);simp only[yap,kb9,yao];rw[List.take_left' h1,List.drop_left' h1,kjw fun x hx=>h x (by simp[hx])]
theorem kfc {sz:Nat}: ∀ {els:List (List AV)},(∀ e ∈ els,e.length=sz)->els.flatten.length=els.length*sz
 | [],_=>by simp
 |e::es,h=>by
  simp only[yao,yac,yap,h e (by simp),kfc (els:=es) fun x hx=>h x (by simp[hx])];rw[Nat.add_mul];omega
theorem klg {sz:Nat}: ∀ {n:Nat} {l:List AV},l.length=n*sz->(kb9 sz n l).flatten=l/\(kb9 sz n l).length=n/\ ∀ e ∈ kb9 sz n l,e.length=sz
 |0,l,h=>by
  have:l=[]:=yaq (by simpa using h);subst this;exact⟨rfl,rfl,fun e he=>by cases he⟩
 |n+1,l,h=>by
  rw[Nat.add_mul] at h;obtain⟨h1,h2,h3⟩:=klg (sz:=sz) (n:=n) (l:=l.drop sz) (by simp;omega);refine⟨by simp only[kb9,yao,h1,List.take_append_drop],by simp only[kb9,yap,h2],fun e he=> ?_⟩;simp only[kb9,List.mem_cons] at he;rcases he with rfl |he
  ·simp;omega
  ·exact h3 e he
theorem kfy {l:List AV} {n:Nat} (h:l.length=n):kb2 l 0 n=some l:=by
 unfold kb2;rw[iq (by omega)];simp[yav (ya5 h)]
theorem kc9 {j:Nat} (hj:BIG<=j) {els:List (List AV)} {c:Bool} (h:ρ.v false j= .im els c):gn ρ j=els.length:=by
 unfold gn;rw[ir (by omega),h]
theorem kdz {j:Nat} {els:List (List AV)} {c:Bool} (h:ρ.v false j= .im els c):kep ρ j=els.flatten:=by
 unfold kep;rw[h]
theorem kvo {cs l:List AV} {off n:Nat} (e:kb2 cs off n=some l):l.length=n:=by
 unfold kb2 at e;split at e
 ·cases e;simp;omega
 ·cases e
theorem ki0 (G:Good ρ) (H:HSim ρ h g): ∀ {n:Nat} {v u:AV},kd2 h n v=some u->frz g n (gm ρ v)=some (gm ρ u)
 |0,_,_,e=>by cases e
 |n+1,v,u,e=>by
  have ih: ∀ {l r:List AV},mapO (kd2 h n) l=some r->mapO (frz g n) (l.map (gm ρ))=some (r.map (gm ρ)):=fun e=>klt (fun x _ y hy=>ki0 G H hy) e
  cases v <;> simp only[kd2] at e
  case sl id off k sz c=>
   split at e
   ·rename_i cs fz ty hg;split at e
    ·rename_i hk;split at e
     ·rename_i l hl;split at e
      ·rename_i r hr;cases e;simp only[gm,frz,H.cells hg,kci hk,kfz hl,ih hr,kjx,keb]
      ·cases e
     ·cases e
    ·cases e
   ·rename_i j fz ty hg;split at e
    ·rename_i hc;obtain⟨rfl,rfl,hj,hs,rfl,hn⟩:=hc;cases e;obtain⟨els,h1,h2,h3⟩:=G.own _ hj;rw[hs] at h2;obtain⟨m,rfl⟩: ∃ m,n=m+1:=⟨n - 1,by omega⟩;have h4:mapO (frz g (m+1)) els.flatten=some els.flatten:=kkg fun x hx=>kkl (yaf.1 h3 x hx) g m
     simp only[gm];unfold frz;simp only[H.own hg,kc9 hj h1,kdz h1,kfy (kfc h2),h4,kjw h2,h1];rfl
    ·cases e
   ·cases e
  case agg cs=>
   simp only[yaa] at e;obtain⟨r,hr,rfl⟩:=e;simp only[gm,frz,kca,ih hr,yag]
  case tup cs=>
   simp only[yaa] at e;obtain⟨r,hr,rfl⟩:=e;simp only[gm,frz,kca,ih hr,yag]
  case fn f a b=>
   split at e
   ·rename_i a' b' ha hb;cases e;simp only[gm,frz,kca,ih ha,ih hb]
   ·cases e
  case var fl i=>cases e;simp only[gm];exact kkl (G.v fl i).1 g n
  case ifc t x=>cases x <;> first |(cases e;rfl) |(cases e;done)
  all_goals first |(cases e;rfl) |(cases e;done)
theorem kyf {c u k}: ∀ {l:List AFact},kdf ρ l->knd l c u k=true-> ∃ o by_ cb,AHold ρ o 1 by_ (.var false c) (.im [[u]] cb) k
 | [],_,h=>by cases h
 |p::l,hl,h=>by
  unfold knd at h;split at h
  ·rename_i hp;simp only[yab,Bool.or_eq_true,beq_iff_eq] at hp;obtain⟨rfl,h1,h2,h3⟩:=hp;have hA:=hl p (List.mem_cons_self ..);rw[h1,AV.beq_eq h2] at hA;rcases h3 with h3 |h3
   ·rw[AV.beq_eq h3] at hA;exact⟨_,_,_,hA⟩
   ·rw[AV.beq_eq h3] at hA;exact⟨_,_,_,hA⟩
  ·exact kyf (fun q hq=>hl q (yax _ hq)) h
theorem kzb {f:AV->Option AV}: ∀ {l r:List AV} {x y:AV},mapO f l=some r->f x=some y->mapO f (l++[x])=some (r++[y])
 | [],r,x,y,e,hx=>by cases e;simp only[yam];unfold mapO;rw[hx];rfl
 |a::l,r,x,y,e,hx=>by
  unfold mapO at e;split at e
  ·cases e
  ·rename_i b hb;split at e
   ·cases e
   ·rename_i bs hbs;cases e;rw[List.cons_append];unfold mapO;rw[hb,kzb hbs hx];rfl
theorem k82 (G:Good ρ) (H:HSim ρ h g) {l:List AFact} (hA:kdf ρ l) {v u:AV} (e:km8 l h v=some u):frz g 23 (gm ρ v)=some (gm ρ u):=by
 unfold km8 at e;split at e
 ·rename_i u' hu;cases e;exact ki0 G H hu
 ·split at e
  ·rename_i id k;split at e
   ·rename_i n c w ty hg;split at e
    ·rename_i hc;obtain⟨rfl,hn⟩:=hc;split at e
     ·rename_i u' hu;split at e
      ·rename_i hp;cases e;obtain⟨o,by_,cb,⟨A,ca,B,g1,g2,g3,g4,g5,g6⟩,g7,g8,g9⟩:=kyf hA hp;have gB':B=[[gm ρ u']]:=by
        rcases g2 with⟨cb',g2⟩ | ⟨_,t',g2,_⟩
        ·simp only[gm,kdw,gmL,AV.im.injEq] at g2;exact g2.1.symm
        ·simp[gm] at g2
       subst gB';obtain⟨els,e1,e2,e3⟩:=G.own _ g7;rw[g3] at e1;cases e1;rw[g8] at e2;have hkn:gn ρ n=A.length+1:=by rw[kc9 g7 g3,yac];rfl
       have hAl: ∀ e ∈ A,e.length=1:=fun e he=>e2 e (by simp[he])
       have hoc:kep ρ c=A.flatten:=kdz (by simpa only[gm] using g1);have hfl:=kfc hAl;have hb:=H.get _ _ hg;simp only[gB,yae,yah,yaw,hkn,hoc,yaz] at hb;rw[kgd (by rw[hfl];omega)] at hb;have hm:mapO (frz g 22) (A.flatten++[gm ρ w])=some (A.flatten++[gm ρ u']):=kzb (kkg fun x hx=>kkl (yaf.1 e3 x (by
        rw[yaj];exact List.mem_append_left _ hx)) g 21) (ki0 G H hu)
       simp only[gm];unfold frz;simp only[hb,hkn,g3];rw[kfy (by rw[yac,hfl];simp)];simp only[hm];have hch:=kjw e2;rw[yac,yaj] at hch;simp only[yae,yak] at hch;rw[hch];rfl
      ·cases e
     ·cases e
    ·cases e
   ·cases e
  ·cases e
theorem k81 (G:Good ρ) (H:HSim ρ h g) {l:List AFact} (hA:kdf ρ l) {v u:AV} (e:kq9 l h v=some u):frz g kbu (gm ρ v)=some (gm ρ u):=by
 unfold kq9 at e;split at e
 ·rename_i u' hu;cases e;exact ki0 G H hu
 ·split at e
  ·simp only[yaa] at e;obtain⟨r,hr,rfl⟩:=e;have:=klt (f:=km8 l h) (f':=frz g 23) (fun x _ y hy=>k82 G H hA hy) hr;have hh: ∀ l,frz g kbu (.agg l)=(mapO (frz g 23) l).map .agg:=fun _=>rfl
   simp only[gm,kca,hh,this,yag]
  ·cases e
theorem kyg (G:Good ρ): ∀ (n:Nat) (v:AV),AV.hasSl n (gm ρ v)=AV.hasSl n v
 |0,_=>rfl
 |n+1,v=>by
  have ih: ∀ l:List AV,(l.map (gm ρ)).any (AV.hasSl n)=l.any (AV.hasSl n):=fun l=>by
   rw[List.any_map];congr 1;funext x;exact kyg G n x
  cases v <;> simp only[gm,AV.hasSl,kca,ih]
  rename_i fl i;exact qeo (G.v fl i).1 n
theorem krf {f f':T Blk->AV->Option (T Blk)} (hf: ∀ {h g h':T Blk} {v:AV},HSim ρ h g->f h v=some h'-> ∃ g',f' g (gm ρ v)=some g'/\HSim ρ h' g'):
  ∀ {l:List AV} {h g h':T Blk},HSim ρ h g->fzL f h l=some h'-> ∃ g',fzL f' g (l.map (gm ρ))=some g'/\HSim ρ h' g'
 | [],h,g,h',H,e=>by cases e;exact⟨g,rfl,H⟩
 |x::l,h,g,h',H,e=>by
  unfold fzL at e;split at e
  ·rename_i h1 hx;obtain⟨g1,h2,h3⟩:=hf H hx;obtain⟨g2,h4,h5⟩:=krf (f:=f) hf h3 e;exact⟨g2,by simp only[yah,fzL,h2,h4],h5⟩
  ·cases e
theorem kx9 {g:T Blk} {n:Nat}: ∀ {l:List AV},l.all kda=true->fzL (fzs (n+1)) g l=some g
 | [],_=>rfl
 |x::l,h=>by
  simp only[ya4,yab] at h;unfold fzL;rw[k0l h.1];exact kx9 h.2
theorem kya (G:Good ρ): ∀ {n:Nat} {h g h':T Blk} {v:AV},HSim ρ h g->kge n h v=some h'-> ∃ g',fzs n g (gm ρ v)=some g'/\HSim ρ h' g'
 |0,_,_,_,_,_,e=>by cases e
 |n+1,h,g,h',v,H,e=>by
  have ih: ∀ {l:List AV} {h g h':T Blk},HSim ρ h g->fzL (kge n) h l=some h'-> ∃ g',fzL (fzs n) g (l.map (gm ρ))=some g'/\HSim ρ h' g':=fun H e=>krf (fun H e=>kya G H e) H e
  cases v <;> simp only[kge] at e
  case sl id off k sz c=>
   split at e
   ·rename_i cs fz ty hg;simp only[gm,fzs,H.cells hg];exact ih (H.put id (.cells cs true ty)) e
   ·rename_i j fz ty hg;split at e
    ·rename_i hc;obtain⟨hn,hj⟩:=hc;cases e;obtain⟨els,h1,h2,h3⟩:=G.own _ hj;obtain⟨m,rfl⟩: ∃ m,n=m+1:=⟨n - 1,by omega⟩;have:=H.put id (.own j true ty);simp only[gB,kdz h1] at this;refine⟨_,?_,this⟩;simp only[gm];unfold fzs;simp only[H.own hg,kdz h1];exact kx9 h3
    ·cases e
   ·cases e
  case agg cs=>simp only[gm,fzs,kca];exact ih H e
  case tup cs=>simp only[gm,fzs,kca];exact ih H e
  case fn f a b=>
   split at e
   ·rename_i h1 ha;obtain⟨g1,h2,h3⟩:=ih H ha;simp only[gm,fzs,kca,h2];exact ih h3 e
   ·cases e
  case var fl i=>cases e;exact⟨g,by simp only[gm];exact k0l (G.v fl i).1 g n,H⟩
  all_goals (cases e;exact⟨g,rfl,H⟩)
end
section
variable {ρ:Val} {s s1 c:St} {v:AV} {Φ:Facts} {F:Nat->Option AFn} {KS K:Nat->List AV->Option AV}
theorem kpf (hΦ:kcq ρ Φ.ops) {b:Bool} (h:kk2 Φ v=some b):gm ρ v= .bool b:=by
 unfold kk2 at h;split at h
 ·cases h;rfl
 ·rename_i f i;split at h
  ·rename_i b' hl;cases h;have:=hΦ _ (ke3 hl) {r:= .nil,h:= .nil,nx:=0};simp only[AOp.gmO,AOp.mapO,ya2,opA,ya3,yal,yad,and_true] at this;exact this
  ·cases h
 ·cases h
theorem ke6 (hΦ:kcq ρ Φ.ops) (S:Sim ρ s c) {q:Option (Nat×Bool)} {b:Bool} (h:kij Φ s q=some b):kb8 c q=b:=by
 unfold kij at h;split at h
 ·cases h;rfl
 ·rename_i t b';unfold kb8;split at h
  ·rename_i x hx;cases h;simp only[St.rg,S.regs t _ hx,yau,gm]
  ·rename_i x hx;cases h;simp only[St.rg,S.regs t _ hx,yau,gm]
  ·rename_i f i hx;simp only[yaa] at h;obtain⟨y,hy,rfl⟩:=h;have:=kpf hΦ hy;simp only[St.rg,S.regs t _ hx,yau,this]
  ·cases h
theorem kz8 (G:Good ρ) (S:Sim ρ s c) {o:AOp} (hset:SetIn s o.looks) (hcl:o.cl=true) (h:opB s o=some (v,s1)): ∃ c1,opA c o=some (gm ρ v,c1)/\Sim ρ s1 c1:=by
 unfold opB at h;split at h
 ·rename_i v' s' hr;split at h
  ·rename_i hsm;cases h;exact qd6 G S hset hcl hr hsm
  ·cases h
 ·cases h
def kwt (ρ:Val) (sz:Nat) (u:AV) (B:List (List AV)):Prop:=(∃ cb,gm ρ u= .im B cb)\/sz=1/\ ∃ t,gm ρ u= .str t/\B=t.map eB
theorem kqi (t:List UInt8):(t.map eB).flatten=t.map fun b=> .int .u8 b.toNat:=by
 induction t with
 |nil=>rfl
 |cons b t ih=>simp only[yah,yao,ih,eB];rfl
theorem kwc (G:Good ρ) (S:Sim ρ s c) {sz:Nat} {x u:AV} (h:kif s sz x=some u) {B:List (List AV)} (hu:kwt ρ sz u B) (hB: ∀ e ∈ B,e.length=sz):kbn c.h sz (gm ρ x)=some (B.length,B.flatten):=by
 have him: ∀ cb,kbn c.h sz (.im B cb)=some (B.length,B.flatten):=fun cb=>by
  unfold kbn;simp only;rw[iq (yaf.2 fun e he=>by simp[hB e he])]
 have hstr: ∀ t,sz=1->B=t.map eB->kbn c.h sz (.str t)=some (B.length,B.flatten):=fun t h1 h2=>by
  subst h1;subst h2;unfold kbn;simp only[if_true,kqi,yan]
 have hself: ∀ {v:AV},kwt ρ sz v B->kbn c.h sz (gm ρ v)=some (B.length,B.flatten):=fun {v} hv=>by
  rcases hv with⟨cb,hv⟩ | ⟨h1,t,hv,h2⟩
  ·rw[hv];exact him cb
  ·rw[hv];exact hstr t h1 h2
 unfold kif at h;split at h
 ·cases h;exact hself hu
 ·split at h
  ·cases h;exact hself hu
  ·cases h
 ·split at h
  ·cases h;exact hself hu
  ·cases h
 ·cases h;exact hself hu
 ·rename_i id off n z cc;split at h
  ·rename_i hz;subst hz;split at h
   ·rename_i j fz ty hg;split at h
    ·rename_i hc;obtain⟨rfl,rfl,hj⟩:=hc;cases h;obtain⟨els,e1,_⟩:=G.own _ hj;have hv:gm ρ (.var false n)= .im els false:=by simp only[gm,e1]
     rcases hu with⟨cb,hu⟩ | ⟨_,t,hu,_⟩
     ·simp only[gm] at hu;simp only[gm,kbn,if_true,S.heap.own hg,kc9 hj hu,kdz hu,kfy (kfc hB),yag]
     ·rw[hv] at hu;cases hu
    ·cases h
   ·rename_i cs fz ty hg;split at h
    ·rename_i hn;simp only[yaa] at h;obtain⟨l,hl,rfl⟩:=h;have hll:=kvo hl;rcases hu with⟨cb,hu⟩ | ⟨_,t,hu,_⟩
     ·simp only[gm,keb,←kjx,AV.im.injEq] at hu;obtain⟨rfl,_⟩:=hu;obtain⟨h1,h2,_⟩:=klg (sz:=z) (n:=n) (l:=l.map (gm ρ)) (by simpa using hll);simp only[gm,kbn,if_true,S.heap.cells hg,kci hn,kfz hl,yag,h1,h2]
     ·simp[gm] at hu
    ·cases h
   ·cases h
  ·cases h
 ·cases h
theorem k0m {x:AV} (h:kda x=true):x.one=true:=by cases x <;> simp[kda] at h <;> rfl
theorem k55 (G:Good ρ) {l:List AFact} (hl:kdf ρ l) (S:Sim ρ s c) {t sz by_:Nat} {d x:AV} {d' x':AO} (hd:d'.ev c=gm ρ d) (hx:x'.ev c=gm ρ x) (h:kpv l s t sz by_ d x=some (v,s1)): ∃ c1,opA c (.app t sz by_ d' x')=some (gm ρ v,c1)/\Sim ρ s1 c1:=by
 unfold kpv at h;split at h
 ·cases h
 ·rename_i xr hxr;have key: ∀ {o:Bool} {b:AV} {k:Nat},keo l o sz by_ b xr=some k-> ∃ A ca B,gm ρ b= .im A ca/\kbn c.h sz (gm ρ x)=some (B.length,B.flatten)/\(B.flatten.all AV.one=true)/\0<sz/\ρ.v false k= .im (A++B) false/\BIG<=k/\
    (∀ e ∈ A,e.length=sz)/\(A.length+B.length)*by_<=kaq/\A.length+B.length<=kaq/\(o=false->ca=true/\B.length≠0):=fun {o b k} hk=>by
   obtain⟨⟨A,ca,B,h1,h2,h3,h4,h5,h6⟩,h7,h8,h9⟩:=klr hl hk;obtain⟨els,e1,e2,e3⟩:=G.own k h7;rw[h3] at e1;cases e1;rw[h8] at e2;refine⟨A,ca,B,h1,kwc G S hxr h2 fun e he=>e2 e (by simp[he]),?_,h9,h3,h7,fun e he=>e2 e (by simp[he]),h4,h5,fun ho=>⟨(h6 ho).1,fun e=>(h6 ho).2 (yaq e)⟩⟩;refine yaf.2 fun y hy=>k0m (yaf.1 e3 y ?_)
   simp only[yaj,List.mem_append];exact .inr hy
  have newOk: ∀ {k:Nat} {cs:List AV},kep ρ k=cs->Sim ρ (s.new (.own k false t)) (c.new (.cells cs false t)):=fun {k cs} e=>by
   have:=S.new (.own k false t);simp only[gB,e] at this;exact this
  have hall: ∀ {A:List (List AV)},(∀ e ∈ A,e.length=sz)->A.all (fun e=>e.length == sz)=true:=fun h=>yaf.2 fun e he=>by simp[h e he]
  split at h
  ·rename_i j;simp only[yaa,yad] at h;obtain⟨k,hk,rfl,rfl⟩:=h;obtain⟨A,ca,B,h1,h2,h3,h4,h5,h6,h7,h8,h9,h10⟩:=key hk;obtain⟨rfl,hB⟩:=h10 rfl;refine⟨c.new (.cells (A.flatten++B.flatten) false t),?_,newOk (by rw[kdz h5];simp)⟩;simp only[opA,hd,hx,h2,h1,h3,h4,and_self,if_true,ir hB,hall h7,h8,h9];simp only[gm,kc9 h6 h5,S.nx,yac]
  ·rename_i els cc;simp only[yaa,yad] at h;obtain⟨k,hk,rfl,rfl⟩:=h;obtain⟨A,ca,B,h1,h2,h3,h4,h5,h6,h7,h8,h9,h10⟩:=key hk;obtain⟨rfl,hB⟩:=h10 rfl;refine⟨c.new (.cells (A.flatten++B.flatten) false t),?_,newOk (by rw[kdz h5];simp)⟩;simp only[opA,hd,hx,h2,h1,h3,h4,and_self,if_true,ir hB,hall h7,h8,h9];simp only[gm,kc9 h6 h5,S.nx,yac]
  ·simp only[yaa,yad] at h;obtain⟨k,hk,rfl,rfl⟩:=h;obtain⟨A,ca,B,h1,h2,h3,h4,h5,h6,h7,h8,h9,h10⟩:=key hk;obtain⟨_,hB⟩:=h10 rfl;simp only[gm,kdw,AV.im.injEq] at h1;obtain⟨rfl,_⟩:=h1;simp only[yar,yas] at h8 h9;simp only[yam] at h5;refine⟨c.new (.cells B.flatten false t),?_,newOk (kdz h5)⟩;simp only[opA,hd,hx,gm,h2,h3,h4,and_self,if_true,ir hB,h8,h9];simp only[kc9 h6 h5,S.nx]
  ·rename_i id off n z cc;split at h
   ·rename_i hz;subst hz;have ownOk: ∀ {k:Nat} {A B:List (List AV)},BIG<=k->ρ.v false k= .im (A++B) false->
      Sim ρ {s with h:=(s.h.put id none).put s.nx (some (.own k false t)),nx:=s.nx+1} {c with h:=(c.h.put (ρ.σ id) none).put c.nx (some (.cells (A.flatten++B.flatten) false t)),nx:=c.nx+1}:=fun {k A B} hk e=>by
     have:=(S.heap.kill id).put s.nx (.own k false t);simp only[gB,kdz e,yaj] at this;refine⟨S.regs,by rw[←S.nx];exact this,fun i=> ?_,yat S.lo⟩;have:=S.nxs (i+1);show ρ.σ (s.nx+1+i)=c.nx+1+i;rw[show s.nx+1+i=s.nx+(i+1) by omega,this];omega
    split at h
    ·rename_i j ty hg;split at h;rotate_left
     ·cases h
     rename_i hty;subst hty;split at h
     ·rename_i hc;obtain⟨rfl,rfl,hj⟩:=hc;simp only[yaa,yad] at h;obtain⟨k,hk,rfl,rfl⟩:=h;obtain⟨A,ca,B,h1,h2,h3,h4,h5,h6,h7,h8,h9,_⟩:=key hk;simp only[gm] at h1;refine⟨_,?_,ownOk h6 h5⟩;simp only[opA,hd,hx,gm,h2,h3,h4,and_self,if_true,kc9 hj h1,S.heap.own hg,kdz h1,kfc h7,h8,h9,yav (ya5 (kfc h7)),kc9 h6 h5,S.nx,yac];simp
     ·split at h
      ·rename_i hc;obtain⟨rfl,rfl⟩:=hc;simp only[yaa,yad] at h;obtain⟨k,hk,rfl,rfl⟩:=h;obtain⟨A,ca,B,h1,h2,h3,h4,h5,h6,h7,h8,h9,_⟩:=key hk;simp only[gm,kdw,AV.im.injEq] at h1;obtain⟨rfl,_⟩:=h1;have h0:(0:Nat)<BIG:=by decide
       simp only[yar,yas] at h8 h9;refine⟨_,?_,ownOk h6 h5⟩;simp only[opA,hd,hx,gm,h2,h3,h4,and_self,if_true,kci h0,S.heap.own hg,h8,h9,kc9 h6 h5,S.nx,Nat.zero_mul,yas,Nat.zero_le,List.take_zero,yam,List.flatten_nil];simp
      ·cases h
    ·rename_i cs ty hg;split at h
     ·rename_i hc;obtain⟨rfl,hle,hn,rfl⟩:=hc;simp only[yaa,yad] at h;obtain⟨k,hk,rfl,rfl⟩:=h;obtain⟨A,ca,B,h1,h2,h3,h4,h5,h6,h7,h8,h9,_⟩:=key hk;simp only[gm,keb,←kjx,AV.im.injEq] at h1;obtain⟨rfl,_⟩:=h1;obtain⟨q1,q2,_⟩:=klg (sz:=z) (n:=n) (l:=(cs.take (n*z)).map (gm ρ)) (by simp;omega);refine⟨_,?_,ownOk h6 h5⟩;rw[q2] at h8 h9;simp only[opA,hd,hx,gm,h2,h3,h4,and_self,if_true,kci hn,S.heap.cells hg,h8,h9,kc9 h6 h5,S.nx,yac,yan,hle,yay];simp only[yay] at q1 q2;simp[q1,q2]
     ·cases h
    ·rename_i m cs fz ty hg;split at h
     ·rename_i hc;obtain⟨rfl,hn⟩:=hc;split at h
      ·rename_i old hold;simp only[yaa,yad] at h;obtain⟨k,hk,rfl,rfl⟩:=h;obtain⟨A,ca,B,h1,h2,h3,h4,h5,h6,h7,h8,h9,h10⟩:=key hk;obtain⟨_,hB⟩:=h10 rfl;simp only[gm,keb,←kjx,AV.im.injEq] at h1;obtain⟨rfl,_⟩:=h1;obtain⟨q1,q2,_⟩:=klg (sz:=z) (n:=m) (l:=old.map (gm ρ)) (by simpa using kvo hold);rw[q2] at h8 h9;have hno: ¬m+B.length<=m:=by omega
       refine⟨c.new (.cells (old.map (gm ρ)++B.flatten) false t),?_,newOk (by rw[kdz h5];simp[q1])⟩;simp only[opA,hd,hx,gm,h2,h3,h4,and_self,if_true,kci hn,S.heap.cells hg,h8,h9,kc9 h6 h5,S.nx,yac,q2,kfz hold,hno,if_false];simp[hB]
      ·cases h
     ·cases h
    ·cases h
   ·cases h
  ·cases h
theorem k58 (G:Good ρ) {l:List NFact} (hl:kfq ρ l) (S:Sim ρ s c) {t sz by_:Nat} {z:List AV} {d x:AV} {d' x':AO} (hd:d'.ev c=gm ρ d) (hx:x'.ev c=gm ρ x) (h:kpx l s t sz by_ z d x=some (v,s1)): ∃ c1,opA c (.appn t sz by_ z d' x')=some (gm ρ v,c1)/\Sim ρ s1 c1:=by
 unfold kpx at h;simp only[yaa,yad] at h;obtain⟨k,hk,rfl,rfl⟩:=h;obtain⟨⟨A,N,kk,h1,h2,h3,h4,h5,h6⟩,h7,h8,h9⟩:=ky7 hl hk;obtain⟨els,e1,e2,e3⟩:=G.own k h7;rw[h4] at e1;cases e1;rw[h8] at e2;have hz:z ∈ A++List.replicate N z:=by simp[h3]
 have hA:A.all (fun e=>e.length == sz)=true:=yaf.2 fun e he=>by simp[e2 e (by simp[he])]
 have hone:z.all AV.one=true:=yaf.2 fun y hy=>k0m (yaf.1 e3 y (List.mem_flatten.2 ⟨z,hz,hy⟩))
 have hs:=S.new (.own k false t);simp only[gB,kdz h4,yaj] at hs;refine⟨_,?_,hs⟩;have hn:kcz (.int kk (N:Int))=some N:=by simp[kcz]
 simp only[opA,hd,hx,h1,h2,hn,ir h3,hA,h5,h6,e2 z hz,h9,hone,and_self,if_true];simp only[gm,kc9 h7 h4,S.nx,yac,List.length_replicate]
theorem qn7 (G:Good ρ) {l:List AFact} (hl:kdf ρ l) (S:Sim ρ s c) {t:Nat} {x:AV} {x':AO} (hx:x'.ev c=gm ρ x) (h:kvw l s t x=some (v,s1)): ∃ c1,opA c (.s2b t x')=some (gm ρ v,c1)/\Sim ρ s1 c1:=by
 unfold kvw at h;split at h
 ·rename_i j;simp only[yaa,yad] at h;obtain⟨k,hk,rfl,rfl⟩:=h;obtain⟨⟨A,ca,B,h1,h2,h3,h4,h5,h6⟩,h7,h8,h9⟩:=klr hl hk;simp only[gm,kdw,AV.im.injEq] at h1;obtain⟨rfl,_⟩:=h1;simp only[yam] at h3;have hT:=(G.v true j).2;rcases h2 with⟨cb,h2⟩ | ⟨_,b,h2,rfl⟩
  ·simp only[gm] at h2;rw[h2] at hT;cases hT
  ·have hs:=S.new (.own k false t);simp only[gB,kdz h3,kqi] at hs;refine⟨_,?_,hs⟩;simp only[opA,hx,h2];simp only[gm,kc9 h7 h3,S.nx,yan]
 ·cases h
theorem qar {x:AV} (h:x.isVt=true): ∃ i,x= .var true i:=by
 unfold AV.isVt at h;split at h
 ·exact⟨_,rfl⟩
 ·cases h
theorem k4p: ∀ {l:List AFact} {k:Nat} {x:AV},kdf ρ l->kpb l k=some x->(∃ i,x= .var true i)/\ ∃ o by_,AHold ρ o 1 by_ (.im [] true) x k
 | [],_,_,_,h=>by cases h
 |p::l,k,x,hl,h=>by
  unfold kpb at h;split at h
  ·rename_i he;cases h;simp only[yab,beq_iff_eq] at he;obtain⟨h1,h2,h3,h4⟩:=he;have:=hl p (by simp);rw[h1,h2,AV.beq_eq h3] at this;exact⟨qar h4,p.own,p.by_,this⟩
  ·exact k4p (fun q hq=>hl q (yax _ hq)) h
theorem k6t (t:List UInt8):kfm (t.map fun b=> .int .u8 b.toNat)=some t:=by
 induction t with
 |nil=>rfl
 |cons b t ih=>
  have h1:b.toNat<256:=b.toNat_lt;simp only[yah,kfm,ih,yag];rw[iq ⟨by omega,by omega⟩];simp
theorem qq1 (G:Good ρ) (hΦ:kcq ρ Φ.ops) (hA:kdf ρ Φ.apps) (S:Sim ρ s c) {t:Nat} {p n:AV} {p' n':AO} (hp:p'.ev c=gm ρ p) (hn:n'.ev c=gm ρ n) (h:kwj Φ s t p n=some (v,s1)): ∃ c1,opA c (.ust t p' n')=some (gm ρ v,c1)/\Sim ρ s1 c1:=by
 unfold kwj at h;split at h
 ·rename_i id;split at h
  ·rename_i k ty hg;split at h
   ·rename_i hty;subst hty;split at h
    ·rename_i x hx;split at h
     ·rename_i m h1 h2;split at h
      ·rename_i hm;cases h;obtain⟨⟨i,rfl⟩,o,by_,hh⟩:=k4p hA hx;obtain⟨⟨A,ca,B,g1,g2,g3,g4,g5,g6⟩,g7,g8,g9⟩:=hh;simp only[gm,kdw,AV.im.injEq] at g1;obtain⟨rfl,_⟩:=g1;simp only[yam] at g3;simp only[yar,yas] at g5;have hT:=(G.v true i).2;rcases g2 with⟨cb,g2⟩ | ⟨_,b,g2,rfl⟩
       ·simp only[gm] at g2;rw[g2] at hT;cases hT
       ·have e1:=hΦ _ (ke3 h1) c;simp only[AOp.gmO,AOp.mapO,ya2,opA,ya3,g2,yal,yad,and_true] at e1;have e2:=hΦ _ (ke3 h2) c;rw[←AV.beq_eq hm] at hn e2;simp only[AOp.gmO,AOp.mapO,ya2,opA,ya3,gm,←e1,kd0,ke1,kei] at e2;have e3:0<(b.length:Int):=by simpa using e2
        refine⟨_,?_,S.heap' (S.heap.put id (.text (.var true i) ty))⟩;simp only[yan] at g5;have hr:kb2 (ya7 (fun b=>AV.int ya8 b.toNat) b) 0 b.length=some (ya7 (fun b=>AV.int ya8 b.toNat) b):=kfy (by simp);have ho:=S.heap.own hg;rw[kdz g3,kqi] at ho;simp only[opA,hp,hn,gm,←e1,ho];simp only[gm] at g2;rw[iq ⟨trivial,e3,by omega⟩];simp only[Int.toNat_natCast,hr,k6t,yag,gB,gm,g2]
      ·cases h
     ·cases h
    ·cases h
   ·cases h
  ·rename_i x ty hg;split at h
   ·rename_i hty;subst hty;split at h
    ·rename_i m h1 h2;split at h
     ·rename_i hm;cases h;have e1:=hΦ _ (ke3 h1) c;simp only[AOp.gmO,AOp.mapO,ya2,opA,ya3] at e1;have hxs: ∃ b,gm ρ v= .str b:=by
       generalize gm ρ v=y at e1;cases y <;> first |exact⟨_,rfl⟩ |cases e1
      obtain⟨b,hb⟩:=hxs;simp only[hb,yal,yad,and_true] at e1;have e2:=hΦ _ (ke3 h2) c;rw[←AV.beq_eq hm] at hn e2;simp only[AOp.gmO,AOp.mapO,ya2,opA,ya3,gm,←e1,kd0,ke1,kei] at e2;have e3:0<(b.length:Int):=by simpa using e2
      refine⟨c,?_,S⟩;simp only[opA,hp,hn,gm,←e1,S.heap.text hg,hb];rw[iq ⟨trivial,trivial,e3⟩]
     ·cases h
    ·cases h
   ·cases h
  ·cases h
 ·cases h
theorem k6n (G:Good ρ) (S:Sim ρ s c) {x u r:AV} {x':AO} (hx:x'.ev c=gm ρ x) (h:kif s 1 x=some u) (hu:opA c (.b2s (.c (gm ρ u)))=some (r,c)):opA c (.b2s x')=some (r,c):=by
 have same:u=x->opA c (.b2s x')=some (r,c):=fun e=>by
  subst e;simp only[opA,hx];simpa only[opA,ya3] using hu
 have key: ∀ {id off n z:Nat} {q:Option Nat} {B:List (List AV)} {cb:Bool},gm ρ x= .sl id off n z q->gm ρ u= .im B cb->(∀ e ∈ B,e.length=1)->kbn c.h 1 (gm ρ x)=some (B.length,B.flatten)->opA c (.b2s x')=some (r,c):=fun {id off n z q B cb} h1 h2 h3 h4=>by
  simp only[opA,ya3,h2,kbn] at hu;rw[iq (yaf.2 fun e he=>by simp[h3 e he])] at hu;simp only[opA,hx,h4];rw[h1];exact hu
 unfold kif at h;split at h
 ·cases h;exact same rfl
 ·split at h
  ·cases h;exact same rfl
  ·cases h
 ·split at h
  ·cases h;exact same rfl
  ·cases h
 ·cases h;exact same rfl
 ·rename_i id off n z cc;split at h
  ·rename_i hz;subst hz;split at h
   ·rename_i j fz ty hg;split at h
    ·rename_i hc;obtain⟨rfl,rfl,hj⟩:=hc;cases h;obtain⟨els,e1,e2,_⟩:=G.own _ hj;simp only[gm] at key ⊢;by_cases hall: ∀ e ∈ els,e.length=1
     ·refine key rfl e1 hall ?_;have hfl:kb2 els.flatten 0 els.length=some els.flatten:=kfy (by have:=kfc hall;omega);simp only[kbn,if_true,S.heap.own hg,kc9 hj e1,kdz e1,Nat.mul_one,hfl,yag]
     ·exfalso;simp only[opA,ya3,gm,e1,kbn] at hu;rw[ir (fun hq=>hall fun e he=>by simpa using yaf.1 hq e he)] at hu;cases hu
    ·cases h
   ·rename_i cs fz ty hg;split at h
    ·rename_i hn;simp only[yaa] at h;obtain⟨l,hl,rfl⟩:=h;obtain⟨h1,h2,h3⟩:=klg (sz:=1) (n:=n) (l:=l.map (gm ρ)) (by simpa using kvo hl);have e1:gm ρ (.sl id off n 1 cc)= .sl (ρ.σ id) off (gn ρ n) 1 cc:=by simp only[gm]
     have e2:gm ρ (.im (kb9 1 n l) true)= .im (kb9 1 n (l.map (gm ρ))) true:=by simp only[gm,keb,←kjx]
     refine key e1 e2 h3 ?_;simp only[gm,kbn,if_true,S.heap.cells hg,kci hn,kfz hl,yag,h1,h2]
    ·cases h
   ·cases h
  ·cases h
 ·cases h
theorem kyv (hΦ:kcq ρ Φ.ops) {h a:AV} {id off m z:Nat} {q:Option Nat} (e:knl Φ h=some a) (hg:gm ρ h= .sl id off m z q):gm ρ a= .int .i64 m/\0<m/\m<=1000:=by
 unfold knl at e;split at e
 ·rename_i a' h1;split at e
  ·rename_i h2 h3;cases e;have e1:=hΦ _ (ke3 h1) {r:= .nil,h:= .nil,nx:=0};have e2:=hΦ _ (ke3 h2) {r:= .nil,h:= .nil,nx:=0};have e3:=hΦ _ (ke3 h3) {r:= .nil,h:= .nil,nx:=0};simp only[AOp.gmO,AOp.mapO,ya2,opA,ya3,hg,yal,yad,and_true] at e1;simp only[AOp.gmO,AOp.mapO,ya2,opA,ya3,gm,←e1,kd0,ke1,kei] at e2 e3;have k2:(0:Int)<m:=by simpa using e2
   have k3:(m:Int)<=1000:=by simpa using e3
   exact⟨e1.symm,by omega,by omega⟩
  ·cases e
 ·cases e
theorem qay (hΦ:kcq ρ Φ.ops) {h i:AV} {id off m z:Nat} {q:Option Nat} (e:krv Φ h i=true) (hg:gm ρ h= .sl id off m z q):gm ρ i= .int .i64 ((m:Int) - 1)/\0<m/\m<=1000:=by
 unfold krv at e;split at e
 ·rename_i a ha;obtain⟨k1,k2,k3⟩:=kyv hΦ ha hg;split at e
  ·rename_i b hb;have e1:=hΦ _ (ke3 hb) {r:= .nil,h:= .nil,nx:=0};simp only[AOp.gmO,AOp.mapO,ya2,opA,ya3,gm,k1,kd0,ke1,kei] at e1;rw[←AV.beq_eq e];have:ya6 .i64 ((m:Int) - 1)=(m:Int) - 1:=by
    unfold ya6;simp[IntKind.signed,IntKind.bits];omega
   simp only[yai,if_false,if_true,yag,yal,yad,and_true,this] at e1;exact⟨e1.symm,k2,k3⟩
  ·cases e
 ·cases e
theorem HSim.pre {h g:T Blk} (H:HSim ρ h g) {id n c' ty:Nat} {vs:List AV} (e:h.get id=some (.pre n c' vs ty)):g.get (ρ.σ id)=some (.cells (kfb (gn ρ n - vs.length) (kep ρ c')++vs.map (gm ρ)) false ty):=H.get _ _ e
theorem k53 (G:Good ρ) (hΦ:kcq ρ Φ.ops) (hA:kdf ρ Φ.apps) (S:Sim ρ s c) {t sz by_:Nat} {d x:AV} {d' x':AO} (hd:d'.ev c=gm ρ d) (hx:x'.ev c=gm ρ x) (h:kpt Φ s t sz by_ d x=some (v,s1)): ∃ c1,opA c (.app t sz by_ d' x')=some (gm ρ v,c1)/\Sim ρ s1 c1:=by
 unfold kpt at h;split at h
 ·rename_i id j;split at h
  ·rename_i n c' v0 ty hg;split at h
   ·rename_i hc;obtain⟨rfl,rfl,rfl,hn⟩:=hc;split at h
    ·rename_i cb ht;split at h
     ·rename_i a k ha hk;cases h;obtain⟨⟨A,ca,B,g1,g2,g3,g4,g5,g6⟩,g7,g8,g9⟩:=klr hA hk;have gB':B=[[.im [] true]]:=by
       rcases g2 with⟨cb',g2⟩ | ⟨_,t',g2,_⟩
       ·simp only[gm,kdw,gmL,AV.im.injEq] at g2;exact g2.1.symm
       ·simp[gm] at g2
      subst gB';have hgn:gn ρ n=A.length:=kc9 hn (by simpa only[gm] using g1);have hkn:gn ρ k=A.length+1:=by rw[kc9 g7 g3,yac];rfl
      obtain⟨_,hp,_⟩:=kyv hΦ ha (by simp only[gm];rfl);rw[hgn] at hp;have he:=kwc G S ht (B:=[[.im [] true]]) (.inl ⟨cb,rfl⟩) (by simp);have hb:=S.heap.pre hg;simp only[yae,yah,yaw,hgn] at hb;generalize hP:kfb (A.length - 1) (kep ρ c')=P at hb;have hPl:P.length=A.length - 1:=by rw[←hP,kx4]
      simp only[yae] at g4 g5;have hm:A.length*1=(P++[gm ρ v0]).length:=by rw[yac,hPl];simp;omega
      refine⟨{c with h:=(c.h.put (ρ.σ id) none).put c.nx (some (.cells (P++[gm ρ v0]++[.im [] true]) false ty)),nx:=c.nx+1},?_,?_⟩
      ·simp only[opA,hx,he,hd,gm,hgn,hb];rw[iq ⟨by simp[AV.one],by decide⟩];simp only[ne_eq,not_true_eq_false,if_false,ya0,yai,and_false,yae,yak];rw[iq ⟨g4,g5⟩];rw[iq ⟨trivial,trivial,by rw[hm];exact Nat.le_refl _,trivial⟩,hm,ya1,S.nx,hkn]
      ·have hs:=(S.heap.kill id).put s.nx (.pre k c' [v0,.im [] true] ty);simp only[gB,yap,yar,yah,yaw,hkn,gm,kdw,S.nx] at hs;rw[show A.length+1 - (0+1+1)=A.length - 1 by omega,hP] at hs;refine⟨S.regs,?_,fun i=> ?_,yat S.lo⟩
       ·rw[List.append_assoc];exact hs
       ·show ρ.σ (s.nx+1+i)=c.nx+1+i;rw[show s.nx+1+i=s.nx+(1+i) by omega,S.nxs];omega
     ·cases h
    ·cases h
   ·cases h
  ·cases h
 ·cases h
theorem k54 (G:Good ρ) (hA:kdf ρ Φ.apps) (S:Sim ρ s c) {t sz by_:Nat} {d x:AV} {d' x':AO} (hd:d'.ev c=gm ρ d) (hx:x'.ev c=gm ρ x) (h:kpu Φ s t sz by_ d x=some (v,s1)): ∃ c1,opA c (.app t sz by_ d' x')=some (gm ρ v,c1)/\Sim ρ s1 c1:=by
 unfold kpu at h;split at h
 ·rename_i id j;split at h
  ·rename_i n ty hg;split at h
   ·rename_i hc;obtain⟨rfl,rfl,rfl,hn⟩:=hc;split at h
    ·rename_i v0 cb ht;split at h
     ·rename_i hone;split at h
      ·rename_i u hu;simp only[yaa,yad] at h;obtain⟨k,hk,rfl,rfl⟩:=h;obtain⟨⟨A,ca,B,g1,g2,g3,g4,g5,g6⟩,g7,g8,g9⟩:=klr hA hk;have gB':B=[[gm ρ u]]:=by
        rcases g2 with⟨cb',g2⟩ | ⟨_,t',g2,_⟩
        ·simp only[gm,kdw,gmL,AV.im.injEq] at g2;exact g2.1.symm
        ·simp[gm] at g2
       subst gB';obtain⟨els,e1,e2,e3⟩:=G.own _ g7;rw[g3] at e1;cases e1;rw[g8] at e2;simp only[gm] at g1;have hAl: ∀ e ∈ A,e.length=1:=fun e he=>e2 e (by simp[he])
       have hgn:gn ρ n=A.length:=kc9 hn g1;have hkn:gn ρ k=A.length+1:=by rw[kc9 g7 g3,yac];rfl
       have hfl:=kfc hAl;have he:=kwc G S ht (B:=[[gm ρ v0]]) (.inl ⟨cb,by simp only[gm,kdw,gmL]⟩) (by simp);have hb:=S.heap.own hg;rw[kdz g1] at hb;simp only[yae] at g4 g5;refine⟨{c with h:=(c.h.put (ρ.σ id) none).put c.nx (some (.cells (A.flatten++[gm ρ v0]) false ty)),nx:=c.nx+1},?_,?_⟩
       ·simp only[opA,hx,he,hd,gm,hgn,hb];rw[iq ⟨by simp only[yak,ya4,List.all_nil,Bool.and_true,kn7 G,hone],by decide⟩];simp only[ne_eq,not_true_eq_false,if_false,ya0,yai,and_false,yae,yak];rw[iq ⟨g4,g5⟩];rw[iq ⟨trivial,trivial,by rw[hfl];exact Nat.le_refl _,trivial⟩,←hfl,ya1,S.nx,hkn]
       ·have hs:=(S.heap.kill id).put s.nx (.pre k n [v0] ty);simp only[gB,yae,yah,yaw,hkn,kdz g1,yaz,S.nx] at hs;rw[kgd (by rw[hfl];omega)] at hs;refine⟨S.regs,hs,fun i=> ?_,yat S.lo⟩;show ρ.σ (s.nx+1+i)=c.nx+1+i;rw[show s.nx+1+i=s.nx+(1+i) by omega,S.nxs];omega
      ·cases h
     ·cases h
    ·cases h
   ·cases h
  ·cases h
 ·cases h
theorem kn8 (G:Good ρ) (hΦ:kcq ρ Φ.ops) (hA:kdf ρ Φ.apps) (hN:kfq ρ Φ.apns) (S:Sim ρ s c) {o:AOp} (hset:SetIn s o.looks) (hcl:o.cl=true) (h:opS Φ s o=some (v,s1)): ∃ c1,opA c o=some (gm ρ v,c1)/\Sim ρ s1 c1:=by
 unfold opS at h;split at h
 ·rename_i r hr;cases h;exact kz8 G S hset hcl hr
 ·split at h
  ·rename_i ty sz by_ d x;split at h
   ·rename_i r hr;cases h;simp only[AOp.looks] at hset;simp only[AOp.cl,yab] at hcl;exact k55 G hA S (kag S hset.left hcl.1) (kag S hset.right hcl.2) hr
   ·split at h
    ·rename_i r hr;cases h;simp only[AOp.looks] at hset;simp only[AOp.cl,yab] at hcl;exact k53 G hΦ hA S (kag S hset.left hcl.1) (kag S hset.right hcl.2) hr
    ·split at h
     ·rename_i r hr;cases h;simp only[AOp.looks] at hset;simp only[AOp.cl,yab] at hcl;exact k54 G hA S (kag S hset.left hcl.1) (kag S hset.right hcl.2) hr
     ·split at h
      ·rename_i r hr;cases h;exact⟨c,kq2 S hΦ hset hcl hr,S⟩
      ·cases h
  ·rename_i ty sz by_ z d x;simp only[AOp.looks] at hset;simp only[AOp.cl,yab] at hcl;exact k58 G hN S (kag S hset.left hcl.2.1) (kag S hset.right hcl.2.2) h
  ·simp only[AOp.looks] at hset;simp only[AOp.cl] at hcl;exact qn7 G hA S (kag S hset hcl) h
  ·split at h
   ·rename_i r hr;cases h;exact⟨c,kq2 S hΦ hset hcl hr,S⟩
   ·split at h
    ·rename_i u hu;simp only[yaa,yad] at h;obtain⟨r,hr,rfl,rfl⟩:=h;simp only[AOp.looks] at hset;simp only[AOp.cl] at hcl;exact⟨c,k6n G S (kag S hset hcl) hu (hΦ _ (ke3 hr) c),S⟩
    ·cases h
  ·simp only[AOp.looks] at hset;simp only[AOp.cl,yab] at hcl;exact qq1 G hΦ hA S (kag S hset.left hcl.1) (kag S hset.right hcl.2) h
  ·rename_i t a b;split at h
   ·rename_i q hq;cases h;simp only[AOp.looks] at hset;simp only[AOp.cl,yab] at hcl;have e1:=kag S hset.left hcl.1;rw[kpf hΦ hq] at e1;refine⟨c,?_,S⟩;simp only[opA,e1];cases q <;> simp[kag S hset.right.left hcl.2.1,kag S hset.right.right hcl.2.2]
   ·cases h
  ·split at h
   ·rename_i r hr;cases h;exact⟨c,kq2 S hΦ hset hcl hr,S⟩
   ·cases h
theorem Sim.set (S:Sim ρ s c) (d:Option Nat) (v:AV):Sim ρ (s.set d v) (c.set d (gm ρ v)):=by
 cases d with
 |none=>exact S
 |some d=>
  refine⟨fun t u hu=> ?_,S.heap,S.nxs,S.lo⟩;simp only[St.set,T.get_put] at hu ⊢;by_cases e:d=t
  ·rw[iq e] at hu ⊢;cases hu;rfl
  ·rw[ir e] at hu ⊢;exact S.regs t u hu
theorem Sim.inits {args:List AV} {h g:T Blk} {n m:Nat} (H:HSim ρ h g) (hN: ∀ i,ρ.σ (n+i)=m+i) (hlo:ρ.lo<=n):Sim ρ {r:=inits 0 args .nil,h:=h,nx:=n} {r:=inits 0 (args.map (gm ρ)) .nil,h:=g,nx:=m}:=by
 refine⟨fun t u hu=> ?_,H,hN,hlo⟩;simp only[ki2,Nat.zero_le,true_and,yas,Nat.sub_zero,yan,T.get_nil] at hu ⊢;by_cases e:t<args.length
 ·rw[iq e] at hu ⊢;rw[List.getElem?_map,hu];rfl
 ·rw[ir e] at hu;cases hu
theorem ko4 (S:Sim ρ s c) {fn:AFn} (h:kgq.resS fn s=some v):kcg fn c=some (gm ρ v):=by
 unfold kgq.resS at h;split at h
 ·rename_i hset;have hset:=khp hset;have one: ∀ {p:Nat×Option (Bool×Nat)} {u:AV},(∃ x,s.r.get p.1=some x)->kdi s p=some u->kdi c p=some (gm ρ u):=fun {p u} ⟨x,hx⟩ hu=>by
   have hsx:s.rg p.1=x:=by simp[St.rg,hx]
   have hcx:c.rg p.1=gm ρ x:=by simp[St.rg,S.regs _ _ hx]
   unfold kdi at hu ⊢;rw[hsx] at hu;rw[hcx];split at hu
   ·cases hu;rfl
   ·split at hu
    ·rename_i cs hr;rw[k3q S.heap hr];exact klw hu
    ·cases hu
  have key: ∀ {l:List (Nat×Option (Bool×Nat))} {us:List AV},SetIn s (l.map (·.1))->mapO (kdi s) l=some us->mapO (kdi c) l=some (us.map (gm ρ)):=by
   intro l
   induction l with
   |nil=>intro us _ e;cases e;rfl
   |cons p l ih=>
    intro us hs e;unfold mapO at e ⊢;split at e
    ·cases e
    ·rename_i u hu;split at e
     ·cases e
     ·rename_i us' hus;cases e;rw[one (hs p.1 (by simp)) hu,ih (fun t ht=>hs t (by simp at ht ⊢;exact .inr ht)) hus];rfl
  unfold kcg at h ⊢;split at h
  ·rename_i u hu;cases h;rw[key hset hu];rfl
  ·rename_i us hne hu;cases h;rw[key hset hu];cases us with
   |nil=>rfl
   |cons a us=>
    cases us with
    |nil=>exact absurd rfl (hne a)
    |cons b us=>simp only[yah,gm,gmL,kca]
  ·cases h
 ·cases h
end
end Go.Proofs.Hz
