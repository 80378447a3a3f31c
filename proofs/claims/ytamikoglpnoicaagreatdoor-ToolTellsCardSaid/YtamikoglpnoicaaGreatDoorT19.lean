/-
  Symbolic runs are sound (last part): calls, regions, code.
  Conditions: none.
-/
import Derived.Test.YtamikoglpnoicaaGreatDoorT18
namespace Go.Proofs.Hz
open AO renaming ev->yaq
open Bool renaming and_eq_true->yaa,false_eq_true->yac,not_eq_true'->yaf,and_true->yan
open List renaming length_singleton->yab,mem_cons_of_mem->yae,all_eq_true->yai,take_left'->yaj,drop_left'->yak,map_cons->yal,map_nil->yap
open Nat renaming le_add_right->yad,zero_add->yag,le_trans->yah,add_assoc->yam,succ_mul->yao
section
variable {ρ:Val} {s s1 c:St} {v:AV} {Φ:Facts} {F:Nat->Option AFn} {KS K:Nat->List AV->Option AV} {exs exc:AC->St->Option (AE×St)}
def kin (ρ:Val) (exs exc:AC->St->Option (AE×St)):Prop:=∀ (k:AC) (s:St) (e:AE) (s1 c:St),exs k s=some (e,s1)->Sim ρ s c-> ∃ c1,exc k c=some (e,c1)/\Sim ρ s1 c1
def kil (ρ:Val) (KS K:Nat->List AV->Option AV):Prop:=∀ (f:Nat) (as:List AV) (r:AV),KS f as=some r->K f (as.map (gm ρ))=some (gm ρ r)
theorem kwv (G:Good ρ) (l:List AV):(l.map (gm ρ)).any (AV.hasSl kbu)=l.any (AV.hasSl kbu):=by
 rw[List.any_map];congr 1;funext x;exact kyg G kbu x
theorem k6u (G:Good ρ) (hA:kdf ρ Φ.apps) (hK:kil ρ KS K) (hE:kin ρ exs exc) (S:Sim ρ s c) {f:Nat} {args:List AV} (h:kgq Φ F KS exs f args s=some (v,s1)): ∃ c1,kb1 F K exc f (args.map (gm ρ)) c=some (gm ρ v,c1)/\Sim ρ s1 c1:=by
 unfold kgq at h;split at h
 ·cases h
 ·rename_i fn hF;split at h
  ·rename_i hp;split at h
   ·cases h
   ·rename_i as has;split at h
    ·cases h
    ·rename_i r hr;have h1:mapO (frz c.h kbu) (args.map (gm ρ))=some (as.map (gm ρ)):=klt (fun x _ y hy=>k81 G S.heap hA hy) has;simp only[kb1,hF,hp,if_true,h1,hK _ _ _ hr,k8t G,kwv G];split at h
     ·rename_i hfl;rw[iq hfl];cases h;exact⟨c,rfl,S⟩
     ·rename_i hfl;rw[ir hfl];split at h
      ·rename_i h2 hz;cases h;obtain⟨g',h3,h4⟩:=krf (f:=kge kbu) (f':=fzs kbu) (fun H e=>kya G H e) S.heap hz;simp only[h3];exact⟨_,rfl,S.heap' h4⟩
      ·cases h
  ·rename_i hp;have S0:Sim ρ {r:=inits 0 args .nil,h:=s.h,nx:=s.nx} {r:=inits 0 (args.map (gm ρ)) .nil,h:=c.h,nx:=c.nx}:=by
    exact Sim.inits S.heap S.nxs S.lo
   split at h
   ·rename_i s2 hx;obtain⟨c2,h1,h2⟩:=hE _ _ _ _ _ hx S0;split at h
    ·rename_i u hu;cases h;simp only[kb1,hF,hp,if_false,yac,h1,ko4 h2 hu];exact⟨_,rfl,⟨S.regs,h2.heap,h2.nxs,h2.lo⟩⟩
    ·cases h
   ·rename_i s2 hx;obtain⟨c2,h1,h2⟩:=hE _ _ _ _ _ hx S0;split at h
    ·rename_i u hu;cases h;simp only[kb1,hF,hp,if_false,yac,h1,ko4 h2 hu];exact⟨_,rfl,⟨S.regs,h2.heap,h2.nxs,h2.lo⟩⟩
    ·cases h
   ·cases h
theorem k4l (G:Good ρ) (hΦ:kcq ρ Φ.ops) (hA:kdf ρ Φ.apps) (hZ:kfq ρ Φ.apns) (hK:kil ρ KS K) (hE:kin ρ exs exc) (S:Sim ρ s c) {o:AOp} (h:kku Φ F KS exs o s=some (v,s1)): ∃ c1,kbi F K exc o c=some (gm ρ v,c1)/\Sim ρ s1 c1:=by
 unfold kku at h;split at h
 ·rename_i hcond;simp only[yaa] at hcond;have hset:=khp hcond.1;have hcl:=hcond.2;split at h
  ·rename_i f as;simp only[AOp.looks] at hset;simp only[AOp.cl,yaa] at hcl;have e1:=kag S hset.left hcl.1;have e2:=kj5 S hset.right hcl.2;split at h
   ·rename_i g first caps hf
    rw[hf] at e1;simp only[gm] at e1;have:=k6u G hA hK hE S h;simp only[kbi,keu,e1,e2,kca,←List.map_append];exact this
   ·cases h
  ·rename_i hne;obtain⟨c1,h1,h2⟩:=kn8 G hΦ hA hZ S hset hcl h;refine⟨c1,?_,h2⟩;unfold kbi;split
   ·rename_i f as;exact absurd rfl (hne f as)
   ·exact h1
 ·cases h
theorem k3p {sz:Nat}: ∀ {els:List (List AV)},(∀ e ∈ els,e.length=sz)-> ∀ {q:Nat} {e:List AV},els[q]? =some e->kb2 els.flatten (q*sz) sz=some e
 | [],_,q,e,h=>by simp at h
 |x::xs,hl,q,e,h=>by
  have hx:x.length=sz:=hl x (by simp);have hxs:=kfc (els:=xs) fun y hy=>hl y (yae _ hy)
  unfold kb2;rw[List.flatten_cons,List.length_append,hx];cases q with
  |zero=>
   simp only[List.getElem?_cons_zero,Option.some.injEq] at h;subst h;rw[iq (by omega),Nat.zero_mul,List.drop_zero,←hx,yaj rfl]
  |succ q=>
   simp only[List.getElem?_cons_succ] at h;have ih:=k3p (fun y hy=>hl y (yae _ hy)) h;unfold kb2 at ih;split at ih
   ·rename_i hle;rw[iq (by rw[yao];omega),yao,Nat.add_comm (q*sz) sz,←hx,←List.drop_drop,yak rfl,hx];exact ih
   ·cases ih
theorem k87 (G:Good ρ) (hΦ:kcq ρ Φ.ops) (S:Sim ρ s c) {sz:Nat} {x i:AO} {g:Bool} (hset:SetIn s (AOp.iaS sz x i).looks) (hcl:(AOp.iaS sz x i).cl=true) (h:krd Φ s sz x i g=some v):
  ∃ p,opA c (.iaS sz x i)=some (p,c)/\ ∀ r,opA {c with r:=r} (.load g sz (.c p))=some (gm ρ v,{c with r:=r}):=by
 simp only[AOp.looks] at hset;simp only[AOp.cl,yaa] at hcl;unfold krd at h;split at h
 ·rename_i id j z hx;split at h
  ·rename_i hc;obtain⟨rfl,hj,hjs⟩:=hc;split at h
   ·rename_i k fz hk;split at h
    ·rename_i hkj;subst hkj;split at h
     ·rename_i cells hl;split at h
      ·rename_i hlen;obtain⟨els,he,hels,_⟩:=G.own _ hj;have e1:=kag S hset.left hcl.1;have e2:=kag S hset.right hcl.2;rw[hx] at e1;simp only[gm,kc9 hj he] at e1;obtain⟨iv,hiv⟩: ∃ iv,i.ev s=iv:=⟨_,rfl⟩;rw[hiv] at hl e2;have hf:=hΦ _ (ke3 hl) {r:= .nil,h:= .nil,nx:=0};simp only[AOp.gmO,AOp.mapO,AO.gmO,opA,yaq,gm,he] at hf;split at hf
       ·rename_i q hq;split at hf
        ·rename_i e hge;split at hf
         ·cases hf;have hlt:q<els.length:=(List.getElem?_eq_some_iff.1 hge).1;refine⟨.ptr (ρ.σ id) (0+q*z),?_,fun r=> ?_⟩
          ·simp only[opA,e2,hq,e1,hlt,and_self,if_true]
          ·have hh:=S.heap.get id _ hk;simp only[gB,kdz he] at hh;rw[hjs] at hels;simp only[opA,yaq,rdH,hh,yag,k3p hels hge];rw[kca,klw h];rfl
         ·cases hf
        ·cases hf
       ·cases hf
      ·cases h
     ·cases h
    ·cases h
   ·cases h
  ·cases h
 ·cases h
theorem k0p (hΦ:kcq ρ Φ.ops) (S:Sim ρ s c) {x i:AO} (hset:SetIn s (AOp.iaS 1 x i).looks) (hcl:(AOp.iaS 1 x i).cl=true) {id n k ty:Nat} (h:kod Φ s x i=some (id,n,k,v,ty)):
  ∃ P,opA c (.iaS 1 x i)=some (.ptr (ρ.σ id) (0+P.length*1),c)/\c.h.get (ρ.σ id)=some (.cells (P++[gm ρ v]) false ty)/\P=kfb (gn ρ n - 1) (kep ρ k):=by
 simp only[AOp.looks] at hset;simp only[AOp.cl,yaa] at hcl;unfold kod at h;split at h
 ·rename_i id' j hx;split at h
  ·rename_i n' c' v' ty' hg;split at h
   ·rename_i hc;obtain⟨rfl,hl⟩:=hc;cases h;have e1:=kag S hset.left hcl.1;have e2:=kag S hset.right hcl.2;rw[hx] at e1;obtain⟨k1,k2,k3⟩:=qay hΦ hl (id:=ρ.σ id) (off:=0) (m:=gn ρ n) (z:=1) (q:=none) (by simp only[gm]);rw[k1] at e2;simp only[gm] at e1;have hb:=S.heap.pre hg;simp only[yab,yal,yap] at hb;refine⟨_,?_,hb,rfl⟩;have hq:kcz (.int .i64 ((gn ρ n:Int) - 1))=some (gn ρ n - 1):=by
     simp only[kcz];rw[iq (by omega)];congr 1;omega
    simp only[opA,e2,hq,e1,kx4];rw[iq ⟨by omega,trivial⟩]
   ·cases h
  ·cases h
 ·cases h
theorem qmw (P:List AV) (x:AV):kb2 (P++[x]) P.length 1=some [x]:=by
 unfold kb2;rw[iq (by simp),yak rfl];rfl
theorem k88 (G:Good ρ) (hΦ:kcq ρ Φ.ops) (S:Sim ρ s c) {sz:Nat} {x i:AO} {g:Bool} (hset:SetIn s (AOp.iaS sz x i).looks) (hcl:(AOp.iaS sz x i).cl=true) (h:kre Φ s sz x i g=some v):
  ∃ p,opA c (.iaS sz x i)=some (p,c)/\ ∀ r,opA {c with r:=r} (.load g sz (.c p))=some (gm ρ v,{c with r:=r}):=by
 unfold kre at h;split at h
 ·rename_i v' hv;cases h;exact k87 G hΦ S hset hcl hv
 ·split at h
  ·rename_i hc;obtain⟨rfl,rfl⟩:=hc;split at h
   ·rename_i id n k v' ty hp;split at h
    ·cases h;obtain⟨P,h1,h2,_⟩:=k0p hΦ S hset hcl hp;refine⟨_,h1,fun r=> ?_⟩;simp only[opA,yaq,rdH,h2,yag,Nat.mul_one,qmw];rfl
    ·cases h
   ·cases h
  ·cases h
theorem kz6 (G:Good ρ) (hΦ:kcq ρ Φ.ops) (hA:kdf ρ Φ.apps) (hZ:kfq ρ Φ.apns) (hK:kil ρ KS K) (hE:kin ρ exs exc) {o:AOper} (S:Sim ρ s c) (h:kn6 Φ F KS exs o s=some s1): ∃ c1,(∀ os,kb7 F K exc (o::os) c=kb7 F K exc os c1)/\Sim ρ s1 c1:=by
 unfold kn6 at h;split at h
 ·rename_i hw;split at h
  ·rename_i v s2 h1;cases h;obtain⟨c2,h2,h3⟩:=k4l G hΦ hA hZ hK hE S h1;exact⟨_,fun os=>by simp only[kb7,ke6 hΦ S hw,if_true,h2],h3.set o.dst v⟩
  ·cases h
 ·rename_i hw;cases h;exact⟨c.set o.dst (.tup []),fun os=>by simp only[kb7,ke6 hΦ S hw,yac,if_false],S.set o.dst (.tup [])⟩
 ·cases h
theorem kx8 (G:Good ρ) (hΦ:kcq ρ Φ.ops) {o o2:AOper} (S:Sim ρ s c) (h:kli Φ s o o2=some s1): ∃ p u,kb8 c o.guard=true/\(∃ sz x i,o.op= .iaS sz x i)/\opA c o.op=some (p,c)/\
  kb8 (c.set o.dst p) o2.guard=true/\(∃ g n q,o2.op= .load g n q)/\opA (c.set o.dst p) o2.op=some (u,c.set o.dst p)/\Sim ρ s1 ((c.set o.dst p).set o2.dst u):=by
 unfold kli at h;split at h
 ·rename_i sz x i d g n d' ho hd ho2;split at h
  ·rename_i hc;obtain⟨rfl,rfl,hsc,hg⟩:=hc;simp only[yaa] at hsc;split at h
   ·rename_i hw1 hw2;split at h
    ·rename_i v hv;cases h;obtain⟨p,h1,h2⟩:=k88 G hΦ S (khp hsc.1) hsc.2 hv;have S1:Sim ρ {s with r:=s.r.put d' none} (c.set (some d') p):=⟨fun t u hu=>by
      rw[T.get_put] at hu;split at hu
      ·cases hu
      ·rename_i hne;show(c.r.put d' (some p)).get t=_;rw[T.get_put,ir hne];exact S.regs t u hu,S.heap,S.nxs,S.lo⟩
     have hw3:kb8 (c.set (some d') p) o2.guard=true:=by
      have:=ke6 hΦ S hw2;unfold kb8 at this ⊢;cases hgd:o2.guard with
      |none=>rfl
      |some q=>
       obtain⟨t,b⟩:=q;rw[hgd] at this hg;simp only[kn0,yaf,beq_eq_false_iff_ne,ne_eq] at hg;simp only at this ⊢;have hne: ¬d'=t:=fun e=>hg e.symm
       have e:(c.set (some d') p).rg t=c.rg t:=by
        show((c.r.put d' (some p)).get t).getD _=_;rw[T.get_put,ir hne];rfl
       rw[e];exact this
     refine⟨p,gm ρ v,ke6 hΦ S hw1,⟨_,_,_,ho⟩,by rw[ho];exact h1,by rw[hd];exact hw3,⟨_,_,_,ho2⟩,?_,by rw[hd];exact S1.set o2.dst v⟩;rw[ho2,hd];have:=h2 (c.r.put d' (some p));simp only[opA,yaq] at this;simp only[opA,yaq];have e:(c.set (some d') p).rg d'=p:=by
      show((c.r.put d' (some p)).get d').getD _=_;rw[T.get_put,iq rfl];rfl
     rw[e];exact this
    ·cases h
   ·cases h
  ·cases h
 ·cases h
theorem k89 (G:Good ρ) (hΦ:kcq ρ Φ.ops) {o o2:AOper} (S:Sim ρ s c) (h:kli Φ s o o2=some s1): ∃ c1,(∀ os,kb7 F K exc (o::o2::os) c=kb7 F K exc os c1)/\Sim ρ s1 c1:=by
 obtain⟨p,u,h1,⟨sz,x,i,ho⟩,h2,h3,⟨g,n,q,ho2⟩,h4,h5⟩:=kx8 G hΦ S h;refine⟨_,fun os=> ?_,h5⟩;have e3:kbi F K exc o.op c=some (p,c):=by rw[ho] at h2 ⊢;exact h2
 have e4:kbi F K exc o2.op (c.set o.dst p)=some (u,c.set o.dst p):=by rw[ho2] at h4 ⊢;exact h4
 simp only[kb7,h1,if_true,e3,h3,e4]
theorem kx7 (G:Good ρ) (hΦ:kcq ρ Φ.ops) {o o2:AOper} (S:Sim ρ s c) (h:klj Φ s o o2=some s1): ∃ p h',kb8 c o.guard=true/\(∃ sz x i,o.op= .iaS sz x i)/\opA c o.op=some (p,c)/\
  kb8 (c.set o.dst p) o2.guard=true/\(∃ n a y,o2.op= .store n a y)/\opA (c.set o.dst p) o2.op=some (.tup [],{c.set o.dst p with h:=h'})/\Sim ρ s1 (({c.set o.dst p with h:=h'}:St).set o2.dst (.tup []))/\HSim ρ s1.h h':=by
 unfold klj at h;split at h
 ·rename_i sz x i d n d' y ho hd ho2;split at h
  ·rename_i hc;obtain⟨rfl,rfl,rfl,hsc,hsy,hny,hg⟩:=hc;simp only[yaa] at hsc hsy;split at h
   ·rename_i hw1 hw2;split at h
    ·rename_i id n k v' ty hp;split at h
     ·rename_i hone;cases h;obtain⟨P,h1,h2,hP⟩:=k0p hΦ S (khp hsc.1) hsc.2 hp;have S1:Sim ρ {s with r:=s.r.put d' none} (c.set (some d') (.ptr (ρ.σ id) (0+P.length*1))):=⟨fun t u hu=>by
       rw[T.get_put] at hu;split at hu
       ·cases hu
       ·rename_i hne;show(c.r.put d' _).get t=_;rw[T.get_put,ir hne];exact S.regs t u hu,S.heap,S.nxs,S.lo⟩
      have hw3:kb8 (c.set (some d') (.ptr (ρ.σ id) (0+P.length*1))) o2.guard=true:=by
       have:=ke6 hΦ S hw2;unfold kb8 at this ⊢;cases hgd:o2.guard with
       |none=>rfl
       |some q=>
        obtain⟨t,b⟩:=q;rw[hgd] at this hg;simp only[kn0,yaf,beq_eq_false_iff_ne,ne_eq] at hg;simp only at this ⊢;have hne: ¬d'=t:=fun e=>hg e.symm
        have e:(c.set (some d') (.ptr (ρ.σ id) (0+P.length*1))).rg t=c.rg t:=by
         show((c.r.put d' _).get t).getD _=_;rw[T.get_put,ir hne];rfl
        rw[e];exact this
      have hy:y.ev (c.set (some d') (.ptr (ρ.σ id) (0+P.length*1)))=gm ρ (y.ev s):=by
       rw[←kag S (khp hsy.1) hsy.2];cases y with
       |c v=>rfl
       |t m=>
        have hne: ¬d'=m:=fun e=>by subst e;simp[AO.tm] at hny
        show((c.r.put d' _).get m).getD _=_;rw[T.get_put,ir hne];rfl
      have hyc:(gm ρ (y.ev s)).cells=[gm ρ (y.ev s)]:=by
       have h5:(gm ρ (y.ev s)).one=true:=by rw[kn7 G];exact hone
       generalize gm ρ (y.ev s)=u at h5;cases u <;> first |rfl |simp[AV.one] at h5
      have hH:=S.heap.put id (.pre n k [y.ev s] ty);simp only[gB,yab,yal,yap,←hP] at hH;refine⟨_,c.h.put (ρ.σ id) (some (.cells (P++[gm ρ (y.ev s)]) false ty)),ke6 hΦ S hw1,⟨_,_,_,ho⟩,by rw[ho];exact h1,by rw[hd];exact hw3,⟨_,_,_,ho2⟩,?_,?_,by cases o2.dst <;> exact hH⟩
      ·rw[ho2,hd];have e:(c.set (some d') (.ptr (ρ.σ id) (0+P.length*1))).rg d'= .ptr (ρ.σ id) (0+P.length*1):=by
        show((c.r.put d' _).get d').getD _=_;rw[T.get_put,iq rfl];rfl
       have hw:wrA c.h (.ptr (ρ.σ id) (0+P.length*1)) [gm ρ (y.ev s)]=some (c.h.put (ρ.σ id) (some (.cells (P++[gm ρ (y.ev s)]) false ty))):=by
        simp only[wrA,wrH,h2,yag,Nat.mul_one,yab];rw[iq ⟨by simp,by simp[kn7 G,hone]⟩];simp only[splice,yab,yaj rfl];rw[List.drop_eq_nil_of_le (by simp),List.append_nil]
       show(if(y.ev _).cells.length=1 then(wrA c.h ((c.set (some d') (.ptr (ρ.σ id) (0+P.length*1))).rg d') (y.ev _).cells).map _ else none)=_;rw[hy,hyc,iq (show [gm ρ (y.ev s)].length=1 from rfl),e,hw];rfl
      ·rw[hd];have S2:Sim ρ {s with r:=s.r.put d' none,h:=s.h.put id (some (.pre n k [y.ev s] ty))} {c.set (some d') (.ptr (ρ.σ id) (0+P.length*1)) with h:=c.h.put (ρ.σ id) (some (.cells (P++[gm ρ (y.ev s)]) false ty))}:=⟨S1.regs,hH,S.nxs,S.lo⟩;exact S2.set o2.dst (.tup [])
     ·cases h
    ·cases h
   ·cases h
  ·cases h
 ·cases h
theorem k86 (G:Good ρ) (hΦ:kcq ρ Φ.ops) {o o2:AOper} (S:Sim ρ s c) (h:klj Φ s o o2=some s1): ∃ c1,(∀ os,kb7 F K exc (o::o2::os) c=kb7 F K exc os c1)/\Sim ρ s1 c1:=by
 obtain⟨p,h',h1,⟨sz,x,i,ho⟩,h2,h3,⟨n,a,y,ho2⟩,h4,h5,_⟩:=kx7 G hΦ S h;refine⟨_,fun os=> ?_,h5⟩;have e3:kbi F K exc o.op c=some (p,c):=by rw[ho] at h2 ⊢;exact h2
 have e4:kbi F K exc o2.op (c.set o.dst p)=some (.tup [],{c.set o.dst p with h:=h'}):=by rw[ho2] at h4 ⊢;exact h4
 simp only[kb7,h1,if_true,e3,h3,e4]
theorem ko2 (G:Good ρ) (hΦ:kcq ρ Φ.ops) (hA:kdf ρ Φ.apps) (hZ:kfq ρ Φ.apns) (hK:kil ρ KS K) (hE:kin ρ exs exc): ∀ {l:List AOper} {s s1 c:St},Sim ρ s c->kjm Φ F KS exs l s=some s1-> ∃ c1,kb7 F K exc l c=some c1/\Sim ρ s1 c1
 | [],s,s1,c,S,h=>by cases h;exact⟨c,rfl,S⟩
 | [o],s,s1,c,S,h=>by
   unfold kjm at h;obtain⟨c1,h1,h2⟩:=kz6 G hΦ hA hZ hK hE S h;exact⟨c1,by rw[h1];rfl,h2⟩
 |o::o2::os,s,s1,c,S,h=>by
  unfold kjm at h;split at h
  ·rename_i s2 hf;obtain⟨c1,h1,h2⟩:=k89 (F:=F) (K:=K) (exc:=exc) G hΦ S hf;obtain⟨c3,h4,h5⟩:=ko2 G hΦ hA hZ hK hE h2 h;exact⟨c3,by rw[h1,h4],h5⟩
  ·split at h
   ·rename_i s2 hf;obtain⟨c1,h1,h2⟩:=k86 (F:=F) (K:=K) (exc:=exc) G hΦ S hf;obtain⟨c3,h4,h5⟩:=ko2 G hΦ hA hZ hK hE h2 h;exact⟨c3,by rw[h1,h4],h5⟩
   ·split at h
    ·rename_i s2 ho;obtain⟨c1,h1,h2⟩:=kz6 G hΦ hA hZ hK hE S ho;obtain⟨c3,h4,h5⟩:=ko2 G hΦ hA hZ hK hE h2 h;exact⟨c3,by rw[h1,h4],h5⟩
    ·cases h
inductive HistSim (ρ:Val):List (T Blk)->List (T Blk)->Prop
 |nil:HistSim ρ [] []
 |cons {a b:T Blk} {as bs:List (T Blk)} (h:HSim ρ a b) (t:HistSim ρ as bs):HistSim ρ (a::as) (b::bs)
theorem HistSim.length: ∀ {a b:List (T Blk)},HistSim ρ a b->a.length=b.length
 |_,_,.nil=>rfl
 |_,_,.cons _ t=>by simp[t.length]
theorem HistSim.take: ∀ {a b:List (T Blk)} (n:Nat),HistSim ρ a b->HistSim ρ (a.take n) (b.take n)
 |_,_,0,_=>by simp only[List.take_zero];exact .nil
 |_,_,_+1,.nil=>by simp only[List.take_nil];exact .nil
 |_,_,n+1,.cons h t=>by simp only[List.take_succ_cons];exact .cons h (t.take n)
theorem HistSim.tail: ∀ {a b:List (T Blk)},HistSim ρ a b->HistSim ρ (a.drop 1) (b.drop 1)
 |_,_,.nil=> .nil
 |_,_,.cons _ t=>t
theorem HistSim.mem: ∀ {a b:List (T Blk)},HistSim ρ a b-> ∀ y ∈ b,∃ x ∈ a,HSim ρ x y
 |_,_,.nil,_,h=>by cases h
 |_,_,.cons h t,y,hy=>by
  rcases List.mem_cons.1 hy with rfl |hy
  ·exact⟨_,by simp,h⟩
  ·obtain⟨x,hx,hxy⟩:=t.mem y hy;exact⟨x,by simp[hx],hxy⟩
theorem HistSim.seen {a b:List (T Blk)} (h:HistSim ρ a b) (j:ADr):HistSim ρ (j.seen a) (j.seen b):=by
 unfold ADr.seen;split
 ·exact h.take _
 ·exact h.tail.take _
theorem kxm (G:khc ρ) (hΦ:kcq ρ Φ.ops) (hA:kdf ρ Φ.apps) (hZ:kfq ρ Φ.apns) (hK:kil ρ KS K) (hE:kin ρ exs exc) (S:Sim ρ s c) {nx0 nc0:Nat} (hN: ∀ i,ρ.σ (nx0+i)=nc0+i) (hlo:ρ.lo<=nx0) {hist hist1 hc:List (T Blk)} (H:HistSim ρ hist hc) {o:ADr} (h:kmy Φ F KS exs nx0 hist o s=some (v,s1,hist1)):
  ∃ c1 hc1,kav F K exc nc0 hc o c=some (gm ρ v,c1,hc1)/\Sim ρ s1 c1/\HistSim ρ hist1 hc1:=by
 unfold kmy at h;split at h
 ·rename_i hw;split at h
  ·rename_i hcond;simp only[yaa] at hcond;have hset:=khp hcond.1;have hcl:=hcond.2;rcases ki5 o.k with hk |hk |hk |hk
   ·simp only[hk] at h;split at h
    ·rename_i hq;split at h
     ·rename_i u s2 h1;cases h;obtain⟨c1,h2,h3⟩:=kn8 G.1 hΦ hA hZ S hset hcl h1;exact⟨c,hc,by simp only[kav,ke6 hΦ S hw,if_true,hk,hq,h2],S,H⟩
     ·cases h
    ·rename_i hq;split at h
     ·rename_i f as hop;rw[hop] at hset hcl;simp only[AOp.looks] at hset;simp only[AOp.cl,yaa] at hcl;have e1:=kag S hset.left hcl.1;have e2:=kj5 S hset.right hcl.2;split at h
      ·rename_i g first caps hf
       rw[hf] at e1;simp only[gm] at e1;split at h
       ·rename_i fn hF;split at h
        ·rename_i hp;split at h
         ·rename_i xs hx;split at h
          ·rename_i r hr;cases h;have h1:mapO (frz c.h kbu) ((first++as.map (yaq s)++caps).map (gm ρ))=some (xs.map (gm ρ)):=klt (fun x _ y hy=>ki0 G.1 S.heap hy) hx;have e3:first.map (gm ρ)++(as.map (yaq s)).map (gm ρ)++caps.map (gm ρ)=(first++as.map (yaq s)++caps).map (gm ρ):=by simp
           refine⟨c,hc,?_,S,H⟩;unfold kav;rw[ke6 hΦ S hw,iq rfl];simp only[hk];rw[ir hq,hop];simp only[e1,e2,kca,hF];rw[e3,kwv G.1,iq hp];simp only[h1,hK _ _ _ hr]
          ·cases h
         ·cases h
        ·cases h
       ·cases h
      ·cases h
     ·cases h
   ·simp only[hk] at h;split at h
    ·rename_i hn;split at h
     ·rename_i u s2 h1;cases h;have S':Sim ρ {s with nx:=nx0+o.i} {c with nx:=nc0+o.i}:=⟨S.regs,S.heap,fun i=>by
       show ρ.σ (nx0+o.i+i)=nc0+o.i+i;rw[yam,hN];omega,yah hlo (yad _ _)⟩
      obtain⟨c1,h2,h3⟩:=kz8 G.1 S' hset hcl h1;simp only[yaa,Option.isNone_iff_eq_none] at hn;have hg:c.h.get (nc0+o.i)=none:=by
       have:=S.heap.absent (nx0+o.i) (yah hlo (yad _ _)) hn.2;rwa[hN] at this
      refine⟨{c1 with nx:=c.nx},hc,?_,⟨h3.regs,h3.heap,S.nxs,S.lo⟩,H⟩;simp only[kav,ke6 hΦ S hw,if_true,hk,hn.1,hg,Option.isNone_none,Bool.and_self,h2]
     ·cases h
    ·cases h
   ·have key: ∀ {u:AV} {s2:St},kku Φ F KS exs o.o.op s=some (u,s2)-> ∃ c2,kbi F K exc o.o.op c=some (gm ρ u,c2)/\Sim ρ s2 c2:=fun h=>k4l G.1 hΦ hA hZ hK hE S h
    rcases hk with hk |hk
    ·simp only[hk] at h;split at h
     ·rename_i u s2 h1;cases h;obtain⟨c2,h2,h3⟩:=key h1;exact⟨c2,_,by simp only[kav,ke6 hΦ S hw,if_true,hk,h2],h3,.cons h3.heap H⟩
     ·cases h
    ·simp only[hk] at h;split at h
     ·rename_i hcalm;split at h
      ·rename_i u s2 h1;cases h;obtain⟨c2,h2,h3⟩:=key h1;exact⟨c2,_,by simp only[kav,ke6 hΦ S hw,if_true,hk,hcalm,h2],h3,.cons h3.heap H⟩
      ·cases h
     ·cases h
   ·obtain⟨k,hk'⟩: ∃ k,o.k=k+4:=⟨o.k - 4,by omega⟩;simp only[hk'] at h;split at h
    ·rename_i hr;split at h
     ·rename_i u s2 h1;split at h
      ·rename_i hb;cases h;obtain⟨c1,h2,h3⟩:=kn8 G.1 hΦ hA hZ S hset hcl h1;simp only[yaa,decide_eq_true_eq] at hb;have hall:(o.seen hc).all (kgm c o.o.op (gm ρ v))=true:=yai.2 fun y hy=>by
        obtain⟨x,hx,hxy⟩:=(H.seen o).mem y hy;have h4:=yai.1 hb.2 x hx;unfold k42 at h4;split at h4
        ·rename_i u' s3 h5;have:=AV.beq_eq h4;subst this;obtain⟨c3,h6,_⟩:=kn8 G.1 hΦ hA hZ (S.heap' hxy) hset hcl h5;unfold kgm;rw[h6];exact kpz G h4
        ·cases h4
       refine⟨c,hc,?_,S,H⟩;unfold kav;rw[ke6 hΦ S hw,iq rfl];simp only[hk'];rw[iq hr,h2];simp only[hall,yan];rw[iq (by rw[←H.length];exact decide_eq_true hb.1)]
      ·cases h
     ·cases h
    ·cases h
  ·cases h
 ·rename_i hw;cases h;refine⟨c,_,by unfold kav;rw[ke6 hΦ S hw,ir (by simp)];rfl,S,?_⟩;split
  ·exact .cons S.heap H
  ·exact H
 ·cases h
theorem k85 (G:Good ρ) (hΦ:kcq ρ Φ.ops) {nc0:Nat} {hist hc:List (T Blk)} (H:HistSim ρ hist hc) {o o2:ADr} (S:Sim ρ s c) (h:krb Φ s hist o o2=some s1): ∃ c1,(∀ os,kch F K exc nc0 (o::o2::os) c hc=kch F K exc nc0 os c1 hc)/\Sim ρ s1 c1:=by
 unfold krb at h;split at h
 ·rename_i hk;obtain⟨k1,k2,k3,k4,k5⟩:=hk;obtain⟨p,u,h1,⟨sz,x,i,ho⟩,h2,h3,⟨g,n,q,ho2⟩,h4,h5⟩:=kx8 G hΦ S h;refine⟨_,fun os=> ?_,h5⟩;have hseen:o2.seen hc=[]:=by unfold ADr.seen;rw[k4,k3];simp
  have hlen:0<hc.length:=by rw[←H.length];exact k5
  have e1:kav F K exc nc0 hc o c=some (p,c,hc):=by
   unfold kav;rw[iq h1,k1];simp only;rw[ho] at h2 ⊢;simp only[kgk,if_true,h2]
  have e2:kav F K exc nc0 hc o2 (c.set o.o.dst p)=some (u,c.set o.o.dst p,hc):=by
   unfold kav;rw[iq h3,k2];simp only;rw[ho2] at h4 ⊢;simp only[kfk,if_true,h4,hseen,List.all_nil,yan,k3,hlen,decide_true]
  simp only[kch,e1,e2]
 ·cases h
theorem k84 (G:Good ρ) (hΦ:kcq ρ Φ.ops) {nc0:Nat} {hist hc:List (T Blk)} (H:HistSim ρ hist hc) {o o2:ADr} (S:Sim ρ s c) (h:krc Φ s o o2=some s1): ∃ c1 hc1,(∀ os,kch F K exc nc0 (o::o2::os) c hc=kch F K exc nc0 os c1 hc1)/\Sim ρ s1 c1/\HistSim ρ (s1.h::hist) hc1:=by
 unfold krc at h;split at h
 ·rename_i hk;obtain⟨k1,k2⟩:=hk;obtain⟨p,h',h1,⟨sz,x,i,ho⟩,h2,h3,⟨n,a,y,ho2⟩,h4,h5,h6⟩:=kx7 G hΦ S h;refine⟨_,h'::hc,fun os=> ?_,h5,.cons h6 H⟩;have e1:kav F K exc nc0 hc o c=some (p,c,hc):=by
   unfold kav;rw[iq h1,k1];simp only;rw[ho] at h2 ⊢;simp only[kgk,if_true,h2]
  have e2:kav F K exc nc0 hc o2 (c.set o.o.dst p)=some (.tup [],{c.set o.o.dst p with h:=h'},h'::hc):=by
   unfold kav;rw[iq h3,k2];simp only;rw[ho2] at h4 ⊢;simp only[khg,if_true,kbi,h4]
  simp only[kch,e1,e2]
 ·cases h
theorem kmx (G:khc ρ) (hΦ:kcq ρ Φ.ops) (hA:kdf ρ Φ.apps) (hZ:kfq ρ Φ.apns) (hK:kil ρ KS K) (hE:kin ρ exs exc) {nx0 nc0:Nat} (hN: ∀ i,ρ.σ (nx0+i)=nc0+i) (hlo:ρ.lo<=nx0): ∀ {l:List ADr} {s s1 c:St} {hist hc:List (T Blk)},Sim ρ s c->HistSim ρ hist hc->kit Φ F KS exs nx0 l s hist=some s1-> ∃ c1,kch F K exc nc0 l c hc=some c1/\Sim ρ s1 c1
 | [],s,s1,c,hist,hc,S,H,h=>by cases h;exact⟨c,rfl,S⟩
 | [o],s,s1,c,hist,hc,S,H,h=>by
   unfold kit at h;split at h
   ·rename_i v s2 hist2 h1;cases h;obtain⟨c2,hc2,h2,h3,h4⟩:=kxm G hΦ hA hZ hK hE S hN hlo H h1;exact⟨_,by simp only[kch,h2],h3.set o.o.dst v⟩
   ·cases h
 |o::o2::os,s,s1,c,hist,hc,S,H,h=>by
  unfold kit at h;split at h
  ·rename_i s2 hf;obtain⟨c1,h1,h2⟩:=k85 (F:=F) (K:=K) (exc:=exc) (nc0:=nc0) G.1 hΦ H S hf;obtain⟨c3,h4,h5⟩:=kmx G hΦ hA hZ hK hE hN hlo h2 H h;exact⟨c3,by rw[h1,h4],h5⟩
  ·split at h
   ·rename_i s2 hf;obtain⟨c1,hc1,h1,h2,h3⟩:=k84 (F:=F) (K:=K) (exc:=exc) (nc0:=nc0) G.1 hΦ H S hf;obtain⟨c3,h4,h5⟩:=kmx G hΦ hA hZ hK hE hN hlo h2 h3 h;exact⟨c3,by rw[h1,h4],h5⟩
   ·split at h
    ·rename_i v s2 hist2 h1;obtain⟨c2,hc2,h2,h3,h4⟩:=kxm G hΦ hA hZ hK hE S hN hlo H h1;obtain⟨c3,h5,h6⟩:=kmx G hΦ hA hZ hK hE hN hlo (h3.set o.o.dst v) h4 h;exact⟨c3,by simp only[kch,h2] at h5 ⊢;exact h5,h6⟩
    ·cases h
theorem kqx (G:khc ρ) (hΦ:kcq ρ Φ.ops) (hA:kdf ρ Φ.apps) (hZ:kfq ρ Φ.apns) (hK:kil ρ KS K): ∀ n,kin ρ (exS Φ F KS n) (exA F K n):=by
 intro n
 induction n with
 |zero=>intro k s e s1 c h;cases h
 |succ n ih=>
  intro k s e s1 c h S;cases k with
  |skip=>cases h;exact⟨c,rfl,S⟩
  |label l=>cases h;exact⟨c,rfl,S⟩
  |goto l=>cases h;exact⟨c,rfl,S⟩
  |scope cur b=>
   simp only[exS] at h;split at h
   ·rename_i l s2 h1;obtain⟨c2,h2,h3⟩:=ih _ _ _ _ _ h1 S;split at h
    ·rename_i rest hr;obtain⟨c3,h4,h5⟩:=ih _ _ _ _ _ h h3;exact⟨c3,by simp only[exA,h2,hr,h4],h5⟩
    ·rename_i hr;cases h;exact⟨c2,by simp only[exA,h2,hr],h3⟩
   ·rename_i hne;obtain⟨c2,h2,h3⟩:=ih _ _ _ _ _ h S;refine⟨c2,?_,h3⟩;simp only[exA,h2];split
    ·rename_i l s2 hq;cases hq;exact absurd h (hne l s1)
    ·rfl
  |rngf nt f ps a b=>cases h
  |exit id=>cases h;exact⟨c,rfl,S⟩
  |ret=>cases h;exact⟨c,rfl,S⟩
  |reg ops=>
   simp only[exS] at h;split at h
   ·rename_i s2 h1;cases h;obtain⟨c2,h2,h3⟩:=ko2 G.1 hΦ hA hZ hK ih S h1;exact⟨c2,by simp only[exA,h2],h3⟩
   ·cases h
  |drw m ops=>
   simp only[exS] at h;split at h
   ·rename_i s2 h1;cases h;have S':Sim ρ {s with nx:=s.nx+m} {c with nx:=c.nx+m}:=⟨S.regs,S.heap,fun i=>by
     show ρ.σ (s.nx+m+i)=c.nx+m+i;rw[yam,S.nxs];omega,yah S.lo (yad _ _)⟩
    obtain⟨c2,h2,h3⟩:=kmx G hΦ hA hZ hK ih S.nxs S.lo S' (.cons S.heap .nil) h1;exact⟨c2,by simp only[exA,h2],h3⟩
   ·cases h
  |seq a b=>
   simp only[exS] at h;split at h
   ·rename_i s2 h1;obtain⟨c2,h2,h3⟩:=ih _ _ _ _ _ h1 S;obtain⟨c3,h4,h5⟩:=ih _ _ _ _ _ h h3;exact⟨c3,by simp only[exA,h2,h4],h5⟩
   ·rename_i hne;obtain⟨c2,h2,h3⟩:=ih _ _ _ _ _ h S;refine⟨c2,?_,h3⟩;simp only[exA,h2];cases e with
    |nrm=>exact absurd h (hne s1)
    |ext i=>rfl
    |gto l=>rfl
    |ret=>rfl
  |cond x a b=>
   simp only[exS] at h;split at h
   ·rename_i hcond;simp only[yaa] at hcond;split at h
    ·rename_i t ht;have e1:=kag S (khp hcond.1) hcond.2;rw[kpf hΦ ht] at e1;cases t with
     |true=>
      obtain⟨c2,h2,h3⟩:=ih _ _ _ _ _ (by simpa using h) S;exact⟨c2,by simp only[exA,e1,if_true,h2],h3⟩
     |false=>
      obtain⟨c2,h2,h3⟩:=ih _ _ _ _ _ (by simpa using h) S;exact⟨c2,by simp only[exA,e1,yac,if_false,h2],h3⟩
    ·cases h
   ·cases h
  |block id b=>
   simp only[exS] at h;split at h
   ·rename_i j s2 h1;obtain⟨c2,h2,h3⟩:=ih _ _ _ _ _ h1 S;split at h
    ·rename_i hj;cases h;exact⟨c2,by simp only[exA,h2,iq hj],h3⟩
    ·rename_i hj;cases h;exact⟨c2,by simp only[exA,h2,ir hj],h3⟩
   ·rename_i hne;obtain⟨c2,h2,h3⟩:=ih _ _ _ _ _ h S;refine⟨c2,?_,h3⟩;simp only[exA,h2];cases e with
    |nrm=>rfl
    |ext i=>exact absurd h (hne i s1)
    |gto l=>rfl
    |ret=>rfl
  |loop b=>
   simp only[exS] at h;split at h
   ·rename_i s2 h1;obtain⟨c2,h2,h3⟩:=ih _ _ _ _ _ h1 S;obtain⟨c3,h4,h5⟩:=ih _ _ _ _ _ h h3;exact⟨c3,by simp only[exA,h2,h4],h5⟩
   ·rename_i hne;obtain⟨c2,h2,h3⟩:=ih _ _ _ _ _ h S;refine⟨c2,?_,h3⟩;simp only[exA,h2];cases e with
    |nrm=>exact absurd h (hne s1)
    |ext i=>rfl
    |gto l=>rfl
    |ret=>rfl
end
end Go.Proofs.Hz
