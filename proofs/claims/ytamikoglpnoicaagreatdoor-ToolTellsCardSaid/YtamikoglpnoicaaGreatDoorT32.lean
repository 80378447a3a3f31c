/-
  Chapter 20: threads and their syscalls, read line by line, are thrGo.
  Conditions: none.
-/
import Derived.Test.YtamikoglpnoicaaGreatDoorT31
import Derived.Test.YtamikoglpnoicaaGreatDoorT30
import Derived.Test.YtamikoglpnoicaaGreatDoorT23
open Go Go.Proofs
namespace Go.Proofs.Hz
open Bool renaming and_eq_true->yau
open Int renaming toNat_natCast->yac,toNat->yah,tdiv->yak,tmod->yao
open Go.IntKind renaming wrap->yaa,signed->yar,bits->yat
open Go.Lib renaming decDigits->yay
open List renaming length_singleton->yab,getElem?_eq_some_iff->yad,getElem?_eq_getElem->yae,length_append->yaf,length_drop->yai,getElem?_append_right->yaj,getElem?_append_left->yal,drop_eq_getElem_cons->yam,append_assoc->yan,drop_of_length_le->yap,dropLast_concat->yaq,length->yaw,drop_zero->yax
open Nat renaming le_refl->yas,sub_self->yaz
open Option renaming bind_some->yav
open UInt8 renaming ofNat->yag
set_option maxRecDepth 20000
def PcOk (pc:List AV) (U:List (List Cl)) (hid:List (Nat×Blk)):Prop:=pc.length=U.length/\ ∀ (i:Nat) (v:AV) (c:List Cl),pc[i]? =some v->U[i]? =some c->(v=kaj/\c=[])\/(∃ id,c≠[]/\v= .sl id 0 c.length 3 none/\(id,Blk.cells (c.map eC).flatten false 48) ∈ hid)
theorem PcOk.okF {pc:List AV} {U:List (List Cl)} {hid:List (Nat×Blk)} (h:PcOk pc U hid):OkF (.im [pc] false):=by
 refine⟨rfl,rfl,?_⟩;have key: ∀ (l:List AV),(∀ v ∈ l,AV.beq v v=true)->kcy l l=true:=by
  intro l
  induction l with
  |nil=>intro _;rfl
  |cons v l ih=>
   intro hv;simp only[kcy,yau];exact⟨hv v (by simp),ih fun x hx=>hv x (by simp[hx])⟩
 have:=key pc fun v hv=>by
  obtain⟨i,hi⟩:=List.getElem?_of_mem hv;have hlt:i<U.length:=by rw[←h.1];exact(yad.1 hi).1
  rcases h.2 i v U[i] hi (yae hlt) with⟨rfl,_⟩ | ⟨id,_,rfl,_⟩
  ·rfl
  ·simp[AV.beq]
 simp only[AV.beq,ket,this,Bool.and_self,beq_self_eq_true]
theorem PcOk.nil (hid:List (Nat×Blk)):PcOk [] [] hid:=⟨rfl,fun i v c h=>by simp at h⟩
theorem PcOk.more {pc:List AV} {U:List (List Cl)} {hid:List (Nat×Blk)} (h:PcOk pc U hid) (p:Nat×Blk):PcOk pc U (p::hid):=⟨h.1,fun i v c h1 h2=>by
 rcases h.2 i v c h1 h2 with h | ⟨id,a,b,d⟩
 ·exact .inl h
 ·exact .inr ⟨id,a,b,List.mem_cons_of_mem _ d⟩⟩
theorem PcOk.add {pc:List AV} {U:List (List Cl)} {hid:List (Nat×Blk)} (h:PcOk pc U hid) {v:AV} {c:List Cl} (hv:(v=kaj/\c=[])\/(∃ id,c≠[]/\v= .sl id 0 c.length 3 none/\(id,Blk.cells (c.map eC).flatten false 48) ∈ hid)):PcOk (pc++[v]) (U++[c]) hid:=by
 refine⟨by simp[h.1],fun i w d h1 h2=> ?_⟩;by_cases hi:i<U.length
 ·rw[yal (by rw[h.1];exact hi)] at h1;rw[yal hi] at h2;exact h.2 i w d h1 h2
 ·have hlt:=(yad.1 h2).1;rw[yaf,yab] at hlt;have:i=U.length:=by omega
  subst this;rw[yaj (yas _),yaz] at h2;rw[yaj (by rw[h.1];exact yas _),h.1,yaz] at h1;cases h1;cases h2;exact hv
def TSt (i0 i2:Nat) (a:Nat) (h:Hd) (L:List Bs) (T:List (List Cl)) (ts:List Nat) (ws:List AV) (z:St):Prop:=
 (T=[]/\ ∃ σ,Sim (YE a h L σ) (kaa ts ws tE) z/\(σ 0=i0/\σ 2=i2))\/
 (∃ U pc hid σ,T=U++[[]]/\PcOk pc U hid/\Sim (YA a h L pc T.length hid σ) (kaa ts ws tA) z/\(σ 0=i0/\σ 2=i2))\/
 (∃ U c pc hid σ,T=U++[c]/\c≠[]/\PcOk pc U hid/\Sim (YB a h L pc T.length c hid σ) (kaa ts ws tB) z/\(σ 0=i0/\σ 2=i2))
theorem kyd {l:Bs}:l=goL↔kao l=true/\kad l=[103,111]:=by
 constructor
 ·rintro rfl;exact⟨rfl,rfl⟩
 ·rintro⟨h1,h2⟩;obtain⟨t,rfl⟩:=ke8.1 h1;rw[kj1] at h2;rw[h2];rfl
theorem kwg {l:Bs}:l=thrL↔kao l=true/\kad l=[116,104,114,101,97,100]:=by
 constructor
 ·rintro rfl;exact⟨rfl,rfl⟩
 ·rintro⟨h1,h2⟩;obtain⟨t,rfl⟩:=ke8.1 h1;rw[kj1] at h2;rw[h2];rfl
theorem kkd {l:Bs} (h:kau l=true):kao l=true/\l≠goL/\l≠thrL:=by
 have e:=(krx h).2;have h1:kao (kbo (kas l))=true:=ke8.2 ⟨_,rfl⟩;rw[e] at h1;exact⟨h1,fun h=>knm.1 (e.trans h),fun h=>knm.2 (e.trans h)⟩
section
variable {i0 i2 a:Nat} {h:Hd} {L:List Bs} {T:List (List Cl)} {z:St} {l:Bs}
theorem TSt.exit (S:TSt i0 i2 a h L T [0] [.ptr 2 0] z) (h0: ¬a<L.length): ∃ z1,Ev FF thX z (.ext 0) z1/\TSt i0 i2 a h L T [] [] z1:=by
 rcases S with⟨hT,σ,S,hs⟩ | ⟨U,pc,hid,σ,hT,hp,S,hs⟩ | ⟨U,c,pc,hid,σ,hT,hc,hp,S,hs⟩
 ·obtain⟨z1,e1,S1⟩:=qpq a h L (σ:=σ) S (by omega);exact⟨z1,e1,.inl ⟨hT,_,S1,hs⟩⟩
 ·obtain⟨z1,e1,S1⟩:=qpo a h L pc T.length hid (σ:=σ) hp.okF S (by omega);exact⟨z1,e1,.inr (.inl ⟨U,pc,hid,_,hT,hp,S1,hs⟩)⟩
 ·obtain⟨z1,e1,S1⟩:=qpp a h L pc T.length c hid (σ:=σ) hp.okF S (by omega);exact⟨z1,e1,.inr (.inr ⟨U,c,pc,hid,_,hT,hc,hp,S1,hs⟩)⟩
theorem TSt.go (S:TSt i0 i2 a h L T [0] [.ptr 2 0] z) (hn:L.length<=1000000) (hl:L[a]? =some l) (hlen:l.length<=1000000) (hg:l=goL): ∃ z1,Ev FF thX z .ret z1/\TSt i0 i2 (a+1) h L T [2] [.bool true] z1:=by
 have h0:a<L.length:=(yad.1 hl).1;have hw:=kbv h0 hn;have hl':L[yah (a:Int)]? =some l:=by rw[yac];exact hl
 obtain⟨g1,g2⟩:=kyd.1 hg;rcases S with⟨hT,σ,S,hs⟩ | ⟨U,pc,hid,σ,hT,hp,S,hs⟩ | ⟨U,c,pc,hid,σ,hT,hc,hp,S,hs⟩
 ·obtain⟨z1,e1,S1⟩:=qpv a h L (σ:=σ) S (by omega) hl' hlen g1 g2 hw;exact⟨z1,e1,.inl ⟨hT,_,S1,hs⟩⟩
 ·obtain⟨z1,e1,S1⟩:=qpt a h L pc T.length hid (σ:=σ) hp.okF S (by omega) hl' hlen g1 g2 hw;exact⟨z1,e1,.inr (.inl ⟨U,pc,hid,_,hT,hp,S1,hs⟩)⟩
 ·obtain⟨z1,e1,S1⟩:=qpu a h L pc T.length c hid (σ:=σ) hp.okF S (by omega) hl' hlen g1 g2 hw;exact⟨z1,e1,.inr (.inr ⟨U,c,pc,hid,_,hT,hc,hp,S1,hs⟩)⟩
theorem kgz {l:Bs} (hg:l≠goL) (he:kao l=true): ¬kad l=[103,111]:=fun h=>hg (kyd.2 ⟨he,h⟩)
theorem kje {l:Bs} (hg:l≠thrL) (he:kao l=true): ¬kad l=[116,104,114,101,97,100]:=fun h=>hg (kwg.2 ⟨he,h⟩)
theorem TSt.fail (S:TSt i0 i2 a h L T [0] [.ptr 2 0] z) (hT16:T.length<=16) (hl:L[a]? =some l) (hlen:l.length<=1000000) (hcl:kap l=(l,[])) (hne:l≠[]) (hg:l≠goL) (hst:kc8 l T=none): ∃ z1,Ev FF thX z .ret z1/\TSt i0 i2 a h L T [2] [.bool false] z1:=by
 have h0:a<L.length:=(yad.1 hl).1;have hl':L[yah (a:Int)]? =some l:=by rw[yac];exact hl
 have h0':(a:Int)<(L.length:Int):=by omega
 unfold kc8 at hst;by_cases ht:l=thrL
 ·rw[iq ht] at hst;split at hst
  ·rename_i h16;obtain⟨g1,g2⟩:=kwg.1 ht;have g3:=kgz hg g1;rcases S with⟨hT,σ,S,hs⟩ | ⟨U,pc,hid,σ,hT,hp,S,hs⟩ | ⟨U,c,pc,hid,σ,hT,hc,hp,S,hs⟩
   ·rw[hT] at h16;cases h16
   ·obtain⟨z1,e1,S1⟩:=qpr a h L pc T.length hid (σ:=σ) hp.okF S h0' hl' hlen g1 g3 g2 h16;exact⟨z1,e1,.inr (.inl ⟨U,pc,hid,_,hT,hp,S1,hs⟩)⟩
   ·obtain⟨z1,e1,S1⟩:=qps a h L pc T.length c hid (σ:=σ) hp.okF S h0' hl' hlen g1 g3 g2 h16;exact⟨z1,e1,.inr (.inr ⟨U,c,pc,hid,_,hT,hc,hp,S1,hs⟩)⟩
  ·cases hst
 ·rw[ir ht] at hst;split at hst
  ·rename_i hbad;rcases S with⟨hT,σ,S,hs⟩ | ⟨U,pc,hid,σ,hT,hp,S,hs⟩ | ⟨U,c,pc,hid,σ,hT,hc,hp,S,hs⟩
   ·by_cases he:kao l=true
    ·by_cases hk:kau l=true
     ·obtain⟨z1,e1,S1⟩:=qpy a h L (σ:=σ) S h0' hl' hlen he (kgz hg he) (kje ht he) hcl hne hk;exact⟨z1,e1,.inl ⟨hT,_,S1,hs⟩⟩
     ·obtain⟨z1,e1,S1⟩:=qpk a h L (σ:=σ) S h0' hl' hlen he (kgz hg he) (kje ht he) hcl hne hk;exact⟨z1,e1,.inl ⟨hT,_,S1,hs⟩⟩
    ·obtain⟨z1,e1,S1⟩:=qpn a h L (σ:=σ) S h0' hl' hlen he hcl hne (fun hk=>he (kkd hk).1);exact⟨z1,e1,.inl ⟨hT,_,S1,hs⟩⟩
   ·have hn:0<T.length/\T.length<=16:=⟨by rw[hT];simp,hT16⟩;by_cases he:kao l=true
    ·by_cases hk:kau l=true
     ·exfalso;rcases hbad with hb |hb |hb
      ·rw[hb] at hT;simp at hT
      ·rw[hk] at hb;cases hb
      ·rw[hT,kex] at hb;simp at hb
     ·obtain⟨z1,e1,S1⟩:=qpi a h L pc T.length hid (σ:=σ) hp.okF S h0' hl' hlen he (kgz hg he) (kje ht he) hcl hne hk hn;exact⟨z1,e1,.inr (.inl ⟨U,pc,hid,_,hT,hp,S1,hs⟩)⟩
    ·obtain⟨z1,e1,S1⟩:=qpl a h L pc T.length hid (σ:=σ) hp.okF S h0' hl' hlen he hcl hne (fun hk=>he (kkd hk).1) hn;exact⟨z1,e1,.inr (.inl ⟨U,pc,hid,_,hT,hp,S1,hs⟩)⟩
   ·have hn:0<T.length/\T.length<=16:=⟨by rw[hT];simp,hT16⟩;by_cases he:kao l=true
    ·by_cases hk:kau l=true
     ·have h100:c.length=100:=by
       rcases hbad with hb |hb |hb
       ·rw[hb] at hT;simp at hT
       ·rw[hk] at hb;cases hb
       ·rw[hT,kex] at hb;exact hb
      obtain⟨z1,e1,S1⟩:=qpz a h L pc T.length c hid (σ:=σ) hp.okF S h0' hl' hlen he (kgz hg he) (kje ht he) hcl hne hk hn h100;exact⟨z1,e1,.inr (.inr ⟨U,c,pc,hid,_,hT,hc,hp,S1,hs⟩)⟩
     ·obtain⟨z1,e1,S1⟩:=qpj a h L pc T.length c hid (σ:=σ) hp.okF S h0' hl' hlen he (kgz hg he) (kje ht he) hcl hne hk hn;exact⟨z1,e1,.inr (.inr ⟨U,c,pc,hid,_,hT,hc,hp,S1,hs⟩)⟩
    ·obtain⟨z1,e1,S1⟩:=qpm a h L pc T.length c hid (σ:=σ) hp.okF S h0' hl' hlen he hcl hne (fun hk=>he (kkd hk).1) hn;exact⟨z1,e1,.inr (.inr ⟨U,c,pc,hid,_,hT,hc,hp,S1,hs⟩)⟩
  ·cases hst
def tAY (a:Nat) (h:Hd) (L:List Bs) (pc:List AV) (n:Nat) (σ:Nat->Nat):List Blk:=[.cells tdZ false 26,.cells (L.map eT).flatten false 9,.cells [.sl (σ 1) 0 (L.map eT).length 1 none,.int .i64 (a:Int),.int .i64 h.n0,.int .i64 h.n1,.int .i64 h.n2,.sl (σ 3) 0 ((un n).map eN).length 1 none,.im [] true] false 64,.cells (kfb (((un n).map eN).length - 1) [pc].flatten++[.im [] true]) false 42]
theorem k92 {a:Nat} {h:Hd} {L:List Bs} {pc:List AV} {n:Nat} {row:List Cl} {hid:List (Nat×Blk)} {σ:Nat->Nat} {z:St} (S:Sim (YA5 a h L pc n row hid σ) (kaa [0] [.ptr 2 0] (tA++[.own 1002003 false 48])) z):Sim (YA a h L pc n ((σ 4,Blk.cells (row.map eC).flatten false 48)::hid) (kcx σ 4)) (kaa [0] [.ptr 2 0] tA) z:=by
 have hreg:z.r.get 0=some (.ptr (σ 2) 0):=S.regs 0 (.ptr 2 0) (by kernel_rfl);have h1:tA.map (gB (YA5 a h L pc n row hid σ))=tAY a h L pc n σ:=by kernel_rfl
 have h2:tA.map (gB (YA a h L pc n ((σ 4,Blk.cells (row.map eC).flatten false 48)::hid) (kcx σ 4)))=tAY a h L pc n σ:=by kernel_rfl
 have SH:=Sim.hide (ρ':=YA a h L pc n ((σ 4,Blk.cells (row.map eC).flatten false 48)::hid) (kcx σ 4)) (cs:=tA) (cs':=tA) S (by kernel_rfl) (by kernel_rfl) (by kernel_rfl) (h1.trans h2.symm) (by kernel_rfl);exact SH.begin [0] [.ptr 2 0] z.r (fun t u hu=>by
  have hm:=kbw (show(ofL ([0].zip [AV.ptr 2 0])).get t=some u from hu);simp only[List.zip,List.zipWith,List.mem_cons,Prod.mk.injEq,List.not_mem_nil,or_false] at hm;obtain⟨rfl,rfl⟩:=hm;exact hreg.trans (by kernel_rfl))
theorem TSt.step (S:TSt i0 i2 a h L T [0] [.ptr 2 0] z) (hn:L.length<=1000000) (hT16:T.length<=16) (hrow:T.all kbx=true) (hl:L[a]? =some l) (hlen:l.length<=1000000) (hcl:kap l=(l,[])) (hne:l≠[]) (hg:l≠goL) {T':List (List Cl)} (hst:kc8 l T=some T'): ∃ z1,Ev FF thX z .nrm z1/\TSt i0 i2 (a+1) h L T' [0] [.ptr 2 0] z1:=by
 have h0:a<L.length:=(yad.1 hl).1;have hl':L[yah (a:Int)]? =some l:=by rw[yac];exact hl
 have h0':(a:Int)<(L.length:Int):=by omega
 have hw:=kbv h0 hn;unfold kc8 at hst;by_cases ht:l=thrL
 ·rw[iq ht] at hst;split at hst
  ·cases hst
  ·rename_i h16;cases hst;obtain⟨g1,g2⟩:=kwg.1 ht;have g3:=kgz hg g1;rcases S with⟨hT,σ,S,hs⟩ | ⟨U,pc,hid,σ,hT,hp,S,hs⟩ | ⟨U,c,pc,hid,σ,hT,hc,hp,S,hs⟩
   ·obtain⟨z1,e1,S1⟩:=qp2 a h L (σ:=σ) S h0' hl' hlen g1 g3 g2 hw;subst hT;exact⟨z1,e1,.inr (.inl ⟨[],[],[],_,rfl,PcOk.nil [],S1,hs⟩)⟩
   ·have hTl:T.length=U.length+1:=by rw[hT];simp
    obtain⟨z1,e1,S1⟩:=qp0 a h L pc T.length hid (σ:=σ) hp.okF S h0' hl' hlen g1 g3 g2 ⟨by omega,by omega⟩ (by rw[hp.1];omega) hw;have hp2:PcOk (pc++[kaj]) T hid:=by
     rw[hT];exact hp.add (.inl ⟨rfl,rfl⟩)
    refine⟨z1,e1,.inr (.inl ⟨T,pc++[kaj],hid,sig σ [0,1,2,43] 44,rfl,hp2,?_,hs⟩)⟩;rw[yaf,yab];exact S1
   ·have hTl:T.length=U.length+1:=by rw[hT];simp
    obtain⟨z1,e1,S1⟩:=qp1 a h L pc T.length c hid (σ:=σ) hp.okF S h0' hl' hlen g1 g3 g2 ⟨by omega,by omega⟩ (by rw[hp.1];omega) hw;generalize hσ':sig σ [0,1,2,44,4] 45=σ' at S1;have k0:σ' 0=i0:=by rw[←hσ'];exact hs.1
    have k2:σ' 2=i2:=by rw[←hσ'];exact hs.2
    have k4:σ' 4=σ 4:=by rw[←hσ'];rfl
    rw[←k4] at S1;have hp2:PcOk (pc++[.sl (σ' 4) 0 (c.map eC).length 3 none]) T ((σ' 4,Blk.cells (c.map eC).flatten false 48)::hid):=by
     rw[hT];refine(hp.more _).add (.inr ⟨σ' 4,hc,?_,List.mem_cons_self⟩);rw[List.length_map]
    have SB:=k92 S1;refine⟨z1,e1,.inr (.inl ⟨T,_,_,kcx σ' 4,rfl,hp2,?_,⟨k0,k2⟩⟩)⟩;rw[yaf,yab];exact SB
 ·rw[ir ht] at hst;split at hst
  ·cases hst
  ·rename_i hgood;cases hst;simp only[not_or] at hgood;obtain⟨q1,q2,q3⟩:=hgood;have hk:kau l=true:=by simpa using q2
   have he:=(kkd hk).1;rcases S with⟨hT,σ,S,hs⟩ | ⟨U,pc,hid,σ,hT,hp,S,hs⟩ | ⟨U,c,pc,hid,σ,hT,hc,hp,S,hs⟩
   ·exact absurd hT q1
   ·have hn':0<T.length/\T.length<=16:=⟨by rw[hT];simp,hT16⟩;obtain⟨z1,e1,S1⟩:=qpw a h L pc T.length hid (σ:=σ) hp.okF S h0' hl' hlen he (kgz hg he) (kje ht he) hcl hne hk hn' hw;have hT':T.dropLast++[T.getLastD []++[kas l]]=U++[[kas l]]:=by
     rw[hT,yaq,kex];rfl
    rw[hT'];refine⟨z1,e1,.inr (.inr ⟨U,[kas l],pc,hid,sig σ [0,1,2,3,82] 83,rfl,by simp,hp,?_,hs⟩)⟩;have e:(U++[[kas l]]).length=T.length:=by rw[hT];simp
    rw[e];exact S1
   ·have hn':0<T.length/\T.length<=16:=⟨by rw[hT];simp,hT16⟩;have hc100:c.length<100:=by
     rw[hT,kex] at q3;have:kbx c=true:=List.all_eq_true.1 hrow c (by rw[hT];simp);simp only[kbx,yau,decide_eq_true_eq] at this;omega
    obtain⟨z1,e1,S1⟩:=qpx a h L pc T.length c hid (σ:=σ) hp.okF S h0' hl' hlen he (kgz hg he) (kje ht he) hcl hne hk hn' hc100 hw;have hT':T.dropLast++[T.getLastD []++[kas l]]=U++[c++[kas l]]:=by
     rw[hT,yaq,kex]
    rw[hT'];refine⟨z1,e1,.inr (.inr ⟨U,c++[kas l],pc,hid,sig σ [0,1,2,3,83] 84,rfl,by simp,hp,?_,hs⟩)⟩;have e:(U++[c++[kas l]]).length=T.length:=by rw[hT];simp
    rw[e];exact S1
end
def k5s (i0 i2:Nat) (h:Hd) (L:List Bs) (z:St):Option (List (List Cl))×Nat×List Bs->Prop
 |(some T',a',ls)=>ls=L.drop a'/\a'<=L.length/\ ∃ z',Ev FF (.loop thX) z .ret z'/\TSt i0 i2 a' h L T' [2] [.bool true] z'
 |(none,a',_)=>∃ z' T',(Ev FF (.loop thX) z (.ext 0) z'/\TSt i0 i2 a' h L T' [] [] z')\/(Ev FF (.loop thX) z .ret z'/\TSt i0 i2 a' h L T' [2] [.bool false] z')
theorem qp6 (i0 i2:Nat) (h:Hd) (L:List Bs) (hn:L.length<=1000000) (hL: ∀ l ∈ L,kap l=(l,[])/\l≠[]/\l.length<=1000000): ∀ (k a:Nat) (T:List (List Cl)) {z:St},a+k=L.length->T.length<=16->T.all kbx=true->TSt i0 i2 a h L T [0] [.ptr 2 0] z->
  k5s i0 i2 h L z (kc4 (L.drop a) a T):=by
 intro k
 induction k with
 |zero=>
  intro a T z ha _ _ S;rw[yap (by omega)];obtain⟨z1,e1,S1⟩:=S.exit (by omega);exact⟨z1,T,.inl ⟨Ev.loopJ e1 (by intro h;cases h),S1⟩⟩
 |succ k ih=>
  intro a T z ha hT hr S;have h1:a<L.length:=by omega
  have hl:L[a]? =some L[a]:=yae h1;obtain⟨c1,c2,c3⟩:=hL _ (List.getElem_mem h1);rw[yam h1,kpc];by_cases hg:L[a]=goL
  ·rw[iq hg];obtain⟨z1,e1,S1⟩:=S.go hn hl c3 hg;exact⟨rfl,by omega,z1,Ev.loopJ e1 (by intro h;cases h),S1⟩
  ·rw[ir hg];cases hst:kc8 L[a] T with
   |none=>
    obtain⟨z1,e1,S1⟩:=S.fail hT hl c3 c1 c2 hg hst;exact⟨z1,T,.inr ⟨Ev.loopJ e1 (by intro h;cases h),S1⟩⟩
   |some T'=>
    obtain⟨z1,e1,S1⟩:=S.step hn hT hr hl c3 c1 c2 hg hst;obtain⟨_,r2,r3⟩:=kwf hst hr hT;have:=ih (a+1) T' (by omega) r3 r2 S1;simp only;revert this;generalize kc4 (L.drop (a+1)) (a+1) T'=res;obtain⟨o,a',ls⟩:=res;cases o with
    |none=>
     rintro⟨z',T'',⟨e2,S2⟩ | ⟨e2,S2⟩⟩
     ·exact⟨z',T'',.inl ⟨e1.loop e2,S2⟩⟩
     ·exact⟨z',T'',.inr ⟨e1.loop e2,S2⟩⟩
    |some T3=>
     rintro⟨q1,q2,z',e2,S2⟩;exact⟨q1,q2,z',e1.loop e2,S2⟩
def koq (n:Int):Option AV:=
 if n<10 then
  some (.str [yag (yah (yaa .u8 (w64 (48+n))))])
 else
  if yaw (kab (yaa .i64 (yak n 10)))+yaw [yag (yah (yaa .u8 (w64 (48+(yao n 10)))))]<=140737488355328 then kay (((kab (yaa .i64 (yak n 10)))++[yag (yah (yaa .u8 (w64 (48+(yao n 10)))))])) fun x2=>
  some (.str x2) else none
def k1z:List AV:=[(vt 0)]
def kts (n:Int) (σ:Nat->Nat):Val:=(kal ([.int .i64 n]) ([]) [] σ 0)
def qig (n:Int) (_σ:Nat->Nat):List AV:=[(.int .i64 n)]
def qih (_n:Int) (_σ:Nat->Nat):List Blk:=[]
theorem qie (n:Int) (σ:Nat->Nat):k1z.map (gm (kts n σ))=qig n σ:=by kernel_rfl
theorem qif (n:Int) (σ:Nat->Nat):([]:List Blk).map (gB (kts n σ))=qih n σ:=by kernel_rfl
theorem k10 (n:Int) (hrec:n<10\/kak FF 35 [.int .i64 (yaa .i64 (yak n 10))] (.str (kab (yaa .i64 (yak n 10))))) {r0:AV} (h:koq n=some r0):kak FF 35 [(.int .i64 n)] r0:=by
 unfold koq at h;have hσ: ∀ i j:Nat,(fun i:Nat=>i) i=(fun i:Nat=>i) j->i=j:=fun _ _ e=>e
 exact kbq (ρ:=kts n (fun i=>i)) (xs:=k1z) (by kernel_rfl) rfl rfl (by kernel_rfl) (fun z0 S=>have H:=Tok.start hσ S 0 1 0 0 ([.int .i64 n]) ([]) [] (.n) .n (qie _ _) (qif _ _);have H:=H.t 2 [.bool (decide (n<10))]|>.q 1 (.bin .lss (cT 0) (cI 10));kaf h (fun h0 h=>have H:=H.t 5 [.int .i64 (w64 (48+n)),.int .u8 (yaa .u8 (w64 (48+n))),.str [yag (yah (yaa .u8 (w64 (48+n))))]]|>.q 2 (.bin .add (cI 48) (cT 0))|>.q 3 (.conv .u8 (cT 2))|>.q 4 (.b2s (.c (.im [[(vt 3)]] true)))|>.y 1 h0;H.e [] h) (fun h0 h=>have H:=H.t 8 [.int .i64 (yaa .i64 (yak n 10)),.str (kab (yaa .i64 (yak n 10))),.int .i64 (yao n 10),.int .i64 (w64 (48+(yao n 10))),.int .u8 (yaa .u8 (w64 (48+(yao n 10)))),.str [yag (yah (yaa .u8 (w64 (48+(yao n 10)))))]]|>.q 5 (.bin .add (cI 48) (cT 4))|>.q 6 (.conv .u8 (cT 5))|>.q 7 (.b2s (.c (.im [[(vt 6)]] true)))|>.w 1 h0|>.c (p:=(.bin .quo (cT 0) (cI 10),(vt 2))) (fun _ _ _=>kq0 rfl rfl (by decide) rfl)|>.s [(vt 2)] (vt 3) (hrec.resolve_left h0)|>.c (p:=(.bin .rem (cT 0) (cI 10),(vt 4))) (fun _ _ _=>kq1 rfl rfl (by decide) rfl);kac h (fun h1 h=>kbh h (fun x2 h2 h=>have H:=H.t 9 [.str x2]|>.c (p:=(.bin .add (cT 3) (cT 7),(vt 8))) (fun _ _ _=>kbm (a:=(kab (yaa .i64 (yak n 10)))) (b:=[yag (yah (yaa .u8 (w64 (48+(yao n 10)))))]) (by kernel_rfl) (by kernel_rfl) h1 (by subst h2;kernel_rfl));H.e [] h))))
theorem klp {k:Nat} (h:k<=9223372036854775807):kab (k:Int)=yay k:=by
 rw[ki4 (by omega) (by omega)];unfold Lib.itoa;rw[ir (by omega),yac]
theorem qo5 (k:Nat):yak (k:Int) 10=((k / 10:Nat):Int):=rfl
theorem qp7 (k:Nat):yao (k:Int) 10=((k % 10:Nat):Int):=rfl
theorem k5g {k:Nat} (h:k<=9223372036854775807):yaa .i64 (k:Int)=k:=by
 unfold yaa;simp[yar,yat];omega
theorem kxy {d:Nat} (h:d<10):yag (yah (yaa .u8 (w64 (48+(d:Int)))))=yag (48+d):=by
 have e:w64 (48+(d:Int))=((48+d:Nat):Int):=by
  unfold w64 yaa;simp[yar,yat];omega
 rw[e];congr 1;unfold yaa;simp[yar,yat];omega
theorem k7e {k:Nat} (h:k<=9223372036854775807):(yay k).length<=100:=by
 have:=kdn (n:=(k:Int)) (by omega);rw[klp h] at this;omega
theorem qdz (k:Nat) (h:k<=9223372036854775807):kak FF 35 [.int .i64 (k:Int)] (.str (kab (k:Int))):=by
 induction k using Nat.strongRecOn with
 |_ k ih=>
  by_cases h10:k<10
  ·refine k10 (k:Int) (.inl (by omega)) ?_;unfold koq;rw[iq (by omega),kxy h10,klp h,Lib.decDigits_one h10]
  ·have hr:=ih (k / 10) (by omega) (by omega);have e:yaa .i64 (yak (k:Int) 10)=((k / 10:Nat):Int):=by rw[qo5,k5g (by omega)]
   refine k10 (k:Int) (.inr (by rw[e];exact hr)) ?_;unfold koq kay;rw[ir (by omega),e,qp7,kxy (Nat.mod_lt _ (by decide)),klp (k:=k / 10) (by omega),klp h];have hl:=k7e (k:=k / 10) (by omega);rw[iq (by rw[yab];omega)];rw[kmv h10]
theorem kht (n:Int) (h:0<=n/\n<=9223372036854775807):kak FF 35 [.int .i64 n] (.str (kab n)):=by
 obtain⟨k,rfl⟩:=Int.eq_ofNat_of_zero_le h.1;exact qdz k (by omega)
theorem k5b:kak FF 36 [.int .i64 0] (.str kee):=⟨60,by kernel_rfl⟩
theorem k5c:kak FF 36 [.int .i64 1] (.str keg):=⟨60,by kernel_rfl⟩
theorem k5d:kak FF 36 [.int .i64 2] (.str kef):=⟨60,by kernel_rfl⟩
theorem qq6 (k:Int) (h:0<=k/\k<=2):kak FF 36 [.int .i64 k] (.str (kan k)):=by
 have:k=0\/k=1\/k=2:=by omega
 rcases this with rfl |rfl |rfl
 ·exact k5b
 ·exact k5c
 ·exact k5d
theorem krk:kak FF 26 [.int .i64 0] (.str kaz):=⟨60,by kernel_rfl⟩
theorem krl:kak FF 26 [.int .i64 1] (.str ka0):=⟨60,by kernel_rfl⟩
theorem krm:kak FF 26 [.int .i64 2] (.str ka1):=⟨60,by kernel_rfl⟩
theorem kyi:kak FF 29 [] (.agg [.str kaz,.str ka0,.str ka1]):=⟨60,by kernel_rfl⟩
theorem kmf:kak FF 33 [] (.agg [.str kee,.str keg,.str kef]):=⟨60,by kernel_rfl⟩
theorem ky4 {s:Bs} {a i:Nat} (hi:i<s.length) (ha:a<=i) (hp:(10:UInt8) ∉ (s.drop a).take (i - a)) (hx:s[i]=10):kbf (s.drop a)=(s.drop a).take (i+1 - a)::kbf (s.drop (i+1)):=by
 have e1:s.drop a=(s.drop a).take (i - a)++([10]++s.drop (i+1)):=by
  conv=>lhs;rw[←List.take_append_drop (i - a) (s.drop a)]
  rw[List.drop_drop,show a+(i - a)=i by omega,yam hi,hx];rfl
 have e2:(s.drop a).take (i+1 - a)=(s.drop a).take (i - a)++[10]:=by
  have hl:((s.drop a).take (i - a)).length=i - a:=by rw[List.length_take,yai];omega
  conv=>lhs;rw[e1]
  rw[show i+1 - a=((s.drop a).take (i - a)).length+1 by omega,←yan,List.take_left' (by rw[yaf];rfl)]
 conv=>lhs;rw[e1]
 rw[←yan,ky1 ⟨_,rfl,hp⟩,e2]
theorem kzq {s:Bs} {a i:Nat} (hi:i<s.length) (ha:a<=i) (hp:(10:UInt8) ∉ (s.drop a).take (i - a)) (hx:s[i]≠10):(10:UInt8) ∉ (s.drop a).take (i+1 - a):=by
 rw[show i+1 - a=(i - a)+1 by omega,List.take_succ_eq_append_getElem (by rw[yai];omega),List.mem_append,List.mem_singleton,not_or];refine⟨hp,fun e=>hx ?_⟩;rw[e,List.getElem_drop];congr 1;omega
theorem kmo (x:UInt8):((x.toNat:Int)=10)↔x=10:=by
 constructor
 ·intro h;have h1:x.toNat=10:=by omega
  exact UInt8.toNat_inj.1 (by rw[h1];rfl)
 ·rintro rfl;rfl
theorem ky3 {s:Bs} {a:Nat} (ha:a<s.length) (hp:(10:UInt8) ∉ (s.drop a).take (s.length - a)):kbf (s.drop a)=[s.drop a]:=by
 rw[List.take_of_length_le (by rw[yai];omega)] at hp;rw[qa6 hp,ir];intro e;have:=congrArg yaw e;rw[yai] at this;simp at this;omega
theorem qa9 (s:Bs) (hs:s.length<=1000000): ∀ (n i a:Nat) (out:List Bs),i+n=s.length->a<=i->out.length<=a->(10:UInt8) ∉ (s.drop a).take (i - a)->
  kg1 (n+1) s out a i=some (.im ((out++kbf (s.drop a)).map eT) false):=by
 intro n
 induction n with
 |zero=>
  intro i a out hi ha ho hp;have hi:i=s.length:=by omega
  subst hi;unfold kg1;rw[ir (by omega)];by_cases hl:a<s.length
  ·rw[iq (by omega),iq (by omega),yac,iq (by simp only[kaq,yab];omega),ky3 hl hp]
  ·rw[ir (by omega),yap (by omega),kno,List.append_nil]
 |succ n ih=>
  intro i a out hi ha ho hp;have h1:i<s.length:=by omega
  unfold kg1;rw[iq (by omega),iq (by omega)];simp only[yac,yae h1,yav];by_cases hc:s[i]=10
  ·rw[iq ((kmo _).2 hc),kbv h1 hs,iq (by omega),yac,iq (by simp only[kaq,yab];omega)];rw[ih (i+1) (i+1) _ (by omega) (yas _) (by rw[yaf,yab];omega) (by simp),ky4 h1 ha hp hc,yan];rfl
  ·rw[ir (fun h=>hc ((kmo _).1 h)),kbv h1 hs];exact ih (i+1) a out (by omega) (by omega) ho (kzq h1 ha hp hc)
theorem qa8 (s:Bs) (hs:s.length<=1000000):kak FF 24 [.str s] (.im ((kbf s).map eT) (kbf s).isEmpty):=by
 have key: ∀ (n i:Nat),i+n=s.length->(10:UInt8) ∉ s.take i->kh1 (n+1) s 0 i=some (.im ((kbf s).map eT) (kbf s).isEmpty):=by
  intro n
  induction n with
  |zero=>
   intro i hi hp;have hi:i=s.length:=by omega
   subst hi;unfold kh1;rw[ir (by omega)];by_cases hl:0<s.length
   ·have:=ky3 (a:=0) hl (by simpa using hp);rw[yax] at this;rw[iq (by omega),iq (by omega),this];rfl
   ·have:s=[]:=List.eq_nil_of_length_eq_zero (by omega);subst this;rw[ir (by simp),kno];rfl
  |succ n ih=>
   intro i hi hp;have h1:i<s.length:=by omega
   unfold kh1;rw[iq (by omega),iq (by omega)];simp only[yac,yae h1,yav];by_cases hc:s[i]=10
   ·have e:=ky4 (a:=0) h1 (Nat.zero_le _) (by simpa using hp) hc;rw[yax] at e;rw[iq ((kmo _).2 hc),kbv h1 hs,iq (by omega)];rw[qa9 s hs n (i+1) (i+1) _ (by omega) (yas _) (by simp) (by simp),e];rfl
   ·have:=kzq (a:=0) h1 (Nat.zero_le _) (by simpa using hp) hc;rw[ir (fun h=>hc ((kmo _).1 h)),kbv h1 hs];exact ih (i+1) (by omega) (by simpa using this)
 exact qhs (fu:=s.length+1) s (key s.length 0 (by omega) (by simp))
end Go.Proofs.Hz
