/-
  Chapter 20: threads and their syscalls, read line by line, are thrGo. And: Chapter 20: walks through functions (part a), written by a program of our own (wip/tools).
  Conditions: none.
-/
import Derived.Test.YtamikoglpnoicaaGreatDoorT31
import Derived.Test.YtamikoglpnoicaaGreatDoorT30
open Go Go.Proofs
namespace Go.Proofs.Hz
set_option maxRecDepth 20000
def PcOk (pc:List AV) (U:List (List Cl)) (hid:List (Nat×Blk)):Prop:=pc.length=U.length∧ ∀ (i:Nat) (v:AV) (c:List Cl),pc[i]? =some v→U[i]? =some c→(v=nil0∧c=[])∨(∃ id,c≠[]∧v= .sl id 0 c.length 3 none∧(id,Blk.cells (c.map eC).flatten false 48) ∈ hid)
theorem PcOk.okF {pc:List AV} {U:List (List Cl)} {hid:List (Nat×Blk)} (h:PcOk pc U hid):OkF (.im [pc] false):=by
 refine⟨rfl,rfl,?_⟩
 have key: ∀ (l:List AV),(∀ v ∈ l,AV.beq v v=true)→beqL l l=true:=by
  intro l
  induction l with
  |nil=>intro _;rfl
  |cons v l ih=>
   intro hv
   simp only[beqL,Bool.and_eq_true]
   exact⟨hv v (by simp),ih fun x hx=>hv x (by simp[hx])⟩
 have:=key pc fun v hv=>by
  obtain⟨i,hi⟩:=List.getElem?_of_mem hv
  have hlt:i<U.length:=by rw[←h.1];exact(List.getElem?_eq_some_iff.1 hi).1
  rcases h.2 i v U[i] hi (List.getElem?_eq_getElem hlt) with⟨rfl,_⟩ | ⟨id,_,rfl,_⟩
  ·rfl
  ·simp[AV.beq]
 simp only[AV.beq,kdk,this,Bool.and_self,beq_self_eq_true]
theorem PcOk.nil (hid:List (Nat×Blk)):PcOk [] [] hid:=⟨rfl,fun i v c h=>by simp at h⟩
theorem PcOk.more {pc:List AV} {U:List (List Cl)} {hid:List (Nat×Blk)} (h:PcOk pc U hid) (p:Nat×Blk):PcOk pc U (p::hid):=⟨h.1,fun i v c h1 h2=>by
 rcases h.2 i v c h1 h2 with h | ⟨id,a,b,d⟩
 ·exact .inl h
 ·exact .inr ⟨id,a,b,List.mem_cons_of_mem _ d⟩⟩
theorem PcOk.add {pc:List AV} {U:List (List Cl)} {hid:List (Nat×Blk)} (h:PcOk pc U hid) {v:AV} {c:List Cl} (hv:(v=nil0∧c=[])∨(∃ id,c≠[]∧v= .sl id 0 c.length 3 none∧(id,Blk.cells (c.map eC).flatten false 48) ∈ hid)):PcOk (pc++[v]) (U++[c]) hid:=by
 refine⟨by simp[h.1],fun i w d h1 h2=> ?_⟩
 by_cases hi:i<U.length
 ·rw[List.getElem?_append_left (by rw[h.1];exact hi)] at h1
  rw[List.getElem?_append_left hi] at h2
  exact h.2 i w d h1 h2
 ·have hlt:=(List.getElem?_eq_some_iff.1 h2).1
  rw[List.length_append,List.length_singleton] at hlt
  have:i=U.length:=by omega
  subst this
  rw[List.getElem?_append_right (Nat.le_refl _),Nat.sub_self] at h2
  rw[List.getElem?_append_right (by rw[h.1];exact Nat.le_refl _),h.1,Nat.sub_self] at h1
  cases h1;cases h2
  exact hv
def TSt (i0 i2:Nat) (a:Nat) (h:Hd) (L:List Bs) (T:List (List Cl)) (ts:List Nat) (ws:List AV) (z:St):Prop:=
 (T=[]∧ ∃ σ,Sim (YE a h L σ) (tmpl ts ws tE) z∧(σ 0=i0∧σ 2=i2))∨
 (∃ U pc hid σ,T=U++[[]]∧PcOk pc U hid∧Sim (YA a h L pc T.length hid σ) (tmpl ts ws tA) z∧(σ 0=i0∧σ 2=i2))∨
 (∃ U c pc hid σ,T=U++[c]∧c≠[]∧PcOk pc U hid∧Sim (YB a h L pc T.length c hid σ) (tmpl ts ws tB) z∧(σ 0=i0∧σ 2=i2))
theorem ktq {l:Bs}:l=goL↔kac l=true∧cutT l=[103,111]:=by
 constructor
 ·rintro rfl;exact⟨rfl,rfl⟩
 ·rintro⟨h1,h2⟩
  obtain⟨t,rfl⟩:=kdz.1 h1
  rw[khi] at h2
  rw[h2];rfl
theorem kr0 {l:Bs}:l=thrL↔kac l=true∧cutT l=[116,104,114,101,97,100]:=by
 constructor
 ·rintro rfl;exact⟨rfl,rfl⟩
 ·rintro⟨h1,h2⟩
  obtain⟨t,rfl⟩:=kdz.1 h1
  rw[khi] at h2
  rw[h2];rfl
theorem kk4 {l:Bs} (h:kay l=true):kac l=true∧l≠goL∧l≠thrL:=by
 have e:=(koz h).2
 have h1:kac (kbp (kav l))=true:=kdz.2 ⟨_,rfl⟩
 rw[e] at h1
 exact⟨h1,fun h=>kk3.1 (e.trans h),fun h=>kk3.2 (e.trans h)⟩
section
variable {i0 i2 a:Nat} {h:Hd} {L:List Bs} {T:List (List Cl)} {z:St} {l:Bs}
theorem TSt.exit (S:TSt i0 i2 a h L T [0] [.ptr 2 0] z) (h0: ¬a<L.length): ∃ z1,Ev FF thX z (.ext 0) z1∧TSt i0 i2 a h L T [] [] z1:=by
 rcases S with⟨hT,σ,S,hs⟩ | ⟨U,pc,hid,σ,hT,hp,S,hs⟩ | ⟨U,c,pc,hid,σ,hT,hc,hp,S,hs⟩
 ·obtain⟨z1,e1,S1⟩:=qgq a h L (σ:=σ) S.heap.inj S (by omega)
  exact⟨z1,e1,.inl ⟨hT,_,S1,hs⟩⟩
 ·obtain⟨z1,e1,S1⟩:=qgo a h L pc T.length hid (σ:=σ) S.heap.inj hp.okF S (by omega)
  exact⟨z1,e1,.inr (.inl ⟨U,pc,hid,_,hT,hp,S1,hs⟩)⟩
 ·obtain⟨z1,e1,S1⟩:=qgp a h L pc T.length c hid (σ:=σ) S.heap.inj hp.okF S (by omega)
  exact⟨z1,e1,.inr (.inr ⟨U,c,pc,hid,_,hT,hc,hp,S1,hs⟩)⟩
theorem TSt.go (S:TSt i0 i2 a h L T [0] [.ptr 2 0] z) (hn:L.length≤1000000) (hl:L[a]? =some l) (hlen:l.length≤1000000) (hg:l=goL): ∃ z1,Ev FF thX z .ret z1∧TSt i0 i2 (a+1) h L T [2] [.bool true] z1:=by
 have h0:a<L.length:=(List.getElem?_eq_some_iff.1 hl).1
 have hw:=kce h0 hn
 have hl':L[Int.toNat (a:Int)]? =some l:=by rw[Int.toNat_natCast];exact hl
 obtain⟨g1,g2⟩:=ktq.1 hg
 rcases S with⟨hT,σ,S,hs⟩ | ⟨U,pc,hid,σ,hT,hp,S,hs⟩ | ⟨U,c,pc,hid,σ,hT,hc,hp,S,hs⟩
 ·obtain⟨z1,e1,S1⟩:=qgv a h L (σ:=σ) S.heap.inj S (by omega) hl' hlen g1 g2 hw
  exact⟨z1,e1,.inl ⟨hT,_,S1,hs⟩⟩
 ·obtain⟨z1,e1,S1⟩:=qgt a h L pc T.length hid (σ:=σ) S.heap.inj hp.okF S (by omega) hl' hlen g1 g2 hw
  exact⟨z1,e1,.inr (.inl ⟨U,pc,hid,_,hT,hp,S1,hs⟩)⟩
 ·obtain⟨z1,e1,S1⟩:=qgu a h L pc T.length c hid (σ:=σ) S.heap.inj hp.okF S (by omega) hl' hlen g1 g2 hw
  exact⟨z1,e1,.inr (.inr ⟨U,c,pc,hid,_,hT,hc,hp,S1,hs⟩)⟩
theorem ke7 {l:Bs} (hg:l≠goL) (he:kac l=true): ¬cutT l=[103,111]:=fun h=>hg (ktq.2 ⟨he,h⟩)
theorem kg2 {l:Bs} (hg:l≠thrL) (he:kac l=true): ¬cutT l=[116,104,114,101,97,100]:=fun h=>hg (kr0.2 ⟨he,h⟩)
theorem TSt.fail (S:TSt i0 i2 a h L T [0] [.ptr 2 0] z) (hT16:T.length≤16) (hl:L[a]? =some l) (hlen:l.length≤1000000) (hcl:kaj l=(l,[])) (hne:l≠[]) (hg:l≠goL) (hst:kcx l T=none): ∃ z1,Ev FF thX z .ret z1∧TSt i0 i2 a h L T [2] [.bool false] z1:=by
 have h0:a<L.length:=(List.getElem?_eq_some_iff.1 hl).1
 have hl':L[Int.toNat (a:Int)]? =some l:=by rw[Int.toNat_natCast];exact hl
 have h0':(a:Int)<(L.length:Int):=by omega
 unfold kcx at hst
 by_cases ht:l=thrL
 ·rw[if_pos ht] at hst
  split at hst
  ·rename_i h16
   obtain⟨g1,g2⟩:=kr0.1 ht
   have g3:=ke7 hg g1
   rcases S with⟨hT,σ,S,hs⟩ | ⟨U,pc,hid,σ,hT,hp,S,hs⟩ | ⟨U,c,pc,hid,σ,hT,hc,hp,S,hs⟩
   ·rw[hT] at h16;cases h16
   ·obtain⟨z1,e1,S1⟩:=qgr a h L pc T.length hid (σ:=σ) S.heap.inj hp.okF S h0' hl' hlen g1 g3 g2 h16
    exact⟨z1,e1,.inr (.inl ⟨U,pc,hid,_,hT,hp,S1,hs⟩)⟩
   ·obtain⟨z1,e1,S1⟩:=qgs a h L pc T.length c hid (σ:=σ) S.heap.inj hp.okF S h0' hl' hlen g1 g3 g2 h16
    exact⟨z1,e1,.inr (.inr ⟨U,c,pc,hid,_,hT,hc,hp,S1,hs⟩)⟩
  ·cases hst
 ·rw[if_neg ht] at hst
  split at hst
  ·rename_i hbad
   rcases S with⟨hT,σ,S,hs⟩ | ⟨U,pc,hid,σ,hT,hp,S,hs⟩ | ⟨U,c,pc,hid,σ,hT,hc,hp,S,hs⟩
   ·by_cases he:kac l=true
    ·by_cases hk:kay l=true
     ·obtain⟨z1,e1,S1⟩:=qgy a h L (σ:=σ) S.heap.inj S h0' hl' hlen he (ke7 hg he) (kg2 ht he) hcl hne hk
      exact⟨z1,e1,.inl ⟨hT,_,S1,hs⟩⟩
     ·obtain⟨z1,e1,S1⟩:=qgk a h L (σ:=σ) S.heap.inj S h0' hl' hlen he (ke7 hg he) (kg2 ht he) hcl hne hk
      exact⟨z1,e1,.inl ⟨hT,_,S1,hs⟩⟩
    ·obtain⟨z1,e1,S1⟩:=qgn a h L (σ:=σ) S.heap.inj S h0' hl' hlen he hcl hne (fun hk=>he (kk4 hk).1)
     exact⟨z1,e1,.inl ⟨hT,_,S1,hs⟩⟩
   ·have hn:0<T.length∧T.length≤16:=⟨by rw[hT];simp,hT16⟩
    by_cases he:kac l=true
    ·by_cases hk:kay l=true
     ·exfalso
      rcases hbad with hb |hb |hb
      ·rw[hb] at hT;simp at hT
      ·rw[hk] at hb;cases hb
      ·rw[hT,kfm] at hb;simp at hb
     ·obtain⟨z1,e1,S1⟩:=qgi a h L pc T.length hid (σ:=σ) S.heap.inj hp.okF S h0' hl' hlen he (ke7 hg he) (kg2 ht he) hcl hne hk hn
      exact⟨z1,e1,.inr (.inl ⟨U,pc,hid,_,hT,hp,S1,hs⟩)⟩
    ·obtain⟨z1,e1,S1⟩:=qgl a h L pc T.length hid (σ:=σ) S.heap.inj hp.okF S h0' hl' hlen he hcl hne (fun hk=>he (kk4 hk).1) hn
     exact⟨z1,e1,.inr (.inl ⟨U,pc,hid,_,hT,hp,S1,hs⟩)⟩
   ·have hn:0<T.length∧T.length≤16:=⟨by rw[hT];simp,hT16⟩
    by_cases he:kac l=true
    ·by_cases hk:kay l=true
     ·have h100:c.length=100:=by
       rcases hbad with hb |hb |hb
       ·rw[hb] at hT;simp at hT
       ·rw[hk] at hb;cases hb
       ·rw[hT,kfm] at hb;exact hb
      obtain⟨z1,e1,S1⟩:=qgz a h L pc T.length c hid (σ:=σ) S.heap.inj hp.okF S h0' hl' hlen he (ke7 hg he) (kg2 ht he) hcl hne hk hn h100
      exact⟨z1,e1,.inr (.inr ⟨U,c,pc,hid,_,hT,hc,hp,S1,hs⟩)⟩
     ·obtain⟨z1,e1,S1⟩:=qgj a h L pc T.length c hid (σ:=σ) S.heap.inj hp.okF S h0' hl' hlen he (ke7 hg he) (kg2 ht he) hcl hne hk hn
      exact⟨z1,e1,.inr (.inr ⟨U,c,pc,hid,_,hT,hc,hp,S1,hs⟩)⟩
    ·obtain⟨z1,e1,S1⟩:=qgm a h L pc T.length c hid (σ:=σ) S.heap.inj hp.okF S h0' hl' hlen he hcl hne (fun hk=>he (kk4 hk).1) hn
     exact⟨z1,e1,.inr (.inr ⟨U,c,pc,hid,_,hT,hc,hp,S1,hs⟩)⟩
  ·cases hst
def tAY (a:Nat) (h:Hd) (L:List Bs) (pc:List AV) (n:Nat) (σ:Nat→Nat):List Blk:=[.cells tdZ false 26,.cells (L.map eT).flatten false 9,.cells [.sl (σ 1) 0 (L.map eT).length 1 none,.int .i64 (a:Int),.int .i64 h.n0,.int .i64 h.n1,.int .i64 h.n2,.sl (σ 3) 0 ((un n).map eN).length 1 none,.im [] true] false 64,.cells (fitL (((un n).map eN).length - 1) [pc].flatten++[.im [] true]) false 42]
theorem k3j {a:Nat} {h:Hd} {L:List Bs} {pc:List AV} {n:Nat} {row:List Cl} {hid:List (Nat×Blk)} {σ:Nat→Nat} {z:St} (S:Sim (YA5 a h L pc n row hid σ) (tmpl [0] [.ptr 2 0] (tA++[.own 1002003 false 48])) z):Sim (YA a h L pc n ((σ 4,Blk.cells (row.map eC).flatten false 48)::hid) (kde σ 4)) (tmpl [0] [.ptr 2 0] tA) z:=by
 have hreg:z.r.get 0=some (.ptr (σ 2) 0):=S.regs 0 (.ptr 2 0) (by kernel_rfl)
 have h1:tA.map (gB (YA5 a h L pc n row hid σ))=tAY a h L pc n σ:=by kernel_rfl
 have h2:tA.map (gB (YA a h L pc n ((σ 4,Blk.cells (row.map eC).flatten false 48)::hid) (kde σ 4)))=tAY a h L pc n σ:=by kernel_rfl
 have SH:=Sim.hide (ρ':=YA a h L pc n ((σ 4,Blk.cells (row.map eC).flatten false 48)::hid) (kde σ 4)) (cs:=tA) (cs':=tA) S (by kernel_rfl) (by kernel_rfl) (by kernel_rfl) (h1.trans h2.symm) (by kernel_rfl)
 exact SH.begin [0] [.ptr 2 0] z.r (fun t u hu=>by
  have hm:=kbh (show(ofL ([0].zip [AV.ptr 2 0])).get t=some u from hu)
  simp only[List.zip,List.zipWith,List.mem_cons,Prod.mk.injEq,List.not_mem_nil,or_false] at hm
  obtain⟨rfl,rfl⟩:=hm
  exact hreg.trans (by kernel_rfl))
theorem TSt.step (S:TSt i0 i2 a h L T [0] [.ptr 2 0] z) (hn:L.length≤1000000) (hT16:T.length≤16) (hrow:T.all kbb=true) (hl:L[a]? =some l) (hlen:l.length≤1000000) (hcl:kaj l=(l,[])) (hne:l≠[]) (hg:l≠goL) {T':List (List Cl)} (hst:kcx l T=some T'): ∃ z1,Ev FF thX z .nrm z1∧TSt i0 i2 (a+1) h L T' [0] [.ptr 2 0] z1:=by
 have h0:a<L.length:=(List.getElem?_eq_some_iff.1 hl).1
 have hl':L[Int.toNat (a:Int)]? =some l:=by rw[Int.toNat_natCast];exact hl
 have h0':(a:Int)<(L.length:Int):=by omega
 have hw:=kce h0 hn
 unfold kcx at hst
 by_cases ht:l=thrL
 ·rw[if_pos ht] at hst
  split at hst
  ·cases hst
  ·rename_i h16
   cases hst
   obtain⟨g1,g2⟩:=kr0.1 ht
   have g3:=ke7 hg g1
   rcases S with⟨hT,σ,S,hs⟩ | ⟨U,pc,hid,σ,hT,hp,S,hs⟩ | ⟨U,c,pc,hid,σ,hT,hc,hp,S,hs⟩
   ·obtain⟨z1,e1,S1⟩:=qg2 a h L (σ:=σ) S.heap.inj S h0' hl' hlen g1 g3 g2 hw
    subst hT
    exact⟨z1,e1,.inr (.inl ⟨[],[],[],_,rfl,PcOk.nil [],S1,hs⟩)⟩
   ·have hTl:T.length=U.length+1:=by rw[hT];simp
    obtain⟨z1,e1,S1⟩:=qg0 a h L pc T.length hid (σ:=σ) S.heap.inj hp.okF S h0' hl' hlen g1 g3 g2 ⟨by omega,by omega⟩ (by rw[hp.1];omega) hw
    have hp2:PcOk (pc++[nil0]) T hid:=by
     rw[hT];exact hp.add (.inl ⟨rfl,rfl⟩)
    refine⟨z1,e1,.inr (.inl ⟨T,pc++[nil0],hid,sig σ [0,1,2,43] 44,rfl,hp2,?_,hs⟩)⟩
    rw[List.length_append,List.length_singleton]
    exact S1
   ·have hTl:T.length=U.length+1:=by rw[hT];simp
    obtain⟨z1,e1,S1⟩:=qg1 a h L pc T.length c hid (σ:=σ) S.heap.inj hp.okF S h0' hl' hlen g1 g3 g2 ⟨by omega,by omega⟩ (by rw[hp.1];omega) hw
    generalize hσ':sig σ [0,1,2,44,4] 45=σ' at S1
    have k0:σ' 0=i0:=by rw[←hσ'];exact hs.1
    have k2:σ' 2=i2:=by rw[←hσ'];exact hs.2
    have k4:σ' 4=σ 4:=by rw[←hσ'];rfl
    rw[←k4] at S1
    have hp2:PcOk (pc++[.sl (σ' 4) 0 (c.map eC).length 3 none]) T ((σ' 4,Blk.cells (c.map eC).flatten false 48)::hid):=by
     rw[hT]
     refine(hp.more _).add (.inr ⟨σ' 4,hc,?_,List.mem_cons_self⟩)
     rw[List.length_map]
    have SB:=k3j S1
    refine⟨z1,e1,.inr (.inl ⟨T,_,_,kde σ' 4,rfl,hp2,?_,⟨k0,k2⟩⟩)⟩
    rw[List.length_append,List.length_singleton]
    exact SB
 ·rw[if_neg ht] at hst
  split at hst
  ·cases hst
  ·rename_i hgood
   cases hst
   simp only[not_or] at hgood
   obtain⟨q1,q2,q3⟩:=hgood
   have hk:kay l=true:=by simpa using q2
   have he:=(kk4 hk).1
   rcases S with⟨hT,σ,S,hs⟩ | ⟨U,pc,hid,σ,hT,hp,S,hs⟩ | ⟨U,c,pc,hid,σ,hT,hc,hp,S,hs⟩
   ·exact absurd hT q1
   ·have hn':0<T.length∧T.length≤16:=⟨by rw[hT];simp,hT16⟩
    obtain⟨z1,e1,S1⟩:=qgw a h L pc T.length hid (σ:=σ) S.heap.inj hp.okF S h0' hl' hlen he (ke7 hg he) (kg2 ht he) hcl hne hk hn' hw
    have hT':T.dropLast++[T.getLastD []++[kav l]]=U++[[kav l]]:=by
     rw[hT,List.dropLast_concat,kfm];rfl
    rw[hT']
    refine⟨z1,e1,.inr (.inr ⟨U,[kav l],pc,hid,sig σ [0,1,2,3,82] 83,rfl,by simp,hp,?_,hs⟩)⟩
    have e:(U++[[kav l]]).length=T.length:=by rw[hT];simp
    rw[e]
    exact S1
   ·have hn':0<T.length∧T.length≤16:=⟨by rw[hT];simp,hT16⟩
    have hc100:c.length<100:=by
     rw[hT,kfm] at q3
     have:kbb c=true:=List.all_eq_true.1 hrow c (by rw[hT];simp)
     simp only[kbb,Bool.and_eq_true,decide_eq_true_eq] at this
     omega
    obtain⟨z1,e1,S1⟩:=qgx a h L pc T.length c hid (σ:=σ) S.heap.inj hp.okF S h0' hl' hlen he (ke7 hg he) (kg2 ht he) hcl hne hk hn' hc100 hw
    have hT':T.dropLast++[T.getLastD []++[kav l]]=U++[c++[kav l]]:=by
     rw[hT,List.dropLast_concat,kfm]
    rw[hT']
    refine⟨z1,e1,.inr (.inr ⟨U,c++[kav l],pc,hid,sig σ [0,1,2,3,83] 84,rfl,by simp,hp,?_,hs⟩)⟩
    have e:(U++[c++[kav l]]).length=T.length:=by rw[hT];simp
    rw[e]
    exact S1
end
def kzp (i0 i2:Nat) (h:Hd) (L:List Bs) (z:St):Option (List (List Cl))×Nat×List Bs→Prop
 |(some T',a',ls)=>ls=L.drop a'∧a'≤L.length∧ ∃ z',Ev FF (.loop thX) z .ret z'∧TSt i0 i2 a' h L T' [2] [.bool true] z'
 |(none,a',_)=>∃ z' T',(Ev FF (.loop thX) z (.ext 0) z'∧TSt i0 i2 a' h L T' [] [] z')∨(Ev FF (.loop thX) z .ret z'∧TSt i0 i2 a' h L T' [2] [.bool false] z')
theorem qg7 (i0 i2:Nat) (h:Hd) (L:List Bs) (hn:L.length≤1000000) (hL: ∀ l ∈ L,kaj l=(l,[])∧l≠[]∧l.length≤1000000): ∀ (k a:Nat) (T:List (List Cl)) {z:St},a+k=L.length→T.length≤16→T.all kbb=true→TSt i0 i2 a h L T [0] [.ptr 2 0] z→
  kzp i0 i2 h L z (kco (L.drop a) a T):=by
 intro k
 induction k with
 |zero=>
  intro a T z ha _ _ S
  rw[List.drop_of_length_le (by omega)]
  obtain⟨z1,e1,S1⟩:=S.exit (by omega)
  exact⟨z1,T,.inl ⟨Ev.loopJ e1 (by intro h;cases h),S1⟩⟩
 |succ k ih=>
  intro a T z ha hT hr S
  have h1:a<L.length:=by omega
  have hl:L[a]? =some L[a]:=List.getElem?_eq_getElem h1
  obtain⟨c1,c2,c3⟩:=hL _ (List.getElem_mem h1)
  rw[List.drop_eq_getElem_cons h1,kms]
  by_cases hg:L[a]=goL
  ·rw[if_pos hg]
   obtain⟨z1,e1,S1⟩:=S.go hn hl c3 hg
   exact⟨rfl,by omega,z1,Ev.loopJ e1 (by intro h;cases h),S1⟩
  ·rw[if_neg hg]
   cases hst:kcx L[a] T with
   |none=>
    obtain⟨z1,e1,S1⟩:=S.fail hT hl c3 c1 c2 hg hst
    exact⟨z1,T,.inr ⟨Ev.loopJ e1 (by intro h;cases h),S1⟩⟩
   |some T'=>
    obtain⟨z1,e1,S1⟩:=S.step hn hT hr hl c3 c1 c2 hg hst
    obtain⟨_,r2,r3⟩:=kyx hst hr hT
    have:=ih (a+1) T' (by omega) r3 r2 S1
    simp only
    revert this
    generalize kco (L.drop (a+1)) (a+1) T'=res
    obtain⟨o,a',ls⟩:=res
    cases o with
    |none=>
     rintro⟨z',T'',⟨e2,S2⟩ | ⟨e2,S2⟩⟩
     ·exact⟨z',T'',.inl ⟨e1.loop e2,S2⟩⟩
     ·exact⟨z',T'',.inr ⟨e1.loop e2,S2⟩⟩
    |some T3=>
     rintro⟨q1,q2,z',e2,S2⟩
     exact⟨q1,q2,z',e1.loop e2,S2⟩
end Go.Proofs.Hz
open Go Go.Proofs
namespace Go.Proofs.Hz
def kqh (s:List UInt8) (p:List UInt8):Option AV:=
 if(List.length s:Int) ≥ (List.length p:Int) then
  if 0≤(List.length p:Int)∧(List.length p:Int)≤(List.length s:Int) then some (.bool ((List.take (Int.toNat (List.length p:Int)) s) == p)) else none
 else
  some (.bool false)
def kwz:List AV:=[(vt 0),(vt 1)]
def kqi (s:List UInt8) (p:List UInt8) (σ:Nat→Nat):Val:=(valL ([.str s,.str p]) ([]) [] σ 0)
def qbi (s:List UInt8) (p:List UInt8) (_σ:Nat→Nat):List AV:=[(.str s),(.str p)]
def qbj (_s:List UInt8) (_p:List UInt8) (_σ:Nat→Nat):List Blk:=[]
theorem qbg (s:List UInt8) (p:List UInt8) (σ:Nat→Nat):kwz.map (gm (kqi s p σ))=qbi s p σ:=by kernel_rfl
theorem qbh (s:List UInt8) (p:List UInt8) (σ:Nat→Nat):([]:List Blk).map (gB (kqi s p σ))=qbj s p σ:=by kernel_rfl
theorem qbk (s:List UInt8) (p:List UInt8) {r0:AV} (h:kqh s p=some r0):Spec FF 154 [(.str s),(.str p)] r0:=by
 unfold kqh at h
 have hσ: ∀ i j:Nat,(fun i:Nat=>i) i=(fun i:Nat=>i) j→i=j:=fun _ _ e=>e
 exact kbk (ρ:=kqi s p (fun i=>i)) (xs:=kwz) (by kernel_rfl) rfl rfl (by kernel_rfl) (fun z0 S=>have H:=Tok.start hσ S 0 2 0 0 ([.str s,.str p]) ([]) [] (.n) .n (qbg s p _) (qbh s p _);have H:=H.t 5 [.int .i64 (List.length s:Int),.int .i64 (List.length p:Int),.bool (decide ((List.length s:Int) ≥ (List.length p:Int)))]|>.r [(.len 1 (cT 0),(vt 2)),(.len 1 (cT 1),(vt 3)),(.bin .geq (cT 2) (cT 3),(vt 4))];iteE h (fun h0 h=>have H:=H.m 4 true (decide_eq_true h0);reqE h (fun _ h=>have H:=H.t 7 [.str (List.take (Int.toNat (List.length p:Int)) s),.bool ((List.take (Int.toNat (List.length p:Int)) s) == p)]|>.r [(.bin .eql (cT 5) (cT 1),(vt 6))]|>.c (p:=(.slT (cT 0) none (some (cT 3)),(vt 5))) (fun _ _ _=>fSlT (l:=s) (l':=(List.take (Int.toNat (List.length p:Int)) s)) (lo:=none) (hi:=(some ((vt 3),((List.length p:Int):Int)))) (by kernel_rfl) trivial ⟨.i64,by kernel_rfl⟩ (by simp only[optN];omega) (by simp[optN]) (by kernel_rfl));H.e [] h)) (fun h0 h=>have H:=H.m 4 false (decide_eq_false h0);H.e [] h))
end Go.Proofs.Hz
open Go Go.Proofs
namespace Go.Proofs.Hz
theorem k7k (s p:Bs):Spec FF 154 [.str s,.str p] (.bool (kag s p)):=qbk s p (by
 unfold kqh kag
 by_cases h:p.length≤s.length
 ·rw[if_pos (by omega),if_pos (by omega)]
  simp[h]
 ·rw[if_neg (by omega)]
  simp[h])
end Go.Proofs.Hz
open Go Go.Proofs
namespace Go.Proofs.Hz
def kpm (s:List UInt8) (p:List UInt8):Option AV:=
 if(!(kag s p))=true then
  some (.tup [(.str s),(.bool false)])
 else
  if 0≤(List.length p:Int)∧(List.length p:Int)≤(List.length s:Int) then some (.tup [(.str (List.drop (Int.toNat (List.length p:Int)) s)),(.bool true)]) else none
def kv7:List AV:=[(vt 0),(vt 1)]
def kpn (s:List UInt8) (p:List UInt8) (σ:Nat→Nat):Val:=(valL ([.str s,.str p]) ([]) [] σ 0)
def k8v (s:List UInt8) (p:List UInt8) (_σ:Nat→Nat):List AV:=[(.str s),(.str p)]
def k8w (_s:List UInt8) (_p:List UInt8) (_σ:Nat→Nat):List Blk:=[]
theorem k8t (s:List UInt8) (p:List UInt8) (σ:Nat→Nat):kv7.map (gm (kpn s p σ))=k8v s p σ:=by kernel_rfl
theorem k8u (s:List UInt8) (p:List UInt8) (σ:Nat→Nat):([]:List Blk).map (gB (kpn s p σ))=k8w s p σ:=by kernel_rfl
theorem k8x (s:List UInt8) (p:List UInt8) {r0:AV} (h:kpm s p=some r0):Spec FF 110 [(.str s),(.str p)] r0:=by
 unfold kpm at h
 have hσ: ∀ i j:Nat,(fun i:Nat=>i) i=(fun i:Nat=>i) j→i=j:=fun _ _ e=>e
 exact kbk (ρ:=kpn s p (fun i=>i)) (xs:=kv7) (by kernel_rfl) rfl rfl (by kernel_rfl) (fun z0 S=>have H:=Tok.start hσ S 0 2 0 0 ([.str s,.str p]) ([]) [] (.n) .n (k8t s p _) (k8u s p _);have H:=H.t 4 [.bool (kag s p),.bool (!(kag s p))]|>.r [(.un .not (cT 2),(vt 3))]|>.s [(vt 0),(vt 1)] (vt 2) (k7k s p);iteE h (fun h0 h=>have H:=H.m 3 true h0;H.e [] h) (fun h0 h=>have H:=H.t 5 [.int .i64 (List.length p:Int)]|>.r [(.len 1 (cT 1),(vt 4))]|>.m 3 false (bF h0);reqE h (fun _ h=>have H:=H.t 6 [.str (List.drop (Int.toNat (List.length p:Int)) s)]|>.c (p:=(.slT (cT 0) (some (cT 4)) none,(vt 5))) (fun _ _ _=>fSlT (l:=s) (l':=(List.drop (Int.toNat (List.length p:Int)) s)) (lo:=(some ((vt 4),((List.length p:Int):Int)))) (hi:=none) (by kernel_rfl) ⟨.i64,by kernel_rfl⟩ trivial (by simp only[optN];omega) (by simp only[optN];exact khj _ _) (by kernel_rfl));H.e [] h)))
end Go.Proofs.Hz
open Go Go.Proofs
namespace Go.Proofs.Hz
theorem k1l (s p:Bs):Spec FF 110 [.str s,.str p] (.tup [.str (cutP s p),.bool (kag s p)]):=k8x s p (by
 unfold kpm cutP
 by_cases h:kag s p=true
 ·have hl:p.length≤s.length:=by
   simp only[kag,Bool.and_eq_true,decide_eq_true_eq] at h
   exact h.1
  rw[if_neg (by simp[h]),if_pos (by omega),if_pos h,h]
  simp
 ·rw[if_pos (by simp[h]),if_neg h]
  simp only[Bool.not_eq_true] at h
  rw[h])
end Go.Proofs.Hz
open Go Go.Proofs
namespace Go.Proofs.Hz
def kv6 (s:List UInt8) (p:List UInt8):Option AV:=
 some (.tup [(.str (cutP s p)),(.bool (kag s p))])
def kv8:List AV:=[(vt 0),(vt 1)]
def kpo (s:List UInt8) (p:List UInt8) (σ:Nat→Nat):Val:=(valL ([.str s,.str p]) ([]) [] σ 0)
def k8y (s:List UInt8) (p:List UInt8) (_σ:Nat→Nat):List AV:=[(.str s),(.str p)]
def k8z (_s:List UInt8) (_p:List UInt8) (_σ:Nat→Nat):List Blk:=[]
theorem k8r (s:List UInt8) (p:List UInt8) (σ:Nat→Nat):kv8.map (gm (kpo s p σ))=k8y s p σ:=by kernel_rfl
theorem k8s (s:List UInt8) (p:List UInt8) (σ:Nat→Nat):([]:List Blk).map (gB (kpo s p σ))=k8z s p σ:=by kernel_rfl
theorem k80 (s:List UInt8) (p:List UInt8) {r0:AV} (h:kv6 s p=some r0):Spec FF 74 [(.str s),(.str p)] r0:=by
 unfold kv6 at h
 have hσ: ∀ i j:Nat,(fun i:Nat=>i) i=(fun i:Nat=>i) j→i=j:=fun _ _ e=>e
 exact kbk (ρ:=kpo s p (fun i=>i)) (xs:=kv8) (by kernel_rfl) rfl rfl (by kernel_rfl) (fun z0 S=>have H:=Tok.start hσ S 0 2 0 0 ([.str s,.str p]) ([]) [] (.n) .n (k8r s p _) (k8s s p _);have H:=H.t 4 [.str (cutP s p),.bool (kag s p)]|>.s [(vt 0),(vt 1)] (.tup [(vt 2),(vt 3)]) (k1l s p);H.e [] h)
def kqe (s:List UInt8) (most:Int):Option AV:=
 if List.length s≤1000000 then if kdj s=true then
  if(kad s) ≥ 0 then
   if(kad s)≤most then
     if -9223372036854775808≤(kad s)∧(kad s)≤9223372036854775807 then some (.tup [(.int .i64 (kad s)),(.bool ((kaa (kad s)) == s))]) else none
   else
     some (.tup [(.int .i64 (kad s)),(.bool false)])
  else
   some (.tup [(.int .i64 (kad s)),(.bool false)])
 else
  some (.tup [(.int .i64 (kad s)),(.bool false)]) else none
def kwx:List AV:=[(vt 0),(vt 1)]
def kqf (s:List UInt8) (most:Int) (σ:Nat→Nat):Val:=(valL ([.str s,.int .i64 most]) ([]) [] σ 0)
def qa7 (s:List UInt8) (most:Int) (_σ:Nat→Nat):List AV:=[(.str s),(.int .i64 most)]
def qa8 (_s:List UInt8) (_most:Int) (_σ:Nat→Nat):List Blk:=[]
theorem qa5 (s:List UInt8) (most:Int) (σ:Nat→Nat):kwx.map (gm (kqf s most σ))=qa7 s most σ:=by kernel_rfl
theorem qa6 (s:List UInt8) (most:Int) (σ:Nat→Nat):([]:List Blk).map (gB (kqf s most σ))=qa8 s most σ:=by kernel_rfl
theorem qa9 (s:List UInt8) (most:Int) {r0:AV} (h:kqe s most=some r0):Spec FF 76 [(.str s),(.int .i64 most)] r0:=by
 unfold kqe at h
 have hσ: ∀ i j:Nat,(fun i:Nat=>i) i=(fun i:Nat=>i) j→i=j:=fun _ _ e=>e
 exact kbk (ρ:=kqf s most (fun i=>i)) (xs:=kwx) (by kernel_rfl) rfl rfl (by kernel_rfl) (fun z0 S=>have H:=Tok.start hσ S 0 2 0 0 ([.str s,.int .i64 most]) ([]) [] (.n) .n (qa5 s most _) (qa6 s most _);reqE h (fun h0 h=>iteE h (fun h1 h=>have H:=H.t 4 [.int .i64 (kad s),.bool (decide ((kad s) ≥ 0))]|>.r [(.bin .geq (cT 2) (cI 0),(vt 3))]|>.s [(vt 0)] (.tup [(vt 2),.nili]) (ksj s h0 h1);iteE h (fun h2 h=>have H:=H.t 5 [.bool (decide ((kad s)≤most))]|>.r [(.bin .leq (cT 2) (cT 1),(vt 4))]|>.m 3 true (decide_eq_true h2);iteE h (fun h3 h=>have H:=H.m 4 true (decide_eq_true h3);reqE h (fun h4 h=>have H:=H.t 7 [.str (kaa (kad s)),.bool ((kaa (kad s)) == s)]|>.r [(.bin .eql (cT 5) (cT 0),(vt 6))]|>.s [(vt 2)] (vt 5) (ka5 (kad s) h4);H.e [] h)) (fun h3 h=>have H:=H.m 4 false (decide_eq_false h3);H.e [] h)) (fun h2 h=>have H:=H.m 3 false (decide_eq_false h2);H.e [] h)) (fun h1 h=>have H:=H.t 3 [.int .i64 (kad s)]|>.s [(vt 0)] (.tup [(vt 2),.ifv]) (ksi s h0 h1);H.e [] h)))
def kfz:Nat→List Ro→Bool→Int→Int→Option AV
 |0,_,_,_,_=>none
 |fu+1,t,bt,m,p0=>
  if p0<(List.length t:Int) then
   if 0≤p0 then Option.bind (t[Int.toNat p0]?) fun x2=>
   if(List.length x2.c:Int) > m then
    some (.bool false)
   else
    kfz fu t bt m (w64 (p0+1)) else none
  else
   some (.bool true)
def kwn:List AV:=[(vf 0),(vt 0),(vt 1)]
def kwm:List Blk:=[]
def kjf (t:List Ro) (bt:Bool) (m:Int) (p0:Int) (σ:Nat→Nat):Val:=(valL ([.int .i64 m,.int .i64 p0]) ([.im (List.map eR t) bt]) [] σ 0)
def qaa (t:List Ro) (bt:Bool) (m:Int) (p0:Int) (_σ:Nat→Nat):List AV:=[(.im (List.map eR t) bt),(.int .i64 m),(.int .i64 p0)]
def qab (_t:List Ro) (_bt:Bool) (_m:Int) (_p0:Int) (_σ:Nat→Nat):List Blk:=[]
theorem kp3 (t:List Ro) (bt:Bool) (m:Int) (p0:Int) (σ:Nat→Nat):kwn.map (gm (kjf t bt m p0 σ))=qaa t bt m p0 σ:=by kernel_rfl
theorem kp4 (t:List Ro) (bt:Bool) (m:Int) (p0:Int) (σ:Nat→Nat):kwm.map (gB (kjf t bt m p0 σ))=qab t bt m p0 σ:=by kernel_rfl
theorem qac: ∀ (fu:Nat),∀ (t:List Ro) (bt:Bool) (m:Int) (p0:Int) {r0:AV} {z0:St} {σ:Nat→Nat},(∀ i j,σ i=σ j→i=j)→kfz fu t bt m p0=some r0→Sim (kjf t bt m p0 σ) (tmpl [0,2,7] kwn kwm) z0→J FF (fnOf FF 20) (cutK (fnOf FF 20) 0) (.code (.loop (cutB (fnOf FF 20) 0))) z0 r0:=by
 intro fu
 induction fu with
 |zero=>
  intro _ _ _ _ _ _ _ _ h _
  unfold kfz at h
  cases h
 |succ fu ih=>
  intro t bt m p0 r0 z0 σ hσ h S
  unfold kfz at h
  exact kcq (have H:=Tok.start hσ S 0 2 1 0 ([.int .i64 m,.int .i64 p0]) ([.im (List.map eR t) bt]) [] (.c (OkF.im kau _ _) <| .n) (.n) (kp3 t bt m p0 _) (kp4 t bt m p0 _);have H:=H.t 4 [.int .i64 (List.length t:Int),.bool (decide (p0<(List.length t:Int)))]|>.r [(.bin .lss (cT 1) (cT 2),(vt 3))]|>.c (p:=(.len 0 (cF 0),(vt 2))) (fun _ _ _=>fLen (e:=eR) (l:=t) (b:=bt) (by kernel_rfl) (by kernel_rfl));iteE h (fun h0 h=>have H:=H.m 3 true (decide_eq_true h0);reqE h (fun h1 h=>ka3 h (fun x2 h2 h=>have H:=H.t 6 [.int .i64 (List.length x2.c:Int),.bool (decide ((List.length x2.c:Int) > m))]|>.f 2 [.im (List.map eC x2.c) x2.b] (.c (OkF.im ka0 _ _) <| .n)|>.r [(.bin .gtr (cT 4) (cT 0),(vt 5))]|>.c (p:=(.iaS 1 (cF 0) (cT 1),(.ip [(vf 1)] 0))) (fun _ _ _=>fIa (sz:=1) (e:=eR) (l:=t) (b:=bt) (k:= .i64) (n:=p0) (y:=x2) kau (by kernel_rfl) (by kernel_rfl) h1 h2 (by kernel_rfl))|>.c (p:=(.len 0 (cF 1),(vt 4))) (fun _ _ _=>fLen (e:=eC) (l:=x2.c) (b:=x2.b) (by kernel_rfl) (by kernel_rfl));iteE h (fun h3 h=>have H:=H.m 5 true (decide_eq_true h3);H.e [0] h) (fun h3 h=>have H:=H.t 7 [.int .i64 (w64 (p0+1))]|>.r [(.bin .add (cT 1) (cI 1),(vt 6))]|>.m 5 false (decide_eq_false h3);H.k [0] [0,2,7] [] [(vf 0),(vt 0),(vt 6)] [] 0 (kjf t bt m (w64 (p0+1)) _) (kp3 t bt m (w64 (p0+1)) _) (kp4 t bt m (w64 (p0+1)) _) (fun _ hi S=>ih _ _ _ _ hi h S))))) (fun h0 h=>have H:=H.m 3 false (decide_eq_false h0);H.e [0] h))
def qfew (fu:Nat) (t:List Ro) (bt:Bool) (k:Int) (m:Int):Option AV:=
 if(List.length t:Int) > k then
  some (.bool false)
 else
  kfz fu t bt m 0
def kwl:List AV:=[(vf 0),(vt 0),(vt 1)]
def kp2 (t:List Ro) (bt:Bool) (k:Int) (m:Int) (σ:Nat→Nat):Val:=(valL ([.int .i64 k,.int .i64 m]) ([.im (List.map eR t) bt]) [] σ 0)
def k98 (t:List Ro) (bt:Bool) (k:Int) (m:Int) (_σ:Nat→Nat):List AV:=[(.im (List.map eR t) bt),(.int .i64 k),(.int .i64 m)]
def k99 (_t:List Ro) (_bt:Bool) (_k:Int) (_m:Int) (_σ:Nat→Nat):List Blk:=[]
theorem k96 (t:List Ro) (bt:Bool) (k:Int) (m:Int) (σ:Nat→Nat):kwl.map (gm (kp2 t bt k m σ))=k98 t bt k m σ:=by kernel_rfl
theorem k97 (t:List Ro) (bt:Bool) (k:Int) (m:Int) (σ:Nat→Nat):([]:List Blk).map (gB (kp2 t bt k m σ))=k99 t bt k m σ:=by kernel_rfl
theorem qad {fu:Nat} (t:List Ro) (bt:Bool) (k:Int) (m:Int) {r0:AV} (h:qfew fu t bt k m=some r0):Spec FF 20 [(.im (List.map eR t) bt),(.int .i64 k),(.int .i64 m)] r0:=by
 unfold qfew at h
 have hσ: ∀ i j:Nat,(fun i:Nat=>i) i=(fun i:Nat=>i) j→i=j:=fun _ _ e=>e
 exact kbk (ρ:=kp2 t bt k m (fun i=>i)) (xs:=kwl) (by kernel_rfl) rfl rfl (by kernel_rfl) (fun z0 S=>have H:=Tok.start hσ S 0 2 1 0 ([.int .i64 k,.int .i64 m]) ([.im (List.map eR t) bt]) [] (.c (OkF.im kau _ _) <| .n) .n (k96 t bt k m _) (k97 t bt k m _);have H:=H.t 4 [.int .i64 (List.length t:Int),.bool (decide ((List.length t:Int) > k))]|>.r [(.bin .gtr (cT 2) (cT 0),(vt 3))]|>.c (p:=(.len 0 (cF 0),(vt 2))) (fun _ _ _=>fLen (e:=eR) (l:=t) (b:=bt) (by kernel_rfl) (by kernel_rfl));iteE h (fun h0 h=>have H:=H.m 3 true (decide_eq_true h0);H.e [0] h) (fun h0 h=>have H:=H.m 3 false (decide_eq_false h0);H.k [0] [0,2,7] [] [(vf 0),(vt 1),(.int .i64 0)] [] 0 (kjf t bt m 0 _) (kp3 t bt m 0 _) (kp4 t bt m 0 _) (fun _ hi S=>qac _ _ _ _ _ hi h S)))
def kfw:Nat→List Mov→Bool→List Mov→Bool→Int→Option AV
 |0,_,_,_,_,_=>none
 |fu+1,l,bl,m,bm,p0=>
  if p0<(List.length l:Int) then
   if 0≤p0 then Option.bind (l[Int.toNat p0]?) fun x2=>
   Option.bind (m[Int.toNat p0]?) fun x3=>
   if(!((x2.kind:Int) == x3.kind && ((x2.n:Int) == x3.n && true)))=true then
    some (.bool false)
   else
    kfw fu l bl m bm (w64 (p0+1)) else none
  else
   some (.bool true)
def kwd:List AV:=[(vf 0),(vf 1),(vt 0),(vt 1)]
def kwc:List Blk:=[]
def kjc (l:List Mov) (bl:Bool) (m:List Mov) (bm:Bool) (p0:Int) (σ:Nat→Nat):Val:=(valL ([.int .i64 (List.length l:Int),.int .i64 p0]) ([.im (List.map eM l) bl,.im (List.map eM m) bm]) [] σ 0)
def k9f (l:List Mov) (bl:Bool) (m:List Mov) (bm:Bool) (p0:Int) (_σ:Nat→Nat):List AV:=[(.im (List.map eM l) bl),(.im (List.map eM m) bm),(.int .i64 (List.length l:Int)),(.int .i64 p0)]
def k9g (_l:List Mov) (_bl:Bool) (_m:List Mov) (_bm:Bool) (_p0:Int) (_σ:Nat→Nat):List Blk:=[]
theorem kps (l:List Mov) (bl:Bool) (m:List Mov) (bm:Bool) (p0:Int) (σ:Nat→Nat):kwd.map (gm (kjc l bl m bm p0 σ))=k9f l bl m bm p0 σ:=by kernel_rfl
theorem kpt (l:List Mov) (bl:Bool) (m:List Mov) (bm:Bool) (p0:Int) (σ:Nat→Nat):kwc.map (gB (kjc l bl m bm p0 σ))=k9g l bl m bm p0 σ:=by kernel_rfl
theorem k9h: ∀ (fu:Nat),∀ (l:List Mov) (bl:Bool) (m:List Mov) (bm:Bool) (p0:Int) {r0:AV} {z0:St} {σ:Nat→Nat},(∀ i j,σ i=σ j→i=j)→kfw fu l bl m bm p0=some r0→Sim (kjc l bl m bm p0 σ) (tmpl [0,1,12,13] kwd kwc) z0→J FF (fnOf FF 38) (cutK (fnOf FF 38) 0) (.code (.loop (cutB (fnOf FF 38) 0))) z0 r0:=by
 intro fu
 induction fu with
 |zero=>
  intro _ _ _ _ _ _ _ _ _ h _
  unfold kfw at h
  cases h
 |succ fu ih=>
  intro l bl m bm p0 r0 z0 σ hσ h S
  unfold kfw at h
  exact kcq (have H:=Tok.start hσ S 0 2 2 0 ([.int .i64 (List.length l:Int),.int .i64 p0]) ([.im (List.map eM l) bl,.im (List.map eM m) bm]) [] (.c (OkF.im kam _ _) <| .c (OkF.im kam _ _) <| .n) (.n) (kps l bl m bm p0 _) (kpt l bl m bm p0 _);have H:=H.t 3 [.bool (decide (p0<(List.length l:Int)))]|>.r [(.bin .lss (cT 1) (cT 0),(vt 2))];iteE h (fun h0 h=>have H:=H.m 2 true (decide_eq_true h0);reqE h (fun h1 h=>ka3 h (fun x2 h2 h=>have H:=H.t 5 [.int .i64 x2.kind,.int .i64 x2.n]|>.c (p:=(.iaS 2 (cF 0) (cT 1),(.ip [(vt 3),(vt 4)] 0))) (fun _ _ _=>fIa (sz:=2) (e:=eM) (l:=l) (b:=bl) (k:= .i64) (n:=p0) (y:=x2) kam (by kernel_rfl) (by kernel_rfl) h1 h2 (by kernel_rfl));ka3 h (fun x3 h3 h=>have H:=H.t 8 [.int .i64 x3.kind,.int .i64 x3.n,.bool (!((x2.kind:Int) == x3.kind && ((x2.n:Int) == x3.n && true)))]|>.r [(.eqa true [0,0] (.c (.agg [(vt 3),(vt 4)])) (.c (.agg [(vt 5),(vt 6)])),(vt 7))]|>.c (p:=(.iaS 2 (cF 1) (cT 1),(.ip [(vt 5),(vt 6)] 0))) (fun _ _ _=>fIa (sz:=2) (e:=eM) (l:=m) (b:=bm) (k:= .i64) (n:=p0) (y:=x3) kam (by kernel_rfl) (by kernel_rfl) h1 h3 (by kernel_rfl));iteE h (fun h4 h=>have H:=H.m 7 true h4;H.e [0] h) (fun h4 h=>have H:=H.t 9 [.int .i64 (w64 (p0+1))]|>.r [(.bin .add (cT 1) (cI 1),(vt 8))]|>.m 7 false (bF h4);H.k [0] [0,1,12,13] [] [(vf 0),(vf 1),(vt 0),(vt 8)] [] 9 (kjc l bl m bm (w64 (p0+1)) _) (kps l bl m bm (w64 (p0+1)) _) (kpt l bl m bm (w64 (p0+1)) _) (fun _ hi S=>ih _ _ _ _ _ hi h S)))))) (fun h0 h=>have H:=H.m 2 false (decide_eq_false h0);H.e [0] h))
def qeqM (fu:Nat) (l:List Mov) (bl:Bool) (m:List Mov) (bm:Bool):Option AV:=
 if(List.length l:Int)=(List.length m:Int) then
  kfw fu l bl m bm 0
 else
  some (.bool false)
def kwb:List AV:=[(vf 0),(vf 1)]
def kpr (l:List Mov) (bl:Bool) (m:List Mov) (bm:Bool) (σ:Nat→Nat):Val:=(valL ([]) ([.im (List.map eM l) bl,.im (List.map eM m) bm]) [] σ 0)
def k9d (l:List Mov) (bl:Bool) (m:List Mov) (bm:Bool) (_σ:Nat→Nat):List AV:=[(.im (List.map eM l) bl),(.im (List.map eM m) bm)]
def k9e (_l:List Mov) (_bl:Bool) (_m:List Mov) (_bm:Bool) (_σ:Nat→Nat):List Blk:=[]
theorem k9b (l:List Mov) (bl:Bool) (m:List Mov) (bm:Bool) (σ:Nat→Nat):kwb.map (gm (kpr l bl m bm σ))=k9d l bl m bm σ:=by kernel_rfl
theorem k9c (l:List Mov) (bl:Bool) (m:List Mov) (bm:Bool) (σ:Nat→Nat):([]:List Blk).map (gB (kpr l bl m bm σ))=k9e l bl m bm σ:=by kernel_rfl
theorem k9i {fu:Nat} (l:List Mov) (bl:Bool) (m:List Mov) (bm:Bool) {r0:AV} (h:qeqM fu l bl m bm=some r0):Spec FF 38 [(.im (List.map eM l) bl),(.im (List.map eM m) bm)] r0:=by
 unfold qeqM at h
 have hσ: ∀ i j:Nat,(fun i:Nat=>i) i=(fun i:Nat=>i) j→i=j:=fun _ _ e=>e
 exact kbk (ρ:=kpr l bl m bm (fun i=>i)) (xs:=kwb) (by kernel_rfl) rfl rfl (by kernel_rfl) (fun z0 S=>have H:=Tok.start hσ S 0 0 2 0 ([]) ([.im (List.map eM l) bl,.im (List.map eM m) bm]) [] (.c (OkF.im kam _ _) <| .c (OkF.im kam _ _) <| .n) .n (k9b l bl m bm _) (k9c l bl m bm _);have H:=H.t 3 [.int .i64 (List.length l:Int),.int .i64 (List.length m:Int),.bool (!decide ((List.length l:Int)=(List.length m:Int)))]|>.r [(.bin .neq (cT 0) (cT 1),(vt 2))]|>.c (p:=(.len 0 (cF 0),(vt 0))) (fun _ _ _=>fLen (e:=eM) (l:=l) (b:=bl) (by kernel_rfl) (by kernel_rfl))|>.c (p:=(.len 0 (cF 1),(vt 1))) (fun _ _ _=>fLen (e:=eM) (l:=m) (b:=bm) (by kernel_rfl) (by kernel_rfl));iteE h (fun h0 h=>have H:=H.m 2 false (nT h0);H.k [0] [0,1,12,13] [] [(vf 0),(vf 1),(vt 0),(.int .i64 0)] [] 0 (kjc l bl m bm 0 _) (kps l bl m bm 0 _) (kpt l bl m bm 0 _) (fun _ hi S=>k9h _ _ _ _ _ _ hi h S)) (fun h0 h=>have H:=H.m 2 true (nF h0);H.e [0] h))
def kfx:Nat→List Ro→Bool→List Ro→Bool→Int→Option AV
 |0,_,_,_,_,_=>none
 |fu+1,l,bl,m,bm,p0=>
  if p0<(List.length l:Int) then
   if 0≤p0 then Option.bind (l[Int.toNat p0]?) fun x2=>
   Option.bind (m[Int.toNat p0]?) fun x3=>
   if List.length x2.c≤1000000 then if(!(eqC x2.c x3.c))=true then
    some (.bool false)
   else
    kfx fu l bl m bm (w64 (p0+1)) else none else none
  else
   some (.bool true)
def kwg:List AV:=[(vf 0),(.fn 40 [] []),(vf 1),(vt 0),(vt 1)]
def kwf:List Blk:=[]
def kjd (l:List Ro) (bl:Bool) (m:List Ro) (bm:Bool) (p0:Int) (σ:Nat→Nat):Val:=(valL ([.int .i64 (List.length l:Int),.int .i64 p0]) ([.im (List.map eR m) bm,.im (List.map eR l) bl]) [] σ 0)
def k9n (l:List Ro) (bl:Bool) (m:List Ro) (bm:Bool) (p0:Int) (_σ:Nat→Nat):List AV:=[(.im (List.map eR m) bm),(.fn 40 [] []),(.im (List.map eR l) bl),(.int .i64 (List.length l:Int)),(.int .i64 p0)]
def k9o (_l:List Ro) (_bl:Bool) (_m:List Ro) (_bm:Bool) (_p0:Int) (_σ:Nat→Nat):List Blk:=[]
theorem kpv (l:List Ro) (bl:Bool) (m:List Ro) (bm:Bool) (p0:Int) (σ:Nat→Nat):kwg.map (gm (kjd l bl m bm p0 σ))=k9n l bl m bm p0 σ:=by kernel_rfl
theorem kpw (l:List Ro) (bl:Bool) (m:List Ro) (bm:Bool) (p0:Int) (σ:Nat→Nat):kwf.map (gB (kjd l bl m bm p0 σ))=k9o l bl m bm p0 σ:=by kernel_rfl
theorem k9p: ∀ (fu:Nat),∀ (l:List Ro) (bl:Bool) (m:List Ro) (bm:Bool) (p0:Int) {r0:AV} {z0:St} {σ:Nat→Nat},(∀ i j,σ i=σ j→i=j)→kfx fu l bl m bm p0=some r0→Sim (kjd l bl m bm p0 σ) (tmpl [1,2,15,16,17] kwg kwf) z0→J FF (fnOf FF 39) (cutK (fnOf FF 39) 0) (.code (.loop (cutB (fnOf FF 39) 0))) z0 r0:=by
 intro fu
 induction fu with
 |zero=>
  intro _ _ _ _ _ _ _ _ _ h _
  unfold kfx at h
  cases h
 |succ fu ih=>
  intro l bl m bm p0 r0 z0 σ hσ h S
  unfold kfx at h
  exact kcq (have H:=Tok.start hσ S 0 2 2 0 ([.int .i64 (List.length l:Int),.int .i64 p0]) ([.im (List.map eR m) bm,.im (List.map eR l) bl]) [] (.c (OkF.im kau _ _) <| .c (OkF.im kau _ _) <| .n) (.n) (kpv l bl m bm p0 _) (kpw l bl m bm p0 _);have H:=H.t 3 [.bool (decide (p0<(List.length l:Int)))]|>.r [(.bin .lss (cT 1) (cT 0),(vt 2))];iteE h (fun h0 h=>have H:=H.m 2 true (decide_eq_true h0);reqE h (fun h1 h=>ka3 h (fun x2 h2 h=>have H:=H.f 3 [.im (List.map eC x2.c) x2.b] (.c (OkF.im ka0 _ _) <| .n)|>.c (p:=(.iaS 1 (cF 1) (cT 1),(.ip [(vf 2)] 0))) (fun _ _ _=>fIa (sz:=1) (e:=eR) (l:=l) (b:=bl) (k:= .i64) (n:=p0) (y:=x2) kau (by kernel_rfl) (by kernel_rfl) h1 h2 (by kernel_rfl));ka3 h (fun x3 h3 h=>have H:=H.f 4 [.im (List.map eC x3.c) x3.b] (.c (OkF.im ka0 _ _) <| .n)|>.c (p:=(.iaS 1 (cF 0) (cT 1),(.ip [(vf 3)] 0))) (fun _ _ _=>fIa (sz:=1) (e:=eR) (l:=m) (b:=bm) (k:= .i64) (n:=p0) (y:=x3) kau (by kernel_rfl) (by kernel_rfl) h1 h3 (by kernel_rfl));reqE h (fun h4 h=>have H:=H.t 5 [.bool (eqC x2.c x3.c),.bool (!(eqC x2.c x3.c))]|>.r [(.un .not (cT 3),(vt 4))]|>.s [(vf 2),(vf 3)] (vt 3) (qe9 x2.c x3.c x2.b x3.b h4);iteE h (fun h5 h=>have H:=H.m 4 true h5;H.e [0] h) (fun h5 h=>have H:=H.t 6 [.int .i64 (w64 (p0+1))]|>.r [(.bin .add (cT 1) (cI 1),(vt 5))]|>.m 4 false (bF h5);H.k [0] [1,2,15,16,17] [] [(vf 0),(.fn 40 [] []),(vf 1),(vt 0),(vt 5)] [] 0 (kjd l bl m bm (w64 (p0+1)) _) (kpv l bl m bm (w64 (p0+1)) _) (kpw l bl m bm (w64 (p0+1)) _) (fun _ hi S=>ih _ _ _ _ _ hi h S))))))) (fun h0 h=>have H:=H.m 2 false (decide_eq_false h0);H.e [0] h))
def qeqT (fu:Nat) (l:List Ro) (bl:Bool) (m:List Ro) (bm:Bool):Option AV:=
 if(List.length l:Int)=(List.length m:Int) then
  kfx fu l bl m bm 0
 else
  some (.bool false)
def kwe:List AV:=[(vf 0),(vf 1),(.fn 40 [] [])]
def kpu (l:List Ro) (bl:Bool) (m:List Ro) (bm:Bool) (σ:Nat→Nat):Val:=(valL ([]) ([.im (List.map eR l) bl,.im (List.map eR m) bm]) [] σ 0)
def k9l (l:List Ro) (bl:Bool) (m:List Ro) (bm:Bool) (_σ:Nat→Nat):List AV:=[(.im (List.map eR l) bl),(.im (List.map eR m) bm),(.fn 40 [] [])]
def k9m (_l:List Ro) (_bl:Bool) (_m:List Ro) (_bm:Bool) (_σ:Nat→Nat):List Blk:=[]
theorem k9j (l:List Ro) (bl:Bool) (m:List Ro) (bm:Bool) (σ:Nat→Nat):kwe.map (gm (kpu l bl m bm σ))=k9l l bl m bm σ:=by kernel_rfl
theorem k9k (l:List Ro) (bl:Bool) (m:List Ro) (bm:Bool) (σ:Nat→Nat):([]:List Blk).map (gB (kpu l bl m bm σ))=k9m l bl m bm σ:=by kernel_rfl
theorem k9q {fu:Nat} (l:List Ro) (bl:Bool) (m:List Ro) (bm:Bool) {r0:AV} (h:qeqT fu l bl m bm=some r0):Spec FF 39 [(.im (List.map eR l) bl),(.im (List.map eR m) bm),(.fn 40 [] [])] r0:=by
 unfold qeqT at h
 have hσ: ∀ i j:Nat,(fun i:Nat=>i) i=(fun i:Nat=>i) j→i=j:=fun _ _ e=>e
 exact kbk (ρ:=kpu l bl m bm (fun i=>i)) (xs:=kwe) (by kernel_rfl) rfl rfl (by kernel_rfl) (fun z0 S=>have H:=Tok.start hσ S 0 0 2 0 ([]) ([.im (List.map eR l) bl,.im (List.map eR m) bm]) [] (.c (OkF.im kau _ _) <| .c (OkF.im kau _ _) <| .n) .n (k9j l bl m bm _) (k9k l bl m bm _);have H:=H.t 3 [.int .i64 (List.length l:Int),.int .i64 (List.length m:Int),.bool (!decide ((List.length l:Int)=(List.length m:Int)))]|>.r [(.bin .neq (cT 0) (cT 1),(vt 2))]|>.c (p:=(.len 0 (cF 0),(vt 0))) (fun _ _ _=>fLen (e:=eR) (l:=l) (b:=bl) (by kernel_rfl) (by kernel_rfl))|>.c (p:=(.len 0 (cF 1),(vt 1))) (fun _ _ _=>fLen (e:=eR) (l:=m) (b:=bm) (by kernel_rfl) (by kernel_rfl));iteE h (fun h0 h=>have H:=H.m 2 false (nT h0);H.k [0] [1,2,15,16,17] [] [(vf 1),(.fn 40 [] []),(vf 0),(vt 0),(.int .i64 0)] [] 0 (kjd l bl m bm 0 _) (kpv l bl m bm 0 _) (kpw l bl m bm 0 _) (fun _ hi S=>k9p _ _ _ _ _ _ hi h S)) (fun h0 h=>have H:=H.m 2 true (nF h0);H.e [0] h))
end Go.Proofs.Hz
