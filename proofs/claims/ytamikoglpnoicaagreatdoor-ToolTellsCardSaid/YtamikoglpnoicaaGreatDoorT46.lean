/-
  Chapter 20: hazelref20.Read: threads and their syscalls, read line by line, are thrGo.
  Conditions: none.
-/
import Derived.Test.YtamikoglpnoicaaGreatDoorT45
import Derived.Test.YtamikoglpnoicaaGreatDoorT44
open Go Go.Proofs
namespace Go.Proofs.Hz
open Int renaming toNat->yab,toNat_natCast->yaf
open List renaming length_singleton->yac,getElem?_eq_some_iff->yae,dropLast_concat->yag,length_append->yah,map->yai
open OkF renaming im->yad
open OkO renaming own->yaa
set_option maxRecDepth 20000
def UT (a:Nat) (h:Hd) (L:List Bs) (bl:Bool) (T:List (List Cl)) (z:St):Prop:=
 (T=[]/\ ∃ σ,Sim (KE a h L bl σ) (kaa [2,5,6,9] [.ptr 0 0,vf 0,.ptr 1 0,vt 0] sE) z)\/
 (∃ U pc hid σ,T=U++[[]]/\PcOk pc U hid/\Sim (KA a h L bl pc T.length hid σ) (kaa [2,5,6,9] [.ptr 0 0,vf 0,.ptr 1 0,vt 0] sA) z)\/
 (∃ U c pc hid σ,T=U++[c]/\c≠[]/\PcOk pc U hid/\Sim (KB a h L bl pc T.length c hid σ) (kaa [2,5,6,9] [.ptr 0 0,vf 0,.ptr 1 0,vt 0] sB) z)
def UF (k:Nat) (z:St):Prop:=∃ hid σ,Sim ({kal [.int .i64 (k:Int)] [] [] σ 1 with hid:=hid}) (kaa [2,3,4] [.ptr 0 0,vt 0,.int .i64 1] [tb]) z
theorem UF.end {k:Nat} {z:St} (h:UF k z):J FF (kai FF 11) [] (.sig .ret) z (kd5 (kjd,(k:Int),1)):=by
 obtain⟨hid,σ,S⟩:=h;exact qn6 k hid (σ:=σ) S.heap.inj S
theorem kvr {ρ ρ':Val} {ts:List Nat} {ws:List AV} {bs bs':List Blk} {z:St} (S:Sim ρ (kaa ts ws bs) z) (S':Sim ρ' (kaa [] [] bs') z) (e:ws.map (gm ρ)=ws.map (gm ρ')):Sim ρ' (kaa ts ws bs') z:=
 S'.begin ts ws z.r fun t u hu=>by
  have h1:=S.regs t u hu;have hm:=kbw (show(ofL (ts.zip ws)).get t=some u from hu);rw[h1,List.map_inj_left.1 e u (List.of_mem_zip hm).2]
section
variable {a:Nat} {h:Hd} {L:List Bs} {bl:Bool} {T:List (List Cl)} {z:St} {l:Bs}
theorem UT.exit (S:UT a h L bl T z) (h0: ¬a<L.length): ∃ z1,Ev FF kco z (.ext 2) z1/\UT a h L bl T z1:=by
 rcases S with⟨hT,σ,S⟩ | ⟨U,pc,hid,σ,hT,hp,S⟩ | ⟨U,c,pc,hid,σ,hT,hc,hp,S⟩
 ·obtain⟨z1,e1,S1⟩:=qqk a h L bl (σ:=σ) S (by omega);exact⟨z1,e1,.inl ⟨hT,_,S1⟩⟩
 ·obtain⟨z1,e1,S1⟩:=qqi a h L bl pc T.length hid (σ:=σ) hp.okF S (by omega);exact⟨z1,e1,.inr (.inl ⟨U,pc,hid,_,hT,hp,S1⟩)⟩
 ·obtain⟨z1,e1,S1⟩:=qqj a h L bl pc T.length c hid (σ:=σ) hp.okF S (by omega);exact⟨z1,e1,.inr (.inr ⟨U,c,pc,hid,_,hT,hc,hp,S1⟩)⟩
theorem UT.go (S:UT a h L bl T z) (hl:L[a]? =some l) (hg:l=goL): ∃ z1,Ev FF kco z (.ext 2) z1/\UT a h L bl T z1:=by
 have h0:a<L.length:=(yae.1 hl).1;have hl':L[yab (a:Int)]? =some l:=by rw[yaf];exact hl
 rcases S with⟨hT,σ,S⟩ | ⟨U,pc,hid,σ,hT,hp,S⟩ | ⟨U,c,pc,hid,σ,hT,hc,hp,S⟩
 ·obtain⟨z1,e1,S1⟩:=qqp a h L bl (σ:=σ) S (by omega) hl' hg;exact⟨z1,e1,.inl ⟨hT,_,S1⟩⟩
 ·obtain⟨z1,e1,S1⟩:=qqn a h L bl pc T.length hid (σ:=σ) hp.okF S (by omega) hl' hg;exact⟨z1,e1,.inr (.inl ⟨U,pc,hid,_,hT,hp,S1⟩)⟩
 ·obtain⟨z1,e1,S1⟩:=qqo a h L bl pc T.length c hid (σ:=σ) hp.okF S (by omega) hl' hg;exact⟨z1,e1,.inr (.inr ⟨U,c,pc,hid,_,hT,hc,hp,S1⟩)⟩
theorem UT.fail (S:UT a h L bl T z) (hn:L.length<=1000000) (hT16:T.length<=16) (hl:L[a]? =some l) (hlen:l.length<=1000000) (hcl:kap l=(l,[])) (hne:l≠[]) (hg:l≠goL) (hst:kc8 l T=none): ∃ z1,Ev FF kco z .ret z1/\UF (a+1) z1:=by
 have h0:a<L.length:=(yae.1 hl).1;have hl':L[yab (a:Int)]? =some l:=by rw[yaf];exact hl
 have h0':(a:Int)<(L.length:Int):=by omega
 have hw:=kbv h0 hn;unfold kc8 at hst;by_cases ht:l=thrL
 ·rw[iq ht] at hst;have hk: ¬kau l=true:=fun hk=>(kkd hk).2.2 ht
  split at hst
  ·rename_i h16;rcases S with⟨hT,σ,S⟩ | ⟨U,pc,hid,σ,hT,hp,S⟩ | ⟨U,c,pc,hid,σ,hT,hc,hp,S⟩
   ·rw[hT] at h16;cases h16
   ·obtain⟨z1,e1,S1⟩:=qql a h L bl pc T.length hid (σ:=σ) hp.okF S h0' hl' hlen hg ht hcl hne hk h16 hw;exact⟨z1,e1,hid,_,S1⟩
   ·obtain⟨z1,e1,S1⟩:=qqm a h L bl pc T.length c hid (σ:=σ) hp.okF S h0' hl' hlen hg ht hcl hne hk h16 hw;exact⟨z1,e1,hid,_,S1⟩
  ·cases hst
 ·rw[ir ht] at hst;split at hst
  ·rename_i hbad;rcases S with⟨hT,σ,S⟩ | ⟨U,pc,hid,σ,hT,hp,S⟩ | ⟨U,c,pc,hid,σ,hT,hc,hp,S⟩
   ·by_cases hk:kau l=true
    ·obtain⟨z1,e1,S1⟩:=qqs a h L bl (σ:=σ) S h0' hl' hlen hg ht hcl hne hk hw;exact⟨z1,e1,[],_,S1⟩
    ·obtain⟨z1,e1,S1⟩:=qqh a h L bl (σ:=σ) S h0' hl' hlen hg ht hcl hne hk hw;exact⟨z1,e1,[],_,S1⟩
   ·by_cases hk:kau l=true
    ·exfalso;rcases hbad with hb |hb |hb
     ·rw[hb] at hT;simp at hT
     ·rw[hk] at hb;cases hb
     ·rw[hT,kex] at hb;simp at hb
    ·obtain⟨z1,e1,S1⟩:=qqf a h L bl pc T.length hid (σ:=σ) hp.okF S h0' hl' hlen hg ht hcl hne hk hw;exact⟨z1,e1,hid,_,S1⟩
   ·have hn:0<T.length/\T.length<=16:=⟨by rw[hT];simp,hT16⟩;by_cases hk:kau l=true
    ·have h100:c.length=100:=by
      rcases hbad with hb |hb |hb
      ·rw[hb] at hT;simp at hT
      ·rw[hk] at hb;cases hb
      ·rw[hT,kex] at hb;exact hb
     obtain⟨z1,e1,S1⟩:=qqt a h L bl pc T.length c hid (σ:=σ) hp.okF S h0' hl' hlen hg ht hcl hne hk hn h100 hw;exact⟨z1,e1,hid,_,S1⟩
    ·obtain⟨z1,e1,S1⟩:=qqg a h L bl pc T.length c hid (σ:=σ) hp.okF S h0' hl' hlen hg ht hcl hne hk hw;exact⟨z1,e1,hid,_,S1⟩
  ·cases hst
def sAY (h:Hd) (pc:List AV) (n:Nat) (σ:Nat->Nat):List Blk:=[.cells tdZ false 26,.cells [.int .i64 h.n0,.int .i64 h.n1,.int .i64 h.n2,.sl (σ 2) 0 ((un n).map eN).length 1 none,.im [] true] false 26,.cells (kfb (((un n).map eN).length - 1) [pc].flatten++[.im [] true]) false 42]
theorem k94 {pc:List AV} {n:Nat} {row:List Cl} {hid:List (Nat×Blk)} {σ:Nat->Nat} (S:Sim (KA5 a h L bl pc n row hid σ) (kaa [2,5,6,9] [.ptr 0 0,vf 0,.ptr 1 0,vt 0] (sA++[.own 1001003 false 48])) z):
  Sim (KA a h L bl pc n ((σ 3,Blk.cells (row.map eC).flatten false 48)::hid) (kcx σ 3)) (kaa [2,5,6,9] [.ptr 0 0,vf 0,.ptr 1 0,vt 0] sA) z:=by
 have h1:sA.map (gB (KA5 a h L bl pc n row hid σ))=sAY h pc n σ:=by kernel_rfl
 have h2:sA.map (gB (KA a h L bl pc n ((σ 3,Blk.cells (row.map eC).flatten false 48)::hid) (kcx σ 3)))=sAY h pc n σ:=by kernel_rfl
 have SH:=Sim.hide (ρ':=KA a h L bl pc n ((σ 3,Blk.cells (row.map eC).flatten false 48)::hid) (kcx σ 3)) (cs:=sA) (cs':=sA) S (by kernel_rfl) (by kernel_rfl) (by kernel_rfl) (h1.trans h2.symm) (by kernel_rfl);have r1:([.ptr 0 0,vf 0,.ptr 1 0,vt 0]:List AV).map (gm (KA5 a h L bl pc n row hid σ))=[.ptr (σ 0) 0,.im (L.map eT) bl,.ptr (σ 1) 0,.int .i64 (a:Int)]:=by kernel_rfl
 have r2:([.ptr 0 0,vf 0,.ptr 1 0,vt 0]:List AV).map (gm (KA a h L bl pc n ((σ 3,Blk.cells (row.map eC).flatten false 48)::hid) (kcx σ 3)))=[.ptr (σ 0) 0,.im (L.map eT) bl,.ptr (σ 1) 0,.int .i64 (a:Int)]:=by kernel_rfl
 exact kvr S SH (r1.trans r2.symm)
theorem UT.step (S:UT a h L bl T z) (hn:L.length<=1000000) (hT16:T.length<=16) (hrow:T.all kbx=true) (hl:L[a]? =some l) (hlen:l.length<=1000000) (hcl:kap l=(l,[])) (hne:l≠[]) (hg:l≠goL) {T':List (List Cl)} (hst:kc8 l T=some T'): ∃ z1,Ev FF kco z .nrm z1/\UT (a+1) h L bl T' z1:=by
 have h0:a<L.length:=(yae.1 hl).1;have hl':L[yab (a:Int)]? =some l:=by rw[yaf];exact hl
 have h0':(a:Int)<(L.length:Int):=by omega
 have hw:=kbv h0 hn;unfold kc8 at hst;by_cases ht:l=thrL
 ·rw[iq ht] at hst;have hk: ¬kau l=true:=fun hk=>(kkd hk).2.2 ht
  split at hst
  ·cases hst
  ·rename_i h16;cases hst;rcases S with⟨hT,σ,S⟩ | ⟨U,pc,hid,σ,hT,hp,S⟩ | ⟨U,c,pc,hid,σ,hT,hc,hp,S⟩
   ·obtain⟨z1,e1,S1⟩:=qqw a h L bl (σ:=σ) S h0' hl' hlen hg ht hcl hne hk hw;subst hT;exact⟨z1,e1,.inr (.inl ⟨[],[],[],_,rfl,PcOk.nil [],S1⟩)⟩
   ·have hTl:T.length=U.length+1:=by rw[hT];simp
    obtain⟨z1,e1,S1⟩:=qqu a h L bl pc T.length hid (σ:=σ) hp.okF S h0' hl' hlen hg ht hcl hne hk ⟨by omega,by omega⟩ (by rw[hp.1];omega) hw;have hp2:PcOk (pc++[kaj]) T hid:=by
     rw[hT];exact hp.add (.inl ⟨rfl,rfl⟩)
    refine⟨z1,e1,.inr (.inl ⟨T,pc++[kaj],hid,sig σ [0,1,4] 5,rfl,hp2,?_⟩)⟩;rw[yah,yac];exact S1
   ·have hTl:T.length=U.length+1:=by rw[hT];simp
    obtain⟨z1,e1,S1⟩:=qqv a h L bl pc T.length c hid (σ:=σ) hp.okF S h0' hl' hlen hg ht hcl hne hk ⟨by omega,by omega⟩ (by rw[hp.1];omega) hw;generalize hσ':sig σ _ _=σ' at S1;have k3:σ' 3=σ 3:=by rw[←hσ'];rfl
    rw[←k3] at S1;have hp2:PcOk (pc++[.sl (σ' 3) 0 (c.map eC).length 3 none]) T ((σ' 3,Blk.cells (c.map eC).flatten false 48)::hid):=by
     rw[hT];refine(hp.more _).add (.inr ⟨σ' 3,hc,?_,List.mem_cons_self⟩);rw[List.length_map]
    have SB:=k94 S1;refine⟨z1,e1,.inr (.inl ⟨T,_,_,kcx σ' 3,rfl,hp2,?_⟩)⟩;rw[yah,yac];exact SB
 ·rw[ir ht] at hst;split at hst
  ·cases hst
  ·rename_i hgood;cases hst;simp only[not_or] at hgood;obtain⟨q1,q2,q3⟩:=hgood;have hk:kau l=true:=by simpa using q2
   rcases S with⟨hT,σ,S⟩ | ⟨U,pc,hid,σ,hT,hp,S⟩ | ⟨U,c,pc,hid,σ,hT,hc,hp,S⟩
   ·exact absurd hT q1
   ·have hn':0<T.length/\T.length<=16:=⟨by rw[hT];simp,hT16⟩;obtain⟨z1,e1,S1⟩:=qqq a h L bl pc T.length hid (σ:=σ) hp.okF S h0' hl' hlen hg ht hcl hne hk hn' hw;have hT':T.dropLast++[T.getLastD []++[kas l]]=U++[[kas l]]:=by
     rw[hT,yag,kex];rfl
    rw[hT'];refine⟨z1,e1,.inr (.inr ⟨U,[kas l],pc,hid,sig σ [0,1,2,17] 18,rfl,by simp,hp,?_⟩)⟩;have e:(U++[[kas l]]).length=T.length:=by rw[hT];simp
    rw[e];exact S1
   ·have hn':0<T.length/\T.length<=16:=⟨by rw[hT];simp,hT16⟩;have hc100:c.length<100:=by
     rw[hT,kex] at q3;have:kbx c=true:=List.all_eq_true.1 hrow c (by rw[hT];simp);simp only[kbx,Bool.and_eq_true,decide_eq_true_eq] at this;omega
    obtain⟨z1,e1,S1⟩:=qqr a h L bl pc T.length c hid (σ:=σ) hp.okF S h0' hl' hlen hg ht hcl hne hk hn' hc100 hw;have hT':T.dropLast++[T.getLastD []++[kas l]]=U++[c++[kas l]]:=by
     rw[hT,yag,kex]
    rw[hT'];refine⟨z1,e1,.inr (.inr ⟨U,c++[kas l],pc,hid,sig σ [0,1,2,18] 19,rfl,by simp,hp,?_⟩)⟩;have e:(U++[c++[kas l]]).length=T.length:=by rw[hT];simp
    rw[e];exact S1
end
def UPost (h:Hd) (L:List Bs) (bl:Bool) (z:St):Option (List (List Cl))×Nat×List Bs->Prop
 |(some T',a',ls)=>∃ b z',a'=b+1/\b<L.length/\ls=L.drop a'/\Ev FF (.loop kco) z (.ext 2) z'/\UT b h L bl T' z'
 |(none,a',_)=>∃ z',(a'=L.length/\Ev FF (.loop kco) z (.ext 2) z'/\ ∃ T',UT a' h L bl T' z')\/(Ev FF (.loop kco) z .ret z'/\UF (a'+1) z')
theorem UPost.loop {h:Hd} {L:List Bs} {bl:Bool} {z z1:St} (e1:Ev FF kco z .nrm z1): ∀ {p:Option (List (List Cl))×Nat×List Bs},UPost h L bl z1 p->UPost h L bl z p
 |(some _,_,_),⟨b,z',h1,h2,h3,h4,h5⟩=>⟨b,z',h1,h2,h3,e1.loop h4,h5⟩
 |(none,_,_),⟨z',.inl ⟨h1,h2,h3⟩⟩=>⟨z',.inl ⟨h1,e1.loop h2,h3⟩⟩
 |(none,_,_),⟨z',.inr ⟨h1,h2⟩⟩=>⟨z',.inr ⟨e1.loop h1,h2⟩⟩
theorem qp3 (h:Hd) (L:List Bs) (bl:Bool) (hn:L.length<=1000000) (hL: ∀ l ∈ L,kap l=(l,[])/\l≠[]/\l.length<=1000000): ∀ (k a:Nat) (T:List (List Cl)) {z:St},a+k=L.length->T.length<=16->T.all kbx=true->UT a h L bl T z->
  UPost h L bl z (kc4 (L.drop a) a T):=by
 intro k
 induction k with
 |zero=>
  intro a T z ha _ _ S;rw[List.drop_of_length_le (by omega)];obtain⟨z1,e1,S1⟩:=S.exit (by omega);exact⟨z1,.inl ⟨by omega,Ev.loopJ e1 (by intro h;cases h),T,S1⟩⟩
 |succ k ih=>
  intro a T z ha hT hr S;have h1:a<L.length:=by omega
  have hl:L[a]? =some L[a]:=List.getElem?_eq_getElem h1;obtain⟨c1,c2,c3⟩:=hL _ (List.getElem_mem h1);rw[List.drop_eq_getElem_cons h1,kpc];by_cases hg:L[a]=goL
  ·rw[iq hg];obtain⟨z1,e1,S1⟩:=S.go hl hg;exact⟨a,z1,rfl,h1,rfl,Ev.loopJ e1 (by intro h;cases h),S1⟩
  ·rw[ir hg];cases hst:kc8 L[a] T with
   |none=>
    obtain⟨z1,e1,S1⟩:=S.fail hn hT hl c3 c1 c2 hg hst;exact⟨z1,.inr ⟨Ev.loopJ e1 (by intro h;cases h),S1⟩⟩
   |some T'=>
    obtain⟨z1,e1,S1⟩:=S.step hn hT hr hl c3 c1 c2 hg hst;obtain⟨_,k1,k2⟩:=kwf hst hr hT;exact(ih (a+1) T' (by omega) k2 k1 S1).loop e1
section
variable (a:Nat) (h:Hd) (L:List Bs) (bl:Bool) (M:List Mov) (q:Sh) {z:St} {σ:Nat->Nat}
theorem k8a (S:Sim (KE0 a h L bl M q σ) (kaa [2,5,6,9] [.ptr 0 0,vf 0,.ptr 1 0,vt 0] sE) z) (h0:(a:Int)<(L.length:Int)): ∃ z1,Ev FF cXx z .nrm z1/\Sim (KE0 a h L bl M q (sig σ [0,1] 2)) (kaa [2,5,6,9] [.ptr 0 0,vf 0,.ptr 1 0,vt 0] sE) z1:=by
 have H:=Tok.start (G:=gl20) (F:=FF) (σ:=σ) S.heap.inj S 2 4 1 0 (hT a h) [.im (L.map eT) bl] [] (.c (yad kae _ _) .n) .n rfl rfl;have H:=H.t 6 [.int .i64 L.length,.bool ((a:Int) == L.length)]|>.L (vf 0) 4|>.q 5 (.bin .eql (cT 0) (cT 4))|>.m 5 false (b:=((a:Int) == L.length)) (by simp;omega);exact H.ev _ _ _ [0,1] [.ptr 0 0,vf 0,.ptr 1 0,vt 0] [.cells [(.int .i64 0),(.int .i64 0),(.int .i64 0),(.im [] true),(.im [] true)] false 26,.cells [(vt 1),(vt 2),(vt 3),(.im [] true),(.im [] true)] false 26] 2 _ _ _
theorem k78 (S:Sim (KE0 a h L bl M q σ) (kaa [2,5,6,9] [.ptr 0 0,vf 0,.ptr 1 0,vt 0] sE) z) (h0:(a:Int)=(L.length:Int)) (hw:w64 ((a:Int)+1)=((a+1:Nat):Int)): ∃ z1,Ev FF cXx z .ret z1/\Sim (kal [.int .i64 ((a+1:Nat):Int)] [] [] (sig σ [0] 2) 1) (kaa [2,3,4] [.ptr 0 0,vt 0,.int .i64 1] [tb]) z1:=by
 have H:=Tok.start (G:=gl20) (F:=FF) (σ:=σ) S.heap.inj S 2 4 1 0 (hT a h) [.im (L.map eT) bl] [] (.c (yad kae _ _) .n) .n rfl rfl;have H:=H.t 6 [.int .i64 L.length,.bool ((a:Int) == L.length)]|>.L (vf 0) 4|>.q 5 (.bin .eql (cT 0) (cT 4))|>.m 5 true (b:=((a:Int) == L.length)) (by simp;omega);have H:=H.p1 6 hw;exact H.ev _ _ _ [0] [.ptr 0 0,vt 6,.int .i64 1] [tb] 2 _ _ _
theorem k74 (S:Sim (KE0 a h L bl M q σ) (kaa [2,5,6,9] [.ptr 0 0,vf 0,.ptr 1 0,vt 0] sE) z) (hw:w64 ((a:Int)+1)=((a+1:Nat):Int)): ∃ z1,Ev FF c6x z .nrm z1/\Sim (KE0 (a+1) h L bl M q (sig σ [0,1] 2)) (kaa [2,5,6,14] [.ptr 0 0,vf 0,.ptr 1 0,vt 0] sE) z1:=by
 have H:=Tok.start (G:=gl20) (F:=FF) (σ:=σ) S.heap.inj S 2 4 1 0 (hT a h) [.im (L.map eT) bl] [] (.c (yad kae _ _) .n) .n rfl rfl;have H:=H.p1 4 hw;exact H.ev _ _ _ [0,1] [.ptr 0 0,vf 0,.ptr 1 0,vt 4] [.cells [(.int .i64 0),(.int .i64 0),(.int .i64 0),(.im [] true),(.im [] true)] false 26,.cells [(vt 1),(vt 2),(vt 3),(.im [] true),(.im [] true)] false 26] 2 _ _ _
theorem qdm (S:Sim (KE0 a h L bl M q σ) (kaa [2,5,6,14] [.ptr 0 0,vf 0,.ptr 1 0,vt 0] sE) z) (h0: ¬(a:Int)<(L.length:Int)): ∃ z1,Ev FF kc5 z (.ext 5) z1/\Sim (KE0 a h L bl M q (sig σ [0,1] 2)) (kaa [2,5,6] [.ptr 0 0,vf 0,.ptr 1 0] sE) z1:=by
 have H:=Tok.start (G:=gl20) (F:=FF) (σ:=σ) S.heap.inj S 2 4 1 0 (hT a h) [.im (L.map eT) bl] [] (.c (yad kae _ _) .n) .n rfl rfl;have H:=H.t 6 [.int .i64 L.length,.bool (decide ((a:Int)<L.length))]|>.L (vf 0) 4|>.q 5 (.bin .lss (cT 0) (cT 4))|>.w 5 h0;exact H.ev _ _ _ [0,1] [.ptr 0 0,vf 0,.ptr 1 0] [.cells [(.int .i64 0),(.int .i64 0),(.int .i64 0),(.im [] true),(.im [] true)] false 26,.cells [(vt 1),(vt 2),(vt 3),(.im [] true),(.im [] true)] false 26] 2 _ _ _
theorem qdi (S:Sim (KE0 a h L bl M q σ) (kaa [2,5,6,14] [.ptr 0 0,vf 0,.ptr 1 0,vt 0] sE) z) (h0:(a:Int)<(L.length:Int)) {l:Bs} (hl:L[yab (a:Int)]? =some l) (hlen:l.length<=1000000) (hk:(ka6 l).kind<0) (hw:w64 ((a:Int)+1)=((a+1:Nat):Int)): ∃ z1,Ev FF kc5 z .ret z1/\Sim (kal [.int .i64 ((a+1:Nat):Int)] [] [] (sig σ [0] 3) 1) (kaa [2,3,4] [.ptr 0 0,vt 0,.int .i64 1] [tb]) z1:=by
 have H:=Tok.start (G:=gl20) (F:=FF) (σ:=σ) S.heap.inj S 2 4 1 0 (hT a h) [.im (L.map eT) bl] [] (.c (yad kae _ _) .n) .n rfl rfl;have H:=H.t 6 [.int .i64 L.length,.bool (decide ((a:Int)<L.length))]|>.L (vf 0) 4|>.q 5 (.bin .lss (cT 0) (cT 4))|>.y 5 h0;have H:=H.t 7 [.str l]|>.I (vf 0) (vt 0) [vt 6] kae (by omega) hl;have H:=H.t 10 [.int .i64 (ka6 l).kind,.int .i64 (ka6 l).n,.bool (decide ((ka6 l).kind<0))]|>.s [vt 6] (.agg [vt 7,vt 8]) (kgf l hlen)|>.q 9 (.bin .lss (cT 7) (cI 0))|>.y 9 hk;have H:=H.p1 10 hw;exact H.ev _ _ _ [0] [.ptr 0 0,vt 10,.int .i64 1] [tb] 3 _ _ _
theorem qdt (S:Sim (KE0 a h L bl M q σ) (kaa [2,5,6,14] [.ptr 0 0,vf 0,.ptr 1 0,vt 0] sE) z) (h0:(a:Int)<(L.length:Int)) {l:Bs} (hl:L[yab (a:Int)]? =some l) (hlen:l.length<=1000000) (hk: ¬(ka6 l).kind<0) (hw:w64 ((a:Int)+1)=((a+1:Nat):Int)): ∃ z1,Ev FF kc5 z .nrm z1/\Sim (KE1 (a+1) h L bl [ka6 l] q (sig σ [0,1,4] 5)) (kaa [2,5,6,14] [.ptr 0 0,vf 0,.ptr 1 0,vt 0] sE1) z1:=by
 have H:=Tok.start (G:=gl20) (F:=FF) (σ:=σ) S.heap.inj S 2 4 1 0 (hT a h) [.im (L.map eT) bl] [] (.c (yad kae _ _) .n) .n rfl rfl;have H:=H.t 6 [.int .i64 L.length,.bool (decide ((a:Int)<L.length))]|>.L (vf 0) 4|>.q 5 (.bin .lss (cT 0) (cT 4))|>.y 5 h0;have H:=H.t 7 [.str l]|>.I (vf 0) (vt 0) [vt 6] kae (by omega) hl;have H:=H.t 10 [.int .i64 (ka6 l).kind,.int .i64 (ka6 l).n,.bool (decide ((ka6 l).kind<0))]|>.s [vt 6] (.agg [vt 7,vt 8]) (kgf l hlen)|>.q 9 (.bin .lss (cT 7) (cI 0))|>.w 9 hk;have H:=H.p1 10 hw;exact H.ev _ _ _ [0,1,4] [.ptr 0 0,vf 0,.ptr 1 0,vt 10] [.cells [(.int .i64 0),(.int .i64 0),(.int .i64 0),(.im [] true),(.im [] true)] false 26,.cells [(vt 1),(vt 2),(vt 3),(.im [] true),(.sl 4 0 1 2 none)] false 26,.cells [(vt 7),(vt 8)] false 45] 5 _ _ _
theorem k9c (S:Sim (KE0 a h L bl M q σ) (kaa [2,5,6] [.ptr 0 0,vf 0,.ptr 1 0] sE) z):J FF (kai FF 11) [] (.code (.seq c7x .ret)) z (.tup [.agg [.int .i64 h.n0,.int .i64 h.n1,.int .i64 h.n2,.im [] true,.im [] true],.int .i64 L.length,.int .i64 0]):=by
 have H:=Tok.start (G:=gl20) (F:=FF) (σ:=σ) S.heap.inj S 2 4 1 0 (hT a h) [.im (L.map eT) bl] [] (.c (yad kae _ _) .n) .n rfl rfl;have H:=H.t 5 [.int .i64 L.length]|>.L (vf 0) 4;exact H.e [] rfl
theorem qdn (S:Sim (KE1 a h L bl M q σ) (kaa [2,5,6,14] [.ptr 0 0,vf 0,.ptr 1 0,vt 0] sE1) z) (h0: ¬(a:Int)<(L.length:Int)): ∃ z1,Ev FF kc5 z (.ext 5) z1/\Sim (KE1 a h L bl M q (sig σ [0,1,2] 3)) (kaa [2,5,6] [.ptr 0 0,vf 0,.ptr 1 0] sE1) z1:=by
 have H:=Tok.start (G:=gl20) (F:=FF) (σ:=σ) S.heap.inj S 3 4 1 1 (hT a h) [.im (L.map eT) bl] [(0,2,M.map eM)] (.c (yad kae _ _) .n) (.c (yaa kax _) .n) rfl rfl;have H:=H.t 6 [.int .i64 L.length,.bool (decide ((a:Int)<L.length))]|>.L (vf 0) 4|>.q 5 (.bin .lss (cT 0) (cT 4))|>.w 5 h0;exact H.ev _ _ _ [0,1,2] [.ptr 0 0,vf 0,.ptr 1 0] [.cells [(.int .i64 0),(.int .i64 0),(.int .i64 0),(.im [] true),(.im [] true)] false 26,.cells [(vt 1),(vt 2),(vt 3),(.im [] true),(.sl 2 0 1000002 2 none)] false 26,.own 1000002 false 45] 3 _ _ _
theorem qdj (S:Sim (KE1 a h L bl M q σ) (kaa [2,5,6,14] [.ptr 0 0,vf 0,.ptr 1 0,vt 0] sE1) z) (h0:(a:Int)<(L.length:Int)) {l:Bs} (hl:L[yab (a:Int)]? =some l) (hlen:l.length<=1000000) (hk:(ka6 l).kind<0) (hw:w64 ((a:Int)+1)=((a+1:Nat):Int)): ∃ z1,Ev FF kc5 z .ret z1/\Sim (kal [.int .i64 ((a+1:Nat):Int)] [] [] (sig σ [0] 4) 1) (kaa [2,3,4] [.ptr 0 0,vt 0,.int .i64 1] [tb]) z1:=by
 have H:=Tok.start (G:=gl20) (F:=FF) (σ:=σ) S.heap.inj S 3 4 1 1 (hT a h) [.im (L.map eT) bl] [(0,2,M.map eM)] (.c (yad kae _ _) .n) (.c (yaa kax _) .n) rfl rfl;have H:=H.t 6 [.int .i64 L.length,.bool (decide ((a:Int)<L.length))]|>.L (vf 0) 4|>.q 5 (.bin .lss (cT 0) (cT 4))|>.y 5 h0;have H:=H.t 7 [.str l]|>.I (vf 0) (vt 0) [vt 6] kae (by omega) hl;have H:=H.t 10 [.int .i64 (ka6 l).kind,.int .i64 (ka6 l).n,.bool (decide ((ka6 l).kind<0))]|>.s [vt 6] (.agg [vt 7,vt 8]) (kgf l hlen)|>.q 9 (.bin .lss (cT 7) (cI 0))|>.y 9 hk;have H:=H.p1 10 hw;exact H.ev _ _ _ [0] [.ptr 0 0,vt 10,.int .i64 1] [tb] 4 _ _ _
theorem qdq (S:Sim (KE1 a h L bl M q σ) (kaa [2,5,6,14] [.ptr 0 0,vf 0,.ptr 1 0,vt 0] sE1) z) (h0:(a:Int)<(L.length:Int)) {l:Bs} (hl:L[yab (a:Int)]? =some l) (hlen:l.length<=1000000) (hk: ¬(ka6 l).kind<0) (hM:M.length=1000) (hw:w64 ((a:Int)+1)=((a+1:Nat):Int)): ∃ z1,Ev FF kc5 z .ret z1/\Sim (kal [.int .i64 ((a+1:Nat):Int)] [] [] (sig σ [0] 4) 1) (kaa [2,3,4] [.ptr 0 0,vt 0,.int .i64 1] [tb]) z1:=by
 have H:=Tok.start (G:=gl20) (F:=FF) (σ:=σ) S.heap.inj S 3 4 1 1 (hT a h) [.im (L.map eT) bl] [(0,2,M.map eM)] (.c (yad kae _ _) .n) (.c (yaa kax _) .n) rfl rfl;have H:=H.t 6 [.int .i64 L.length,.bool (decide ((a:Int)<L.length))]|>.L (vf 0) 4|>.q 5 (.bin .lss (cT 0) (cT 4))|>.y 5 h0;have H:=H.t 7 [.str l]|>.I (vf 0) (vt 0) [vt 6] kae (by omega) hl;have H:=H.t 10 [.int .i64 (ka6 l).kind,.int .i64 (ka6 l).n,.bool (decide ((ka6 l).kind<0))]|>.s [vt 6] (.agg [vt 7,vt 8]) (kgf l hlen)|>.q 9 (.bin .lss (cT 7) (cI 0))|>.w 9 hk;have H:=H.t 12 [.int .i64 M.length,.bool ((M.length:Int) == 1000)]|>.c (p:=(.len 0 (.c vE),vt 10)) (fun _ _ _=>kga (by decide) rfl rfl)|>.q 11 (.bin .eql (cT 10) (cI 1000))|>.m 11 true (b:=((M.length:Int) == 1000)) (by rw[hM];rfl);have H:=H.p1 12 hw;exact H.ev _ _ _ [0] [.ptr 0 0,vt 12,.int .i64 1] [tb] 4 _ _ _
theorem qdu (S:Sim (KE1 a h L bl M q σ) (kaa [2,5,6,14] [.ptr 0 0,vf 0,.ptr 1 0,vt 0] sE1) z) (h0:(a:Int)<(L.length:Int)) {l:Bs} (hl:L[yab (a:Int)]? =some l) (hlen:l.length<=1000000) (hk: ¬(ka6 l).kind<0) (hM:M.length<1000) (hw:w64 ((a:Int)+1)=((a+1:Nat):Int)): ∃ z1,Ev FF kc5 z .nrm z1/\Sim (KE1 (a+1) h L bl (M++[ka6 l]) q (sig σ [0,1,5] 6)) (kaa [2,5,6,14] [.ptr 0 0,vf 0,.ptr 1 0,vt 0] sE1) z1:=by
 have H:=Tok.start (G:=gl20) (F:=FF) (σ:=σ) S.heap.inj S 3 4 1 1 (hT a h) [.im (L.map eT) bl] [(0,2,M.map eM)] (.c (yad kae _ _) .n) (.c (yaa kax _) .n) rfl rfl;have H:=H.t 6 [.int .i64 L.length,.bool (decide ((a:Int)<L.length))]|>.L (vf 0) 4|>.q 5 (.bin .lss (cT 0) (cT 4))|>.y 5 h0;have H:=H.t 7 [.str l]|>.I (vf 0) (vt 0) [vt 6] kae (by omega) hl;have H:=H.t 10 [.int .i64 (ka6 l).kind,.int .i64 (ka6 l).n,.bool (decide ((ka6 l).kind<0))]|>.s [vt 6] (.agg [vt 7,vt 8]) (kgf l hlen)|>.q 9 (.bin .lss (cT 7) (cI 0))|>.w 9 hk;have H:=H.t 12 [.int .i64 M.length,.bool ((M.length:Int) == 1000)]|>.c (p:=(.len 0 (.c vE),vt 10)) (fun _ _ _=>kga (by decide) rfl rfl)|>.q 11 (.bin .eql (cT 10) (cI 1000))|>.m 11 false (b:=((M.length:Int) == 1000)) (by simp;omega);have H:=H.o 1 (2,yai eM (M++[ka6 l])) (.own kax _)|>.a ⟨true,2,16,(vf 1000002),(.im [[vt 7,vt 8]] true),1001002⟩ (fun _ _ _=>keh rfl rfl rfl (by simp only[kaq,yac];omega) (.inl rfl) (by decide) (by decide) (by decide));have H:=H.p1 12 hw;exact H.ev _ _ _ [0,1,5] [.ptr 0 0,vf 0,.ptr 1 0,vt 12] [.cells [(.int .i64 0),(.int .i64 0),(.int .i64 0),(.im [] true),(.im [] true)] false 26,.cells [(vt 1),(vt 2),(vt 3),(.im [] true),(.sl 5 0 1001002 2 none)] false 26,.own 1001002 false 45] 6 _ _ _
theorem k9d (S:Sim (KE1 a h L bl M q σ) (kaa [2,5,6] [.ptr 0 0,vf 0,.ptr 1 0] sE1) z):J FF (kai FF 11) [] (.code (.seq c7x .ret)) z (.tup [.agg [.int .i64 h.n0,.int .i64 h.n1,.int .i64 h.n2,.im [] true,.im (yai eM M) false],.int .i64 L.length,.int .i64 0]):=by
 have H:=Tok.start (G:=gl20) (F:=FF) (σ:=σ) S.heap.inj S 3 4 1 1 (hT a h) [.im (L.map eT) bl] [(0,2,M.map eM)] (.c (yad kae _ _) .n) (.c (yaa kax _) .n) rfl rfl;have H:=H.t 5 [.int .i64 L.length]|>.L (vf 0) 4;exact H.e [] rfl
theorem k79 (hq:OkF (.im [q.tc] false)) (S:Sim (KC0 a h L bl M q σ) (kaa [2,5,6,9] [.ptr 0 0,vf 0,.ptr 1 0,vt 0] sC0) z) (h0:(a:Int)<(L.length:Int)): ∃ z1,Ev FF cXx z .nrm z1/\Sim (KC0 a h L bl M q (sig σ [0,1,2] 3)) (kaa [2,5,6,9] [.ptr 0 0,vf 0,.ptr 1 0,vt 0] sC0) z1:=by
 have H:=Tok.startH (G:=gl20) (F:=FF) (σ:=σ) S.heap.inj S 3 4 2 1 (hT a h) [.im (L.map eT) bl,.im [q.tc] false] [(0,1,(un q.n).map eN)] q.hid (.c (yad kae _ _) (.c hq .n)) (.c (yaa ka2 _) .n) rfl rfl;have H:=H.t 6 [.int .i64 L.length,.bool ((a:Int) == L.length)]|>.L (vf 0) 4|>.q 5 (.bin .eql (cT 0) (cT 4))|>.m 5 false (b:=((a:Int) == L.length)) (by simp;omega);exact H.ev _ _ _ [0,1,2] [.ptr 0 0,vf 0,.ptr 1 0,vt 0] [.cells [(.int .i64 0),(.int .i64 0),(.int .i64 0),(.im [] true),(.im [] true)] false 26,.cells [(vt 1),(vt 2),(vt 3),(.sl 2 0 1000001 1 none),(.im [] true)] false 26,.own 1 false 42] 3 _ _ _
theorem k77 (hq:OkF (.im [q.tc] false)) (S:Sim (KC0 a h L bl M q σ) (kaa [2,5,6,9] [.ptr 0 0,vf 0,.ptr 1 0,vt 0] sC0) z) (h0:(a:Int)=(L.length:Int)) (hw:w64 ((a:Int)+1)=((a+1:Nat):Int)): ∃ z1,Ev FF cXx z .ret z1/\Sim ({kal [.int .i64 ((a+1:Nat):Int)] [] [] (sig σ [0] 3) 1 with hid:=q.hid}) (kaa [2,3,4] [.ptr 0 0,vt 0,.int .i64 1] [tb]) z1:=by
 have H:=Tok.startH (G:=gl20) (F:=FF) (σ:=σ) S.heap.inj S 3 4 2 1 (hT a h) [.im (L.map eT) bl,.im [q.tc] false] [(0,1,(un q.n).map eN)] q.hid (.c (yad kae _ _) (.c hq .n)) (.c (yaa ka2 _) .n) rfl rfl;have H:=H.t 6 [.int .i64 L.length,.bool ((a:Int) == L.length)]|>.L (vf 0) 4|>.q 5 (.bin .eql (cT 0) (cT 4))|>.m 5 true (b:=((a:Int) == L.length)) (by simp;omega);have H:=H.p1 6 hw;exact H.ev _ _ _ [0] [.ptr 0 0,vt 6,.int .i64 1] [tb] 3 _ _ _
theorem k73 (hq:OkF (.im [q.tc] false)) (S:Sim (KC0 a h L bl M q σ) (kaa [2,5,6,9] [.ptr 0 0,vf 0,.ptr 1 0,vt 0] sC0) z) (hw:w64 ((a:Int)+1)=((a+1:Nat):Int)): ∃ z1,Ev FF c6x z .nrm z1/\Sim (KC0 (a+1) h L bl M q (sig σ [0,1,2] 3)) (kaa [2,5,6,14] [.ptr 0 0,vf 0,.ptr 1 0,vt 0] sC0) z1:=by
 have H:=Tok.startH (G:=gl20) (F:=FF) (σ:=σ) S.heap.inj S 3 4 2 1 (hT a h) [.im (L.map eT) bl,.im [q.tc] false] [(0,1,(un q.n).map eN)] q.hid (.c (yad kae _ _) (.c hq .n)) (.c (yaa ka2 _) .n) rfl rfl;have H:=H.p1 4 hw;exact H.ev _ _ _ [0,1,2] [.ptr 0 0,vf 0,.ptr 1 0,vt 4] [.cells [(.int .i64 0),(.int .i64 0),(.int .i64 0),(.im [] true),(.im [] true)] false 26,.cells [(vt 1),(vt 2),(vt 3),(.sl 2 0 1000001 1 none),(.im [] true)] false 26,.own 1 false 42] 3 _ _ _
theorem qdk (hq:OkF (.im [q.tc] false)) (S:Sim (KC0 a h L bl M q σ) (kaa [2,5,6,14] [.ptr 0 0,vf 0,.ptr 1 0,vt 0] sC0) z) (h0: ¬(a:Int)<(L.length:Int)): ∃ z1,Ev FF kc5 z (.ext 5) z1/\Sim (KC0 a h L bl M q (sig σ [0,1,2] 3)) (kaa [2,5,6] [.ptr 0 0,vf 0,.ptr 1 0] sC0) z1:=by
 have H:=Tok.startH (G:=gl20) (F:=FF) (σ:=σ) S.heap.inj S 3 4 2 1 (hT a h) [.im (L.map eT) bl,.im [q.tc] false] [(0,1,(un q.n).map eN)] q.hid (.c (yad kae _ _) (.c hq .n)) (.c (yaa ka2 _) .n) rfl rfl;have H:=H.t 6 [.int .i64 L.length,.bool (decide ((a:Int)<L.length))]|>.L (vf 0) 4|>.q 5 (.bin .lss (cT 0) (cT 4))|>.w 5 h0;exact H.ev _ _ _ [0,1,2] [.ptr 0 0,vf 0,.ptr 1 0] [.cells [(.int .i64 0),(.int .i64 0),(.int .i64 0),(.im [] true),(.im [] true)] false 26,.cells [(vt 1),(vt 2),(vt 3),(.sl 2 0 1000001 1 none),(.im [] true)] false 26,.own 1 false 42] 3 _ _ _
theorem qdg (hq:OkF (.im [q.tc] false)) (S:Sim (KC0 a h L bl M q σ) (kaa [2,5,6,14] [.ptr 0 0,vf 0,.ptr 1 0,vt 0] sC0) z) (h0:(a:Int)<(L.length:Int)) {l:Bs} (hl:L[yab (a:Int)]? =some l) (hlen:l.length<=1000000) (hk:(ka6 l).kind<0) (hw:w64 ((a:Int)+1)=((a+1:Nat):Int)): ∃ z1,Ev FF kc5 z .ret z1/\Sim ({kal [.int .i64 ((a+1:Nat):Int)] [] [] (sig σ [0] 4) 1 with hid:=q.hid}) (kaa [2,3,4] [.ptr 0 0,vt 0,.int .i64 1] [tb]) z1:=by
 have H:=Tok.startH (G:=gl20) (F:=FF) (σ:=σ) S.heap.inj S 3 4 2 1 (hT a h) [.im (L.map eT) bl,.im [q.tc] false] [(0,1,(un q.n).map eN)] q.hid (.c (yad kae _ _) (.c hq .n)) (.c (yaa ka2 _) .n) rfl rfl;have H:=H.t 6 [.int .i64 L.length,.bool (decide ((a:Int)<L.length))]|>.L (vf 0) 4|>.q 5 (.bin .lss (cT 0) (cT 4))|>.y 5 h0;have H:=H.t 7 [.str l]|>.I (vf 0) (vt 0) [vt 6] kae (by omega) hl;have H:=H.t 10 [.int .i64 (ka6 l).kind,.int .i64 (ka6 l).n,.bool (decide ((ka6 l).kind<0))]|>.s [vt 6] (.agg [vt 7,vt 8]) (kgf l hlen)|>.q 9 (.bin .lss (cT 7) (cI 0))|>.y 9 hk;have H:=H.p1 10 hw;exact H.ev _ _ _ [0] [.ptr 0 0,vt 10,.int .i64 1] [tb] 4 _ _ _
theorem qdr (hq:OkF (.im [q.tc] false)) (S:Sim (KC0 a h L bl M q σ) (kaa [2,5,6,14] [.ptr 0 0,vf 0,.ptr 1 0,vt 0] sC0) z) (h0:(a:Int)<(L.length:Int)) {l:Bs} (hl:L[yab (a:Int)]? =some l) (hlen:l.length<=1000000) (hk: ¬(ka6 l).kind<0) (hw:w64 ((a:Int)+1)=((a+1:Nat):Int)): ∃ z1,Ev FF kc5 z .nrm z1/\Sim (KC1 (a+1) h L bl [ka6 l] q (sig σ [0,1,2,5] 6)) (kaa [2,5,6,14] [.ptr 0 0,vf 0,.ptr 1 0,vt 0] sC1) z1:=by
 have H:=Tok.startH (G:=gl20) (F:=FF) (σ:=σ) S.heap.inj S 3 4 2 1 (hT a h) [.im (L.map eT) bl,.im [q.tc] false] [(0,1,(un q.n).map eN)] q.hid (.c (yad kae _ _) (.c hq .n)) (.c (yaa ka2 _) .n) rfl rfl;have H:=H.t 6 [.int .i64 L.length,.bool (decide ((a:Int)<L.length))]|>.L (vf 0) 4|>.q 5 (.bin .lss (cT 0) (cT 4))|>.y 5 h0;have H:=H.t 7 [.str l]|>.I (vf 0) (vt 0) [vt 6] kae (by omega) hl;have H:=H.t 10 [.int .i64 (ka6 l).kind,.int .i64 (ka6 l).n,.bool (decide ((ka6 l).kind<0))]|>.s [vt 6] (.agg [vt 7,vt 8]) (kgf l hlen)|>.q 9 (.bin .lss (cT 7) (cI 0))|>.w 9 hk;have H:=H.p1 10 hw;exact H.ev _ _ _ [0,1,2,5] [.ptr 0 0,vf 0,.ptr 1 0,vt 10] [.cells [(.int .i64 0),(.int .i64 0),(.int .i64 0),(.im [] true),(.im [] true)] false 26,.cells [(vt 1),(vt 2),(vt 3),(.sl 2 0 1000001 1 none),(.sl 5 0 1 2 none)] false 26,.own 1 false 42,.cells [(vt 7),(vt 8)] false 45] 6 _ _ _
theorem k9a (hq:OkF (.im [q.tc] false)) (S:Sim (KC0 a h L bl M q σ) (kaa [2,5,6] [.ptr 0 0,vf 0,.ptr 1 0] sC0) z): ∃ z1,Ev FF c7x z .nrm z1/\Sim (RC0 L.length h q (sig σ [0,2] 3)) (kaa [2,3,4] [.ptr 0 0,vt 0,.int .i64 0] rC0) z1:=by
 have H:=Tok.startH (G:=gl20) (F:=FF) (σ:=σ) S.heap.inj S 3 4 2 1 (hT a h) [.im (L.map eT) bl,.im [q.tc] false] [(0,1,(un q.n).map eN)] q.hid (.c (yad kae _ _) (.c hq .n)) (.c (yaa ka2 _) .n) rfl rfl;have H:=H.t 5 [.int .i64 L.length]|>.L (vf 0) 4;exact H.ev _ _ _ [0,2] [.ptr 0 0,vt 4,.int .i64 0] [.cells [(vt 1),(vt 2),(vt 3),(.sl 2 0 1000001 1 none),(.im [] true)] false 26,.own 1 false 42] 3 _ _ _
theorem qdl (hq:OkF (.im [q.tc] false)) (S:Sim (KC1 a h L bl M q σ) (kaa [2,5,6,14] [.ptr 0 0,vf 0,.ptr 1 0,vt 0] sC1) z) (h0: ¬(a:Int)<(L.length:Int)): ∃ z1,Ev FF kc5 z (.ext 5) z1/\Sim (KC1 a h L bl M q (sig σ [0,1,2,3] 4)) (kaa [2,5,6] [.ptr 0 0,vf 0,.ptr 1 0] sC1) z1:=by
 have H:=Tok.startH (G:=gl20) (F:=FF) (σ:=σ) S.heap.inj S 4 4 2 2 (hT a h) [.im (L.map eT) bl,.im [q.tc] false] [(0,1,(un q.n).map eN),(1,2,M.map eM)] q.hid (.c (yad kae _ _) (.c hq .n)) (.c (yaa ka2 _) (.c (yaa kax _) .n)) rfl rfl;have H:=H.t 6 [.int .i64 L.length,.bool (decide ((a:Int)<L.length))]|>.L (vf 0) 4|>.q 5 (.bin .lss (cT 0) (cT 4))|>.w 5 h0;exact H.ev _ _ _ [0,1,2,3] [.ptr 0 0,vf 0,.ptr 1 0] [.cells [(.int .i64 0),(.int .i64 0),(.int .i64 0),(.im [] true),(.im [] true)] false 26,.cells [(vt 1),(vt 2),(vt 3),(.sl 2 0 1000001 1 none),(.sl 3 0 1001002 2 none)] false 26,.own 1 false 42,.own 1001002 false 45] 4 _ _ _
theorem qdh (hq:OkF (.im [q.tc] false)) (S:Sim (KC1 a h L bl M q σ) (kaa [2,5,6,14] [.ptr 0 0,vf 0,.ptr 1 0,vt 0] sC1) z) (h0:(a:Int)<(L.length:Int)) {l:Bs} (hl:L[yab (a:Int)]? =some l) (hlen:l.length<=1000000) (hk:(ka6 l).kind<0) (hw:w64 ((a:Int)+1)=((a+1:Nat):Int)): ∃ z1,Ev FF kc5 z .ret z1/\Sim ({kal [.int .i64 ((a+1:Nat):Int)] [] [] (sig σ [0] 5) 1 with hid:=q.hid}) (kaa [2,3,4] [.ptr 0 0,vt 0,.int .i64 1] [tb]) z1:=by
 have H:=Tok.startH (G:=gl20) (F:=FF) (σ:=σ) S.heap.inj S 4 4 2 2 (hT a h) [.im (L.map eT) bl,.im [q.tc] false] [(0,1,(un q.n).map eN),(1,2,M.map eM)] q.hid (.c (yad kae _ _) (.c hq .n)) (.c (yaa ka2 _) (.c (yaa kax _) .n)) rfl rfl;have H:=H.t 6 [.int .i64 L.length,.bool (decide ((a:Int)<L.length))]|>.L (vf 0) 4|>.q 5 (.bin .lss (cT 0) (cT 4))|>.y 5 h0;have H:=H.t 7 [.str l]|>.I (vf 0) (vt 0) [vt 6] kae (by omega) hl;have H:=H.t 10 [.int .i64 (ka6 l).kind,.int .i64 (ka6 l).n,.bool (decide ((ka6 l).kind<0))]|>.s [vt 6] (.agg [vt 7,vt 8]) (kgf l hlen)|>.q 9 (.bin .lss (cT 7) (cI 0))|>.y 9 hk;have H:=H.p1 10 hw;exact H.ev _ _ _ [0] [.ptr 0 0,vt 10,.int .i64 1] [tb] 5 _ _ _
theorem qdp (hq:OkF (.im [q.tc] false)) (S:Sim (KC1 a h L bl M q σ) (kaa [2,5,6,14] [.ptr 0 0,vf 0,.ptr 1 0,vt 0] sC1) z) (h0:(a:Int)<(L.length:Int)) {l:Bs} (hl:L[yab (a:Int)]? =some l) (hlen:l.length<=1000000) (hk: ¬(ka6 l).kind<0) (hM:M.length=1000) (hw:w64 ((a:Int)+1)=((a+1:Nat):Int)): ∃ z1,Ev FF kc5 z .ret z1/\Sim ({kal [.int .i64 ((a+1:Nat):Int)] [] [] (sig σ [0] 5) 1 with hid:=q.hid}) (kaa [2,3,4] [.ptr 0 0,vt 0,.int .i64 1] [tb]) z1:=by
 have H:=Tok.startH (G:=gl20) (F:=FF) (σ:=σ) S.heap.inj S 4 4 2 2 (hT a h) [.im (L.map eT) bl,.im [q.tc] false] [(0,1,(un q.n).map eN),(1,2,M.map eM)] q.hid (.c (yad kae _ _) (.c hq .n)) (.c (yaa ka2 _) (.c (yaa kax _) .n)) rfl rfl;have H:=H.t 6 [.int .i64 L.length,.bool (decide ((a:Int)<L.length))]|>.L (vf 0) 4|>.q 5 (.bin .lss (cT 0) (cT 4))|>.y 5 h0;have H:=H.t 7 [.str l]|>.I (vf 0) (vt 0) [vt 6] kae (by omega) hl;have H:=H.t 10 [.int .i64 (ka6 l).kind,.int .i64 (ka6 l).n,.bool (decide ((ka6 l).kind<0))]|>.s [vt 6] (.agg [vt 7,vt 8]) (kgf l hlen)|>.q 9 (.bin .lss (cT 7) (cI 0))|>.w 9 hk;have H:=H.t 12 [.int .i64 M.length,.bool ((M.length:Int) == 1000)]|>.c (p:=(.len 0 (.c vC),vt 10)) (fun _ _ _=>kga (by decide) rfl rfl)|>.q 11 (.bin .eql (cT 10) (cI 1000))|>.m 11 true (b:=((M.length:Int) == 1000)) (by rw[hM];rfl);have H:=H.p1 12 hw;exact H.ev _ _ _ [0] [.ptr 0 0,vt 12,.int .i64 1] [tb] 5 _ _ _
theorem qds (hq:OkF (.im [q.tc] false)) (S:Sim (KC1 a h L bl M q σ) (kaa [2,5,6,14] [.ptr 0 0,vf 0,.ptr 1 0,vt 0] sC1) z) (h0:(a:Int)<(L.length:Int)) {l:Bs} (hl:L[yab (a:Int)]? =some l) (hlen:l.length<=1000000) (hk: ¬(ka6 l).kind<0) (hM:M.length<1000) (hw:w64 ((a:Int)+1)=((a+1:Nat):Int)): ∃ z1,Ev FF kc5 z .nrm z1/\Sim (KC1 (a+1) h L bl (M++[ka6 l]) q (sig σ [0,1,2,6] 7)) (kaa [2,5,6,14] [.ptr 0 0,vf 0,.ptr 1 0,vt 0] sC1) z1:=by
 have H:=Tok.startH (G:=gl20) (F:=FF) (σ:=σ) S.heap.inj S 4 4 2 2 (hT a h) [.im (L.map eT) bl,.im [q.tc] false] [(0,1,(un q.n).map eN),(1,2,M.map eM)] q.hid (.c (yad kae _ _) (.c hq .n)) (.c (yaa ka2 _) (.c (yaa kax _) .n)) rfl rfl;have H:=H.t 6 [.int .i64 L.length,.bool (decide ((a:Int)<L.length))]|>.L (vf 0) 4|>.q 5 (.bin .lss (cT 0) (cT 4))|>.y 5 h0;have H:=H.t 7 [.str l]|>.I (vf 0) (vt 0) [vt 6] kae (by omega) hl;have H:=H.t 10 [.int .i64 (ka6 l).kind,.int .i64 (ka6 l).n,.bool (decide ((ka6 l).kind<0))]|>.s [vt 6] (.agg [vt 7,vt 8]) (kgf l hlen)|>.q 9 (.bin .lss (cT 7) (cI 0))|>.w 9 hk;have H:=H.t 12 [.int .i64 M.length,.bool ((M.length:Int) == 1000)]|>.c (p:=(.len 0 (.c vC),vt 10)) (fun _ _ _=>kga (by decide) rfl rfl)|>.q 11 (.bin .eql (cT 10) (cI 1000))|>.m 11 false (b:=((M.length:Int) == 1000)) (by simp;omega);have H:=H.o 2 (2,yai eM (M++[ka6 l])) (.own kax _)|>.a ⟨true,2,16,(vf 1001002),(.im [[vt 7,vt 8]] true),1002002⟩ (fun _ _ _=>keh rfl rfl rfl (by simp only[kaq,yac];omega) (.inl rfl) (by decide) (by decide) (by decide));have H:=H.p1 12 hw;exact H.ev _ _ _ [0,1,2,6] [.ptr 0 0,vf 0,.ptr 1 0,vt 12] [.cells [(.int .i64 0),(.int .i64 0),(.int .i64 0),(.im [] true),(.im [] true)] false 26,.cells [(vt 1),(vt 2),(vt 3),(.sl 2 0 1000001 1 none),(.sl 6 0 1002002 2 none)] false 26,.own 1 false 42,.own 1002002 false 45] 7 _ _ _
theorem k9b (hq:OkF (.im [q.tc] false)) (S:Sim (KC1 a h L bl M q σ) (kaa [2,5,6] [.ptr 0 0,vf 0,.ptr 1 0] sC1) z): ∃ z1,Ev FF c7x z .nrm z1/\Sim (RC1 L.length h M q (sig σ [0,2,3] 4)) (kaa [2,3,4] [.ptr 0 0,vt 0,.int .i64 0] rC1) z1:=by
 have H:=Tok.startH (G:=gl20) (F:=FF) (σ:=σ) S.heap.inj S 4 4 2 2 (hT a h) [.im (L.map eT) bl,.im [q.tc] false] [(0,1,(un q.n).map eN),(1,2,M.map eM)] q.hid (.c (yad kae _ _) (.c hq .n)) (.c (yaa ka2 _) (.c (yaa kax _) .n)) rfl rfl;have H:=H.t 5 [.int .i64 L.length]|>.L (vf 0) 4;exact H.ev _ _ _ [0,2,3] [.ptr 0 0,vt 4,.int .i64 0] [.cells [(vt 1),(vt 2),(vt 3),(.sl 2 0 1000001 1 none),(.sl 3 0 1001002 2 none)] false 26,.own 1 false 42,.own 1001002 false 45] 4 _ _ _
end
end Go.Proofs.Hz
