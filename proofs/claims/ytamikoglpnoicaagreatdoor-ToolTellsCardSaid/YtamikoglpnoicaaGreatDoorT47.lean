/-
  'hazellaw20.ToolTells' returns true for every input, and its arguments read afterwards as they read before; the card.
  Conditions: none.
-/
import Derived.Test.YtamikoglpnoicaaGreatDoorT46
import Derived.Test.YtamikoglpnoicaaGreatDoorT40
import Derived.Test.YtamikoglpnoicaaGreatDoorT41
open Go Go.Proofs
namespace Go.Proofs.Hz
open Classical renaming not_not->yaj
open Int renaming toNat_natCast->yah,toNat->yai
open List renaming getD_eq_getElem?_getD->yaa,map->yab,length_map->yac,getElem?_eq_getElem->yad,getElem?_eq_none->yae,getElem?_eq_some_iff->yaf,getElem_mem->yag,mem_map->yal
open OkF renaming im->yak
set_option maxRecDepth 20000
def UM (a:Nat) (h:Hd) (L:List Bs) (bl:Bool) (T:List (List Cl)) (M:List Mov) (ts:List Nat) (ws:List AV) (z:St):Prop:=
 (T=[]/\M=[]/\ ∃ q σ,Sim (KE0 a h L bl M q σ) (kaa ts ws sE) z)\/
 (T=[]/\M≠[]/\ ∃ q σ,Sim (KE1 a h L bl M q σ) (kaa ts ws sE1) z)\/
 (T≠[]/\M=[]/\ ∃ q σ,PcOk q.tc T q.hid/\q.n=T.length/\Sim (KC0 a h L bl M q σ) (kaa ts ws sC0) z)\/
 (T≠[]/\M≠[]/\ ∃ q σ,PcOk q.tc T q.hid/\q.n=T.length/\Sim (KC1 a h L bl M q σ) (kaa ts ws sC1) z)
def sCY (h:Hd) (tc:List AV) (n:Nat) (σ:Nat->Nat):List Blk:=[.cells tdZ false 26,.cells [.int .i64 h.n0,.int .i64 h.n1,.int .i64 h.n2,.sl (σ 2) 0 ((un n).map eN).length 1 none,.im [] true] false 26,.cells [tc].flatten false 42]
def sBc:List Blk:=[tb,rB hN1 kaj,.pre 1000001 1 [.sl 3 0 1001003 3 none] 42]
def kvx (h:Hd) (pc:List AV) (n:Nat) (row:List Cl) (σ:Nat->Nat):List Blk:=[.cells tdZ false 26,.cells [.int .i64 h.n0,.int .i64 h.n1,.int .i64 h.n2,.sl (σ 2) 0 ((un n).map eN).length 1 none,.im [] true] false 26,.cells (kfb (((un n).map eN).length - 1) [pc].flatten++[.sl (σ 3) 0 (row.map eC).length 3 none]) false 42]
def rY (a:Nat) (L:List Bs) (bl:Bool) (σ:Nat->Nat):List AV:=[.ptr (σ 0) 0,.im (L.map eT) bl,.ptr (σ 1) 0,.int .i64 (a:Int)]
theorem k95 {a:Nat} {h:Hd} {L:List Bs} {bl:Bool} {pc:List AV} {n:Nat} {row:List Cl} {hid:List (Nat×Blk)} {σ:Nat->Nat} {z:St} (hl:n=pc.length+1) (S:Sim (KB a h L bl pc n row hid σ) (kaa [2,5,6,9] [.ptr 0 0,vf 0,.ptr 1 0,vt 0] (sBc++[.own 1001003 false 48])) z):
  Sim (KC0 a h L bl [] ⟨pc++[.sl (σ 3) 0 (row.map eC).length 3 none],n,(σ 3,Blk.cells (row.map eC).flatten false 48)::hid⟩ (kcx σ 3)) (kaa [2,5,6,9] [.ptr 0 0,vf 0,.ptr 1 0,vt 0] sC0) z:=by
 have h1:sBc.map (gB (KB a h L bl pc n row hid σ))=kvx h pc n row σ:=by kernel_rfl
 have h2:sC0.map (gB (KC0 a h L bl [] ⟨pc++[.sl (σ 3) 0 (row.map eC).length 3 none],n,(σ 3,Blk.cells (row.map eC).flatten false 48)::hid⟩ (kcx σ 3)))=sCY h (pc++[.sl (σ 3) 0 (row.map eC).length 3 none]) n σ:=by kernel_rfl
 have h3:kvx h pc n row σ=sCY h (pc++[.sl (σ 3) 0 (row.map eC).length 3 none]) n σ:=by
  unfold kvx sCY;have e1:[pc].flatten=pc:=by simp
  have e2:[pc++[AV.sl (σ 3) 0 (row.map eC).length 3 none]].flatten=pc++[.sl (σ 3) 0 (row.map eC).length 3 none]:=by simp
  rw[e1,e2,kgd (by rw[yac,kbe];omega)]
 have r1:([.ptr 0 0,vf 0,.ptr 1 0,vt 0]:List AV).map (gm (KB a h L bl pc n row hid σ))=rY a L bl σ:=by kernel_rfl
 have r2:([.ptr 0 0,vf 0,.ptr 1 0,vt 0]:List AV).map (gm (KC0 a h L bl [] ⟨pc++[.sl (σ 3) 0 (row.map eC).length 3 none],n,(σ 3,Blk.cells (row.map eC).flatten false 48)::hid⟩ (kcx σ 3)))=rY a L bl σ:=by kernel_rfl
 rw[←h3] at h2;generalize hq:(Sh.mk (pc++[.sl (σ 3) 0 (row.map eC).length 3 none]) n ((σ 3,Blk.cells (row.map eC).flatten false 48)::hid))=q at h2 r2 ⊢;have hh:(KC0 a h L bl [] q (kcx σ 3)).hid=((KB a h L bl pc n row hid σ).σ sBc.length,gB (KB a h L bl pc n row hid σ) (.own 1001003 false 48))::(KB a h L bl pc n row hid σ).hid:=by
  subst hq;kernel_rfl
 exact kvr S (Sim.hide (cs:=sBc) (cs':=sC0) S (by kernel_rfl) (by kernel_rfl) (by kernel_rfl) (h1.trans h2.symm) hh) (r1.trans r2.symm)
theorem UT.toU {a:Nat} {h:Hd} {L:List Bs} {bl:Bool} {T:List (List Cl)} {z:St} (S:UT a h L bl T z):UM a h L bl T [] [2,5,6,9] [.ptr 0 0,vf 0,.ptr 1 0,vt 0] z:=by
 rcases S with⟨hT,σ,S⟩ | ⟨U,pc,hid,σ,hT,hp,S⟩ | ⟨U,c,pc,hid,σ,hT,hc,hp,S⟩
 ·exact .inl ⟨hT,rfl,⟨[],0,[]⟩,σ,S⟩
 ·have hn:T.length=U.length+1:=by rw[hT];simp
  have hp2:PcOk (pc++[kaj]) T hid:=by rw[hT];exact hp.add (.inl ⟨rfl,rfl⟩)
  refine .inr (.inr (.inl ⟨by rw[hT];simp,rfl,⟨pc++[kaj],T.length,hid⟩,σ,hp2,rfl,?_⟩));have h1:sA.map (gB (KA a h L bl pc T.length hid σ))=sAY h pc T.length σ:=by kernel_rfl
  have h2:sC0.map (gB (KC0 a h L bl [] ⟨pc++[kaj],T.length,hid⟩ σ))=sCY h (pc++[kaj]) T.length σ:=by kernel_rfl
  have h3:sAY h pc T.length σ=sCY h (pc++[kaj]) T.length σ:=by
   unfold sAY sCY;have e1:[pc].flatten=pc:=by simp
   have e2:[pc++[kaj]].flatten=pc++[kaj]:=by simp
   rw[e1,e2,kgd (by rw[yac,kbe,hp.1];omega)];rfl
  have r1:([.ptr 0 0,vf 0,.ptr 1 0,vt 0]:List AV).map (gm (KA a h L bl pc T.length hid σ))=rY a L bl σ:=by kernel_rfl
  have r2:([.ptr 0 0,vf 0,.ptr 1 0,vt 0]:List AV).map (gm (KC0 a h L bl [] ⟨pc++[kaj],T.length,hid⟩ σ))=rY a L bl σ:=by kernel_rfl
  exact kvr S (Sim.recode (ρ':=KC0 a h L bl [] ⟨pc++[kaj],T.length,hid⟩ σ) S rfl rfl rfl (h1.trans (h3.trans h2.symm)) rfl) (r1.trans r2.symm)
 ·have hn:T.length=U.length+1:=by rw[hT];simp
  have hp2:PcOk (pc++[.sl (σ 3) 0 (c.map eC).length 3 none]) T ((σ 3,Blk.cells (c.map eC).flatten false 48)::hid):=by
   rw[hT];refine(hp.more _).add (.inr ⟨σ 3,hc,?_,List.mem_cons_self⟩);rw[yac]
  refine .inr (.inr (.inl ⟨by rw[hT];simp,rfl,⟨pc++[.sl (σ 3) 0 (c.map eC).length 3 none],T.length,(σ 3,Blk.cells (c.map eC).flatten false 48)::hid⟩,kcx σ 3,hp2,rfl,?_⟩));exact k95 (by rw[hp.1,hn]) S
section
variable {a:Nat} {h:Hd} {L:List Bs} {bl:Bool} {T:List (List Cl)} {M:List Mov} {z:St} {l:Bs}
theorem UM.more (S:UM a h L bl T [] [2,5,6,9] [.ptr 0 0,vf 0,.ptr 1 0,vt 0] z) (hn:L.length<=1000000) (h0:a<L.length): ∃ z1,Ev FF (.seq cXx c6x) z .nrm z1/\UM (a+1) h L bl T [] [2,5,6,14] [.ptr 0 0,vf 0,.ptr 1 0,vt 0] z1:=by
 have hw:=kbv h0 hn;rcases S with⟨hT,hM,q,σ,S⟩ | ⟨hT,hM,q,σ,S⟩ | ⟨hT,hM,q,σ,hp,hq,S⟩ | ⟨hT,hM,q,σ,hp,hq,S⟩
 ·obtain⟨z1,e1,S1⟩:=k8a a h L bl [] q (σ:=σ) S (by omega);obtain⟨z2,e2,S2⟩:=k74 a h L bl [] q (σ:=sig σ [0,1] 2) S1 hw;exact⟨z2,e1.seq e2,.inl ⟨hT,hM,q,_,S2⟩⟩
 ·exact absurd rfl hM
 ·obtain⟨z1,e1,S1⟩:=k79 a h L bl [] q (σ:=σ) hp.okF S (by omega);obtain⟨z2,e2,S2⟩:=k73 a h L bl [] q (σ:=sig σ [0,1,2] 3) hp.okF S1 hw;exact⟨z2,e1.seq e2,.inr (.inr (.inl ⟨hT,hM,q,_,hp,hq,S2⟩))⟩
 ·exact absurd rfl hM
theorem UM.lack (S:UM a h L bl T [] [2,5,6,9] [.ptr 0 0,vf 0,.ptr 1 0,vt 0] z) (hn:L.length<=1000000) (h0:a=L.length): ∃ z1,Ev FF cXx z .ret z1/\UF (a+1) z1:=by
 have hw:w64 ((a:Int)+1)=((a+1:Nat):Int):=by
  unfold w64 IntKind.wrap;simp[IntKind.signed,IntKind.bits];omega
 rcases S with⟨hT,hM,q,σ,S⟩ | ⟨hT,hM,q,σ,S⟩ | ⟨hT,hM,q,σ,hp,hq,S⟩ | ⟨hT,hM,q,σ,hp,hq,S⟩
 ·obtain⟨z1,e1,S1⟩:=k78 a h L bl [] q (σ:=σ) S (by omega) hw;exact⟨z1,e1,[],_,S1⟩
 ·exact absurd rfl hM
 ·obtain⟨z1,e1,S1⟩:=k77 a h L bl [] q (σ:=σ) hp.okF S (by omega) hw;exact⟨z1,e1,q.hid,_,S1⟩
 ·exact absurd rfl hM
theorem UM.exit (S:UM a h L bl T M [2,5,6,14] [.ptr 0 0,vf 0,.ptr 1 0,vt 0] z) (h0: ¬a<L.length): ∃ z1,Ev FF kc5 z (.ext 5) z1/\UM a h L bl T M [2,5,6] [.ptr 0 0,vf 0,.ptr 1 0] z1:=by
 rcases S with⟨hT,hM,q,σ,S⟩ | ⟨hT,hM,q,σ,S⟩ | ⟨hT,hM,q,σ,hp,hq,S⟩ | ⟨hT,hM,q,σ,hp,hq,S⟩
 ·obtain⟨z1,e1,S1⟩:=qdm a h L bl M q (σ:=σ) S (by omega);exact⟨z1,e1,.inl ⟨hT,hM,q,_,S1⟩⟩
 ·obtain⟨z1,e1,S1⟩:=qdn a h L bl M q (σ:=σ) S (by omega);exact⟨z1,e1,.inr (.inl ⟨hT,hM,q,_,S1⟩)⟩
 ·obtain⟨z1,e1,S1⟩:=qdk a h L bl M q (σ:=σ) hp.okF S (by omega);exact⟨z1,e1,.inr (.inr (.inl ⟨hT,hM,q,_,hp,hq,S1⟩))⟩
 ·obtain⟨z1,e1,S1⟩:=qdl a h L bl M q (σ:=σ) hp.okF S (by omega);exact⟨z1,e1,.inr (.inr (.inr ⟨hT,hM,q,_,hp,hq,S1⟩))⟩
theorem UM.bad (S:UM a h L bl T M [2,5,6,14] [.ptr 0 0,vf 0,.ptr 1 0,vt 0] z) (hn:L.length<=1000000) (hl:L[a]? =some l) (hlen:l.length<=1000000) (hk:(ka6 l).kind<0): ∃ z1,Ev FF kc5 z .ret z1/\UF (a+1) z1:=by
 have h0:a<L.length:=(yaf.1 hl).1;have hl':L[yai (a:Int)]? =some l:=by rw[yah];exact hl
 have hw:=kbv h0 hn;rcases S with⟨hT,hM,q,σ,S⟩ | ⟨hT,hM,q,σ,S⟩ | ⟨hT,hM,q,σ,hp,hq,S⟩ | ⟨hT,hM,q,σ,hp,hq,S⟩
 ·obtain⟨z1,e1,S1⟩:=qdi a h L bl M q (σ:=σ) S (by omega) hl' hlen hk hw;exact⟨z1,e1,[],_,S1⟩
 ·obtain⟨z1,e1,S1⟩:=qdj a h L bl M q (σ:=σ) S (by omega) hl' hlen hk hw;exact⟨z1,e1,[],_,S1⟩
 ·obtain⟨z1,e1,S1⟩:=qdg a h L bl M q (σ:=σ) hp.okF S (by omega) hl' hlen hk hw;exact⟨z1,e1,q.hid,_,S1⟩
 ·obtain⟨z1,e1,S1⟩:=qdh a h L bl M q (σ:=σ) hp.okF S (by omega) hl' hlen hk hw;exact⟨z1,e1,q.hid,_,S1⟩
theorem UM.full (S:UM a h L bl T M [2,5,6,14] [.ptr 0 0,vf 0,.ptr 1 0,vt 0] z) (hn:L.length<=1000000) (hl:L[a]? =some l) (hlen:l.length<=1000000) (hk: ¬(ka6 l).kind<0) (hf:M.length=1000): ∃ z1,Ev FF kc5 z .ret z1/\UF (a+1) z1:=by
 have h0:a<L.length:=(yaf.1 hl).1;have hl':L[yai (a:Int)]? =some l:=by rw[yah];exact hl
 have hw:=kbv h0 hn;rcases S with⟨hT,hM,q,σ,S⟩ | ⟨hT,hM,q,σ,S⟩ | ⟨hT,hM,q,σ,hp,hq,S⟩ | ⟨hT,hM,q,σ,hp,hq,S⟩
 ·rw[hM] at hf;cases hf
 ·obtain⟨z1,e1,S1⟩:=qdq a h L bl M q (σ:=σ) S (by omega) hl' hlen hk hf hw;exact⟨z1,e1,[],_,S1⟩
 ·rw[hM] at hf;cases hf
 ·obtain⟨z1,e1,S1⟩:=qdp a h L bl M q (σ:=σ) hp.okF S (by omega) hl' hlen hk hf hw;exact⟨z1,e1,q.hid,_,S1⟩
theorem UM.move (S:UM a h L bl T M [2,5,6,14] [.ptr 0 0,vf 0,.ptr 1 0,vt 0] z) (hn:L.length<=1000000) (hl:L[a]? =some l) (hlen:l.length<=1000000) (hk: ¬(ka6 l).kind<0) (hf:M.length<1000): ∃ z1,Ev FF kc5 z .nrm z1/\UM (a+1) h L bl T (M++[ka6 l]) [2,5,6,14] [.ptr 0 0,vf 0,.ptr 1 0,vt 0] z1:=by
 have h0:a<L.length:=(yaf.1 hl).1;have hl':L[yai (a:Int)]? =some l:=by rw[yah];exact hl
 have hw:=kbv h0 hn;rcases S with⟨hT,hM,q,σ,S⟩ | ⟨hT,hM,q,σ,S⟩ | ⟨hT,hM,q,σ,hp,hq,S⟩ | ⟨hT,hM,q,σ,hp,hq,S⟩
 ·obtain⟨z1,e1,S1⟩:=qdt a h L bl M q (σ:=σ) S (by omega) hl' hlen hk hw;subst hM;exact⟨z1,e1,.inr (.inl ⟨hT,by simp,q,_,S1⟩)⟩
 ·obtain⟨z1,e1,S1⟩:=qdu a h L bl M q (σ:=σ) S (by omega) hl' hlen hk hf hw;exact⟨z1,e1,.inr (.inl ⟨hT,by simp,q,_,S1⟩)⟩
 ·obtain⟨z1,e1,S1⟩:=qdr a h L bl M q (σ:=σ) hp.okF S (by omega) hl' hlen hk hw;subst hM;exact⟨z1,e1,.inr (.inr (.inr ⟨hT,by simp,q,_,hp,hq,S1⟩))⟩
 ·obtain⟨z1,e1,S1⟩:=qds a h L bl M q (σ:=σ) hp.okF S (by omega) hl' hlen hk hf hw;exact⟨z1,e1,.inr (.inr (.inr ⟨hT,by simp,q,_,hp,hq,S1⟩))⟩
end
theorem qcj {l:Bs} (h:kcc l=none):(ka6 l).kind<0:=by unfold ka6;rw[h];decide
theorem qck {l:Bs} {m:Mov} (h:kcc l=some m):ka6 l=m/\ ¬(ka6 l).kind<0:=by
 have e:ka6 l=m:=by unfold ka6;rw[h];rfl
 have:=(kzj h).2;simp only[kcd,decide_eq_true_eq] at this;exact⟨e,by rw[e];omega⟩
def VPost (h:Hd) (L:List Bs) (bl:Bool) (T:List (List Cl)) (z:St):Option (List Mov)×Nat->Prop
 |(some M',a')=>∃ z',a'=L.length/\Ev FF (.loop kc5) z (.ext 5) z'/\UM a' h L bl T M' [2,5,6] [.ptr 0 0,vf 0,.ptr 1 0] z'
 |(none,a')=>∃ z',Ev FF (.loop kc5) z .ret z'/\UF (a'+1) z'
theorem VPost.loop {h:Hd} {L:List Bs} {bl:Bool} {T:List (List Cl)} {z z1:St} (e1:Ev FF kc5 z .nrm z1): ∀ {p:Option (List Mov)×Nat},VPost h L bl T z1 p->VPost h L bl T z p
 |(some _,_),⟨z',h1,h2,h3⟩=>⟨z',h1,e1.loop h2,h3⟩
 |(none,_),⟨z',h1,h2⟩=>⟨z',e1.loop h1,h2⟩
theorem qcm (h:Hd) (L:List Bs) (bl:Bool) (T:List (List Cl)) (hn:L.length<=1000000) (hL: ∀ l ∈ L,l.length<=1000000): ∀ (k a:Nat) (M:List Mov) {z:St},a+k=L.length->M.length<=1000->UM a h L bl T M [2,5,6,14] [.ptr 0 0,vf 0,.ptr 1 0,vt 0] z->
  VPost h L bl T z (kdy (L.drop a) a M):=by
 intro k
 induction k with
 |zero=>
  intro a M z ha hM S;rw[List.drop_of_length_le (by omega)];obtain⟨z1,e1,S1⟩:=S.exit (by omega);exact⟨z1,by omega,Ev.loopJ e1 (by intro h;cases h),S1⟩
 |succ k ih=>
  intro a M z ha hM S;have h1:a<L.length:=by omega
  have hl:L[a]? =some L[a]:=yad h1;have hlen:=hL _ (yag h1);rw[List.drop_eq_getElem_cons h1,knw];cases hm:kcc L[a] with
  |none=>
   obtain⟨z1,e1,S1⟩:=S.bad hn hl hlen (qcj hm);exact⟨z1,Ev.loopJ e1 (by intro h;cases h),S1⟩
  |some m=>
   obtain⟨em,hk⟩:=qck hm;simp only;by_cases hf:M.length=1000
   ·rw[iq hf];obtain⟨z1,e1,S1⟩:=S.full hn hl hlen hk hf;exact⟨z1,Ev.loopJ e1 (by intro h;cases h),S1⟩
   ·rw[ir hf];obtain⟨z1,e1,S1⟩:=S.move hn hl hlen hk (by omega);rw[em] at S1;exact(ih (a+1) (M++[m]) (by omega) (by rw[List.length_append,List.length_singleton];omega) S1).loop e1
def UH (i:Int) (h:Hd) (L:List Bs) (bl:Bool) (z:St):Prop:=∃ σ,Sim (KE 0 h L bl σ) (kaa [2,5,6,7] [.ptr 0 0,vf 0,.ptr 1 0,.int .i64 i] sE) z
section
variable {h:Hd} {L:List Bs} {bl:Bool} {z:St}
theorem UH.step0 (S:UH 0 h L bl z) (hL: ∀ l ∈ L,l.length<=1000000):
  (0<=kah kaz (L.getD 0 []) 999-> ∃ z1,Ev FF kdl z .nrm z1/\UH 1 ⟨(kah kaz (L.getD 0 []) 999),h.n1,h.n2⟩ L bl z1)/\(¬0<=kah kaz (L.getD 0 []) 999-> ∃ z1,Ev FF kdl z .ret z1/\UF 1 z1):=by
 obtain⟨σ,S⟩:=S;by_cases h0:0<L.length
 ·have hl:L[0]? =some L[0]:=yad h0;have hl':L[yai (0:Int)]? =some L[0]:=hl;have hg:L.getD 0 []=L[0]:=by rw[yaa,hl];rfl
  have hlen:=hL _ (yag h0);rw[hg];refine⟨fun hn=> ?_,fun hn=> ?_⟩
  ·obtain⟨z1,e1,S1⟩:=qab 0 h L bl (σ:=σ) S.heap.inj S (by omega) hl' hlen (by omega);exact⟨z1,e1,_,S1⟩
  ·obtain⟨z1,e1,S1⟩:=k98 0 h L bl (σ:=σ) S.heap.inj S (by omega) hl' hlen (by omega);exact⟨z1,e1,[],_,S1⟩
 ·have hg:L.getD 0 []=[]:=by rw[yaa,yae (by omega)];rfl
  rw[hg,kii];refine⟨fun h=>by omega,fun _=> ?_⟩;obtain⟨z1,e1,S1⟩:=qae 0 h L bl (σ:=σ) S.heap.inj S (by omega);exact⟨z1,e1,[],_,S1⟩
theorem UH.step1 (S:UH 1 h L bl z) (hL: ∀ l ∈ L,l.length<=1000000):
  (0<=kah ka0 (L.getD 1 []) 999-> ∃ z1,Ev FF kdl z .nrm z1/\UH 2 ⟨h.n0,(kah ka0 (L.getD 1 []) 999),h.n2⟩ L bl z1)/\(¬0<=kah ka0 (L.getD 1 []) 999-> ∃ z1,Ev FF kdl z .ret z1/\UF 2 z1):=by
 obtain⟨σ,S⟩:=S;by_cases h0:1<L.length
 ·have hl:L[1]? =some L[1]:=yad h0;have hl':L[yai (1:Int)]? =some L[1]:=hl;have hg:L.getD 1 []=L[1]:=by rw[yaa,hl];rfl
  have hlen:=hL _ (yag h0);rw[hg];refine⟨fun hn=> ?_,fun hn=> ?_⟩
  ·obtain⟨z1,e1,S1⟩:=qac 0 h L bl (σ:=σ) S.heap.inj S (by omega) hl' hlen (by omega);exact⟨z1,e1,_,S1⟩
  ·obtain⟨z1,e1,S1⟩:=k99 0 h L bl (σ:=σ) S.heap.inj S (by omega) hl' hlen (by omega);exact⟨z1,e1,[],_,S1⟩
 ·have hg:L.getD 1 []=[]:=by rw[yaa,yae (by omega)];rfl
  rw[hg,kii];refine⟨fun h=>by omega,fun _=> ?_⟩;obtain⟨z1,e1,S1⟩:=qaf 0 h L bl (σ:=σ) S.heap.inj S (by omega);exact⟨z1,e1,[],_,S1⟩
theorem UH.step2 (S:UH 2 h L bl z) (hL: ∀ l ∈ L,l.length<=1000000):
  (0<=kah ka1 (L.getD 2 []) 999-> ∃ z1,Ev FF kdl z .nrm z1/\UH 3 ⟨h.n0,h.n1,(kah ka1 (L.getD 2 []) 999)⟩ L bl z1)/\(¬0<=kah ka1 (L.getD 2 []) 999-> ∃ z1,Ev FF kdl z .ret z1/\UF 3 z1):=by
 obtain⟨σ,S⟩:=S;by_cases h0:2<L.length
 ·have hl:L[2]? =some L[2]:=yad h0;have hl':L[yai (2:Int)]? =some L[2]:=hl;have hg:L.getD 2 []=L[2]:=by rw[yaa,hl];rfl
  have hlen:=hL _ (yag h0);rw[hg];refine⟨fun hn=> ?_,fun hn=> ?_⟩
  ·obtain⟨z1,e1,S1⟩:=qad 0 h L bl (σ:=σ) S.heap.inj S (by omega) hl' hlen (by omega);exact⟨z1,e1,_,S1⟩
  ·obtain⟨z1,e1,S1⟩:=qaa 0 h L bl (σ:=σ) S.heap.inj S (by omega) hl' hlen (by omega);exact⟨z1,e1,[],_,S1⟩
 ·have hg:L.getD 2 []=[]:=by rw[yaa,yae (by omega)];rfl
  rw[hg,kii];refine⟨fun h=>by omega,fun _=> ?_⟩;obtain⟨z1,e1,S1⟩:=qag 0 h L bl (σ:=σ) S.heap.inj S (by omega);exact⟨z1,e1,[],_,S1⟩
theorem UH.all (S:UH 0 h L bl z) (hL: ∀ l ∈ L,l.length<=1000000):
  ((0<=kah kaz (L.getD 0 []) 999/\0<=kah ka0 (L.getD 1 []) 999/\0<=kah ka1 (L.getD 2 []) 999)/\ ∃ z1,Ev FF (.loop kdl) z (.ext 0) z1/\
    ∃ σ,Sim (KE 0 ⟨kah kaz (L.getD 0 []) 999,kah ka0 (L.getD 1 []) 999,kah ka1 (L.getD 2 []) 999⟩ L bl σ) (kaa [2,5,6] [.ptr 0 0,vf 0,.ptr 1 0] sE) z1)\/
  (∃ k,kc3 L=(none,k)/\ ∃ z1,Ev FF (.loop kdl) z .ret z1/\UF k z1):=by
 by_cases c0:0<=kah kaz (L.getD 0 []) 999
 ·obtain⟨z1,e1,S1⟩:=(S.step0 hL).1 c0;by_cases c1:0<=kah ka0 (L.getD 1 []) 999
  ·obtain⟨z2,e2,S2⟩:=(S1.step1 hL).1 c1;by_cases c2:0<=kah ka1 (L.getD 2 []) 999
   ·obtain⟨z3,e3,σ,S3⟩:=(S2.step2 hL).1 c2;obtain⟨z4,e4,S4⟩:=hxE 0 _ L bl (σ:=σ) S3.heap.inj S3;exact .inl ⟨⟨c0,c1,c2⟩,z4,e1.loop (e2.loop (e3.loop (Ev.loopJ e4 (by intro h;cases h)))),_,S4⟩
   ·obtain⟨z3,e3,S3⟩:=(S2.step2 hL).2 c2;refine .inr ⟨3,?_,z3,e1.loop (e2.loop (Ev.loopJ e3 (by intro h;cases h))),S3⟩;unfold kc3;rw[ir (by omega),ir (by omega),iq (by omega)]
  ·obtain⟨z2,e2,S2⟩:=(S1.step1 hL).2 c1;refine .inr ⟨2,?_,z2,e1.loop (Ev.loopJ e2 (by intro h;cases h)),S2⟩;unfold kc3;rw[ir (by omega),iq (by omega)]
 ·obtain⟨z1,e1,S1⟩:=(S.step0 hL).2 c0;refine .inr ⟨1,?_,z1,Ev.loopJ e1 (by intro h;cases h),S1⟩;unfold kc3;rw[iq (by omega)]
end
theorem k30 {z:St} {i0:Nat} {cs:List AV} {a e:AV} (h2:z.r.get 2=some (.ptr i0 0)) (h3:z.r.get 3=some a) (h4:z.r.get 4=some e) (hg:z.h.get i0=some (.cells cs false 26)) (hl:cs.length=5):kcg (kai FF 11) z=some (.tup [.agg cs,a,e]):=by
 have hr:(kai FF 11).res=[(2,some (true,5)),(3,none),(4,none)]:=by kernel_rfl
 unfold kcg;rw[hr];simp only[mapO,kdi,kbs h2,kbs h3,kbs h4,rdH,hg,kfy hl,kdh,if_true]
theorem UM.end {a:Nat} {h:Hd} {L:List Bs} {bl:Bool} {T:List (List Cl)} {M:List Mov} {z:St} (S:UM a h L bl T M [2,5,6] [.ptr 0 0,vf 0,.ptr 1 0] z):J FF (kai FF 11) [] (.code (.seq c7x .ret)) z (kd5 ((Dt.mk h.n0 h.n1 h.n2 T M).td,(L.length:Int),0)):=by
 rcases S with⟨hT,hM0,q,σ,S⟩ | ⟨hT,hM0,q,σ,S⟩ | ⟨hT,hM0,q,σ,hp,hn,S⟩ | ⟨hT,hM0,q,σ,hp,hn,S⟩
 ·have:=k9c a h L bl M q (σ:=σ) S;rw[hT,hM0];exact this
 ·have:=k9d a h L bl M q (σ:=σ) S;rw[hT];unfold kd5 Dt.td Td.av;simp only[kho hM0];exact this
 ·obtain⟨z1,e1,S1⟩:=k9a a h L bl M q (σ:=σ) hp.okF S;generalize hσ':sig σ [0,2] 3=σ' at S1;have g2:z1.r.get 2=some (.ptr (σ' 0) 0):=S1.regs 2 (.ptr 0 0) (by kernel_rfl);have g3:z1.r.get 3=some (.int .i64 (L.length:Int)):=S1.regs 3 (vt 0) (by kernel_rfl);have g4:z1.r.get 4=some (.int .i64 0):=S1.regs 4 (.int .i64 0) (by kernel_rfl);have b0:z1.h.get (σ' 0)=some (.cells [.int .i64 h.n0,.int .i64 h.n1,.int .i64 h.n2,.sl (σ' 1) 0 ((un q.n).map eN).length 1 none,.im [] true] false 26):=S1.heap.get 0 (.cells [vt 1,vt 2,vt 3,.sl 1 0 1000001 1 none,kaj] false 26) (by kernel_rfl);have b1:z1.h.get (σ' 1)=some (.cells [q.tc].flatten false 42):=S1.heap.get 1 (.own 0 false 42) (by kernel_rfl);have hh: ∀ p ∈ q.hid,z1.h.get p.1=some p.2:=fun p hp=>(S1.heap.hid p hp).1
  rw[yac,kbe,hn] at b0;refine kc0 e1 (kmi (k30 g2 g3 g4 b0 rfl) ?_);have hT1:=kj6 18 hp b1 hh;have hT2:=kj6 19 hp b1 hh;show frz z1.h 24 (.tup [.agg [.int .i64 h.n0,.int .i64 h.n1,.int .i64 h.n2,.sl (σ' 1) 0 T.length 1 none,.im [] true],.int .i64 (L.length:Int),.int .i64 0])=_;rw[hM0];unfold kd5 Dt.td Td.av;simp only[kho hT,kpa];rw[show frz z1.h 24 (.tup [.agg [.int .i64 h.n0,.int .i64 h.n1,.int .i64 h.n2,.sl (σ' 1) 0 T.length 1 none,.im [] true],.int .i64 (L.length:Int),.int .i64 0])=(mapO (frz z1.h 23) [.agg [.int .i64 h.n0,.int .i64 h.n1,.int .i64 h.n2,.sl (σ' 1) 0 T.length 1 none,.im [] true],.int .i64 (L.length:Int),.int .i64 0]).map .tup from rfl];have ha:frz z1.h 23 (.agg [.int .i64 h.n0,.int .i64 h.n1,.int .i64 h.n2,.sl (σ' 1) 0 T.length 1 none,.im [] true])=some (.agg [.int .i64 h.n0,.int .i64 h.n1,.int .i64 h.n2,.im (T.map fun c=>[.im (c.map eC) c.isEmpty]) false,.im [] true]):=by
   rw[show frz z1.h 23 (.agg [.int .i64 h.n0,.int .i64 h.n1,.int .i64 h.n2,.sl (σ' 1) 0 T.length 1 none,.im [] true])=(mapO (frz z1.h 22) [.int .i64 h.n0,.int .i64 h.n1,.int .i64 h.n2,.sl (σ' 1) 0 T.length 1 none,.im [] true]).map .agg from rfl];simp only[mapO,hT2];rfl
  simp only[mapO,ha];rfl
 ·obtain⟨z1,e1,S1⟩:=k9b a h L bl M q (σ:=σ) hp.okF S;generalize hσ':sig σ [0,2,3] 4=σ' at S1;have g2:z1.r.get 2=some (.ptr (σ' 0) 0):=S1.regs 2 (.ptr 0 0) (by kernel_rfl);have g3:z1.r.get 3=some (.int .i64 (L.length:Int)):=S1.regs 3 (vt 0) (by kernel_rfl);have g4:z1.r.get 4=some (.int .i64 0):=S1.regs 4 (.int .i64 0) (by kernel_rfl);have b0:z1.h.get (σ' 0)=some (.cells [.int .i64 h.n0,.int .i64 h.n1,.int .i64 h.n2,.sl (σ' 1) 0 ((un q.n).map eN).length 1 none,.sl (σ' 2) 0 (M.map eM).length 2 none] false 26):=S1.heap.get 0 (.cells [vt 1,vt 2,vt 3,.sl 1 0 1000001 1 none,.sl 2 0 1001002 2 none] false 26) (by kernel_rfl);have b1:z1.h.get (σ' 1)=some (.cells [q.tc].flatten false 42):=S1.heap.get 1 (.own 0 false 42) (by kernel_rfl);have b2:z1.h.get (σ' 2)=some (.cells (M.map eM).flatten false 45):=S1.heap.get 2 (.own 1001002 false 45) (by kernel_rfl);have hh: ∀ p ∈ q.hid,z1.h.get p.1=some p.2:=fun p hp=>(S1.heap.hid p hp).1
  rw[yac,kbe,hn,yac] at b0;refine kc0 e1 (kmi (k30 g2 g3 g4 b0 rfl) ?_);have hT2:=kj6 19 hp b1 hh;have hM2:frz z1.h 22 (.sl (σ' 2) 0 M.length 2 none)=some (.im (M.map eM) false):=by
   have hl: ∀ e ∈ M.map eM,e.length=2:=fun e he=>by
    obtain⟨x,_,rfl⟩:=yal.1 he;rfl
   have h1:=kfc hl;rw[yac] at h1;have k2:mapO (frz z1.h 21) (M.map eM).flatten=some (M.map eM).flatten:=kkg fun x hx=>by
    obtain⟨e,he,hx⟩:=List.mem_flatten.1 hx;obtain⟨y,_,rfl⟩:=yal.1 he;refine kkl ?_ z1.h 20;simp only[eM,List.mem_cons,List.not_mem_nil,or_false] at hx;rcases hx with rfl |rfl <;> rfl
   have k3:=kjw hl;rw[yac] at k3;unfold frz;simp only[b2,kfy h1,k2,k3];rfl
  show frz z1.h 24 (.tup [.agg [.int .i64 h.n0,.int .i64 h.n1,.int .i64 h.n2,.sl (σ' 1) 0 T.length 1 none,.sl (σ' 2) 0 M.length 2 none],.int .i64 (L.length:Int),.int .i64 0])=_;unfold kd5 Dt.td Td.av;simp only[kho hT,kho hM0,kpa];rw[show frz z1.h 24 (.tup [.agg [.int .i64 h.n0,.int .i64 h.n1,.int .i64 h.n2,.sl (σ' 1) 0 T.length 1 none,.sl (σ' 2) 0 M.length 2 none],.int .i64 (L.length:Int),.int .i64 0])=(mapO (frz z1.h 23) [.agg [.int .i64 h.n0,.int .i64 h.n1,.int .i64 h.n2,.sl (σ' 1) 0 T.length 1 none,.sl (σ' 2) 0 M.length 2 none],.int .i64 (L.length:Int),.int .i64 0]).map .tup from rfl];have ha:frz z1.h 23 (.agg [.int .i64 h.n0,.int .i64 h.n1,.int .i64 h.n2,.sl (σ' 1) 0 T.length 1 none,.sl (σ' 2) 0 M.length 2 none])=some (.agg [.int .i64 h.n0,.int .i64 h.n1,.int .i64 h.n2,.im (T.map fun c=>[.im (c.map eC) c.isEmpty]) false,.im (M.map eM) false]):=by
   rw[show frz z1.h 23 (.agg [.int .i64 h.n0,.int .i64 h.n1,.int .i64 h.n2,.sl (σ' 1) 0 T.length 1 none,.sl (σ' 2) 0 M.length 2 none])=(mapO (frz z1.h 22) [.int .i64 h.n0,.int .i64 h.n1,.int .i64 h.n2,.sl (σ' 1) 0 T.length 1 none,.sl (σ' 2) 0 M.length 2 none]).map .agg from rfl];simp only[mapO,hT2,hM2];rfl
  simp only[mapO,ha];rfl
theorem qni (s:Bs) (hl:s.length<=900000):kak FF 11 [.str s] (kd5 (kcn s)):=by
 have hcnt:=kry (s.length+1) s (by omega);have hL: ∀ l ∈ kbf s,kap l=(l,[])/\l≠[]/\l.length<=1000000:=fun l h=>by
  obtain⟨a,b,c⟩:=krz (s.length+1) s (by omega) l h;exact⟨a,b,by omega⟩
 have hL3: ∀ l ∈ kbf s,l.length<=1000000:=fun l hl=>(hL l hl).2.2
 refine kbq (ρ:=kal [.str s] [] [] (fun i=>i) 0) (xs:=[vt 0]) (by kernel_rfl) rfl rfl (by kernel_rfl) (fun z S=> ?_);rw[k6l];obtain⟨z1,e1,S1⟩:=qn5 s (by omega) S;obtain⟨y0,k0,e1⟩:=e1.seqI;obtain⟨y1,k1,e1⟩:=e1.seqI;obtain⟨y2,k2,k3⟩:=e1.seqI;refine kc0 k0 (kc0 k1 (kc0 k2 ?_));have SH:UH 0 ⟨0,0,0⟩ (kbf s) (kbf s).isEmpty z1:=⟨_,S1⟩;have hd:kcn s=match kc3 (kbf s) with
  |(some d,n)=>(d.td,n,0)
  |(none,n)=>(kjd,n,1):=rfl
 generalize hLs:kbf s=L at*;rcases SH.all hL3 with⟨⟨c0,c1,c2⟩,z2,e2,σ,S2⟩ | ⟨k,hr,z2,e2,S2⟩
 ·refine kc0 (k3.seq (e2.block (id:=0))) ?_;obtain⟨z3,e3,S3⟩:=hx4 0 _ L L.isEmpty (σ:=σ) S2.heap.inj S2;refine kc0 e3 ?_;have hlen3:3<=L.length:=by
   rcases Nat.lt_or_ge 2 L.length with h |h
   ·exact h
   ·rw[show L.getD 2 []=[] by rw[yaa,yae h];rfl,kii] at c2;omega
  have rd: ∀ x,kc4 (L.drop 3) 3 []=x->kc3 L=(match x with
   |(none,a,_)=>(none,a+1)
   |(some T,a,ls)=>match kdy ls a [] with
    |(none,a)=>(none,a+1)
    |(some M,a)=>(some ⟨(Hd.mk (kah kaz (L.getD 0 []) 999) (kah ka0 (L.getD 1 []) 999) (kah ka1 (L.getD 2 []) 999)).n0,(Hd.mk (kah kaz (L.getD 0 []) 999) (kah ka0 (L.getD 1 []) 999) (kah ka1 (L.getD 2 []) 999)).n1,(Hd.mk (kah kaz (L.getD 0 []) 999) (kah ka0 (L.getD 1 []) 999) (kah ka1 (L.getD 2 []) 999)).n2,T,M⟩,a)):=fun x hx=>by
   subst hx;unfold kc3;rw[ir (by omega),ir (by omega),ir (by omega)];rfl
  generalize (Hd.mk (kah kaz (L.getD 0 []) 999) (kah ka0 (L.getD 1 []) 999) (kah ka1 (L.getD 2 []) 999))=h' at S3 rd;have SU:UT 3 h' L L.isEmpty [] z3:= .inl ⟨rfl,_,S3⟩;have hp:=qp3 h' L L.isEmpty (by omega) hL (L.length - 3) 3 [] (by omega) (by simp) rfl SU;revert hp;generalize hx:kc4 (L.drop 3) 3 []=x;have hrd:=rd x hx;obtain⟨o,a',ls⟩:=x;cases o with
  |none=>
   rintro⟨z4,⟨q1,e4,T',S4⟩ | ⟨e4,S4⟩⟩
   ·obtain⟨z5,e5,S5⟩:=S4.toU.lack (by omega) q1;rw[hd,hrd];exact kc0 (e4.block (id:=2)) (kjt e5 (by intro h;cases h) S5.end)
   ·rw[hd,hrd];exact kjt (e:= .ret) (e4.block (id:=2)) (by intro h;cases h) S4.end
  |some T=>
   rintro⟨b,z4,q1,q2,q3,e4,S4⟩;obtain⟨z5,e5,S5⟩:=S4.toU.more (by omega) q2;obtain⟨y5,kX,k6⟩:=e5.seqI;refine kc0 (e4.block (id:=2)) (kc0 kX ?_);have hq:=qcm h' L L.isEmpty T (by omega) hL3 (L.length - (b+1)) (b+1) [] (by omega) (by simp) S5;subst q1 q3;simp only at hrd;revert hq;generalize hy:kdy (L.drop (b+1)) (b+1) []=y;rw[hy] at hrd;obtain⟨o,c⟩:=y;cases o with
   |none=>
    rintro⟨z6,e6,S6⟩;rw[hd,hrd];exact kjt (e:= .ret) (k6.seq (e6.block (id:=5))) (by intro h;cases h) S6.end
   |some M=>
    rintro⟨z6,q4,e6,S6⟩;rw[hd,hrd,q4];exact kc0 (k6.seq (e6.block (id:=5))) S6.end
 ·rw[hd,hr];exact kjt (e:= .ret) (k3.seq (e2.block (id:=0))) (by intro h;cases h) S2.end
theorem qm9 (s:Bs) (hl:s.length<=900000) {p:Td×Int×Int} (h:p=kcn s):kak FF 11 [.str s] (.tup [p.1.av,.int .i64 p.2.1,.int .i64 p.2.2]):=by
 subst h;exact qni s hl
theorem qrk (x:Td) (h:kdq x=true):kak FF 13 [x.av] (.tup [.str (wS x),.int .i64 (wE x)]):=qrl x h
def kof (x:Td) (y:Td) (s:List UInt8):Option AV:=
 if(!(kdv x))=true then
  some (.bool true)
 else
  if(!(kdv y))=true then
   some (.bool true)
  else
   if(s.length:Int) > 2000 then
    some (.bool true)
   else
    if s.length<=900000 then kay (kcn s) fun x4=>
    if klf x=true then if kdq x=true then if kdq x4.1=true then if(kdd x4.1 x4.1)=true then
     if x4.2.1=x4.2.1 then
      if x4.2.2=x4.2.2 then
         if((wS x) == (wS x))=true then
          if(wE x)=(wE x) then
            some (.bool ((kdd x y) == (kdd x y)))
          else
            none
         else
          none
      else
         none
     else
      none
    else
     none else none else none else none else none
def k0x:List AV:=[(.agg [(vt 0),(vt 1),(vt 2),(vf 0),(vf 1)]),(.agg [(vt 3),(vt 4),(vt 5),(vf 2),(vf 3)]),(vt 6)]
def ksd (x:Td) (y:Td) (s:List UInt8) (σ:Nat->Nat):Val:=(kal ([.int .i64 x.n0,.int .i64 x.n1,.int .i64 x.n2,.int .i64 y.n0,.int .i64 y.n1,.int .i64 y.n2,.str s]) ([.im (yab eR x.t) x.bt,.im (yab eM x.m) x.bm,.im (yab eR y.t) y.bt,.im (yab eM y.m) y.bm]) [] σ 0)
def qez (x:Td) (y:Td) (s:List UInt8) (_σ:Nat->Nat):List AV:=[(.agg [(.int .i64 x.n0),(.int .i64 x.n1),(.int .i64 x.n2),(.im (yab eR x.t) x.bt),(.im (yab eM x.m) x.bm)]),(.agg [(.int .i64 y.n0),(.int .i64 y.n1),(.int .i64 y.n2),(.im (yab eR y.t) y.bt),(.im (yab eM y.m) y.bm)]),(.str s)]
def qe0 (_x:Td) (_y:Td) (_s:List UInt8) (_σ:Nat->Nat):List Blk:=[]
theorem qex (x:Td) (y:Td) (s:List UInt8) (σ:Nat->Nat):k0x.map (gm (ksd x y s σ))=qez x y s σ:=by kernel_rfl
theorem qey (x:Td) (y:Td) (s:List UInt8) (σ:Nat->Nat):([]:List Blk).map (gB (ksd x y s σ))=qe0 x y s σ:=by kernel_rfl
theorem qe2 (x:Td) (y:Td) (s:List UInt8) {r0:AV} (h:kof x y s=some r0):kak FF 3 [(.agg [(.int .i64 x.n0),(.int .i64 x.n1),(.int .i64 x.n2),(.im (yab eR x.t) x.bt),(.im (yab eM x.m) x.bm)]),(.agg [(.int .i64 y.n0),(.int .i64 y.n1),(.int .i64 y.n2),(.im (yab eR y.t) y.bt),(.im (yab eM y.m) y.bm)]),(.str s)] r0:=by
 unfold kof at h;have hσ: ∀ i j:Nat,(fun i:Nat=>i) i=(fun i:Nat=>i) j->i=j:=fun _ _ e=>e
 exact kbq (ρ:=ksd x y s (fun i=>i)) (xs:=k0x) (by kernel_rfl) rfl rfl (by kernel_rfl) (fun z0 S=>have H:=Tok.start hσ S 0 7 4 0 ([.int .i64 x.n0,.int .i64 x.n1,.int .i64 x.n2,.int .i64 y.n0,.int .i64 y.n1,.int .i64 y.n2,.str s]) ([.im (yab eR x.t) x.bt,.im (yab eM x.m) x.bm,.im (yab eR y.t) y.bt,.im (yab eM y.m) y.bm]) [] (.c (yak kbt _ _) <| .c (yak kax _ _) <| .c (yak kbt _ _) <| .c (yak kax _ _) <| .n) .n (qex _ _ _ _) (qey _ _ _ _);have H:=H.t 9 [.bool (kdv x),.bool (!(kdv x))]|>.q 8 (.un .not (cT 7))|>.s [] (.bool true) qof|>.s [(.agg [(vt 0),(vt 1),(vt 2),(vf 0),(vf 1)])] (vt 7) (kxw x);kaf h (fun h0 h=>have H:=H.m 8 true h0;H.e [] h) (fun h0 h=>have H:=H.t 11 [.bool (kdv y),.bool (!(kdv y))]|>.q 10 (.un .not (cT 9))|>.m 8 false (bF h0)|>.s [(.agg [(vt 3),(vt 4),(vt 5),(vf 2),(vf 3)])] (vt 9) (kxw y);kaf h (fun h1 h=>have H:=H.m 10 true h1;H.e [] h) (fun h1 h=>have H:=H.t 13 [.int .i64 s.length,.bool (decide ((s.length:Int) > 2000))]|>.q 11 (.len 1 (cT 6))|>.q 12 (.bin .gtr (cT 11) (cI 2000))|>.m 10 false (bF h1);kaf h (fun h2 h=>have H:=H.y 12 h2;H.e [] h) (fun h2 h=>have H:=H.w 12 h2;kac h (fun h3 h=>kbh h (fun x4 h4 h=>have H:=H.t 23 [.int .i64 x4.1.n0,.int .i64 x4.1.n1,.int .i64 x4.1.n2,.int .i64 x4.2.1,.int .i64 x4.2.2,.int .i64 x4.1.n0,.int .i64 x4.1.n1,.int .i64 x4.1.n2,.int .i64 x4.2.1,.int .i64 x4.2.2]|>.f 8 [.im (yab eR x4.1.t) x4.1.bt,.im (yab eM x4.1.m) x4.1.bm,.im (yab eR x4.1.t) x4.1.bt,.im (yab eM x4.1.m) x4.1.bm] (.c (yak kbt _ _) <| .c (yak kax _ _) <| .c (yak kbt _ _) <| .c (yak kax _ _) <| .n)|>.s [(vt 6)] (.tup [(.agg [(vt 13),(vt 14),(vt 15),(vf 4),(vf 5)]),(vt 16),(vt 17)]) (k3s s h3 h4)|>.s [(vt 6)] (.tup [(.agg [(vt 18),(vt 19),(vt 20),(vf 6),(vf 7)]),(vt 21),(vt 22)]) (qm9 s h3 h4);kac h (fun h5 h=>have H:=H.t 25 [.str (wS x),.int .i64 (wE x)]|>.s [(.agg [(vt 0),(vt 1),(vt 2),(vf 0),(vf 1)])] (.tup [(vt 23),(vt 24)]) (qrj x h5);kac h (fun h6 h=>have H:=H.t 27 [.str (wS x),.int .i64 (wE x)]|>.s [(.agg [(vt 0),(vt 1),(vt 2),(vf 0),(vf 1)])] (.tup [(vt 25),(vt 26)]) (qrk x h6);kac h (fun h7 h=>have H:=H.t 28 [.bool (kdd x4.1 x4.1)]|>.s [(.agg [(vt 13),(vt 14),(vt 15),(vf 4),(vf 5)]),(.agg [(vt 18),(vt 19),(vt 20),(vf 6),(vf 7)])] (vt 27) (k4g x4.1 x4.1 h7);kaf h (fun h8 h=>have H:=H.t 29 [.bool (decide (x4.2.1=x4.2.1))]|>.q 28 (.bin .eql (cT 16) (cT 21))|>.m 27 true h8;kaf h (fun h9 h=>have H:=H.t 30 [.bool (decide (x4.2.2=x4.2.2))]|>.q 29 (.bin .eql (cT 17) (cT 22))|>.y 28 h9;kaf h (fun h10 h=>have H:=H.t 31 [.bool ((wS x) == (wS x))]|>.q 30 (.bin .eql (cT 23) (cT 25))|>.y 29 h10;kaf h (fun h11 h=>have H:=H.t 32 [.bool (decide ((wE x)=(wE x)))]|>.q 31 (.bin .eql (cT 24) (cT 26))|>.m 30 true h11;kaf h (fun h12 h=>have H:=H.t 35 [.bool (kdd x y),.bool (kdd x y),.bool ((kdd x y) == (kdd x y))]|>.q 34 (.eqb false (cT 32) (cT 33))|>.y 31 h12|>.s [(.agg [(vt 0),(vt 1),(vt 2),(vf 0),(vf 1)]),(.agg [(vt 3),(vt 4),(vt 5),(vf 2),(vf 3)])] (vt 32) (k4e x y h6)|>.s [(.agg [(vt 0),(vt 1),(vt 2),(vf 0),(vf 1)]),(.agg [(vt 3),(vt 4),(vt 5),(vf 2),(vf 3)])] (vt 33) (k4g x y h6);H.e [] h) (fun _ h=>nomatch h)) (fun _ h=>nomatch h)) (fun _ h=>nomatch h)) (fun _ h=>nomatch h)) (fun _ h=>nomatch h))))))))))
theorem qe1 (x y:Td) (s:Bs) (hv:khb x=true):kof x y s=some (.bool true):=by
 unfold kof kay;by_cases hf: ¬kdv x=true
 ·rw[iq (by simp[hf])]
 rw[yaj] at hf;rw[ir (by simp[hf])];by_cases hg: ¬kdv y=true
 ·rw[iq (by simp[hg])]
 rw[yaj] at hg;rw[ir (by simp[hg])];by_cases hl:(List.length s:Int) > 2000
 ·rw[iq hl]
 rw[ir hl,iq (by omega)];dsimp only;have hs:kdq (kcn s).1=true:=by
  rcases qna s with⟨d,h1,h2,_⟩ | ⟨n,h1,_,_⟩
  ·rw[h1];exact kq3 (qo4 h2)
  ·rw[h1];exact(by decide:kdq kjd=true)
 rw[iq (k8r hf hv),iq (kq3 hf),iq hs,iq ((kvy _ _).2 rfl),iq rfl,iq rfl,iq (by simp),iq rfl];simp
theorem qo6 (x y:Td) (s:Bs) (hv:khb x=true):kak FF 3 [x.av,y.av,.str s] (.bool true):=qe2 x y s (qe1 x y s hv)
end Go.Proofs.Hz
namespace Go.Proofs.YtamikoglpnoicaaGreatDoor
open Go.ChangeShapes Go.WideShapes Go.ChangeAt Go.RowKit Go.Proofs.Hz
set_option maxRecDepth 100000
open Option.some renaming inj->yaa
theorem qpf (os:Os) (started:os.Started) (H:Type) (enc:TypeId×Value->H):
  ReturnsInHanded {} Tryz.checked os 3 .any (fun w args=>(Rows.toolTellsSpec.pre enc Tryz.prog Tryz.f3 Rows.toolTellsRow.domain false w args/\laidMetH Tryz.prog laid w)/\sizedMet enc Tryz.prog Tryz.f3 (OpenSpec.ofChange Rows.toolTellsSpec) false w args)
   (Rows.toolTellsSpec.post enc Tryz.prog Tryz.f3 false true false false):=by
 refine qno (C:=Tryz.checked) (X:=fun w _=>laidMetH Tryz.prog laid w) (fun _ _ _ hh h=>h.of_heap hh) own started (by kernel_rfl) Tryz.func3
  (ChangeSpec.witness_shaped (enc:=enc) (C:=Tryz.checked) (os:=os) (X:=fun w _=>laidMetH Tryz.prog laid w) false (World.laidAll Tryz.prog os laid) #[kzp,kzp,.string ⟨#[]⟩] 8 (World.laidAll_os _ _ _)
   (World.shaped_of_ZipB (by kernel_rfl) (by kernel_rfl)) (by kernel_rfl) (by kernel_rfl) (by kernel_rfl) (qb3 os _)) ?_
 intro W base args ds gs before hval0 hW hL hsh;have hval: ∀ (j:Nat) t v,Tryz.f3.params[j]? =some t->args[j]? =some v->Value.okWide Tryz.prog W .any base t v:=hval0;have hW':=hW;obtain⟨p,q,hA0,hV,rfl,hfz,hnd⟩:=hW;have hA:DataW.TrodAll enc Tryz.prog W 0 (fun _=>true) true Tryz.f3.params.toList args.toList ds p:=hA0;have hA1:=hA;rw[Tryz.params3] at hA hval;obtain⟨v0,v1,v2,d0,d1,d2,p0,p1,p2,rfl,rfl,rfl,h0,h1,h2⟩:=trodAll_three hA;obtain⟨rfl,rfl⟩:=trodVars_none hV;obtain⟨x0,hR0,hv0⟩:=kwy (hval 0 26 v0 rfl rfl) h0;obtain⟨x1,hR1,hv1⟩:=kwy (hval 1 26 v1 rfl rfl) h1;obtain⟨s2,hR2⟩:=k6a (hval 2 9 v2 rfl rfl) h2;simp only[List.append_nil] at hW';refine(qaz (pu:=puN) (F:=FF) (fun f af h=>h) k9h (k9f hL hsh) (qo6 x0 x1 s2 hv0) (RL.cons hR0 (RL.cons hR1 (RL.cons hR2 RL.nil)))).mono fun e W' ⟨he,hw⟩=> ?_
 subst he;exact⟨_,rfl,qa0 (P:=Tryz.prog) qax rfl hW' (by simpa using hA1) rfl (by kernel_rfl) rfl u4 hw⟩
theorem qo7:(Rows.toolTellsRow.inPlace == Tryz.prog.inPlace 3)=true:=by kernel_rfl
theorem qo8:(Rows.toolTellsRow.unfollowed == Tryz.prog.unfollowed 3)=true:=by kernel_rfl
theorem qo9:(Rows.toolTellsRow.recurses == Tryz.prog.recurses 3)=true:=by kernel_rfl
theorem qpa:(Rows.toolTellsRow.named == Tryz.prog.varsNamed 3)=true:=by kernel_rfl
theorem qpb:joinedFacts Tryz.prog 3 Tryz.f3 Rows.toolTellsSpec Rows.toolTellsRow=true:=by
 unfold joinedFacts;rw[qo7,qo8,qo9,qpa];kernel_rfl
theorem k4o:Tryz.prog.funcNamed "hazel/hazellaw20.ToolTells" =some 3:=by kernel_rfl
theorem qpe:Tryz.f3.isInstance Tryz.prog Rows.toolTellsRow.origin Rows.toolTellsRow.targs:=of_decide_eq_true (by kernel_rfl)
theorem qph:Rows.toolTellsRow.wfByText (OpenSpec.ofChange Rows.toolTellsSpec)=true:=by kernel_rfl
theorem qpc:false=Rows.toolTellsRow.goesBy Tryz.prog:=by kernel_rfl
theorem qpg:([26,26,9].all fun u=> !Tryz.prog.wantsStandIn u)=true:=by kernel_rfl
theorem qpd:Rows.ToolTellsSaid:=
 OpenClaim.holds_of_wide 3 Tryz.f3 rfl rfl rfl rfl rfl rfl rfl ⟨rfl,rfl,rfl,rfl,rfl⟩ rfl rfl rfl rfl rfl k4o Tryz.func3 qpb
  qpe (by unfold Func.isWrapper;first |(rw[iq (by decide+kernel)];kernel_rfl) |(rw[ir (by decide+kernel)];exact⟨rfl,rfl⟩))
  (fun os started H enc _=>qpf os started H enc)
theorem tells_card:Rows.ToolTellsCardSaid:=
 Claim7.holds_tied_plain_at .later [] [.data,.data,.data,.data,.sentinel,.sentinel,.pinned] true (true,"fad3822e4c3238e0715d09156ba720034c4347236d647728db356adb10470ef3") true qpd (fun _ h=>by cases h) qph (fun _ h=>by cases h) toolTells_row_tie rfl ⟨rfl,rfl⟩ qbw rfl
  (fun f fn hf hfn=>by
   obtain rfl:f=3:=yaa (k4o.symm.trans hf)|>.symm;obtain rfl:fn=Tryz.f3:=(yaa (Tryz.func3.symm.trans hfn)).symm;exact⟨qbu,fun j t ht=>by
    rw[Tryz.params3] at ht;have hm:t ∈ [26,26,9]:=by simpa using Array.mem_of_getElem? ht
    exact(show Tryz.prog.wantsStandIn t=false by simpa using List.all_eq_true.1 qpg t hm)⟩)
  qpc
#print axioms tells_card
end Go.Proofs.YtamikoglpnoicaaGreatDoor
