/-
  Chapter 20: a move, read.
  Conditions: none.
-/
import Derived.Test.YtamikoglpnoicaaGreatDoorT35
open Go Go.Proofs
namespace Go.Proofs.Hz
open Bool renaming and_eq_true->yaj
open Int renaming toNat_natCast->yac,toNat->yal
open List renaming getD_eq_getElem?_getD->yaa,getElem?_eq_getElem->yab,getElem?_eq_none->yad,not_mem_nil->yae,getElem_mem->yaf,mem_cons->yag,zipWith->yai,length_map->yak,zip->yam,drop_left'->yan,nil_append->yao
open Prod.mk renaming injEq->yah
set_option maxRecDepth 20000
theorem k0t {u w:Bs}:kbg u w=true↔ ∃ r,u=w++r:=by
 simp only[kbg,yaj,decide_eq_true_eq,beq_iff_eq];constructor
 ·rintro⟨h1,h2⟩;exact⟨u.drop w.length,by conv=>lhs;rw[←List.take_append_drop w.length u,h2]⟩
 ·rintro⟨r,rfl⟩;exact⟨by simp,by simp⟩
theorem kk1 (w l:Bs) (most:Int) (hm:most<=9999):
  (kao l=true/\kbg (kad l) (w++[32])=true/\kce (kbc (kad l) (w++[32])) most=true/\kah w l most=kam (kbc (kad l) (w++[32]))/\0<=kah w l most)\/
  (¬0<=kah w l most/\(¬kao l=true\/(kao l=true/\kbg (kad l) (w++[32])=false)\/(kao l=true/\kbg (kad l) (w++[32])=true/\kce (kbc (kad l) (w++[32])) most=false))):=by
 by_cases h0:0<=kah w l most
 ·obtain⟨h1,h2⟩:=kf1 h0;refine .inl ?_;generalize kah w l most=m at h0 h1 h2;have e0:l=(w++[32]++kab m)++[10]:=by rw[h1];unfold hdL;simp
  have e1:kao l=true:=ke8.2 ⟨_,e0⟩;have e2:kad l=(w++[32])++kab m:=by rw[e0,kj1]
  have e3:kbg (kad l) (w++[32])=true:=k0t.2 ⟨_,e2⟩;have e4:kbc (kad l) (w++[32])=kab m:=by
   unfold kbc;rw[iq e3,e2,yan rfl]
  obtain⟨n1,n2⟩:=klv (kyl h0 (by omega));refine⟨e1,e3,?_,by rw[e4,n2],h0⟩;rw[e4];unfold kce;rw[n2];have n3:kes (kab m)=true:=by
   simp only[kba,yaj] at n1;exact n1.1
  simp[n3,h0,h2]
 ·refine .inr ⟨h0,?_⟩;by_cases e1:kao l=true
  ·cases e2:kbg (kad l) (w++[32]) with
   |false=>exact .inr (.inl ⟨e1,rfl⟩)
   |true=>
    cases e3:kce (kbc (kad l) (w++[32])) most with
    |false=>exact .inr (.inr ⟨e1,rfl,rfl⟩)
    |true=>
     exfalso;obtain⟨t,ht⟩:=ke8.1 e1;obtain⟨r,hr⟩:=k0t.1 e2;rw[ht,kj1] at hr e2 e3;have e4:kbc t (w++[32])=r:=by unfold kbc;rw[iq e2,hr,yan rfl]
     rw[e4] at e3;simp only[kce,yaj,decide_eq_true_eq,beq_iff_eq] at e3;obtain⟨_,a1,a2,a3⟩:=e3;have hl:l=hdL w (kam r):=by rw[ht,hr];unfold hdL;rw[a3];simp
     apply h0;rw[hl,kih a1 a2 hm];exact a1
  ·exact .inl e1
theorem Sim.recode {ρ ρ':Val} {ts:List Nat} {ws:List AV} {cs cs':List Blk} {z:St} (S:Sim ρ (kaa ts ws cs) z) (hlo:ρ'.lo=ρ.lo) (hl:ρ.lo=cs.length) (hσ:ρ'.σ=ρ.σ) (hb:cs.map (gB ρ)=cs'.map (gB ρ')) (hh:ρ'.hid=ρ.hid):Sim ρ' (kaa [] [] cs') z:=by
 have hlen:cs'.length=cs.length:=by have:=congrArg List.length hb;simpa using this.symm
 refine⟨fun t v hv=> ?_,⟨fun id k hk=> ?_,fun id h1 h2=> ?_,by rw[hσ];exact S.heap.inj,by rw[hσ,hh];exact S.heap.hid⟩,fun i=> ?_,?_⟩
 ·rw[show(kaa [] [] cs').r.get t=none from T.get_nil _] at hv;cases hv
 ·rw[kjo] at hk;have hlt:id<cs.length:=by rw[←hlen];exact(List.getElem?_eq_some_iff.1 hk).1
  have e1:=congrArg (·[id]?) hb;simp only[List.getElem?_map,hk,yab hlt,Option.map_some,Option.some.injEq] at e1;rw[hσ,S.heap.get id cs[id] (by rw[kjo];exact yab hlt),e1]
 ·rw[hσ];refine S.heap.absent id (by rw[←hlo];exact h1) ?_;rw[kjo];exact yad (by omega)
 ·show ρ'.σ (cs'.length+i)=z.nx+i;rw[hσ,hlen];exact S.nxs i
 ·rw[hlo,hl];show cs.length<=cs'.length;omega
def kke (a:Nat) (h:Hd) (L:List Bs) (tc:List AV) (n:Nat) (σ:Nat->Nat):List Blk:=[.cells tdZ false 26,.cells (L.map eT).flatten false 9,.cells [.sl (σ 1) 0 (L.map eT).length 1 none,.int .i64 (a:Int),.int .i64 h.n0,.int .i64 h.n1,.int .i64 h.n2,.sl (σ 3) 0 ((un n).map eN).length 1 none,.im [] true] false 64,.cells [tc].flatten false 42]
def tBc:List Blk:=[tb,lnB,rdr hN kaj,.pre 1001001 0 [.sl 4 0 1002003 3 none] 42]
def kwb (a:Nat) (h:Hd) (L:List Bs) (pc:List AV) (n:Nat) (row:List Cl) (σ:Nat->Nat):List Blk:=[.cells tdZ false 26,.cells (L.map eT).flatten false 9,.cells [.sl (σ 1) 0 (L.map eT).length 1 none,.int .i64 (a:Int),.int .i64 h.n0,.int .i64 h.n1,.int .i64 h.n2,.sl (σ 3) 0 ((un n).map eN).length 1 none,.im [] true] false 64,.cells (kfb (((un n).map eN).length - 1) [pc].flatten++[.sl (σ 4) 0 (row.map eC).length 3 none]) false 42]
theorem k93 {a:Nat} {h:Hd} {L:List Bs} {pc:List AV} {n:Nat} {row:List Cl} {hid:List (Nat×Blk)} {σ:Nat->Nat} {ts:List Nat} {ws:List AV} {z:St} (hl:n=pc.length+1) (S:Sim (YB a h L pc n row hid σ) (kaa ts ws (tBc++[.own 1002003 false 48])) z):
  Sim (ZC0 a h L [] ⟨pc++[.sl (σ 4) 0 (row.map eC).length 3 none],n,(σ 4,Blk.cells (row.map eC).flatten false 48)::hid⟩ [] (kcx σ 4)) (kaa [] [] mC0) z:=by
 have h1:tBc.map (gB (YB a h L pc n row hid σ))=kwb a h L pc n row σ:=by kernel_rfl
 have h2:mC0.map (gB (ZC0 a h L [] ⟨pc++[.sl (σ 4) 0 (row.map eC).length 3 none],n,(σ 4,Blk.cells (row.map eC).flatten false 48)::hid⟩ [] (kcx σ 4)))=kke a h L (pc++[.sl (σ 4) 0 (row.map eC).length 3 none]) n σ:=by kernel_rfl
 have h3:kwb a h L pc n row σ=kke a h L (pc++[.sl (σ 4) 0 (row.map eC).length 3 none]) n σ:=by
  unfold kwb kke;have e1:[pc].flatten=pc:=by simp
  have e2:[pc++[AV.sl (σ 4) 0 (row.map eC).length 3 none]].flatten=pc++[.sl (σ 4) 0 (row.map eC).length 3 none]:=by simp
  rw[e1,e2,kgd (by rw[yak,kbe];omega)]
 rw[←h3] at h2;generalize hq:(Sh.mk (pc++[.sl (σ 4) 0 (row.map eC).length 3 none]) n ((σ 4,Blk.cells (row.map eC).flatten false 48)::hid))=q at h2 ⊢;have hh:(ZC0 a h L [] q [] (kcx σ 4)).hid=((YB a h L pc n row hid σ).σ tBc.length,gB (YB a h L pc n row hid σ) (.own 1002003 false 48))::(YB a h L pc n row hid σ).hid:=by
  subst hq;kernel_rfl
 exact Sim.hide (cs:=tBc) (cs':=mC0) S (by kernel_rfl) (by kernel_rfl) (by kernel_rfl) (h1.trans h2.symm) hh
def MSt (i0 i2:Nat) (a:Nat) (h:Hd) (L:List Bs) (T:List (List Cl)) (M:List Mov) (xs:List AV) (ts:List Nat) (ws:List AV) (z:St):Prop:=
 (T=[]/\M=[]/\ ∃ q σ,Sim (ZE0 a h L M q xs σ) (kaa ts ws mE0) z/\(σ 0=i0/\σ 2=i2))\/
 (T=[]/\M≠[]/\ ∃ q σ,Sim (ZE1 a h L M q xs σ) (kaa ts ws mE1) z/\(σ 0=i0/\σ 2=i2))\/
 (T≠[]/\M=[]/\ ∃ q σ,PcOk q.tc T q.hid/\q.n=T.length/\Sim (ZC0 a h L M q xs σ) (kaa ts ws mC0) z/\(σ 0=i0/\σ 2=i2))\/
 (T≠[]/\M≠[]/\ ∃ q σ,PcOk q.tc T q.hid/\q.n=T.length/\Sim (ZC1 a h L M q xs σ) (kaa ts ws mC1) z/\(σ 0=i0/\σ 2=i2))
theorem toM {i0 i2 a:Nat} {h:Hd} {L:List Bs} {T:List (List Cl)} {ts:List Nat} {ws:List AV} {z:St} (S:TSt i0 i2 a h L T ts ws z):MSt i0 i2 a h L T [] [] [] [] z:=by
 rcases S with⟨hT,σ,S,hs⟩ | ⟨U,pc,hid,σ,hT,hp,S,hs⟩ | ⟨U,c,pc,hid,σ,hT,hc,hp,S,hs⟩
 ·have S1:Sim (ZE0 a h L [] ⟨[],0,[]⟩ [] σ) (kaa ts ws mE0) z:=S;refine .inl ⟨hT,rfl,⟨[],0,[]⟩,σ,?_,hs⟩;exact S1.bare z.r
 ·have hn:T.length=U.length+1:=by rw[hT];simp
  have hp2:PcOk (pc++[kaj]) T hid:=by rw[hT];exact hp.add (.inl ⟨rfl,rfl⟩)
  refine .inr (.inr (.inl ⟨by rw[hT];simp,rfl,⟨pc++[kaj],T.length,hid⟩,σ,hp2,rfl,?_,hs⟩));have h1:tA.map (gB (YA a h L pc T.length hid σ))=tAY a h L pc T.length σ:=by kernel_rfl
  have h2:mC0.map (gB (ZC0 a h L [] ⟨pc++[kaj],T.length,hid⟩ [] σ))=kke a h L (pc++[kaj]) T.length σ:=by kernel_rfl
  have h3:tAY a h L pc T.length σ=kke a h L (pc++[kaj]) T.length σ:=by
   unfold tAY kke;have e1:[pc].flatten=pc:=by simp
   have e2:[pc++[kaj]].flatten=pc++[kaj]:=by simp
   rw[e1,e2,kgd (by rw[yak,kbe,hp.1];omega)];rfl
  exact Sim.recode (ρ':=ZC0 a h L [] ⟨pc++[kaj],T.length,hid⟩ [] σ) S rfl rfl rfl (h1.trans (h3.trans h2.symm)) rfl
 ·have hn:T.length=U.length+1:=by rw[hT];simp
  have hp2:PcOk (pc++[.sl (σ 4) 0 (c.map eC).length 3 none]) T ((σ 4,Blk.cells (c.map eC).flatten false 48)::hid):=by
   rw[hT];refine(hp.more _).add (.inr ⟨σ 4,hc,?_,List.mem_cons_self⟩);rw[yak]
  refine .inr (.inr (.inl ⟨by rw[hT];simp,rfl,⟨pc++[.sl (σ 4) 0 (c.map eC).length 3 none],T.length,(σ 4,Blk.cells (c.map eC).flatten false 48)::hid⟩,kcx σ 4,hp2,rfl,?_,⟨hs.1,hs.2⟩⟩));exact k93 (by rw[hp.1,hn]) S
section
variable {i0 i2 a:Nat} {h:Hd} {L:List Bs} {T:List (List Cl)} {M:List Mov}
theorem MSt.bare {xs:List AV} {ts:List Nat} {ws:List AV} {z:St} (S:MSt i0 i2 a h L T M xs ts ws z) (r:Go.Proofs.Hz.T AV):MSt i0 i2 a h L T M xs [] [] {r:=r,h:=z.h,nx:=z.nx}:=by
 rcases S with⟨hT,hM0,q,σ,S,hs⟩ | ⟨hT,hM0,q,σ,S,hs⟩ | ⟨hT,hM0,q,σ,hp,hn,S,hs⟩ | ⟨hT,hM0,q,σ,hp,hn,S,hs⟩
 ·exact .inl ⟨hT,hM0,q,_,S.bare r,hs⟩
 ·exact .inr (.inl ⟨hT,hM0,q,_,S.bare r,hs⟩)
 ·exact .inr (.inr (.inl ⟨hT,hM0,q,_,hp,hn,S.bare r,hs⟩))
 ·exact .inr (.inr (.inr ⟨hT,hM0,q,_,hp,hn,S.bare r,hs⟩))
theorem MSt.begin {xs:List AV} {z:St} (S:MSt i0 i2 a h L T M xs [] [] z) (r:Go.Proofs.Hz.T AV) (hr:r.get 0=some (.ptr i2 0)):MSt i0 i2 a h L T M xs [0] [.ptr 2 0] {r:=r,h:=z.h,nx:=z.nx}:=by
 rcases S with⟨hT,hM0,q,σ,S,hs⟩ | ⟨hT,hM0,q,σ,S,hs⟩ | ⟨hT,hM0,q,σ,hp,hn,S,hs⟩ | ⟨hT,hM0,q,σ,hp,hn,S,hs⟩
 ·refine .inl ⟨hT,hM0,q,σ,S.begin [0] [.ptr 2 0] r (fun t u hu=> ?_),hs⟩;have hm:=kbw (show(ofL ([0].zip [AV.ptr 2 0])).get t=some u from hu);simp only[yam,yai,yag,yah,yae,or_false] at hm;obtain⟨rfl,rfl⟩:=hm;rw[hr,←hs.2];rfl
 ·refine .inr (.inl ⟨hT,hM0,q,σ,S.begin [0] [.ptr 2 0] r (fun t u hu=> ?_),hs⟩);have hm:=kbw (show(ofL ([0].zip [AV.ptr 2 0])).get t=some u from hu);simp only[yam,yai,yag,yah,yae,or_false] at hm;obtain⟨rfl,rfl⟩:=hm;rw[hr,←hs.2];rfl
 ·refine .inr (.inr (.inl ⟨hT,hM0,q,σ,hp,hn,S.begin [0] [.ptr 2 0] r (fun t u hu=> ?_),hs⟩));have hm:=kbw (show(ofL ([0].zip [AV.ptr 2 0])).get t=some u from hu);simp only[yam,yai,yag,yah,yae,or_false] at hm;obtain⟨rfl,rfl⟩:=hm;rw[hr,←hs.2];rfl
 ·refine .inr (.inr (.inr ⟨hT,hM0,q,σ,hp,hn,S.begin [0] [.ptr 2 0] r (fun t u hu=> ?_),hs⟩));have hm:=kbw (show(ofL ([0].zip [AV.ptr 2 0])).get t=some u from hu);simp only[yam,yai,yag,yah,yae,or_false] at hm;obtain⟨rfl,rfl⟩:=hm;rw[hr,←hs.2];rfl
theorem MSt.reg2 {xs:List AV} {b:Bool} {z:St} (S:MSt i0 i2 a h L T M xs [2] [.bool b] z):z.r.get 2=some (.bool b):=by
 rcases S with⟨hT,hM0,q,σ,S,hs⟩ | ⟨hT,hM0,q,σ,S,hs⟩ | ⟨hT,hM0,q,σ,hp,hn,S,hs⟩ | ⟨hT,hM0,q,σ,hp,hn,S,hs⟩
 ·exact S.regs 2 (.bool b) (by kernel_rfl)
 ·exact S.regs 2 (.bool b) (by kernel_rfl)
 ·exact S.regs 2 (.bool b) (by kernel_rfl)
 ·exact S.regs 2 (.bool b) (by kernel_rfl)
theorem MSt.reg0 {xs:List AV} {z:St} (S:MSt i0 i2 a h L T M xs [0] [.ptr 2 0] z):z.r.get 0=some (.ptr i2 0):=by
 rcases S with⟨hT,hM0,q,σ,S,hs⟩ | ⟨hT,hM0,q,σ,S,hs⟩ | ⟨hT,hM0,q,σ,hp,hn,S,hs⟩ | ⟨hT,hM0,q,σ,hp,hn,S,hs⟩
 ·rw[←hs.2];exact S.regs 0 (.ptr 2 0) (by kernel_rfl)
 ·rw[←hs.2];exact S.regs 0 (.ptr 2 0) (by kernel_rfl)
 ·rw[←hs.2];exact S.regs 0 (.ptr 2 0) (by kernel_rfl)
 ·rw[←hs.2];exact S.regs 0 (.ptr 2 0) (by kernel_rfl)
theorem MSt.start {z:St} (S:MSt i0 i2 a h L T M [] [0] [.ptr 2 0] z): ∃ z1,Ev FF (.seq mvA mvB) z .nrm z1/\MSt i0 i2 a h L T M [.int .i64 0] [0,3,12,13] [.ptr 2 0,fnT,wA,vt 4] z1:=by
 rcases S with⟨hT,hM0,q,σ,S,hs⟩ | ⟨hT,hM0,q,σ,S,hs⟩ | ⟨hT,hM0,q,σ,hp,hn,S,hs⟩ | ⟨hT,hM0,q,σ,hp,hn,S,hs⟩
 ·obtain⟨z1,e1,S1⟩:=qcp a h L M q (σ:=σ) S;exact⟨z1,e1,.inl ⟨hT,hM0,q,_,S1,hs⟩⟩
 ·obtain⟨z1,e1,S1⟩:=qcq a h L M q (σ:=σ) S;exact⟨z1,e1,.inr (.inl ⟨hT,hM0,q,_,S1,hs⟩)⟩
 ·obtain⟨z1,e1,S1⟩:=qcn a h L M q (σ:=σ) hp.okF S;exact⟨z1,e1,.inr (.inr (.inl ⟨hT,hM0,q,_,hp,hn,S1,hs⟩))⟩
 ·obtain⟨z1,e1,S1⟩:=qco a h L M q (σ:=σ) hp.okF S;exact⟨z1,e1,.inr (.inr (.inr ⟨hT,hM0,q,_,hp,hn,S1,hs⟩))⟩
theorem MSt.out {z:St} (S:MSt i0 i2 a h L T M [.int .i64 3] [0,3,12,13] [.ptr 2 0,fnT,wA,vt 4] z): ∃ z1,Ev FF mvX z (.ext 0) z1/\MSt i0 i2 a h L T M [] [] [] z1:=by
 rcases S with⟨hT,hM0,q,σ,S,hs⟩ | ⟨hT,hM0,q,σ,S,hs⟩ | ⟨hT,hM0,q,σ,hp,hn,S,hs⟩ | ⟨hT,hM0,q,σ,hp,hn,S,hs⟩
 ·obtain⟨z1,e1,S1⟩:=qdc 3 a h L M q (σ:=σ) S (by omega);exact⟨z1,e1,.inl ⟨hT,hM0,q,_,S1,hs⟩⟩
 ·obtain⟨z1,e1,S1⟩:=qdd 3 a h L M q (σ:=σ) S (by omega);exact⟨z1,e1,.inr (.inl ⟨hT,hM0,q,_,S1,hs⟩)⟩
 ·obtain⟨z1,e1,S1⟩:=qda 3 a h L M q (σ:=σ) hp.okF S (by omega);exact⟨z1,e1,.inr (.inr (.inl ⟨hT,hM0,q,_,hp,hn,S1,hs⟩))⟩
 ·obtain⟨z1,e1,S1⟩:=qdb 3 a h L M q (σ:=σ) hp.okF S (by omega);exact⟨z1,e1,.inr (.inr (.inr ⟨hT,hM0,q,_,hp,hn,S1,hs⟩))⟩
theorem MSt.moN {z:St} (S:MSt i0 i2 a h L T M [] [0] [.ptr 2 0] z) (h0: ¬(a:Int)<(L.length:Int)): ∃ z1,Ev FF alP z (.ext 2) z1/\MSt i0 i2 a h L T M [] [] [] z1:=by
 rcases S with⟨hT,hM0,q,σ,S,hs⟩ | ⟨hT,hM0,q,σ,S,hs⟩ | ⟨hT,hM0,q,σ,hp,hn,S,hs⟩ | ⟨hT,hM0,q,σ,hp,hn,S,hs⟩
 ·obtain⟨z1,e1,S1⟩:=qcc a h L M q (σ:=σ) S h0;exact⟨z1,e1,.inl ⟨hT,hM0,q,_,S1,hs⟩⟩
 ·obtain⟨z1,e1,S1⟩:=qcd a h L M q (σ:=σ) S h0;exact⟨z1,e1,.inr (.inl ⟨hT,hM0,q,_,S1,hs⟩)⟩
 ·obtain⟨z1,e1,S1⟩:=qca a h L M q (σ:=σ) hp.okF S h0;exact⟨z1,e1,.inr (.inr (.inl ⟨hT,hM0,q,_,hp,hn,S1,hs⟩))⟩
 ·obtain⟨z1,e1,S1⟩:=qcb a h L M q (σ:=σ) hp.okF S h0;exact⟨z1,e1,.inr (.inr (.inr ⟨hT,hM0,q,_,hp,hn,S1,hs⟩))⟩
theorem MSt.moY {z:St} (S:MSt i0 i2 a h L T M [] [0] [.ptr 2 0] z) (h0:(a:Int)<(L.length:Int)): ∃ z1,Ev FF alP z .nrm z1/\MSt i0 i2 a h L T M [] [0] [.ptr 2 0] z1:=by
 rcases S with⟨hT,hM0,q,σ,S,hs⟩ | ⟨hT,hM0,q,σ,S,hs⟩ | ⟨hT,hM0,q,σ,hp,hn,S,hs⟩ | ⟨hT,hM0,q,σ,hp,hn,S,hs⟩
 ·obtain⟨z1,e1,S1⟩:=qcg a h L M q (σ:=σ) S h0;exact⟨z1,e1,.inl ⟨hT,hM0,q,_,S1,hs⟩⟩
 ·obtain⟨z1,e1,S1⟩:=qch a h L M q (σ:=σ) S h0;exact⟨z1,e1,.inr (.inl ⟨hT,hM0,q,_,S1,hs⟩)⟩
 ·obtain⟨z1,e1,S1⟩:=qce a h L M q (σ:=σ) hp.okF S h0;exact⟨z1,e1,.inr (.inr (.inl ⟨hT,hM0,q,_,hp,hn,S1,hs⟩))⟩
 ·obtain⟨z1,e1,S1⟩:=qcf a h L M q (σ:=σ) hp.okF S h0;exact⟨z1,e1,.inr (.inr (.inr ⟨hT,hM0,q,_,hp,hn,S1,hs⟩))⟩
theorem MSt.next {z:St} {k:Int} (S:MSt i0 i2 a h L T M [.int .i64 k] [0,3,12,13] [.ptr 2 0,fnT,wA,vt 4] z) (hk:0<=k/\k<=2) (h0:a<L.length) {l:Bs} (hl:L[a]? =some l) (hlen:l.length<=1000000) (hno: ¬0<=kah (kan k) l 9999): ∃ z1,Ev FF mvX z .nrm z1/\MSt i0 i2 a h L T M [.int .i64 (k+1)] [0,3,12,13] [.ptr 2 0,fnT,wA,vt 4] z1:=by
 have hl':L[yal (a:Int)]? =some l:=by rw[yac];exact hl
 have h0':(a:Int)<(L.length:Int):=by omega
 have hkw:w64 (k+1)=k+1:=by
  obtain⟨m,rfl⟩:=Int.eq_ofNat_of_zero_le hk.1;exact kbv (n:=m+1) (by omega) (by omega)
 rcases kk1 (kan k) l 9999 (by omega) with⟨_,_,_,_,hc⟩ | ⟨_,hc⟩
 ·exact absurd hc hno
 rcases S with⟨hT,hM0,q,σ,S,hs⟩ | ⟨hT,hM0,q,σ,S,hs⟩ | ⟨hT,hM0,q,σ,hp,hn,S,hs⟩ | ⟨hT,hM0,q,σ,hp,hn,S,hs⟩
 ·rcases hc with c1 | ⟨c1,c2⟩ | ⟨c1,c2,c3⟩
  ·obtain⟨z1,e1,S1⟩:=qc8 k a h L M q (σ:=σ) S hk h0' hl' hlen c1 hkw;exact⟨z1,e1,.inl ⟨hT,hM0,q,_,S1,hs⟩⟩
  ·obtain⟨z1,e1,S1⟩:=qc4 k a h L M q (σ:=σ) S hk h0' hl' hlen c1 c2 hkw;exact⟨z1,e1,.inl ⟨hT,hM0,q,_,S1,hs⟩⟩
  ·obtain⟨z1,e1,S1⟩:=qct k a h L M q (σ:=σ) S hk h0' hl' hlen c1 c2 c3 hkw;exact⟨z1,e1,.inl ⟨hT,hM0,q,_,S1,hs⟩⟩
 ·rcases hc with c1 | ⟨c1,c2⟩ | ⟨c1,c2,c3⟩
  ·obtain⟨z1,e1,S1⟩:=qc9 k a h L M q (σ:=σ) S hk h0' hl' hlen c1 hkw;exact⟨z1,e1,.inr (.inl ⟨hT,hM0,q,_,S1,hs⟩)⟩
  ·obtain⟨z1,e1,S1⟩:=qc5 k a h L M q (σ:=σ) S hk h0' hl' hlen c1 c2 hkw;exact⟨z1,e1,.inr (.inl ⟨hT,hM0,q,_,S1,hs⟩)⟩
  ·obtain⟨z1,e1,S1⟩:=qcu k a h L M q (σ:=σ) S hk h0' hl' hlen c1 c2 c3 hkw;exact⟨z1,e1,.inr (.inl ⟨hT,hM0,q,_,S1,hs⟩)⟩
 ·rcases hc with c1 | ⟨c1,c2⟩ | ⟨c1,c2,c3⟩
  ·obtain⟨z1,e1,S1⟩:=qc6 k a h L M q (σ:=σ) hp.okF S hk h0' hl' hlen c1 hkw;exact⟨z1,e1,.inr (.inr (.inl ⟨hT,hM0,q,_,hp,hn,S1,hs⟩))⟩
  ·obtain⟨z1,e1,S1⟩:=qc2 k a h L M q (σ:=σ) hp.okF S hk h0' hl' hlen c1 c2 hkw;exact⟨z1,e1,.inr (.inr (.inl ⟨hT,hM0,q,_,hp,hn,S1,hs⟩))⟩
  ·obtain⟨z1,e1,S1⟩:=qcr k a h L M q (σ:=σ) hp.okF S hk h0' hl' hlen c1 c2 c3 hkw;exact⟨z1,e1,.inr (.inr (.inl ⟨hT,hM0,q,_,hp,hn,S1,hs⟩))⟩
 ·rcases hc with c1 | ⟨c1,c2⟩ | ⟨c1,c2,c3⟩
  ·obtain⟨z1,e1,S1⟩:=qc7 k a h L M q (σ:=σ) hp.okF S hk h0' hl' hlen c1 hkw;exact⟨z1,e1,.inr (.inr (.inr ⟨hT,hM0,q,_,hp,hn,S1,hs⟩))⟩
  ·obtain⟨z1,e1,S1⟩:=qc3 k a h L M q (σ:=σ) hp.okF S hk h0' hl' hlen c1 c2 hkw;exact⟨z1,e1,.inr (.inr (.inr ⟨hT,hM0,q,_,hp,hn,S1,hs⟩))⟩
  ·obtain⟨z1,e1,S1⟩:=qcs k a h L M q (σ:=σ) hp.okF S hk h0' hl' hlen c1 c2 c3 hkw;exact⟨z1,e1,.inr (.inr (.inr ⟨hT,hM0,q,_,hp,hn,S1,hs⟩))⟩
theorem MSt.good {z:St} {k:Int} (S:MSt i0 i2 a h L T M [.int .i64 k] [0,3,12,13] [.ptr 2 0,fnT,wA,vt 4] z) (hk:0<=k/\k<=2) (hLn:L.length<=1000000) (h0:a<L.length) {l:Bs} (hl:L[a]? =some l) (hlen:l.length<=1000000) (hyes:0<=kah (kan k) l 9999) (hM:M.length<1000): ∃ z1,Ev FF mvX z .ret z1/\MSt i0 i2 (a+1) h L T (M++[⟨k,kah (kan k) l 9999⟩]) [] [2] [.bool true] z1:=by
 have hl':L[yal (a:Int)]? =some l:=by rw[yac];exact hl
 have h0':(a:Int)<(L.length:Int):=by omega
 have hw:=kbv h0 hLn;obtain⟨c1,c2,c3,c4⟩:kao l=true/\kbg (kad l) (kan k++[32])=true/\kce (kbc (kad l) (kan k++[32])) 9999=true/\kah (kan k) l 9999=kam (kbc (kad l) (kan k++[32])):=by
  rcases kk1 (kan k) l 9999 (by omega) with⟨a,b,c,d,_⟩ | ⟨hc,_⟩
  ·exact⟨a,b,c,d⟩
  ·exact absurd hyes hc
 rw[c4];rcases S with⟨hT,hM0,q,σ,S,hs⟩ | ⟨hT,hM0,q,σ,S,hs⟩ | ⟨hT,hM0,q,σ,hp,hn,S,hs⟩ | ⟨hT,hM0,q,σ,hp,hn,S,hs⟩
 ·obtain⟨z1,e1,S1⟩:=qcz k a h L M q (σ:=σ) S hk h0' hl' hlen c1 c2 c3 hw;refine⟨z1,e1,?_⟩;rw[hM0,yao];exact .inr (.inl ⟨hT,by simp,q,_,S1,hs⟩)
 ·obtain⟨z1,e1,S1⟩:=qc0 k a h L M q (σ:=σ) S hk h0' hl' hlen c1 c2 c3 hw hM;exact⟨z1,e1,.inr (.inl ⟨hT,by simp,q,_,S1,hs⟩)⟩
 ·obtain⟨z1,e1,S1⟩:=qcx k a h L M q (σ:=σ) hp.okF S hk h0' hl' hlen c1 c2 c3 hw;refine⟨z1,e1,?_⟩;rw[hM0,yao];exact .inr (.inr (.inr ⟨hT,by simp,q,_,hp,hn,S1,hs⟩))
 ·obtain⟨z1,e1,S1⟩:=qcy k a h L M q (σ:=σ) hp.okF S hk h0' hl' hlen c1 c2 c3 hw hM;exact⟨z1,e1,.inr (.inr (.inr ⟨hT,by simp,q,_,hp,hn,S1,hs⟩))⟩
theorem MSt.full {z:St} {k:Int} (S:MSt i0 i2 a h L T M [.int .i64 k] [0,3,12,13] [.ptr 2 0,fnT,wA,vt 4] z) (hk:0<=k/\k<=2) (hLn:L.length<=1000000) (h0:a<L.length) {l:Bs} (hl:L[a]? =some l) (hlen:l.length<=1000000) (hyes:0<=kah (kan k) l 9999) (hM:M.length=1000): ∃ z1,Ev FF mvX z .ret z1/\MSt i0 i2 a h L T M [] [2] [.bool false] z1:=by
 have hl':L[yal (a:Int)]? =some l:=by rw[yac];exact hl
 have h0':(a:Int)<(L.length:Int):=by omega
 have hw:w64 (w64 ((a:Int)+1) - 1)=(a:Int):=by
  rw[kbv h0 hLn];have:=kwk (n:=a+1) (by omega) (by omega);rw[this];simp
 obtain⟨c1,c2,c3,c4⟩:kao l=true/\kbg (kad l) (kan k++[32])=true/\kce (kbc (kad l) (kan k++[32])) 9999=true/\kah (kan k) l 9999=kam (kbc (kad l) (kan k++[32])):=by
  rcases kk1 (kan k) l 9999 (by omega) with⟨a,b,c,d,_⟩ | ⟨hc,_⟩
  ·exact⟨a,b,c,d⟩
  ·exact absurd hyes hc
 rcases S with⟨hT,hM0,q,σ,S,hs⟩ | ⟨hT,hM0,q,σ,S,hs⟩ | ⟨hT,hM0,q,σ,hp,hn,S,hs⟩ | ⟨hT,hM0,q,σ,hp,hn,S,hs⟩
 ·rw[hM0] at hM;cases hM
 ·obtain⟨z1,e1,S1⟩:=qcw k a h L M q (σ:=σ) S hk h0' hl' hlen c1 c2 c3 hw hM;exact⟨z1,e1,.inr (.inl ⟨hT,hM0,q,_,S1,hs⟩)⟩
 ·rw[hM0] at hM;cases hM
 ·obtain⟨z1,e1,S1⟩:=qcv k a h L M q (σ:=σ) hp.okF S hk h0' hl' hlen c1 c2 c3 hw hM;exact⟨z1,e1,.inr (.inr (.inr ⟨hT,hM0,q,_,hp,hn,S1,hs⟩))⟩
theorem MSt.words {z:St} (S:MSt i0 i2 a h L T M [.int .i64 0] [0,3,12,13] [.ptr 2 0,fnT,wA,vt 4] z) (hLn:L.length<=1000000) (h0:a<L.length) {l:Bs} (hl:L[a]? =some l) (hlen:l.length<=1000000) (hM:M.length<=1000):
  (∃ m,kcc l=some m/\M.length<1000/\ ∃ z1,Ev FF (.loop mvX) z .ret z1/\MSt i0 i2 (a+1) h L T (M++[m]) [] [2] [.bool true] z1)\/
  ((kcc l=none\/M.length=1000)/\((∃ z1,Ev FF (.loop mvX) z .ret z1/\MSt i0 i2 a h L T M [] [2] [.bool false] z1)\/(∃ z1,Ev FF (.loop mvX) z (.ext 0) z1/\MSt i0 i2 a h L T M [] [] [] z1))):=by
 have done: ∀ {k:Int} {z':St},0<=k/\k<=2->(∀ e z1,Ev FF (.loop mvX) z' e z1->Ev FF (.loop mvX) z e z1)->MSt i0 i2 a h L T M [.int .i64 k] [0,3,12,13] [.ptr 2 0,fnT,wA,vt 4] z'->0<=kah (kan k) l 9999->kcc l=some ⟨k,kah (kan k) l 9999⟩->
   (∃ m,kcc l=some m/\M.length<1000/\ ∃ z1,Ev FF (.loop mvX) z .ret z1/\MSt i0 i2 (a+1) h L T (M++[m]) [] [2] [.bool true] z1)\/
   ((kcc l=none\/M.length=1000)/\((∃ z1,Ev FF (.loop mvX) z .ret z1/\MSt i0 i2 a h L T M [] [2] [.bool false] z1)\/(∃ z1,Ev FF (.loop mvX) z (.ext 0) z1/\MSt i0 i2 a h L T M [] [] [] z1))):=fun {k z'} hk hz S' hy hm=>by
  by_cases hf:M.length=1000
  ·obtain⟨z1,e1,S1⟩:=S'.full hk hLn h0 hl hlen hy hf;exact .inr ⟨.inr hf,.inl ⟨z1,hz _ _ (Ev.loopJ e1 (by intro h;cases h)),S1⟩⟩
  ·obtain⟨z1,e1,S1⟩:=S'.good hk hLn h0 hl hlen hy (by omega);exact .inl ⟨_,hm,by omega,z1,hz _ _ (Ev.loopJ e1 (by intro h;cases h)),S1⟩
 by_cases c0:0<=kah kee l 9999
 ·exact done (k:=0) (by omega) (fun _ _ e=>e) S c0 (by unfold kcc;rw[iq c0];rfl)
 obtain⟨z1,e1,S1⟩:=S.next (by omega) h0 hl hlen c0;by_cases c1:0<=kah keg l 9999
 ·exact done (k:=1) (by omega) (fun _ _ e=>e1.loop e) S1 c1 (by unfold kcc;rw[ir c0,iq c1];rfl)
 obtain⟨z2,e2,S2⟩:=S1.next (k:=1) (by omega) h0 hl hlen c1;by_cases c2:0<=kah kef l 9999
 ·exact done (k:=2) (by omega) (fun _ _ e=>e1.loop (e2.loop e)) S2 c2 (by unfold kcc;rw[ir c0,ir c1,iq c2];rfl)
 obtain⟨z3,e3,S3⟩:=S2.next (k:=2) (by omega) h0 hl hlen c2;obtain⟨z4,e4,S4⟩:=S3.out;exact .inr ⟨.inl (by unfold kcc;rw[ir c0,ir c1,ir c2]),.inr ⟨z4,e1.loop (e2.loop (e3.loop (Ev.loopJ e4 (by intro h;cases h)))),S4⟩⟩
theorem MSt.move {ts:List Nat} {ws:List AV} {z:St} (S:MSt i0 i2 a h L T M [] ts ws z) (hLn:L.length<=1000000) (h0:a<L.length) {l:Bs} (hl:L[a]? =some l) (hlen:l.length<=1000000) (hM:M.length<=1000):
  (∃ m,kcc l=some m/\M.length<1000/\ ∃ z1,CallEv FF 54 [.ptr i2 0] z (.bool true) z1/\z1.r=z.r/\MSt i0 i2 (a+1) h L T (M++[m]) [] [] [] z1)\/
  ((kcc l=none\/M.length=1000)/\ ∃ z1,CallEv FF 54 [.ptr i2 0] z (.bool false) z1/\z1.r=z.r/\MSt i0 i2 a h L T M [] [] [] z1):=by
 have hres: ∀ {z1:St} {b:Bool},z1.r.get 2=some (.bool b)->kcg (kai FF 54) z1=some (.bool b):=fun {z1 b} hb=>by
  have hr:(kai FF 54).res=[(2,none)]:=by kernel_rfl
  unfold kcg;rw[hr];simp only[mapO,kdi,kbs hb]
 generalize hr0:(((inits 0 [.ptr i2 0] .nil).put 2 (some (.bool false))):Go.Proofs.Hz.T AV)=r1;have S0:=(S.bare r1).begin r1 (by rw[←hr0,_root_.Go.Proofs.Hz.T.get_put];rfl);have e0:Ev FF (.reg [⟨some 2,.mov (.c (.bool false)),none⟩]) {r:=inits 0 [.ptr i2 0] .nil,h:=z.h,nx:=z.nx} .nrm {r:=r1,h:=z.h,nx:=z.nx}:=by
  subst hr0;exact Ev.reg (EvR.op (v:= .bool false) (s1:={r:=inits 0 [.ptr i2 0] .nil,h:=z.h,nx:=z.nx}) (fun _=>rfl) (EvR.nil _))
 obtain⟨z1,e1,S1⟩:=S0.start;obtain⟨zA,kA,kB⟩:=e1.seqI;rcases S1.words hLn h0 hl hlen hM with⟨m,hm,hM1,z2,e2,S2⟩ | ⟨hb,⟨z2,e2,S2⟩ | ⟨z2,e2,S2⟩⟩
 ·refine .inl ⟨m,hm,hM1,_,CallEv.mk (f:=54) (fn:=kai FF 54) (by kernel_rfl) (by kernel_rfl) (e:= .ret) ?_ (.inr rfl) (hres S2.reg2),rfl,S2.bare z.r⟩;rw[kr1];exact e0.seq (kA.seq (Ev.seqJ (kB.seq (e2.block (id:=0))) (by intro h;cases h)))
 ·refine .inr ⟨hb,_,CallEv.mk (f:=54) (fn:=kai FF 54) (by kernel_rfl) (by kernel_rfl) (e:= .ret) ?_ (.inr rfl) (hres S2.reg2),rfl,S2.bare z.r⟩;rw[kr1];exact e0.seq (kA.seq (Ev.seqJ (kB.seq (e2.block (id:=0))) (by intro h;cases h)))
 ·refine .inr ⟨hb,_,CallEv.mk (f:=54) (s1:={r:=z2.r.put 2 (some (.bool false)),h:=z2.h,nx:=z2.nx}) (fn:=kai FF 54) (by kernel_rfl) (by kernel_rfl) (e:= .ret) ?_ (.inr rfl) (hres (by show(z2.r.put 2 _).get 2=_;rw[_root_.Go.Proofs.Hz.T.get_put,iq rfl])),rfl,S2.bare z.r⟩;rw[kr1];refine e0.seq (kA.seq (Ev.seq (kB.seq (e2.block (id:=0))) (Ev.seq (Ev.reg (EvR.op (v:= .bool false) (s1:=z2) (fun _=>rfl) (EvR.nil _))) (Ev.ret _))))
end
def hdR:List AOper:=[⟨some 7,.call (.c (.fn 29 [] [])) [],none⟩,⟨some 8,.mov (.c (.int .i64 0)),none⟩]
theorem k9i (a:Nat) (h:Hd) (L:List Bs) (M:List Mov) (q:Sh) {z:St} {σ:Nat->Nat} (hσ: ∀ i j,σ i=σ j->i=j) (S:Sim (ZE0 a h L M q [] σ) (kaa [0] [.ptr 2 0] mE0) z): ∃ z1,Ev FF (.reg hdR) z .nrm z1/\Sim (ZE0 a h L M q [] (sig σ [0,1,2] 3)) (kaa [0,7,8] [.ptr 2 0,wH,.int .i64 0] mE0) z1:=by
 have H:=Tok.start (G:=gl20) (F:=FF) hσ S 3 4 0 1 (hT a h++[]) [] [(0,1,L.map eT)] .n (.c (OkO.own kae _) .n) rfl rfl;have H:=H.s [] wH kyi;exact H.ev _ _ _ [0,1,2] [.ptr 2 0,wH,.int .i64 0] [tb,lnB,.cells [.sl 1 0 1000001 1 none,vt 0,vt 1,vt 2,vt 3,kaj,kaj] false 64] 3 _ _ _
theorem k9z (a:Nat) (h:Hd) (L:List Bs) (M:List Mov) (q:Sh) {z:St} {σ:Nat->Nat} (hσ: ∀ i j,σ i=σ j->i=j) (S:Sim (ZE0 a h L M q [] σ) (kaa [0,7,8] [.ptr 2 0,wH,.int .i64 3] mE0) z): ∃ z1,Ev FF hdX z (.ext 0) z1/\Sim (ZE0 a h L M q [] (sig σ [0,1,2] 3)) (kaa [0] [.ptr 2 0] mE0) z1:=by
 have H:=Tok.start (G:=gl20) (F:=FF) hσ S 3 4 0 1 (hT a h++[]) [] [(0,1,L.map eT)] .n (.c (OkO.own kae _) .n) rfl rfl;exact H.ev _ _ _ [0,1,2] [.ptr 2 0] [tb,lnB,.cells [.sl 1 0 1000001 1 none,vt 0,vt 1,vt 2,vt 3,kaj,kaj] false 64] 3 _ _ _
def q0:Sh:=⟨[],0,[]⟩
section
variable {i0 i2:Nat} {L:List Bs}
def HSt (i0 i2:Nat) (L:List Bs) (a:Nat) (h:Hd) (ts:List Nat) (ws:List AV) (z:St):Prop:=∃ σ,Sim (ZE0 a h L [] q0 [] σ) (kaa ts ws mE0) z/\(σ 0=i0/\σ 2=i2)
theorem kii (w:Bs) (most:Int):kah w [] most= -1:=qp9 (by simp)
theorem HSt.step0 {a:Nat} {h:Hd} {z:St} (S:HSt i0 i2 L a h [0,7,8] [.ptr 2 0,wH,.int .i64 0] z) (hLn:L.length<=1000000) (hL: ∀ l ∈ L,l.length<=1000000):
  (0<=kah kaz (L.getD a []) 999-> ∃ z1,Ev FF hdX z .nrm z1/\HSt i0 i2 L (a+1) ⟨(kah kaz (L.getD a []) 999),h.n1,h.n2⟩ [0,7,8] [.ptr 2 0,wH,.int .i64 1] z1)/\
  (¬0<=kah kaz (L.getD a []) 999-> ∃ z1,Ev FF hdX z .ret z1/\HSt i0 i2 L a h [2] [.bool false] z1):=by
 obtain⟨σ,S,hs⟩:=S;by_cases h0:a<L.length
 ·have hl:L[a]? =some L[a]:=yab h0;have hl':L[yal (a:Int)]? =some L[a]:=by rw[yac];exact hl
  have hg:L.getD a []=L[a]:=by rw[yaa,hl];rfl
  have h0':(a:Int)<(L.length:Int):=by omega
  have hlen:=hL _ (yaf h0);rw[hg];rcases kk1 kaz L[a] 999 (by omega) with⟨c1,c2,c3,c4,c5⟩ | ⟨hn,hc⟩
  ·refine⟨fun _=> ?_,fun h=>absurd c5 h⟩;obtain⟨z1,e1,S1⟩:=k9m a h L [] q0 (σ:=σ) S h0' hl' hlen c1 c2 c3 (kbv h0 hLn);rw[c4];exact⟨z1,e1,_,S1,hs⟩
  ·refine⟨fun h=>absurd h hn,fun _=> ?_⟩;rcases hc with c1 | ⟨c1,c2⟩ | ⟨c1,c2,c3⟩
   ·obtain⟨z1,e1,S1⟩:=k9t a h L [] q0 (σ:=σ) S h0' hl' hlen c1;exact⟨z1,e1,_,S1,hs⟩
   ·obtain⟨z1,e1,S1⟩:=k9q a h L [] q0 (σ:=σ) S h0' hl' hlen c1 c2;exact⟨z1,e1,_,S1,hs⟩
   ·obtain⟨z1,e1,S1⟩:=k9j a h L [] q0 (σ:=σ) S h0' hl' hlen c1 c2 c3;exact⟨z1,e1,_,S1,hs⟩
 ·have hg:L.getD a []=[]:=by rw[yaa,yad (by omega)];rfl
  rw[hg,kii];refine⟨fun h=>by omega,fun _=> ?_⟩;obtain⟨z1,e1,S1⟩:=k9w a h L [] q0 (σ:=σ) S (by omega);exact⟨z1,e1,_,S1,hs⟩
theorem HSt.step1 {a:Nat} {h:Hd} {z:St} (S:HSt i0 i2 L a h [0,7,8] [.ptr 2 0,wH,.int .i64 1] z) (hLn:L.length<=1000000) (hL: ∀ l ∈ L,l.length<=1000000):
  (0<=kah ka0 (L.getD a []) 999-> ∃ z1,Ev FF hdX z .nrm z1/\HSt i0 i2 L (a+1) ⟨h.n0,(kah ka0 (L.getD a []) 999),h.n2⟩ [0,7,8] [.ptr 2 0,wH,.int .i64 2] z1)/\
  (¬0<=kah ka0 (L.getD a []) 999-> ∃ z1,Ev FF hdX z .ret z1/\HSt i0 i2 L a h [2] [.bool false] z1):=by
 obtain⟨σ,S,hs⟩:=S;by_cases h0:a<L.length
 ·have hl:L[a]? =some L[a]:=yab h0;have hl':L[yal (a:Int)]? =some L[a]:=by rw[yac];exact hl
  have hg:L.getD a []=L[a]:=by rw[yaa,hl];rfl
  have h0':(a:Int)<(L.length:Int):=by omega
  have hlen:=hL _ (yaf h0);rw[hg];rcases kk1 ka0 L[a] 999 (by omega) with⟨c1,c2,c3,c4,c5⟩ | ⟨hn,hc⟩
  ·refine⟨fun _=> ?_,fun h=>absurd c5 h⟩;obtain⟨z1,e1,S1⟩:=k9n a h L [] q0 (σ:=σ) S h0' hl' hlen c1 c2 c3 (kbv h0 hLn);rw[c4];exact⟨z1,e1,_,S1,hs⟩
  ·refine⟨fun h=>absurd h hn,fun _=> ?_⟩;rcases hc with c1 | ⟨c1,c2⟩ | ⟨c1,c2,c3⟩
   ·obtain⟨z1,e1,S1⟩:=k9u a h L [] q0 (σ:=σ) S h0' hl' hlen c1;exact⟨z1,e1,_,S1,hs⟩
   ·obtain⟨z1,e1,S1⟩:=k9r a h L [] q0 (σ:=σ) S h0' hl' hlen c1 c2;exact⟨z1,e1,_,S1,hs⟩
   ·obtain⟨z1,e1,S1⟩:=k9k a h L [] q0 (σ:=σ) S h0' hl' hlen c1 c2 c3;exact⟨z1,e1,_,S1,hs⟩
 ·have hg:L.getD a []=[]:=by rw[yaa,yad (by omega)];rfl
  rw[hg,kii];refine⟨fun h=>by omega,fun _=> ?_⟩;obtain⟨z1,e1,S1⟩:=k9x a h L [] q0 (σ:=σ) S (by omega);exact⟨z1,e1,_,S1,hs⟩
theorem HSt.step2 {a:Nat} {h:Hd} {z:St} (S:HSt i0 i2 L a h [0,7,8] [.ptr 2 0,wH,.int .i64 2] z) (hLn:L.length<=1000000) (hL: ∀ l ∈ L,l.length<=1000000):
  (0<=kah ka1 (L.getD a []) 999-> ∃ z1,Ev FF hdX z .nrm z1/\HSt i0 i2 L (a+1) ⟨h.n0,h.n1,(kah ka1 (L.getD a []) 999)⟩ [0,7,8] [.ptr 2 0,wH,.int .i64 3] z1)/\
  (¬0<=kah ka1 (L.getD a []) 999-> ∃ z1,Ev FF hdX z .ret z1/\HSt i0 i2 L a h [2] [.bool false] z1):=by
 obtain⟨σ,S,hs⟩:=S;by_cases h0:a<L.length
 ·have hl:L[a]? =some L[a]:=yab h0;have hl':L[yal (a:Int)]? =some L[a]:=by rw[yac];exact hl
  have hg:L.getD a []=L[a]:=by rw[yaa,hl];rfl
  have h0':(a:Int)<(L.length:Int):=by omega
  have hlen:=hL _ (yaf h0);rw[hg];rcases kk1 ka1 L[a] 999 (by omega) with⟨c1,c2,c3,c4,c5⟩ | ⟨hn,hc⟩
  ·refine⟨fun _=> ?_,fun h=>absurd c5 h⟩;obtain⟨z1,e1,S1⟩:=k9o a h L [] q0 (σ:=σ) S h0' hl' hlen c1 c2 c3 (kbv h0 hLn);rw[c4];exact⟨z1,e1,_,S1,hs⟩
  ·refine⟨fun h=>absurd h hn,fun _=> ?_⟩;rcases hc with c1 | ⟨c1,c2⟩ | ⟨c1,c2,c3⟩
   ·obtain⟨z1,e1,S1⟩:=k9v a h L [] q0 (σ:=σ) S h0' hl' hlen c1;exact⟨z1,e1,_,S1,hs⟩
   ·obtain⟨z1,e1,S1⟩:=k9s a h L [] q0 (σ:=σ) S h0' hl' hlen c1 c2;exact⟨z1,e1,_,S1,hs⟩
   ·obtain⟨z1,e1,S1⟩:=k9l a h L [] q0 (σ:=σ) S h0' hl' hlen c1 c2 c3;exact⟨z1,e1,_,S1,hs⟩
 ·have hg:L.getD a []=[]:=by rw[yaa,yad (by omega)];rfl
  rw[hg,kii];refine⟨fun h=>by omega,fun _=> ?_⟩;obtain⟨z1,e1,S1⟩:=k9y a h L [] q0 (σ:=σ) S (by omega);exact⟨z1,e1,_,S1,hs⟩
theorem qp5 {a:Nat} {h:Hd} {ts:List Nat} {ws:List AV} {z:St} (S:HSt i0 i2 L a h ts ws z) (hn:L.length<=1000000) (ha:a<=L.length) (hL: ∀ l ∈ L,kap l=(l,[])/\l≠[]/\l.length<=1000000):
  (∃ T a',kc4 (L.drop a) a []=(some T,a',L.drop a')/\a'<=L.length/\ ∃ z',CallEv FF 52 [.ptr i2 0] z (.bool true) z'/\z'.r=z.r/\MSt i0 i2 a' h L T [] [] [] [] z')\/
  (∃ a' ls,kc4 (L.drop a) a []=(none,a',ls)/\ ∃ z' T',CallEv FF 52 [.ptr i2 0] z (.bool false) z'/\z'.r=z.r/\MSt i0 i2 a' h L T' [] [] [] [] z'):=by
 obtain⟨σ,S,hs⟩:=S;have hres: ∀ {z1:St} {b:Bool},z1.r.get 2=some (.bool b)->kcg (kai FF 52) z1=some (.bool b):=fun {z1 b} hb=>by
  have hr:(kai FF 52).res=[(2,none)]:=by kernel_rfl
  unfold kcg;rw[hr];simp only[mapO,kdi,kbs hb]
 generalize hr0:(((inits 0 [.ptr i2 0] .nil).put 2 (some (.bool false))):T AV)=r1;have e0:Ev FF (.reg [⟨some 2,.mov (.c (.bool false)),none⟩]) {r:=inits 0 [.ptr i2 0] .nil,h:=z.h,nx:=z.nx} .nrm {r:=r1,h:=z.h,nx:=z.nx}:=by
  subst hr0;exact Ev.reg (EvR.op (v:= .bool false) (s1:={r:=inits 0 [.ptr i2 0] .nil,h:=z.h,nx:=z.nx}) (fun _=>rfl) (EvR.nil _))
 have S0:TSt i0 i2 a h L [] [0] [.ptr 2 0] {r:=r1,h:=z.h,nx:=z.nx}:=by
  refine .inl ⟨rfl,σ,?_,hs⟩;have S1:Sim (YE a h L σ) (kaa [] [] tE) {r:=r1,h:=z.h,nx:=z.nx}:=S.bare r1;refine S1.begin [0] [.ptr 2 0] r1 (fun t u hu=> ?_);have hm:=kbw (show(ofL ([0].zip [AV.ptr 2 0])).get t=some u from hu);simp only[yam,yai,yag,yah,yae,or_false] at hm;obtain⟨rfl,rfl⟩:=hm;rw[←hr0,T.get_put,←hs.2];rfl
 have hp:=qp6 i0 i2 h L hn hL (L.length - a) a [] (by omega) (by simp) rfl S0;revert hp;generalize hres2:kc4 (L.drop a) a []=res;obtain⟨o,a',ls⟩:=res;have reg2: ∀ {T:List (List Cl)} {b:Bool} {z1:St},TSt i0 i2 a' h L T [2] [.bool b] z1->z1.r.get 2=some (.bool b):=fun {T b z1} S=>by
  rcases S with⟨_,σ,S,_⟩ | ⟨_,_,_,σ,_,_,S,_⟩ | ⟨_,_,_,_,σ,_,_,_,S,_⟩
  ·exact S.regs 2 (.bool b) (by kernel_rfl)
  ·exact S.regs 2 (.bool b) (by kernel_rfl)
  ·exact S.regs 2 (.bool b) (by kernel_rfl)
 cases o with
 |some T=>
  rintro⟨q1,q2,z2,e2,S2⟩;refine .inl ⟨T,a',by rw[q1],q2,_,CallEv.mk (f:=52) (fn:=kai FF 52) (by kernel_rfl) (by kernel_rfl) (e:= .ret) ?_ (.inr rfl) (hres (reg2 S2)),rfl,(toM S2).bare z.r⟩;rw[kwd];exact e0.seq (Ev.seqJ (e2.block (id:=0)) (by intro h;cases h))
 |none=>
  rintro⟨z2,T',⟨e2,S2⟩ | ⟨e2,S2⟩⟩
  ·refine .inr ⟨a',ls,rfl,_,T',CallEv.mk (f:=52) (s1:={r:=z2.r.put 2 (some (.bool false)),h:=z2.h,nx:=z2.nx}) (fn:=kai FF 52) (by kernel_rfl) (by kernel_rfl) (e:= .ret) ?_ (.inr rfl) (hres (by show(z2.r.put 2 _).get 2=_;rw[T.get_put,iq rfl])),rfl,(toM S2).bare z.r⟩;rw[kwd];exact e0.seq (Ev.seq (e2.block (id:=0)) (Ev.seq (Ev.reg (EvR.op (v:= .bool false) (s1:=z2) (fun _=>rfl) (EvR.nil _))) (Ev.ret _)))
  ·refine .inr ⟨a',ls,rfl,_,T',CallEv.mk (f:=52) (fn:=kai FF 52) (by kernel_rfl) (by kernel_rfl) (e:= .ret) ?_ (.inr rfl) (hres (reg2 S2)),rfl,(toM S2).bare z.r⟩;rw[kwd];exact e0.seq (Ev.seqJ (e2.block (id:=0)) (by intro h;cases h))
def mvR:List AOper:=[⟨some 37,.mov (.t 0),none⟩,⟨some 38,.call (.c (.fn 54 [] [])) [.t 37],none⟩,⟨some 39,.un .not (.t 38),none⟩]
def mvY:AC:= .block 3 (.seq (.reg mvR) (.cond (.t 39) (.seq (.reg [⟨some 2,.mov (.c (.bool false)),none⟩]) .ret) .skip))
theorem kmp {g d0 d1 d2:Nat} {z z1:St} {b:Bool} (h0:z.r.get 0=some (.ptr i2 0)) (hc:CallEv FF g [.ptr i2 0] (z.set (some d0) (.ptr i2 0)) (.bool b) z1):
  EvR FF [⟨some d0,.mov (.t 0),none⟩,⟨some d1,.call (.c (.fn g [] [])) [.t d0],none⟩,⟨some d2,.un .not (.t d1),none⟩] z ((z1.set (some d1) (.bool b)).set (some d2) (.bool (!b))):=by
 refine EvR.op (v:= .ptr i2 0) (s1:=z) (fun _=> ?_) ?_
 ·show some (z.rg 0,z)=_;rw[kbs h0]
 refine EvR.call (g:=g) (first:=[]) (caps:=[]) (v:= .bool b) (s1:=z1) rfl ?_ ?_
 ·have e:(AO.t d0).ev (z.set (some d0) (.ptr i2 0))= .ptr i2 0:=kbs kde;rw[List.map_singleton,e];exact hc
 refine EvR.op (v:= .bool (!b)) (s1:=z1.set (some d1) (.bool b)) (fun _=> ?_) (EvR.nil _);show opA (z1.set (some d1) (.bool b)) (.un .not (.t d1))=_;have e:(AO.t d1).ev (z1.set (some d1) (.bool b))= .bool b:=kbs kde;simp only[opA,e];rfl
theorem qde (h:Hd) (T:List (List Cl)) (hn:L.length<=1000000) (hL: ∀ l ∈ L,l.length<=1000000): ∀ (k a:Nat) (M:List Mov) {z:St},a+k=L.length->M.length<=1000->MSt i0 i2 a h L T M [] [0] [.ptr 2 0] z->z.r.get 0=some (.ptr i2 0)->
  (∃ M' a' z',kdy (L.drop a) a M=(some M',a')/\Ev FF (.loop (.seq alP mvY)) z (.ext 2) z'/\MSt i0 i2 a' h L T M' [] [] [] z')\/
  (∃ M' a' z',kdy (L.drop a) a M=(none,a')/\Ev FF (.loop (.seq alP mvY)) z .ret z'/\z'.r.get 2=some (.bool false)/\MSt i0 i2 a' h L T M' [] [] [] z'):=by
 intro k
 induction k with
 |zero=>
  intro a M z ha hM S h0;rw[List.drop_of_length_le (by omega)];obtain⟨z1,e1,S1⟩:=S.moN (by omega);exact .inl ⟨M,a,z1,rfl,Ev.loopJ (e1.seqJ (by intro h;cases h)) (by intro h;cases h),S1⟩
 |succ k ih=>
  intro a M z ha hM S h0;have h1:a<L.length:=by omega
  have hl:L[a]? =some L[a]:=yab h1;rw[List.drop_eq_getElem_cons h1,knw];obtain⟨z1,e1,S1⟩:=S.moY (by omega);have h01:z1.r.get 0=some (.ptr i2 0):=S1.reg0;have S1':=S1.bare ((z1.set (some 37) (.ptr i2 0)).r);rcases S1'.move hn h1 hl (hL _ (yaf h1)) hM with⟨m,hm,hM1,z2,c2,r2,S2⟩ | ⟨hb,z2,c2,r2,S2⟩
  ·have hreg:=kmp (d0:=37) (d1:=38) (d2:=39) h01 c2;generalize hz3:((z2.set (some 38) (.bool true)).set (some 39) (.bool (!true)):St)=z3 at hreg;have g39:z3.r.get 39=some (.bool false):=by rw[←hz3];exact kde
   have g0:z3.r.get 0=some (.ptr i2 0):=by
    rw[←hz3,kdp (by decide),kdp (by decide),r2];show(z1.set (some 37) (.ptr i2 0)).r.get 0=_;rw[kdp (by decide)];exact h01
   have S3:MSt i0 i2 (a+1) h L T (M++[m]) [] [0] [.ptr 2 0] z3:=by
    have:=S2.begin z3.r g0;rw[←hz3] at this ⊢;exact this
   have ebody:Ev FF (.seq alP mvY) z .nrm z3:=e1.seq (Ev.block (id:=3) (Ev.seq (Ev.reg hreg) (Ev.cond (x:= .t 39) (t:=false) (kbs g39) (Ev.skip _))));rw[hm];simp only;rw[ir (by omega)];rcases ih (a+1) (M++[m]) (by omega) (by rw[List.length_append,List.length_singleton];omega) S3 g0 with⟨M',a',z',x1,x2,x3⟩ | ⟨M',a',z',x1,x2,x3,x4⟩
   ·exact .inl ⟨M',a',z',x1,ebody.loop x2,x3⟩
   ·exact .inr ⟨M',a',z',x1,ebody.loop x2,x3,x4⟩
  ·have hreg:=kmp (d0:=37) (d1:=38) (d2:=39) h01 c2;generalize hz3:((z2.set (some 38) (.bool false)).set (some 39) (.bool (!false)):St)=z3 at hreg;have g39:z3.r.get 39=some (.bool true):=by rw[←hz3];exact kde
   have ebody:Ev FF (.seq alP mvY) z .ret (z3.set (some 2) (.bool false)):=e1.seq (Ev.block (id:=3) (e:= .ret) (Ev.seq (Ev.reg hreg) (Ev.cond (x:= .t 39) (t:=true) (kbs g39) (Ev.seq (Ev.reg (EvR.op (v:= .bool false) (s1:=z3) (fun _=>rfl) (EvR.nil _))) (Ev.ret _)))));refine .inr ⟨M,a,z3.set (some 2) (.bool false),?_,Ev.loopJ ebody (by intro h;cases h),kde,?_⟩
   ·cases hm:kcc L[a] with
    |none=>rfl
    |some m=>
     rcases hb with hb |hb
     ·rw[hm] at hb;cases hb
     ·simp only;rw[iq hb]
   ·have:=S2.bare ((z3.set (some 2) (.bool false)).r);rw[←hz3] at this ⊢;exact this
end
end Go.Proofs.Hz
