/-
  Chapter 20: a move, read. And: Chapter 20: heads, threads and moves: (*reader).all, called.
  Conditions: none.
-/
import Derived.Test.YtamikoglpnoicaaGreatDoorT35
open Go Go.Proofs
namespace Go.Proofs.Hz
set_option maxRecDepth 20000
theorem kvs {u w:Bs}:kag u w=true↔ ∃ r,u=w++r:=by
 simp only[kag,Bool.and_eq_true,decide_eq_true_eq,beq_iff_eq]
 constructor
 ·rintro⟨h1,h2⟩
  exact⟨u.drop w.length,by conv=>lhs;rw[←List.take_append_drop w.length u,h2]⟩
 ·rintro⟨r,rfl⟩
  exact⟨by simp,by simp⟩
theorem kid (w l:Bs) (most:Int) (hm:most≤9999):
  (kac l=true∧kag (cutT l) (w++[32])=true∧kai (cutP (cutT l) (w++[32])) most=true∧kaq w l most=kad (cutP (cutT l) (w++[32]))∧0≤kaq w l most)∨
  (¬0≤kaq w l most∧(¬kac l=true∨(kac l=true∧kag (cutT l) (w++[32])=false)∨(kac l=true∧kag (cutT l) (w++[32])=true∧kai (cutP (cutT l) (w++[32])) most=false))):=by
 by_cases h0:0≤kaq w l most
 ·obtain⟨h1,h2⟩:=kge h0
  refine .inl ?_
  generalize kaq w l most=m at h0 h1 h2
  have e0:l=(w++[32]++kaa m)++[10]:=by rw[h1];unfold hdL;simp
  have e1:kac l=true:=kdz.2 ⟨_,e0⟩
  have e2:cutT l=(w++[32])++kaa m:=by rw[e0,khi]
  have e3:kag (cutT l) (w++[32])=true:=kvs.2 ⟨_,e2⟩
  have e4:cutP (cutT l) (w++[32])=kaa m:=by
   unfold cutP;rw[if_pos e3,e2,List.drop_left' rfl]
  obtain⟨n1,n2⟩:=klj (ktx h0 (by omega))
  refine⟨e1,e3,?_,by rw[e4,n2],h0⟩
  rw[e4]
  unfold kai
  rw[n2]
  have n3:kdj (kaa m)=true:=by
   simp only[kaz,Bool.and_eq_true] at n1
   exact n1.1
  simp[n3,h0,h2]
 ·refine .inr ⟨h0,?_⟩
  by_cases e1:kac l=true
  ·cases e2:kag (cutT l) (w++[32]) with
   |false=>exact .inr (.inl ⟨e1,rfl⟩)
   |true=>
    cases e3:kai (cutP (cutT l) (w++[32])) most with
    |false=>exact .inr (.inr ⟨e1,rfl,rfl⟩)
    |true=>
     exfalso
     obtain⟨t,ht⟩:=kdz.1 e1
     obtain⟨r,hr⟩:=kvs.1 e2
     rw[ht,khi] at hr e2 e3
     have e4:cutP t (w++[32])=r:=by unfold cutP;rw[if_pos e2,hr,List.drop_left' rfl]
     rw[e4] at e3
     simp only[kai,Bool.and_eq_true,decide_eq_true_eq,beq_iff_eq] at e3
     obtain⟨_,a1,a2,a3⟩:=e3
     have hl:l=hdL w (kad r):=by rw[ht,hr];unfold hdL;rw[a3];simp
     apply h0
     rw[hl,kff a1 a2 hm]
     exact a1
  ·exact .inl e1
theorem Sim.recode {ρ ρ':Val} {ts:List Nat} {ws:List AV} {cs cs':List Blk} {z:St} (S:Sim ρ (tmpl ts ws cs) z) (hlo:ρ'.lo=ρ.lo) (hl:ρ.lo=cs.length) (hσ:ρ'.σ=ρ.σ) (hb:cs.map (gB ρ)=cs'.map (gB ρ')) (hh:ρ'.hid=ρ.hid):Sim ρ' (tmpl [] [] cs') z:=by
 have hlen:cs'.length=cs.length:=by have:=congrArg List.length hb;simpa using this.symm
 refine⟨fun t v hv=> ?_,⟨fun id k hk=> ?_,fun id h1 h2=> ?_,by rw[hσ];exact S.heap.inj,by rw[hσ,hh];exact S.heap.hid⟩,fun i=> ?_,?_⟩
 ·rw[show(tmpl [] [] cs').r.get t=none from T.get_nil _] at hv;cases hv
 ·rw[kg8] at hk
  have hlt:id<cs.length:=by rw[←hlen];exact(List.getElem?_eq_some_iff.1 hk).1
  have e1:=congrArg (·[id]?) hb
  simp only[List.getElem?_map,hk,List.getElem?_eq_getElem hlt,Option.map_some,Option.some.injEq] at e1
  rw[hσ,S.heap.get id cs[id] (by rw[kg8];exact List.getElem?_eq_getElem hlt),e1]
 ·rw[hσ]
  refine S.heap.absent id (by rw[←hlo];exact h1) ?_
  rw[kg8]
  exact List.getElem?_eq_none (by omega)
 ·show ρ'.σ (cs'.length+i)=z.nx+i
  rw[hσ,hlen]
  exact S.nxs i
 ·rw[hlo,hl]
  show cs.length≤cs'.length
  omega
def mC0Y (a:Nat) (h:Hd) (L:List Bs) (tc:List AV) (n:Nat) (σ:Nat→Nat):List Blk:=[.cells tdZ false 26,.cells (L.map eT).flatten false 9,.cells [.sl (σ 1) 0 (L.map eT).length 1 none,.int .i64 (a:Int),.int .i64 h.n0,.int .i64 h.n1,.int .i64 h.n2,.sl (σ 3) 0 ((un n).map eN).length 1 none,.im [] true] false 64,.cells [tc].flatten false 42]
def tBc:List Blk:=[tb,lnB,rdr hN nil0,.pre 1001001 0 [.sl 4 0 1002003 3 none] 42]
def tBcY (a:Nat) (h:Hd) (L:List Bs) (pc:List AV) (n:Nat) (row:List Cl) (σ:Nat→Nat):List Blk:=[.cells tdZ false 26,.cells (L.map eT).flatten false 9,.cells [.sl (σ 1) 0 (L.map eT).length 1 none,.int .i64 (a:Int),.int .i64 h.n0,.int .i64 h.n1,.int .i64 h.n2,.sl (σ 3) 0 ((un n).map eN).length 1 none,.im [] true] false 64,.cells (fitL (((un n).map eN).length - 1) [pc].flatten++[.sl (σ 4) 0 (row.map eC).length 3 none]) false 42]
theorem k3k {a:Nat} {h:Hd} {L:List Bs} {pc:List AV} {n:Nat} {row:List Cl} {hid:List (Nat×Blk)} {σ:Nat→Nat} {ts:List Nat} {ws:List AV} {z:St} (hl:n=pc.length+1) (S:Sim (YB a h L pc n row hid σ) (tmpl ts ws (tBc++[.own 1002003 false 48])) z):
  Sim (ZC0 a h L [] ⟨pc++[.sl (σ 4) 0 (row.map eC).length 3 none],n,(σ 4,Blk.cells (row.map eC).flatten false 48)::hid⟩ [] (kde σ 4)) (tmpl [] [] mC0) z:=by
 have h1:tBc.map (gB (YB a h L pc n row hid σ))=tBcY a h L pc n row σ:=by kernel_rfl
 have h2:mC0.map (gB (ZC0 a h L [] ⟨pc++[.sl (σ 4) 0 (row.map eC).length 3 none],n,(σ 4,Blk.cells (row.map eC).flatten false 48)::hid⟩ [] (kde σ 4)))=mC0Y a h L (pc++[.sl (σ 4) 0 (row.map eC).length 3 none]) n σ:=by kernel_rfl
 have h3:tBcY a h L pc n row σ=mC0Y a h L (pc++[.sl (σ 4) 0 (row.map eC).length 3 none]) n σ:=by
  unfold tBcY mC0Y
  have e1:[pc].flatten=pc:=by simp
  have e2:[pc++[AV.sl (σ 4) 0 (row.map eC).length 3 none]].flatten=pc++[.sl (σ 4) 0 (row.map eC).length 3 none]:=by simp
  rw[e1,e2,khm (by rw[List.length_map,kbv];omega)]
 rw[←h3] at h2
 generalize hq:(Sh.mk (pc++[.sl (σ 4) 0 (row.map eC).length 3 none]) n ((σ 4,Blk.cells (row.map eC).flatten false 48)::hid))=q at h2 ⊢
 have hh:(ZC0 a h L [] q [] (kde σ 4)).hid=((YB a h L pc n row hid σ).σ tBc.length,gB (YB a h L pc n row hid σ) (.own 1002003 false 48))::(YB a h L pc n row hid σ).hid:=by
  subst hq
  kernel_rfl
 exact Sim.hide (cs:=tBc) (cs':=mC0) S (by kernel_rfl) (by kernel_rfl) (by kernel_rfl) (h1.trans h2.symm) hh
def MSt (i0 i2:Nat) (a:Nat) (h:Hd) (L:List Bs) (T:List (List Cl)) (M:List Mov) (xs:List AV) (ts:List Nat) (ws:List AV) (z:St):Prop:=
 (T=[]∧M=[]∧ ∃ q σ,Sim (ZE0 a h L M q xs σ) (tmpl ts ws mE0) z∧(σ 0=i0∧σ 2=i2))∨
 (T=[]∧M≠[]∧ ∃ q σ,Sim (ZE1 a h L M q xs σ) (tmpl ts ws mE1) z∧(σ 0=i0∧σ 2=i2))∨
 (T≠[]∧M=[]∧ ∃ q σ,PcOk q.tc T q.hid∧q.n=T.length∧Sim (ZC0 a h L M q xs σ) (tmpl ts ws mC0) z∧(σ 0=i0∧σ 2=i2))∨
 (T≠[]∧M≠[]∧ ∃ q σ,PcOk q.tc T q.hid∧q.n=T.length∧Sim (ZC1 a h L M q xs σ) (tmpl ts ws mC1) z∧(σ 0=i0∧σ 2=i2))
theorem toM {i0 i2 a:Nat} {h:Hd} {L:List Bs} {T:List (List Cl)} {ts:List Nat} {ws:List AV} {z:St} (S:TSt i0 i2 a h L T ts ws z):MSt i0 i2 a h L T [] [] [] [] z:=by
 rcases S with⟨hT,σ,S,hs⟩ | ⟨U,pc,hid,σ,hT,hp,S,hs⟩ | ⟨U,c,pc,hid,σ,hT,hc,hp,S,hs⟩
 ·have S1:Sim (ZE0 a h L [] ⟨[],0,[]⟩ [] σ) (tmpl ts ws mE0) z:=S
  refine .inl ⟨hT,rfl,⟨[],0,[]⟩,σ,?_,hs⟩
  exact S1.bare z.r
 ·have hn:T.length=U.length+1:=by rw[hT];simp
  have hp2:PcOk (pc++[nil0]) T hid:=by rw[hT];exact hp.add (.inl ⟨rfl,rfl⟩)
  refine .inr (.inr (.inl ⟨by rw[hT];simp,rfl,⟨pc++[nil0],T.length,hid⟩,σ,hp2,rfl,?_,hs⟩))
  have h1:tA.map (gB (YA a h L pc T.length hid σ))=tAY a h L pc T.length σ:=by kernel_rfl
  have h2:mC0.map (gB (ZC0 a h L [] ⟨pc++[nil0],T.length,hid⟩ [] σ))=mC0Y a h L (pc++[nil0]) T.length σ:=by kernel_rfl
  have h3:tAY a h L pc T.length σ=mC0Y a h L (pc++[nil0]) T.length σ:=by
   unfold tAY mC0Y
   have e1:[pc].flatten=pc:=by simp
   have e2:[pc++[nil0]].flatten=pc++[nil0]:=by simp
   rw[e1,e2,khm (by rw[List.length_map,kbv,hp.1];omega)]
   rfl
  exact Sim.recode (ρ':=ZC0 a h L [] ⟨pc++[nil0],T.length,hid⟩ [] σ) S rfl rfl rfl (h1.trans (h3.trans h2.symm)) rfl
 ·have hn:T.length=U.length+1:=by rw[hT];simp
  have hp2:PcOk (pc++[.sl (σ 4) 0 (c.map eC).length 3 none]) T ((σ 4,Blk.cells (c.map eC).flatten false 48)::hid):=by
   rw[hT]
   refine(hp.more _).add (.inr ⟨σ 4,hc,?_,List.mem_cons_self⟩)
   rw[List.length_map]
  refine .inr (.inr (.inl ⟨by rw[hT];simp,rfl,⟨pc++[.sl (σ 4) 0 (c.map eC).length 3 none],T.length,(σ 4,Blk.cells (c.map eC).flatten false 48)::hid⟩,kde σ 4,hp2,rfl,?_,⟨hs.1,hs.2⟩⟩))
  exact k3k (by rw[hp.1,hn]) S
end Go.Proofs.Hz
open Go Go.Proofs
namespace Go.Proofs.Hz
set_option maxRecDepth 20000
section
variable {i0 i2 a:Nat} {h:Hd} {L:List Bs} {T:List (List Cl)} {M:List Mov}
theorem MSt.bare {xs:List AV} {ts:List Nat} {ws:List AV} {z:St} (S:MSt i0 i2 a h L T M xs ts ws z) (r:Go.Proofs.Hz.T AV):MSt i0 i2 a h L T M xs [] [] {r:=r,h:=z.h,nx:=z.nx}:=by
 rcases S with⟨hT,hM0,q,σ,S,hs⟩ | ⟨hT,hM0,q,σ,S,hs⟩ | ⟨hT,hM0,q,σ,hp,hn,S,hs⟩ | ⟨hT,hM0,q,σ,hp,hn,S,hs⟩
 ·exact .inl ⟨hT,hM0,q,_,S.bare r,hs⟩
 ·exact .inr (.inl ⟨hT,hM0,q,_,S.bare r,hs⟩)
 ·exact .inr (.inr (.inl ⟨hT,hM0,q,_,hp,hn,S.bare r,hs⟩))
 ·exact .inr (.inr (.inr ⟨hT,hM0,q,_,hp,hn,S.bare r,hs⟩))
theorem MSt.begin {xs:List AV} {z:St} (S:MSt i0 i2 a h L T M xs [] [] z) (r:Go.Proofs.Hz.T AV) (hr:r.get 0=some (.ptr i2 0)):MSt i0 i2 a h L T M xs [0] [.ptr 2 0] {r:=r,h:=z.h,nx:=z.nx}:=by
 rcases S with⟨hT,hM0,q,σ,S,hs⟩ | ⟨hT,hM0,q,σ,S,hs⟩ | ⟨hT,hM0,q,σ,hp,hn,S,hs⟩ | ⟨hT,hM0,q,σ,hp,hn,S,hs⟩
 ·refine .inl ⟨hT,hM0,q,σ,S.begin [0] [.ptr 2 0] r (fun t u hu=> ?_),hs⟩
  have hm:=kbh (show(ofL ([0].zip [AV.ptr 2 0])).get t=some u from hu)
  simp only[List.zip,List.zipWith,List.mem_cons,Prod.mk.injEq,List.not_mem_nil,or_false] at hm
  obtain⟨rfl,rfl⟩:=hm
  rw[hr,←hs.2]
  rfl
 ·refine .inr (.inl ⟨hT,hM0,q,σ,S.begin [0] [.ptr 2 0] r (fun t u hu=> ?_),hs⟩)
  have hm:=kbh (show(ofL ([0].zip [AV.ptr 2 0])).get t=some u from hu)
  simp only[List.zip,List.zipWith,List.mem_cons,Prod.mk.injEq,List.not_mem_nil,or_false] at hm
  obtain⟨rfl,rfl⟩:=hm
  rw[hr,←hs.2]
  rfl
 ·refine .inr (.inr (.inl ⟨hT,hM0,q,σ,hp,hn,S.begin [0] [.ptr 2 0] r (fun t u hu=> ?_),hs⟩))
  have hm:=kbh (show(ofL ([0].zip [AV.ptr 2 0])).get t=some u from hu)
  simp only[List.zip,List.zipWith,List.mem_cons,Prod.mk.injEq,List.not_mem_nil,or_false] at hm
  obtain⟨rfl,rfl⟩:=hm
  rw[hr,←hs.2]
  rfl
 ·refine .inr (.inr (.inr ⟨hT,hM0,q,σ,hp,hn,S.begin [0] [.ptr 2 0] r (fun t u hu=> ?_),hs⟩))
  have hm:=kbh (show(ofL ([0].zip [AV.ptr 2 0])).get t=some u from hu)
  simp only[List.zip,List.zipWith,List.mem_cons,Prod.mk.injEq,List.not_mem_nil,or_false] at hm
  obtain⟨rfl,rfl⟩:=hm
  rw[hr,←hs.2]
  rfl
theorem MSt.reg2 {xs:List AV} {b:Bool} {z:St} (S:MSt i0 i2 a h L T M xs [2] [.bool b] z):z.r.get 2=some (.bool b):=by
 rcases S with⟨hT,hM0,q,σ,S,hs⟩ | ⟨hT,hM0,q,σ,S,hs⟩ | ⟨hT,hM0,q,σ,hp,hn,S,hs⟩ | ⟨hT,hM0,q,σ,hp,hn,S,hs⟩
 ·exact S.regs 2 (.bool b) (by kernel_rfl)
 ·exact S.regs 2 (.bool b) (by kernel_rfl)
 ·exact S.regs 2 (.bool b) (by kernel_rfl)
 ·exact S.regs 2 (.bool b) (by kernel_rfl)
theorem MSt.reg0 {xs:List AV} {z:St} (S:MSt i0 i2 a h L T M xs [0] [.ptr 2 0] z):z.r.get 0=some (.ptr i2 0):=by
 rcases S with⟨hT,hM0,q,σ,S,hs⟩ | ⟨hT,hM0,q,σ,S,hs⟩ | ⟨hT,hM0,q,σ,hp,hn,S,hs⟩ | ⟨hT,hM0,q,σ,hp,hn,S,hs⟩
 ·rw[←hs.2];exact S.regs 0 (.ptr 2 0) (by kernel_rfl)
 ·rw[←hs.2];exact S.regs 0 (.ptr 2 0) (by kernel_rfl)
 ·rw[←hs.2];exact S.regs 0 (.ptr 2 0) (by kernel_rfl)
 ·rw[←hs.2];exact S.regs 0 (.ptr 2 0) (by kernel_rfl)
theorem MSt.start {z:St} (S:MSt i0 i2 a h L T M [] [0] [.ptr 2 0] z): ∃ z1,Ev FF (.seq mvA mvB) z .nrm z1∧MSt i0 i2 a h L T M [.int .i64 0] [0,3,12,13] [.ptr 2 0,fnT,wA,vt 4] z1:=by
 rcases S with⟨hT,hM0,q,σ,S,hs⟩ | ⟨hT,hM0,q,σ,S,hs⟩ | ⟨hT,hM0,q,σ,hp,hn,S,hs⟩ | ⟨hT,hM0,q,σ,hp,hn,S,hs⟩
 ·obtain⟨z1,e1,S1⟩:=k57 a h L M q (σ:=σ) S.heap.inj S
  exact⟨z1,e1,.inl ⟨hT,hM0,q,_,S1,hs⟩⟩
 ·obtain⟨z1,e1,S1⟩:=k58 a h L M q (σ:=σ) S.heap.inj S
  exact⟨z1,e1,.inr (.inl ⟨hT,hM0,q,_,S1,hs⟩)⟩
 ·obtain⟨z1,e1,S1⟩:=k55 a h L M q (σ:=σ) S.heap.inj hp.okF S
  exact⟨z1,e1,.inr (.inr (.inl ⟨hT,hM0,q,_,hp,hn,S1,hs⟩))⟩
 ·obtain⟨z1,e1,S1⟩:=k56 a h L M q (σ:=σ) S.heap.inj hp.okF S
  exact⟨z1,e1,.inr (.inr (.inr ⟨hT,hM0,q,_,hp,hn,S1,hs⟩))⟩
theorem MSt.out {z:St} (S:MSt i0 i2 a h L T M [.int .i64 3] [0,3,12,13] [.ptr 2 0,fnT,wA,vt 4] z): ∃ z1,Ev FF mvX z (.ext 0) z1∧MSt i0 i2 a h L T M [] [] [] z1:=by
 rcases S with⟨hT,hM0,q,σ,S,hs⟩ | ⟨hT,hM0,q,σ,S,hs⟩ | ⟨hT,hM0,q,σ,hp,hn,S,hs⟩ | ⟨hT,hM0,q,σ,hp,hn,S,hs⟩
 ·obtain⟨z1,e1,S1⟩:=k6u 3 a h L M q (σ:=σ) S.heap.inj S (by omega)
  exact⟨z1,e1,.inl ⟨hT,hM0,q,_,S1,hs⟩⟩
 ·obtain⟨z1,e1,S1⟩:=k6v 3 a h L M q (σ:=σ) S.heap.inj S (by omega)
  exact⟨z1,e1,.inr (.inl ⟨hT,hM0,q,_,S1,hs⟩)⟩
 ·obtain⟨z1,e1,S1⟩:=k6s 3 a h L M q (σ:=σ) S.heap.inj hp.okF S (by omega)
  exact⟨z1,e1,.inr (.inr (.inl ⟨hT,hM0,q,_,hp,hn,S1,hs⟩))⟩
 ·obtain⟨z1,e1,S1⟩:=k6t 3 a h L M q (σ:=σ) S.heap.inj hp.okF S (by omega)
  exact⟨z1,e1,.inr (.inr (.inr ⟨hT,hM0,q,_,hp,hn,S1,hs⟩))⟩
theorem MSt.moN {z:St} (S:MSt i0 i2 a h L T M [] [0] [.ptr 2 0] z) (h0: ¬(a:Int)<(L.length:Int)): ∃ z1,Ev FF alP z (.ext 2) z1∧MSt i0 i2 a h L T M [] [] [] z1:=by
 rcases S with⟨hT,hM0,q,σ,S,hs⟩ | ⟨hT,hM0,q,σ,S,hs⟩ | ⟨hT,hM0,q,σ,hp,hn,S,hs⟩ | ⟨hT,hM0,q,σ,hp,hn,S,hs⟩
 ·obtain⟨z1,e1,S1⟩:=k5j a h L M q (σ:=σ) S.heap.inj S h0
  exact⟨z1,e1,.inl ⟨hT,hM0,q,_,S1,hs⟩⟩
 ·obtain⟨z1,e1,S1⟩:=k5k a h L M q (σ:=σ) S.heap.inj S h0
  exact⟨z1,e1,.inr (.inl ⟨hT,hM0,q,_,S1,hs⟩)⟩
 ·obtain⟨z1,e1,S1⟩:=k5h a h L M q (σ:=σ) S.heap.inj hp.okF S h0
  exact⟨z1,e1,.inr (.inr (.inl ⟨hT,hM0,q,_,hp,hn,S1,hs⟩))⟩
 ·obtain⟨z1,e1,S1⟩:=k5i a h L M q (σ:=σ) S.heap.inj hp.okF S h0
  exact⟨z1,e1,.inr (.inr (.inr ⟨hT,hM0,q,_,hp,hn,S1,hs⟩))⟩
theorem MSt.moY {z:St} (S:MSt i0 i2 a h L T M [] [0] [.ptr 2 0] z) (h0:(a:Int)<(L.length:Int)): ∃ z1,Ev FF alP z .nrm z1∧MSt i0 i2 a h L T M [] [0] [.ptr 2 0] z1:=by
 rcases S with⟨hT,hM0,q,σ,S,hs⟩ | ⟨hT,hM0,q,σ,S,hs⟩ | ⟨hT,hM0,q,σ,hp,hn,S,hs⟩ | ⟨hT,hM0,q,σ,hp,hn,S,hs⟩
 ·obtain⟨z1,e1,S1⟩:=k5n a h L M q (σ:=σ) S.heap.inj S h0
  exact⟨z1,e1,.inl ⟨hT,hM0,q,_,S1,hs⟩⟩
 ·obtain⟨z1,e1,S1⟩:=k5o a h L M q (σ:=σ) S.heap.inj S h0
  exact⟨z1,e1,.inr (.inl ⟨hT,hM0,q,_,S1,hs⟩)⟩
 ·obtain⟨z1,e1,S1⟩:=k5l a h L M q (σ:=σ) S.heap.inj hp.okF S h0
  exact⟨z1,e1,.inr (.inr (.inl ⟨hT,hM0,q,_,hp,hn,S1,hs⟩))⟩
 ·obtain⟨z1,e1,S1⟩:=k5m a h L M q (σ:=σ) S.heap.inj hp.okF S h0
  exact⟨z1,e1,.inr (.inr (.inr ⟨hT,hM0,q,_,hp,hn,S1,hs⟩))⟩
theorem MSt.next {z:St} {k:Int} (S:MSt i0 i2 a h L T M [.int .i64 k] [0,3,12,13] [.ptr 2 0,fnT,wA,vt 4] z) (hk:0≤k∧k≤2) (h0:a<L.length) {l:Bs} (hl:L[a]? =some l) (hlen:l.length≤1000000) (hno: ¬0≤kaq (kab k) l 9999): ∃ z1,Ev FF mvX z .nrm z1∧MSt i0 i2 a h L T M [.int .i64 (k+1)] [0,3,12,13] [.ptr 2 0,fnT,wA,vt 4] z1:=by
 have hl':L[Int.toNat (a:Int)]? =some l:=by rw[Int.toNat_natCast];exact hl
 have h0':(a:Int)<(L.length:Int):=by omega
 have hkw:w64 (k+1)=k+1:=by
  obtain⟨m,rfl⟩:=Int.eq_ofNat_of_zero_le hk.1
  exact kce (n:=m+1) (by omega) (by omega)
 rcases kid (kab k) l 9999 (by omega) with⟨_,_,_,_,hc⟩ | ⟨_,hc⟩
 ·exact absurd hc hno
 rcases S with⟨hT,hM0,q,σ,S,hs⟩ | ⟨hT,hM0,q,σ,S,hs⟩ | ⟨hT,hM0,q,σ,hp,hn,S,hs⟩ | ⟨hT,hM0,q,σ,hp,hn,S,hs⟩
 ·rcases hc with c1 | ⟨c1,c2⟩ | ⟨c1,c2,c3⟩
  ·obtain⟨z1,e1,S1⟩:=k6q k a h L M q (σ:=σ) S.heap.inj S hk h0' hl' hlen c1 hkw
   exact⟨z1,e1,.inl ⟨hT,hM0,q,_,S1,hs⟩⟩
  ·obtain⟨z1,e1,S1⟩:=k6m k a h L M q (σ:=σ) S.heap.inj S hk h0' hl' hlen c1 c2 hkw
   exact⟨z1,e1,.inl ⟨hT,hM0,q,_,S1,hs⟩⟩
  ·obtain⟨z1,e1,S1⟩:=k6b k a h L M q (σ:=σ) S.heap.inj S hk h0' hl' hlen c1 c2 c3 hkw
   exact⟨z1,e1,.inl ⟨hT,hM0,q,_,S1,hs⟩⟩
 ·rcases hc with c1 | ⟨c1,c2⟩ | ⟨c1,c2,c3⟩
  ·obtain⟨z1,e1,S1⟩:=k6r k a h L M q (σ:=σ) S.heap.inj S hk h0' hl' hlen c1 hkw
   exact⟨z1,e1,.inr (.inl ⟨hT,hM0,q,_,S1,hs⟩)⟩
  ·obtain⟨z1,e1,S1⟩:=k6n k a h L M q (σ:=σ) S.heap.inj S hk h0' hl' hlen c1 c2 hkw
   exact⟨z1,e1,.inr (.inl ⟨hT,hM0,q,_,S1,hs⟩)⟩
  ·obtain⟨z1,e1,S1⟩:=k6c k a h L M q (σ:=σ) S.heap.inj S hk h0' hl' hlen c1 c2 c3 hkw
   exact⟨z1,e1,.inr (.inl ⟨hT,hM0,q,_,S1,hs⟩)⟩
 ·rcases hc with c1 | ⟨c1,c2⟩ | ⟨c1,c2,c3⟩
  ·obtain⟨z1,e1,S1⟩:=k6o k a h L M q (σ:=σ) S.heap.inj hp.okF S hk h0' hl' hlen c1 hkw
   exact⟨z1,e1,.inr (.inr (.inl ⟨hT,hM0,q,_,hp,hn,S1,hs⟩))⟩
  ·obtain⟨z1,e1,S1⟩:=k6k k a h L M q (σ:=σ) S.heap.inj hp.okF S hk h0' hl' hlen c1 c2 hkw
   exact⟨z1,e1,.inr (.inr (.inl ⟨hT,hM0,q,_,hp,hn,S1,hs⟩))⟩
  ·obtain⟨z1,e1,S1⟩:=k59 k a h L M q (σ:=σ) S.heap.inj hp.okF S hk h0' hl' hlen c1 c2 c3 hkw
   exact⟨z1,e1,.inr (.inr (.inl ⟨hT,hM0,q,_,hp,hn,S1,hs⟩))⟩
 ·rcases hc with c1 | ⟨c1,c2⟩ | ⟨c1,c2,c3⟩
  ·obtain⟨z1,e1,S1⟩:=k6p k a h L M q (σ:=σ) S.heap.inj hp.okF S hk h0' hl' hlen c1 hkw
   exact⟨z1,e1,.inr (.inr (.inr ⟨hT,hM0,q,_,hp,hn,S1,hs⟩))⟩
  ·obtain⟨z1,e1,S1⟩:=k6l k a h L M q (σ:=σ) S.heap.inj hp.okF S hk h0' hl' hlen c1 c2 hkw
   exact⟨z1,e1,.inr (.inr (.inr ⟨hT,hM0,q,_,hp,hn,S1,hs⟩))⟩
  ·obtain⟨z1,e1,S1⟩:=k6a k a h L M q (σ:=σ) S.heap.inj hp.okF S hk h0' hl' hlen c1 c2 c3 hkw
   exact⟨z1,e1,.inr (.inr (.inr ⟨hT,hM0,q,_,hp,hn,S1,hs⟩))⟩
theorem MSt.good {z:St} {k:Int} (S:MSt i0 i2 a h L T M [.int .i64 k] [0,3,12,13] [.ptr 2 0,fnT,wA,vt 4] z) (hk:0≤k∧k≤2) (hLn:L.length≤1000000) (h0:a<L.length) {l:Bs} (hl:L[a]? =some l) (hlen:l.length≤1000000) (hyes:0≤kaq (kab k) l 9999) (hM:M.length<1000): ∃ z1,Ev FF mvX z .ret z1∧MSt i0 i2 (a+1) h L T (M++[⟨k,kaq (kab k) l 9999⟩]) [] [2] [.bool true] z1:=by
 have hl':L[Int.toNat (a:Int)]? =some l:=by rw[Int.toNat_natCast];exact hl
 have h0':(a:Int)<(L.length:Int):=by omega
 have hw:=kce h0 hLn
 obtain⟨c1,c2,c3,c4⟩:kac l=true∧kag (cutT l) (kab k++[32])=true∧kai (cutP (cutT l) (kab k++[32])) 9999=true∧kaq (kab k) l 9999=kad (cutP (cutT l) (kab k++[32])):=by
  rcases kid (kab k) l 9999 (by omega) with⟨a,b,c,d,_⟩ | ⟨hc,_⟩
  ·exact⟨a,b,c,d⟩
  ·exact absurd hyes hc
 rw[c4]
 rcases S with⟨hT,hM0,q,σ,S,hs⟩ | ⟨hT,hM0,q,σ,S,hs⟩ | ⟨hT,hM0,q,σ,hp,hn,S,hs⟩ | ⟨hT,hM0,q,σ,hp,hn,S,hs⟩
 ·obtain⟨z1,e1,S1⟩:=k6h k a h L M q (σ:=σ) S.heap.inj S hk h0' hl' hlen c1 c2 c3 hw
  refine⟨z1,e1,?_⟩
  rw[hM0,List.nil_append]
  exact .inr (.inl ⟨hT,by simp,q,_,S1,hs⟩)
 ·obtain⟨z1,e1,S1⟩:=k6i k a h L M q (σ:=σ) S.heap.inj S hk h0' hl' hlen c1 c2 c3 hw hM
  exact⟨z1,e1,.inr (.inl ⟨hT,by simp,q,_,S1,hs⟩)⟩
 ·obtain⟨z1,e1,S1⟩:=k6f k a h L M q (σ:=σ) S.heap.inj hp.okF S hk h0' hl' hlen c1 c2 c3 hw
  refine⟨z1,e1,?_⟩
  rw[hM0,List.nil_append]
  exact .inr (.inr (.inr ⟨hT,by simp,q,_,hp,hn,S1,hs⟩))
 ·obtain⟨z1,e1,S1⟩:=k6g k a h L M q (σ:=σ) S.heap.inj hp.okF S hk h0' hl' hlen c1 c2 c3 hw hM
  exact⟨z1,e1,.inr (.inr (.inr ⟨hT,by simp,q,_,hp,hn,S1,hs⟩))⟩
theorem MSt.full {z:St} {k:Int} (S:MSt i0 i2 a h L T M [.int .i64 k] [0,3,12,13] [.ptr 2 0,fnT,wA,vt 4] z) (hk:0≤k∧k≤2) (hLn:L.length≤1000000) (h0:a<L.length) {l:Bs} (hl:L[a]? =some l) (hlen:l.length≤1000000) (hyes:0≤kaq (kab k) l 9999) (hM:M.length=1000): ∃ z1,Ev FF mvX z .ret z1∧MSt i0 i2 a h L T M [] [2] [.bool false] z1:=by
 have hl':L[Int.toNat (a:Int)]? =some l:=by rw[Int.toNat_natCast];exact hl
 have h0':(a:Int)<(L.length:Int):=by omega
 have hw:w64 (w64 ((a:Int)+1) - 1)=(a:Int):=by
  rw[kce h0 hLn]
  have:=kr3 (n:=a+1) (by omega) (by omega)
  rw[this]
  simp
 obtain⟨c1,c2,c3,c4⟩:kac l=true∧kag (cutT l) (kab k++[32])=true∧kai (cutP (cutT l) (kab k++[32])) 9999=true∧kaq (kab k) l 9999=kad (cutP (cutT l) (kab k++[32])):=by
  rcases kid (kab k) l 9999 (by omega) with⟨a,b,c,d,_⟩ | ⟨hc,_⟩
  ·exact⟨a,b,c,d⟩
  ·exact absurd hyes hc
 rcases S with⟨hT,hM0,q,σ,S,hs⟩ | ⟨hT,hM0,q,σ,S,hs⟩ | ⟨hT,hM0,q,σ,hp,hn,S,hs⟩ | ⟨hT,hM0,q,σ,hp,hn,S,hs⟩
 ·rw[hM0] at hM;cases hM
 ·obtain⟨z1,e1,S1⟩:=k6e k a h L M q (σ:=σ) S.heap.inj S hk h0' hl' hlen c1 c2 c3 hw hM
  exact⟨z1,e1,.inr (.inl ⟨hT,hM0,q,_,S1,hs⟩)⟩
 ·rw[hM0] at hM;cases hM
 ·obtain⟨z1,e1,S1⟩:=k6d k a h L M q (σ:=σ) S.heap.inj hp.okF S hk h0' hl' hlen c1 c2 c3 hw hM
  exact⟨z1,e1,.inr (.inr (.inr ⟨hT,hM0,q,_,hp,hn,S1,hs⟩))⟩
theorem MSt.words {z:St} (S:MSt i0 i2 a h L T M [.int .i64 0] [0,3,12,13] [.ptr 2 0,fnT,wA,vt 4] z) (hLn:L.length≤1000000) (h0:a<L.length) {l:Bs} (hl:L[a]? =some l) (hlen:l.length≤1000000) (hM:M.length≤1000):
  (∃ m,kb4 l=some m∧M.length<1000∧ ∃ z1,Ev FF (.loop mvX) z .ret z1∧MSt i0 i2 (a+1) h L T (M++[m]) [] [2] [.bool true] z1)∨
  ((kb4 l=none∨M.length=1000)∧((∃ z1,Ev FF (.loop mvX) z .ret z1∧MSt i0 i2 a h L T M [] [2] [.bool false] z1)∨(∃ z1,Ev FF (.loop mvX) z (.ext 0) z1∧MSt i0 i2 a h L T M [] [] [] z1))):=by
 have done: ∀ {k:Int} {z':St},0≤k∧k≤2→(∀ e z1,Ev FF (.loop mvX) z' e z1→Ev FF (.loop mvX) z e z1)→MSt i0 i2 a h L T M [.int .i64 k] [0,3,12,13] [.ptr 2 0,fnT,wA,vt 4] z'→0≤kaq (kab k) l 9999→kb4 l=some ⟨k,kaq (kab k) l 9999⟩→
   (∃ m,kb4 l=some m∧M.length<1000∧ ∃ z1,Ev FF (.loop mvX) z .ret z1∧MSt i0 i2 (a+1) h L T (M++[m]) [] [2] [.bool true] z1)∨
   ((kb4 l=none∨M.length=1000)∧((∃ z1,Ev FF (.loop mvX) z .ret z1∧MSt i0 i2 a h L T M [] [2] [.bool false] z1)∨(∃ z1,Ev FF (.loop mvX) z (.ext 0) z1∧MSt i0 i2 a h L T M [] [] [] z1))):=fun {k z'} hk hz S' hy hm=>by
  by_cases hf:M.length=1000
  ·obtain⟨z1,e1,S1⟩:=S'.full hk hLn h0 hl hlen hy hf
   exact .inr ⟨.inr hf,.inl ⟨z1,hz _ _ (Ev.loopJ e1 (by intro h;cases h)),S1⟩⟩
  ·obtain⟨z1,e1,S1⟩:=S'.good hk hLn h0 hl hlen hy (by omega)
   exact .inl ⟨_,hm,by omega,z1,hz _ _ (Ev.loopJ e1 (by intro h;cases h)),S1⟩
 by_cases c0:0≤kaq keh l 9999
 ·exact done (k:=0) (by omega) (fun _ _ e=>e) S c0 (by unfold kb4;rw[if_pos c0];rfl)
 obtain⟨z1,e1,S1⟩:=S.next (by omega) h0 hl hlen c0
 by_cases c1:0≤kaq kek l 9999
 ·exact done (k:=1) (by omega) (fun _ _ e=>e1.loop e) S1 c1 (by unfold kb4;rw[if_neg c0,if_pos c1];rfl)
 obtain⟨z2,e2,S2⟩:=S1.next (k:=1) (by omega) h0 hl hlen c1
 by_cases c2:0≤kaq kei l 9999
 ·exact done (k:=2) (by omega) (fun _ _ e=>e1.loop (e2.loop e)) S2 c2 (by unfold kb4;rw[if_neg c0,if_neg c1,if_pos c2];rfl)
 obtain⟨z3,e3,S3⟩:=S2.next (k:=2) (by omega) h0 hl hlen c2
 obtain⟨z4,e4,S4⟩:=S3.out
 exact .inr ⟨.inl (by unfold kb4;rw[if_neg c0,if_neg c1,if_neg c2]),.inr ⟨z4,e1.loop (e2.loop (e3.loop (Ev.loopJ e4 (by intro h;cases h)))),S4⟩⟩
theorem MSt.move {ts:List Nat} {ws:List AV} {z:St} (S:MSt i0 i2 a h L T M [] ts ws z) (hLn:L.length≤1000000) (h0:a<L.length) {l:Bs} (hl:L[a]? =some l) (hlen:l.length≤1000000) (hM:M.length≤1000):
  (∃ m,kb4 l=some m∧M.length<1000∧ ∃ z1,CallEv FF 54 [.ptr i2 0] z (.bool true) z1∧z1.r=z.r∧MSt i0 i2 (a+1) h L T (M++[m]) [] [] [] z1)∨
  ((kb4 l=none∨M.length=1000)∧ ∃ z1,CallEv FF 54 [.ptr i2 0] z (.bool false) z1∧z1.r=z.r∧MSt i0 i2 a h L T M [] [] [] z1):=by
 have hres: ∀ {z1:St} {b:Bool},z1.r.get 2=some (.bool b)→resA (fnOf FF 54) z1=some (.bool b):=fun {z1 b} hb=>by
  have hr:(fnOf FF 54).res=[(2,none)]:=by kernel_rfl
  unfold resA
  rw[hr]
  simp only[mapO,kcu,kbd hb]
 generalize hr0:(((inits 0 [.ptr i2 0] .nil).put 2 (some (.bool false))):Go.Proofs.Hz.T AV)=r1
 have S0:=(S.bare r1).begin r1 (by rw[←hr0,_root_.Go.Proofs.Hz.T.get_put];rfl)
 have e0:Ev FF (.reg [⟨some 2,.mov (.c (.bool false)),none⟩]) {r:=inits 0 [.ptr i2 0] .nil,h:=z.h,nx:=z.nx} .nrm {r:=r1,h:=z.h,nx:=z.nx}:=by
  subst hr0
  exact Ev.reg (EvR.op (v:= .bool false) (s1:={r:=inits 0 [.ptr i2 0] .nil,h:=z.h,nx:=z.nx}) (fun _=>rfl) (EvR.nil _))
 obtain⟨z1,e1,S1⟩:=S0.start
 obtain⟨zA,kA,kB⟩:=e1.seqI
 rcases S1.words hLn h0 hl hlen hM with⟨m,hm,hM1,z2,e2,S2⟩ | ⟨hb,⟨z2,e2,S2⟩ | ⟨z2,e2,S2⟩⟩
 ·refine .inl ⟨m,hm,hM1,_,CallEv.mk (f:=54) (fn:=fnOf FF 54) (by kernel_rfl) (by kernel_rfl) (e:= .ret) ?_ (.inr rfl) (hres S2.reg2),rfl,S2.bare z.r⟩
  rw[ko2]
  exact e0.seq (kA.seq (Ev.seqJ (kB.seq (e2.block (id:=0))) (by intro h;cases h)))
 ·refine .inr ⟨hb,_,CallEv.mk (f:=54) (fn:=fnOf FF 54) (by kernel_rfl) (by kernel_rfl) (e:= .ret) ?_ (.inr rfl) (hres S2.reg2),rfl,S2.bare z.r⟩
  rw[ko2]
  exact e0.seq (kA.seq (Ev.seqJ (kB.seq (e2.block (id:=0))) (by intro h;cases h)))
 ·refine .inr ⟨hb,_,CallEv.mk (f:=54) (s1:={r:=z2.r.put 2 (some (.bool false)),h:=z2.h,nx:=z2.nx}) (fn:=fnOf FF 54) (by kernel_rfl) (by kernel_rfl) (e:= .ret) ?_ (.inr rfl) (hres (by show(z2.r.put 2 _).get 2=_;rw[_root_.Go.Proofs.Hz.T.get_put,if_pos rfl])),rfl,S2.bare z.r⟩
  rw[ko2]
  refine e0.seq (kA.seq (Ev.seq (kB.seq (e2.block (id:=0))) (Ev.seq (Ev.reg (EvR.op (v:= .bool false) (s1:=z2) (fun _=>rfl) (EvR.nil _))) (Ev.ret _))))
end
end Go.Proofs.Hz
open Go Go.Proofs
namespace Go.Proofs.Hz
set_option maxRecDepth 20000
def hdR:List AOper:=[⟨some 7,.call (.c (.fn 29 [] [])) [],none⟩,⟨some 8,.mov (.c (.int .i64 0)),none⟩]
theorem k28 (a:Nat) (h:Hd) (L:List Bs) (M:List Mov) (q:Sh) {z:St} {σ:Nat→Nat} (hσ: ∀ i j,σ i=σ j→i=j) (S:Sim (ZE0 a h L M q [] σ) (tmpl [0] [.ptr 2 0] mE0) z): ∃ z1,Ev FF (.reg hdR) z .nrm z1∧Sim (ZE0 a h L M q [] (sig σ [0,1,2] 3)) (tmpl [0,7,8] [.ptr 2 0,wH,.int .i64 0] mE0) z1:=by
 have H:=Tok.start (G:=gl20) (F:=FF) hσ S 3 4 0 1 (hT a h++[]) [] [(0,1,L.map eT)] .n (.c (OkO.own kaf _) .n) rfl rfl
 have H:=H.s [] wH ktv
 exact H.ev (.reg hdR) .nrm [0,7,8] [0,1,2] [.ptr 2 0,wH,.int .i64 0] [tb,lnB,.cells [.sl 1 0 1000001 1 none,vt 0,vt 1,vt 2,vt 3,nil0,nil0] false 64] 3 [.ptr 2 0,wH,.int .i64 0] mE0 (ZE0 a h L M q [] (sig σ [0,1,2] 3))
theorem k3g (a:Nat) (h:Hd) (L:List Bs) (M:List Mov) (q:Sh) {z:St} {σ:Nat→Nat} (hσ: ∀ i j,σ i=σ j→i=j) (S:Sim (ZE0 a h L M q [] σ) (tmpl [0,7,8] [.ptr 2 0,wH,.int .i64 3] mE0) z): ∃ z1,Ev FF hdX z (.ext 0) z1∧Sim (ZE0 a h L M q [] (sig σ [0,1,2] 3)) (tmpl [0] [.ptr 2 0] mE0) z1:=by
 have H:=Tok.start (G:=gl20) (F:=FF) hσ S 3 4 0 1 (hT a h++[]) [] [(0,1,L.map eT)] .n (.c (OkO.own kaf _) .n) rfl rfl
 exact H.ev hdX (.ext 0) [0] [0,1,2] [.ptr 2 0] [tb,lnB,.cells [.sl 1 0 1000001 1 none,vt 0,vt 1,vt 2,vt 3,nil0,nil0] false 64] 3 [.ptr 2 0] mE0 (ZE0 a h L M q [] (sig σ [0,1,2] 3))
def q0:Sh:=⟨[],0,[]⟩
section
variable {i0 i2:Nat} {L:List Bs}
def HSt (i0 i2:Nat) (L:List Bs) (a:Nat) (h:Hd) (ts:List Nat) (ws:List AV) (z:St):Prop:=∃ σ,Sim (ZE0 a h L [] q0 [] σ) (tmpl ts ws mE0) z∧(σ 0=i0∧σ 2=i2)
theorem kmu (w:Bs) (most:Int):kaq w [] most= -1:=kha (by simp)
theorem HSt.step0 {a:Nat} {h:Hd} {z:St} (S:HSt i0 i2 L a h [0,7,8] [.ptr 2 0,wH,.int .i64 0] z) (hLn:L.length≤1000000) (hL: ∀ l ∈ L,l.length≤1000000):
  (0≤kaq kak (L.getD a []) 999→ ∃ z1,Ev FF hdX z .nrm z1∧HSt i0 i2 L (a+1) ⟨(kaq kak (L.getD a []) 999),h.n1,h.n2⟩ [0,7,8] [.ptr 2 0,wH,.int .i64 1] z1)∧
  (¬0≤kaq kak (L.getD a []) 999→ ∃ z1,Ev FF hdX z .ret z1∧HSt i0 i2 L a h [2] [.bool false] z1):=by
 obtain⟨σ,S,hs⟩:=S
 by_cases h0:a<L.length
 ·have hl:L[a]? =some L[a]:=List.getElem?_eq_getElem h0
  have hl':L[Int.toNat (a:Int)]? =some L[a]:=by rw[Int.toNat_natCast];exact hl
  have hg:L.getD a []=L[a]:=by rw[List.getD_eq_getElem?_getD,hl];rfl
  have h0':(a:Int)<(L.length:Int):=by omega
  have hlen:=hL _ (List.getElem_mem h0)
  rw[hg]
  rcases kid kak L[a] 999 (by omega) with⟨c1,c2,c3,c4,c5⟩ | ⟨hn,hc⟩
  ·refine⟨fun _=> ?_,fun h=>absurd c5 h⟩
   obtain⟨z1,e1,S1⟩:=hdG0 a h L [] q0 (σ:=σ) S.heap.inj S h0' hl' hlen c1 c2 c3 (kce h0 hLn)
   rw[c4]
   exact⟨z1,e1,_,S1,hs⟩
  ·refine⟨fun h=>absurd h hn,fun _=> ?_⟩
   rcases hc with c1 | ⟨c1,c2⟩ | ⟨c1,c2,c3⟩
   ·obtain⟨z1,e1,S1⟩:=k3a a h L [] q0 (σ:=σ) S.heap.inj S h0' hl' hlen c1
    exact⟨z1,e1,_,S1,hs⟩
   ·obtain⟨z1,e1,S1⟩:=hdN0 a h L [] q0 (σ:=σ) S.heap.inj S h0' hl' hlen c1 c2
    exact⟨z1,e1,_,S1,hs⟩
   ·obtain⟨z1,e1,S1⟩:=hdF0 a h L [] q0 (σ:=σ) S.heap.inj S h0' hl' hlen c1 c2 c3
    exact⟨z1,e1,_,S1,hs⟩
 ·have hg:L.getD a []=[]:=by rw[List.getD_eq_getElem?_getD,List.getElem?_eq_none (by omega)];rfl
  rw[hg,kmu]
  refine⟨fun h=>by omega,fun _=> ?_⟩
  obtain⟨z1,e1,S1⟩:=k3d a h L [] q0 (σ:=σ) S.heap.inj S (by omega)
  exact⟨z1,e1,_,S1,hs⟩
theorem HSt.step1 {a:Nat} {h:Hd} {z:St} (S:HSt i0 i2 L a h [0,7,8] [.ptr 2 0,wH,.int .i64 1] z) (hLn:L.length≤1000000) (hL: ∀ l ∈ L,l.length≤1000000):
  (0≤kaq kal (L.getD a []) 999→ ∃ z1,Ev FF hdX z .nrm z1∧HSt i0 i2 L (a+1) ⟨h.n0,(kaq kal (L.getD a []) 999),h.n2⟩ [0,7,8] [.ptr 2 0,wH,.int .i64 2] z1)∧
  (¬0≤kaq kal (L.getD a []) 999→ ∃ z1,Ev FF hdX z .ret z1∧HSt i0 i2 L a h [2] [.bool false] z1):=by
 obtain⟨σ,S,hs⟩:=S
 by_cases h0:a<L.length
 ·have hl:L[a]? =some L[a]:=List.getElem?_eq_getElem h0
  have hl':L[Int.toNat (a:Int)]? =some L[a]:=by rw[Int.toNat_natCast];exact hl
  have hg:L.getD a []=L[a]:=by rw[List.getD_eq_getElem?_getD,hl];rfl
  have h0':(a:Int)<(L.length:Int):=by omega
  have hlen:=hL _ (List.getElem_mem h0)
  rw[hg]
  rcases kid kal L[a] 999 (by omega) with⟨c1,c2,c3,c4,c5⟩ | ⟨hn,hc⟩
  ·refine⟨fun _=> ?_,fun h=>absurd c5 h⟩
   obtain⟨z1,e1,S1⟩:=hdG1 a h L [] q0 (σ:=σ) S.heap.inj S h0' hl' hlen c1 c2 c3 (kce h0 hLn)
   rw[c4]
   exact⟨z1,e1,_,S1,hs⟩
  ·refine⟨fun h=>absurd h hn,fun _=> ?_⟩
   rcases hc with c1 | ⟨c1,c2⟩ | ⟨c1,c2,c3⟩
   ·obtain⟨z1,e1,S1⟩:=k3b a h L [] q0 (σ:=σ) S.heap.inj S h0' hl' hlen c1
    exact⟨z1,e1,_,S1,hs⟩
   ·obtain⟨z1,e1,S1⟩:=hdN1 a h L [] q0 (σ:=σ) S.heap.inj S h0' hl' hlen c1 c2
    exact⟨z1,e1,_,S1,hs⟩
   ·obtain⟨z1,e1,S1⟩:=hdF1 a h L [] q0 (σ:=σ) S.heap.inj S h0' hl' hlen c1 c2 c3
    exact⟨z1,e1,_,S1,hs⟩
 ·have hg:L.getD a []=[]:=by rw[List.getD_eq_getElem?_getD,List.getElem?_eq_none (by omega)];rfl
  rw[hg,kmu]
  refine⟨fun h=>by omega,fun _=> ?_⟩
  obtain⟨z1,e1,S1⟩:=k3e a h L [] q0 (σ:=σ) S.heap.inj S (by omega)
  exact⟨z1,e1,_,S1,hs⟩
theorem HSt.step2 {a:Nat} {h:Hd} {z:St} (S:HSt i0 i2 L a h [0,7,8] [.ptr 2 0,wH,.int .i64 2] z) (hLn:L.length≤1000000) (hL: ∀ l ∈ L,l.length≤1000000):
  (0≤kaq kao (L.getD a []) 999→ ∃ z1,Ev FF hdX z .nrm z1∧HSt i0 i2 L (a+1) ⟨h.n0,h.n1,(kaq kao (L.getD a []) 999)⟩ [0,7,8] [.ptr 2 0,wH,.int .i64 3] z1)∧
  (¬0≤kaq kao (L.getD a []) 999→ ∃ z1,Ev FF hdX z .ret z1∧HSt i0 i2 L a h [2] [.bool false] z1):=by
 obtain⟨σ,S,hs⟩:=S
 by_cases h0:a<L.length
 ·have hl:L[a]? =some L[a]:=List.getElem?_eq_getElem h0
  have hl':L[Int.toNat (a:Int)]? =some L[a]:=by rw[Int.toNat_natCast];exact hl
  have hg:L.getD a []=L[a]:=by rw[List.getD_eq_getElem?_getD,hl];rfl
  have h0':(a:Int)<(L.length:Int):=by omega
  have hlen:=hL _ (List.getElem_mem h0)
  rw[hg]
  rcases kid kao L[a] 999 (by omega) with⟨c1,c2,c3,c4,c5⟩ | ⟨hn,hc⟩
  ·refine⟨fun _=> ?_,fun h=>absurd c5 h⟩
   obtain⟨z1,e1,S1⟩:=hdG2 a h L [] q0 (σ:=σ) S.heap.inj S h0' hl' hlen c1 c2 c3 (kce h0 hLn)
   rw[c4]
   exact⟨z1,e1,_,S1,hs⟩
  ·refine⟨fun h=>absurd h hn,fun _=> ?_⟩
   rcases hc with c1 | ⟨c1,c2⟩ | ⟨c1,c2,c3⟩
   ·obtain⟨z1,e1,S1⟩:=k3c a h L [] q0 (σ:=σ) S.heap.inj S h0' hl' hlen c1
    exact⟨z1,e1,_,S1,hs⟩
   ·obtain⟨z1,e1,S1⟩:=hdN2 a h L [] q0 (σ:=σ) S.heap.inj S h0' hl' hlen c1 c2
    exact⟨z1,e1,_,S1,hs⟩
   ·obtain⟨z1,e1,S1⟩:=hdF2 a h L [] q0 (σ:=σ) S.heap.inj S h0' hl' hlen c1 c2 c3
    exact⟨z1,e1,_,S1,hs⟩
 ·have hg:L.getD a []=[]:=by rw[List.getD_eq_getElem?_getD,List.getElem?_eq_none (by omega)];rfl
  rw[hg,kmu]
  refine⟨fun h=>by omega,fun _=> ?_⟩
  obtain⟨z1,e1,S1⟩:=k3f a h L [] q0 (σ:=σ) S.heap.inj S (by omega)
  exact⟨z1,e1,_,S1,hs⟩
theorem qg6 {a:Nat} {h:Hd} {ts:List Nat} {ws:List AV} {z:St} (S:HSt i0 i2 L a h ts ws z) (hn:L.length≤1000000) (ha:a≤L.length) (hL: ∀ l ∈ L,kaj l=(l,[])∧l≠[]∧l.length≤1000000):
  (∃ T a',kco (L.drop a) a []=(some T,a',L.drop a')∧a'≤L.length∧ ∃ z',CallEv FF 52 [.ptr i2 0] z (.bool true) z'∧z'.r=z.r∧MSt i0 i2 a' h L T [] [] [] [] z')∨
  (∃ a' ls,kco (L.drop a) a []=(none,a',ls)∧ ∃ z' T',CallEv FF 52 [.ptr i2 0] z (.bool false) z'∧z'.r=z.r∧MSt i0 i2 a' h L T' [] [] [] [] z'):=by
 obtain⟨σ,S,hs⟩:=S
 have hres: ∀ {z1:St} {b:Bool},z1.r.get 2=some (.bool b)→resA (fnOf FF 52) z1=some (.bool b):=fun {z1 b} hb=>by
  have hr:(fnOf FF 52).res=[(2,none)]:=by kernel_rfl
  unfold resA
  rw[hr]
  simp only[mapO,kcu,kbd hb]
 generalize hr0:(((inits 0 [.ptr i2 0] .nil).put 2 (some (.bool false))):T AV)=r1
 have e0:Ev FF (.reg [⟨some 2,.mov (.c (.bool false)),none⟩]) {r:=inits 0 [.ptr i2 0] .nil,h:=z.h,nx:=z.nx} .nrm {r:=r1,h:=z.h,nx:=z.nx}:=by
  subst hr0
  exact Ev.reg (EvR.op (v:= .bool false) (s1:={r:=inits 0 [.ptr i2 0] .nil,h:=z.h,nx:=z.nx}) (fun _=>rfl) (EvR.nil _))
 have S0:TSt i0 i2 a h L [] [0] [.ptr 2 0] {r:=r1,h:=z.h,nx:=z.nx}:=by
  refine .inl ⟨rfl,σ,?_,hs⟩
  have S1:Sim (YE a h L σ) (tmpl [] [] tE) {r:=r1,h:=z.h,nx:=z.nx}:=S.bare r1
  refine S1.begin [0] [.ptr 2 0] r1 (fun t u hu=> ?_)
  have hm:=kbh (show(ofL ([0].zip [AV.ptr 2 0])).get t=some u from hu)
  simp only[List.zip,List.zipWith,List.mem_cons,Prod.mk.injEq,List.not_mem_nil,or_false] at hm
  obtain⟨rfl,rfl⟩:=hm
  rw[←hr0,T.get_put,←hs.2]
  rfl
 have hp:=qg7 i0 i2 h L hn hL (L.length - a) a [] (by omega) (by simp) rfl S0
 revert hp
 generalize hres2:kco (L.drop a) a []=res
 obtain⟨o,a',ls⟩:=res
 have reg2: ∀ {T:List (List Cl)} {b:Bool} {z1:St},TSt i0 i2 a' h L T [2] [.bool b] z1→z1.r.get 2=some (.bool b):=fun {T b z1} S=>by
  rcases S with⟨_,σ,S,_⟩ | ⟨_,_,_,σ,_,_,S,_⟩ | ⟨_,_,_,_,σ,_,_,_,S,_⟩
  ·exact S.regs 2 (.bool b) (by kernel_rfl)
  ·exact S.regs 2 (.bool b) (by kernel_rfl)
  ·exact S.regs 2 (.bool b) (by kernel_rfl)
 cases o with
 |some T=>
  rintro⟨q1,q2,z2,e2,S2⟩
  refine .inl ⟨T,a',by rw[q1],q2,_,CallEv.mk (f:=52) (fn:=fnOf FF 52) (by kernel_rfl) (by kernel_rfl) (e:= .ret) ?_ (.inr rfl) (hres (reg2 S2)),rfl,(toM S2).bare z.r⟩
  rw[krw]
  exact e0.seq (Ev.seqJ (e2.block (id:=0)) (by intro h;cases h))
 |none=>
  rintro⟨z2,T',⟨e2,S2⟩ | ⟨e2,S2⟩⟩
  ·refine .inr ⟨a',ls,rfl,_,T',CallEv.mk (f:=52) (s1:={r:=z2.r.put 2 (some (.bool false)),h:=z2.h,nx:=z2.nx}) (fn:=fnOf FF 52) (by kernel_rfl) (by kernel_rfl) (e:= .ret) ?_ (.inr rfl) (hres (by show(z2.r.put 2 _).get 2=_;rw[T.get_put,if_pos rfl])),rfl,(toM S2).bare z.r⟩
   rw[krw]
   exact e0.seq (Ev.seq (e2.block (id:=0)) (Ev.seq (Ev.reg (EvR.op (v:= .bool false) (s1:=z2) (fun _=>rfl) (EvR.nil _))) (Ev.ret _)))
  ·refine .inr ⟨a',ls,rfl,_,T',CallEv.mk (f:=52) (fn:=fnOf FF 52) (by kernel_rfl) (by kernel_rfl) (e:= .ret) ?_ (.inr rfl) (hres (reg2 S2)),rfl,(toM S2).bare z.r⟩
   rw[krw]
   exact e0.seq (Ev.seqJ (e2.block (id:=0)) (by intro h;cases h))
def mvR:List AOper:=[⟨some 37,.mov (.t 0),none⟩,⟨some 38,.call (.c (.fn 54 [] [])) [.t 37],none⟩,⟨some 39,.un .not (.t 38),none⟩]
def mvY:AC:= .block 3 (.seq (.reg mvR) (.cond (.t 39) (.seq (.reg [⟨some 2,.mov (.c (.bool false)),none⟩]) .ret) .skip))
theorem kkb {g d0 d1 d2:Nat} {z z1:St} {b:Bool} (h0:z.r.get 0=some (.ptr i2 0)) (hc:CallEv FF g [.ptr i2 0] (z.set (some d0) (.ptr i2 0)) (.bool b) z1):
  EvR FF [⟨some d0,.mov (.t 0),none⟩,⟨some d1,.call (.c (.fn g [] [])) [.t d0],none⟩,⟨some d2,.un .not (.t d1),none⟩] z ((z1.set (some d1) (.bool b)).set (some d2) (.bool (!b))):=by
 refine EvR.op (v:= .ptr i2 0) (s1:=z) (fun _=> ?_) ?_
 ·show some (z.rg 0,z)=_
  rw[kbd h0]
 refine EvR.call (g:=g) (first:=[]) (caps:=[]) (v:= .bool b) (s1:=z1) rfl ?_ ?_
 ·have e:(AO.t d0).ev (z.set (some d0) (.ptr i2 0))= .ptr i2 0:=kbd kcl
  rw[List.map_singleton,e]
  exact hc
 refine EvR.op (v:= .bool (!b)) (s1:=z1.set (some d1) (.bool b)) (fun _=> ?_) (EvR.nil _)
 show opA (z1.set (some d1) (.bool b)) (.un .not (.t d1))=_
 have e:(AO.t d1).ev (z1.set (some d1) (.bool b))= .bool b:=kbd kcl
 simp only[opA,e]
 rfl
theorem k6w (h:Hd) (T:List (List Cl)) (hn:L.length≤1000000) (hL: ∀ l ∈ L,l.length≤1000000): ∀ (k a:Nat) (M:List Mov) {z:St},a+k=L.length→M.length≤1000→MSt i0 i2 a h L T M [] [0] [.ptr 2 0] z→z.r.get 0=some (.ptr i2 0)→
  (∃ M' a' z',mvGo (L.drop a) a M=(some M',a')∧Ev FF (.loop (.seq alP mvY)) z (.ext 2) z'∧MSt i0 i2 a' h L T M' [] [] [] z')∨
  (∃ M' a' z',mvGo (L.drop a) a M=(none,a')∧Ev FF (.loop (.seq alP mvY)) z .ret z'∧z'.r.get 2=some (.bool false)∧MSt i0 i2 a' h L T M' [] [] [] z'):=by
 intro k
 induction k with
 |zero=>
  intro a M z ha hM S h0
  rw[List.drop_of_length_le (by omega)]
  obtain⟨z1,e1,S1⟩:=S.moN (by omega)
  exact .inl ⟨M,a,z1,rfl,Ev.loopJ (e1.seqJ (by intro h;cases h)) (by intro h;cases h),S1⟩
 |succ k ih=>
  intro a M z ha hM S h0
  have h1:a<L.length:=by omega
  have hl:L[a]? =some L[a]:=List.getElem?_eq_getElem h1
  rw[List.drop_eq_getElem_cons h1,ki6]
  obtain⟨z1,e1,S1⟩:=S.moY (by omega)
  have h01:z1.r.get 0=some (.ptr i2 0):=S1.reg0
  have S1':=S1.bare ((z1.set (some 37) (.ptr i2 0)).r)
  rcases S1'.move hn h1 hl (hL _ (List.getElem_mem h1)) hM with⟨m,hm,hM1,z2,c2,r2,S2⟩ | ⟨hb,z2,c2,r2,S2⟩
  ·have hreg:=kkb (d0:=37) (d1:=38) (d2:=39) h01 c2
   generalize hz3:((z2.set (some 38) (.bool true)).set (some 39) (.bool (!true)):St)=z3 at hreg
   have g39:z3.r.get 39=some (.bool false):=by rw[←hz3];exact kcl
   have g0:z3.r.get 0=some (.ptr i2 0):=by
    rw[←hz3,kcv (by decide),kcv (by decide),r2]
    show(z1.set (some 37) (.ptr i2 0)).r.get 0=_
    rw[kcv (by decide)];exact h01
   have S3:MSt i0 i2 (a+1) h L T (M++[m]) [] [0] [.ptr 2 0] z3:=by
    have:=S2.begin z3.r g0
    rw[←hz3] at this ⊢
    exact this
   have ebody:Ev FF (.seq alP mvY) z .nrm z3:=e1.seq (Ev.block (id:=3) (Ev.seq (Ev.reg hreg) (Ev.cond (x:= .t 39) (t:=false) (kbd g39) (Ev.skip _))))
   rw[hm]
   simp only
   rw[if_neg (by omega)]
   rcases ih (a+1) (M++[m]) (by omega) (by rw[List.length_append,List.length_singleton];omega) S3 g0 with⟨M',a',z',x1,x2,x3⟩ | ⟨M',a',z',x1,x2,x3,x4⟩
   ·exact .inl ⟨M',a',z',x1,ebody.loop x2,x3⟩
   ·exact .inr ⟨M',a',z',x1,ebody.loop x2,x3,x4⟩
  ·have hreg:=kkb (d0:=37) (d1:=38) (d2:=39) h01 c2
   generalize hz3:((z2.set (some 38) (.bool false)).set (some 39) (.bool (!false)):St)=z3 at hreg
   have g39:z3.r.get 39=some (.bool true):=by rw[←hz3];exact kcl
   have ebody:Ev FF (.seq alP mvY) z .ret (z3.set (some 2) (.bool false)):=e1.seq (Ev.block (id:=3) (e:= .ret) (Ev.seq (Ev.reg hreg) (Ev.cond (x:= .t 39) (t:=true) (kbd g39) (Ev.seq (Ev.reg (EvR.op (v:= .bool false) (s1:=z3) (fun _=>rfl) (EvR.nil _))) (Ev.ret _)))))
   refine .inr ⟨M,a,z3.set (some 2) (.bool false),?_,Ev.loopJ ebody (by intro h;cases h),kcl,?_⟩
   ·cases hm:kb4 L[a] with
    |none=>rfl
    |some m=>
     rcases hb with hb |hb
     ·rw[hm] at hb;cases hb
     ·simp only;rw[if_pos hb]
   ·have:=S2.bare ((z3.set (some 2) (.bool false)).r)
    rw[←hz3] at this ⊢
    exact this
end
end Go.Proofs.Hz
