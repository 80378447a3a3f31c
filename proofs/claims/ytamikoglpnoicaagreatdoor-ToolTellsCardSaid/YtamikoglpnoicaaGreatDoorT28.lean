/-
  Chapter 15: what call.Parse answers.
  Conditions: none.
-/
import Derived.Test.YtamikoglpnoicaaGreatDoorT27
open Go Go.Proofs
namespace Go.Proofs.Hz
open Go.Lib renaming indexByte->yaj
open List renaming mem_cons->yaa,not_mem_nil->yab,zipWith->yad,length_singleton->yae,zip->yaf,length_pos_iff->yag,length_append->yah,getElem?_eq_getElem->yai,getElem?_map->yak,append_assoc->yam,cons_append->yan,nil_append->yap,length->yas
open Nat renaming le_succ->yaq,le_refl->yar
open Option renaming map_some->yao
open Option.some renaming injEq->yal
open Prod.mk renaming injEq->yac
set_option maxRecDepth 20000
theorem ky6:(kai FF 49).body= .block 0 (.loop lnX):=by
 rw[qbs];rfl
theorem Sim.up {ρ ρ':Val} {ts:List Nat} {ws:List AV} {cs:List Blk} {Y:List Blk} {s c:St} (S:Sim ρ s c) (hr: ∀ t v,(kaa ts ws cs).r.get t=some v->c.r.get t=some (gm ρ' v)) (hh:s.h=(kaa ts ws cs).h) (hn:s.nx=cs.length) (hσ:ρ'.σ=ρ.σ) (hlo:ρ.lo<=ρ'.lo) (hl:ρ'.lo<=cs.length) (hb1:cs.map (gB ρ)=Y) (hb2:cs.map (gB ρ')=Y) (hd:ρ'.hid=ρ.hid:=by rfl):Sim ρ' (kaa ts ws cs) c:=by
 have hb:=hb1.trans hb2.symm;refine⟨hr,⟨fun id k hk=> ?_,fun id h1 h2=> ?_,by rw[hσ];exact S.heap.inj,by rw[hσ,hd];exact S.heap.hid⟩,fun i=> ?_,hl⟩
 ·have hm:=kbw (show(ofL (idx 0 cs)).get id=some k from hk);obtain⟨_,hj⟩:=klm hm;have e1:=congrArg (·[id - 0]?) hb;simp only[yak,hj,yao,yal] at e1;rw[hσ,S.heap.get id k (by rw[hh];exact hk),e1]
 ·rw[hσ];exact S.heap.absent id (by omega) (by rw[hh];exact h2)
 ·rw[hσ,←S.nxs i,hn];rfl
def kjh (p:List Cl×Nat×Int):AV:= .tup [.im (p.1.map eC) p.1.isEmpty,.int .i64 (p.2.1:Int),.int .i64 p.2.2]
abbrev σ6:Nat->Nat:=sig (fun i=>i) [0,1,2,3,4,5] 6
def bkS:List Blk:=[.cells [.im [] true] false 42,.cells [.int .i64 0] false 3,.cells [.int .i64 0] false 29,.cells [.im [] true] false 42,.cells [vt 0] false 3,.cells [vt 1] false 9]
theorem qei (s:List UInt8) (hl:s.length<=1000000) {z:St} {σ:Nat->Nat} (l:ALoop) (hσ: ∀ i j,σ i=σ j->i=j) (L:LOk σ l) (S:Sim (V0 [] 0 s σ) (kaa [0,1] w01 (bk0 l)) z):
  (s=[]/\ ∃ z' σ',Ev FF (.loop lnX) z (.ext 0) z'/\Agree σ σ'/\Sim (V0 [] 0 s σ') (kaa [] [] (bk0 l)) z')\/kwr (kfw s) σ l z:=by
 by_cases hs:s=[]
 ·obtain⟨z1,e1,S1⟩:=qbf [] 0 s l hσ S (by rw[hs];simp);refine .inl ⟨hs,z1,_,Ev.loopJ (e1.seqJ (by intro h;cases h)) (by intro h;cases h),?_,S1⟩;intro j hj;rcases lt7 hj with rfl |rfl |rfl |rfl |rfl |rfl |rfl <;> rfl
 ·have hlen:=kev s;have hpos:=kfs hs;obtain⟨hg,hb⟩:=qbq [] 0 s l hσ L S hs (by omega);refine .inr ?_;unfold kfw;rw[kff,ir hs];by_cases hk:kau (kap s).1=true
  ·rw[iq hk,yap];obtain⟨z2,σ2,e2,g2,S2⟩:=hg hk;rcases qbn l s.length [kas (kap s).1] (0+(kap s).1.length) (kap s).2 (by simp) (by omega) (by rw[yae];omega) (by omega) S2.heap.inj (L.agree g2) S2 with⟨x1,x2,z',σ',rest',x3,x4,x5⟩ | ⟨x1,x2,z',σ',x3,x4,x5⟩
   ·exact .inl ⟨x1,x2,z',σ',rest',e2.loop x3,g2.trans x4,x5⟩
   ·exact .inr ⟨x1,x2,z',σ',e2.loop x3,AgreeE.of g2 x4,x5⟩
  ·rw[ir hk];obtain⟨z2,σ2,e2,g2,S2⟩:=hb hk;exact .inr ⟨rfl,rfl,z2,σ2,Ev.loopJ e2 (by intro h;cases h),g2,S2⟩
theorem k0g (s:List UInt8) (hl:s.length<=1000000):kak FF 77 [.str s] (kjh (kfw s)):=by
 refine kbq (ρ:=kal [.str s] [] [] (fun i=>i) 0) (xs:=[vt 0]) (by kernel_rfl) rfl rfl (by kernel_rfl) (fun z S=> ?_);rw[qeg];obtain⟨z1,e1,S1⟩:=qef s S;obtain⟨zA,kA,e2⟩:=e1.seqI;obtain⟨zB,kB,e3⟩:=e2.seqI;obtain⟨zC,kC,kD⟩:=e3.seqI;refine kc0 kA (kc0 kB (kc0 kC ?_));have hnx:σ6 6=z1.nx:=S1.nxs 0;have hnx':z1.nx=6:=by rw[←hnx];rfl
 have h11:(AO.t 11).ev z1= .fn 49 [] [.ptr (σ6 5) 0]:=kbs ((S1.regs 11 (.fn 49 [] [.ptr 5 0]) (by kernel_rfl)).trans (by kernel_rfl));have hregs: ∀ j,j<5->z1.r.get (j+2)=some (.ptr (σ6 j) 0):=fun j hj=>by
  have:j=0\/j=1\/j=2\/j=3\/j=4:=by omega
  rcases this with rfl |rfl |rfl |rfl |rfl
  ·exact(S1.regs 2 (.ptr 0 0) (by kernel_rfl)).trans (by kernel_rfl)
  ·exact(S1.regs 3 (.ptr 1 0) (by kernel_rfl)).trans (by kernel_rfl)
  ·exact(S1.regs 4 (.ptr 2 0) (by kernel_rfl)).trans (by kernel_rfl)
  ·exact(S1.regs 5 (.ptr 3 0) (by kernel_rfl)).trans (by kernel_rfl)
  ·exact(S1.regs 6 (.ptr 4 0) (by kernel_rfl)).trans (by kernel_rfl)
 have L:LOk σ6 {st:=0,pend:=none,r:=z1.r,ps:=[12],asg:=paG,body:=paH,nt:=31}:=⟨rfl,rfl,rfl,rfl,rfl,hregs⟩;generalize hl0:({st:=0,pend:=none,r:=z1.r,ps:=[12],asg:=paG,body:=paH,nt:=31}:ALoop)=l0 at L;have SI:Sim (V0 [] 0 s σ6) (kaa [0,1] w01 (bk0 l0)) {r:=inits 0 (.yld z1.nx::[.ptr (σ6 5) 0]) .nil,h:=z1.h.put z1.nx (some (.loop l0)),nx:=z1.nx+1}:=by
  have S2:Sim _ ((kaa [2,3,4,5,6,11] (wP++[.fn 49 [] [.ptr 5 0]]) bkS).new (.loop l0)) (z1.new (.loop l0)):=Sim.new S1 (.loop l0);have S3:=S2.regs' (s':=(kaa [2,3,4,5,6,11] (wP++[.fn 49 [] [.ptr 5 0]]) bkS).new (.loop l0)) (c':=z1.new (.loop l0)) S2.regs rfl rfl rfl rfl;have S4:Sim (kal [.int .i64 0,.str s] [] [] σ6 6) {r:= .nil,h:=((kaa [2,3,4,5,6,11] (wP++[.fn 49 [] [.ptr 5 0]]) bkS).new (.loop l0)).h,nx:=7} {r:=inits 0 (.yld z1.nx::[.ptr (σ6 5) 0]) .nil,h:=z1.h.put z1.nx (some (.loop l0)),nx:=z1.nx+1}:=
   S3.regs' (fun t u hu=>by rw[show(({r:= .nil,h:=((kaa [2,3,4,5,6,11] (wP++[.fn 49 [] [.ptr 5 0]]) bkS).new (.loop l0)).h,nx:=7}:St)).r.get t=none from T.get_nil _] at hu;cases hu) rfl rfl rfl rfl
  refine S4.up (fun t u hu=> ?_) (by kernel_rfl) rfl rfl (yaq 6) (yar 7) rfl (by kernel_rfl);have hm:=kbw (show(ofL ([0,1].zip w01)).get t=some u from hu);simp only[w01,yaf,yad,yaa,yac,yab,or_false] at hm;show(inits 0 (.yld z1.nx::[.ptr (σ6 5) 0]) .nil).get t=_;rw[ki2,hnx'];rcases hm with⟨rfl,rfl⟩ | ⟨rfl,rfl⟩
  ·exact(by kernel_rfl:some (AV.yld 6)=some (gm (V0 [] 0 s σ6) (.yld 6)))
  ·exact(by kernel_rfl:some (AV.ptr (σ6 5) 0)=some (gm (V0 [] 0 s σ6) (.ptr 5 0)))
 have ring: ∀ {e1:AE} {z':St} {l1:ALoop},Ev FF (.loop lnX) {r:=inits 0 (.yld z1.nx::[.ptr (σ6 5) 0]) .nil,h:=z1.h.put z1.nx (some (.loop l0)),nx:=z1.nx+1} e1 z'->(e1.out 0= .nrm\/e1.out 0= .ret)->z'.h.get z1.nx=some (.loop l1)->l1.st≠1->
   Ev FF (.rngf 31 (.t 11) [12] paG paH) z1 (AE.after l1.pend) {r:=z1.r,h:=z'.h.put z1.nx (some (.loop {l1 with st:=3})),nx:=z'.nx}:=fun {e1 z' l1} he ho hz hs=>by
  subst hl0;exact Ev.rngf (fn:=kai FF 49) h11 (by kernel_rfl) (by kernel_rfl) (by kernel_rfl) (by rw[ky6];exact he.block) ho hz hs
 have sim6: ∀ {σ':Nat->Nat},Agree σ6 σ'->σ' 6=z1.nx:=fun g=>(g 6 (by decide)).trans hnx
 have outer: ∀ {σ':Nat->Nat} {ρ:Val} {t:Nat} {u:AV},Agree σ6 σ'->gm ρ (.ptr 0 0)= .ptr (σ' 0) 0->gm ρ (.ptr 1 0)= .ptr (σ' 1) 0->gm ρ (.ptr 2 0)= .ptr (σ' 2) 0->gm ρ (.ptr 3 0)= .ptr (σ' 3) 0->gm ρ (.ptr 4 0)= .ptr (σ' 4) 0->
   (ofL ([2,3,4,5,6].zip wP)).get t=some u->z1.r.get t=some (gm ρ u):=fun {σ' ρ t u} g a0 a1 a2 a3 a4 hu=>by
  have hm:=kbw hu;simp only[wP,yaf,yad,yaa,yac,yab,or_false] at hm;rcases hm with⟨rfl,rfl⟩ | ⟨rfl,rfl⟩ | ⟨rfl,rfl⟩ | ⟨rfl,rfl⟩ | ⟨rfl,rfl⟩
  ·rw[a0,g 0 (by decide)];exact hregs 0 (by decide)
  ·rw[a1,g 1 (by decide)];exact hregs 1 (by decide)
  ·rw[a2,g 2 (by decide)];exact hregs 2 (by decide)
  ·rw[a3,g 3 (by decide)];exact hregs 3 (by decide)
  ·rw[a4,g 4 (by decide)];exact hregs 4 (by decide)
 have hpend:AE.after l0.pend= .nrm:=by rw[L.pend];rfl
 rcases qei s hl (σ:=σ6) l0 SI.heap.inj L SI with⟨hs,z',σ',x3,x4,x5⟩ | ⟨x1,x2,z',σ',rest',x3,x4,x5⟩ | ⟨x1,x2,z',σ',x3,x4,x5⟩
 ·have hz:z'.h.get z1.nx=some (.loop l0):=by
   rw[←sim6 x4];exact x5.heap.get 6 (.loop l0) (by kernel_rfl)
  have he:=(ring x3 (.inl rfl) hz (by rw[L.st];decide)).block (id:=0);rw[hpend] at he;have S6:=x5.hp' 6 {l0 with st:=3} (sim6 x4);rw[show({kaa [] [] (bk0 l0) with h:=(kaa [] [] (bk0 l0)).h.put 6 (some (.loop {l0 with st:=3}))}:St)=kaa [] [] (bk0 {l0 with st:=3}) by kernel_rfl] at S6;have hr:kjh (kfw s)= .tup [.im [] true,.int .i64 ((0:Nat):Int),.int .i64 0]:=by rw[hs];rfl
  rw[hr];refine kc0 (kD.seq he) (qea [] 0 s {l0 with st:=3} x5.heap.inj (S6.regs' (fun t u hu=> ?_) rfl rfl rfl rfl));exact outer x4 (by kernel_rfl) (by kernel_rfl) (by kernel_rfl) (by kernel_rfl) (by kernel_rfl) hu
 ·have hz:z'.h.get z1.nx=some (.loop l0):=by
   rw[←sim6 x4];exact x5.heap.get 6 (.loop l0) (by kernel_rfl)
  have he:=(ring x3 (.inl rfl) hz (by rw[L.st];decide)).block (id:=0);rw[hpend] at he;generalize kfw s=res at x1 x2 x5 ⊢;obtain⟨out,a,er⟩:=res;simp only at x1 x2 x5;subst x2;have S6:=x5.hp' 6 {l0 with st:=3} (sim6 x4);rw[show({kaa [] [] (bk1 l0) with h:=(kaa [] [] (bk1 l0)).h.put 6 (some (.loop {l0 with st:=3}))}:St)=kaa [] [] (bk1 {l0 with st:=3}) by kernel_rfl] at S6;have hr:kjh (out,a,0)= .tup [.im (out.map eC) false,.int .i64 (a:Int),.int .i64 0]:=by
   unfold kjh;cases out with
   |nil=>exact absurd rfl x1
   |cons c o=>rfl
  rw[hr];refine kc0 (kD.seq he) (qeb out a rest' {l0 with st:=3} x5.heap.inj (S6.regs' (fun t u hu=> ?_) rfl rfl rfl rfl));exact outer x4 (by kernel_rfl) (by kernel_rfl) (by kernel_rfl) (by kernel_rfl) (by kernel_rfl) hu
 ·have h6:σ' 3=z1.nx:=x4.2.2.2.trans hnx;have hz:z'.h.get z1.nx=some (.loop {l0 with st:=2,pend:=some .ret}):=by
   rw[←h6];exact x5.heap.get 3 (.loop {l0 with st:=2,pend:=some .ret}) (by kernel_rfl)
  have he:=(ring x3 (.inr rfl) hz (by show(2:Nat)≠1;decide)).block (id:=0);generalize kfw s=res at x1 x2 x5 ⊢;obtain⟨out,a,er⟩:=res;simp only at x1 x2 x5;subst x1;subst x2;have S6:=x5.hp' 3 {({l0 with st:=2,pend:=some .ret}:ALoop) with st:=3} h6;rw[show({kaa [] [] (kdk {l0 with st:=2,pend:=some .ret}) with h:=(kaa [] [] (kdk {l0 with st:=2,pend:=some .ret})).h.put 3 (some (.loop {({l0 with st:=2,pend:=some .ret}:ALoop) with st:=3}))}:St)=kaa [] [] (kdk {({l0 with st:=2,pend:=some .ret}:ALoop) with st:=3}) by kernel_rfl] at S6;refine kjt (e:= .ret) (kD.seq he) (by intro h;cases h) (qec a {({l0 with st:=2,pend:=some .ret}:ALoop) with st:=3} x5.heap.inj (S6.regs' (fun t u hu=> ?_) rfl rfl rfl rfl));have hm:=kbw (show(ofL ([2,3,4].zip [AV.ptr 0 0,.ptr 1 0,.ptr 2 0])).get t=some u from hu);simp only[yaf,yad,yaa,yac,yab,or_false] at hm;obtain⟨g0,g1,g2,_⟩:=x4;rcases hm with⟨rfl,rfl⟩ | ⟨rfl,rfl⟩ | ⟨rfl,rfl⟩
  ·exact(hregs 0 (by decide)).trans (by rw[show gm (VE4 a σ') (.ptr 0 0)= .ptr (σ' 0) 0 by kernel_rfl,g0])
  ·exact(hregs 1 (by decide)).trans (by rw[show gm (VE4 a σ') (.ptr 1 0)= .ptr (σ' 1) 0 by kernel_rfl,g1])
  ·exact(hregs 2 (by decide)).trans (by rw[show gm (VE4 a σ') (.ptr 2 0)= .ptr (σ' 2) 0 by kernel_rfl,g2])
structure UOk (σ:Nat->Nat) (l:ALoop):Prop where
 st:l.st=0
 pend:l.pend=none
 ps:l.ps=[7]
 asg:l.asg=asG
 body:l.body=asH
 reg:l.r.get 2=some (.ptr (σ 2) 0)
def Agree4 (σ σ':Nat->Nat):Prop:=∀ j,j<4->σ' j=σ j
theorem lt4 {j:Nat} (h:j<4):j=0\/j=1\/j=2\/j=3:=by omega
theorem UOk.agree {σ σ':Nat->Nat} {l:ALoop} (L:UOk σ l) (h:Agree4 σ σ'):UOk σ' l:=⟨L.st,L.pend,L.ps,L.asg,L.body,by rw[h 2 (by omega)];exact L.reg⟩
theorem Agree4.trans {a b c:Nat->Nat} (h1:Agree4 a b) (h2:Agree4 b c):Agree4 a c:=fun j hj=>(h2 j hj).trans (h1 j hj)
theorem qol (out:List Bs) (rest line:Bs) {z:St} {σ:Nat->Nat} (l:ALoop) (hσ: ∀ i j,σ i=σ j->i=j) (L:UOk σ l) (S:Sim (UL0 out rest line σ) (kaa [0,1,3] [.yld 3,.ptr 1 0,vt 1] (c0 l)) z):
  ∃ z' σ',Ev FF (.reg lnY) z .nrm z'/\z'.r.get 24=some (.bool false)/\Agree4 σ σ'/\Sim (U1 [line] rest σ') (kaa [0,1] u01 (c1 l)) z':=by
 have h0r:z.r.get 0=some (.yld (σ 3)):=S.regs 0 (.yld 3) (by kernel_rfl);have h1r:z.r.get 1=some (.ptr (σ 1) 0):=S.regs 1 (.ptr 1 0) (by kernel_rfl);have h3r:z.r.get 3=some (.str line):=S.regs 3 (vt 1) (by kernel_rfl);have hL:z.h.get (σ 3)=some (.loop l):=S.heap.get 3 (.loop l) (by kernel_rfl);have SA:Sim (UL0 out rest line σ) (kaa [2,7] [.ptr 2 0,vt 1] (c0 l)) {r:=kel l.r l.ps [.str line],h:=z.h,nx:=z.nx}:=by
  refine S.regs' (fun t u hu=> ?_) rfl rfl rfl rfl;have hm:=kbw (show(ofL ([2,7].zip [.ptr 2 0,vt 1])).get t=some u from hu);rw[L.ps];show(l.r.put 7 (some (.str line))).get t=_;rw[T.get_put];simp only[yaf,yad,yaa,yac,yab,or_false] at hm;rcases hm with⟨rfl,rfl⟩ | ⟨rfl,rfl⟩
  ·exact L.reg
  ·rfl
 obtain⟨zB,eB,SB⟩:=k6d out rest line l hσ SA;have hB:zB.h.get (σ 3)=some (.loop l):=SB.heap.get 3 (.loop l) (by kernel_rfl);have SC:=SB.hp' 3 {l with st:=1} (i:=σ 3) (by kernel_rfl);rw[show({kaa [2,5] [.ptr 2 0,vt 1] (c0 l) with h:=(kaa [2,5] [.ptr 2 0,vt 1] (c0 l)).h.put 3 (some (.loop {l with st:=1}))}:St)=kaa [2,5] [.ptr 2 0,vt 1] (c0 {l with st:=1}) by kernel_rfl] at SC;obtain⟨zC,eC,SD⟩:=k6f out rest line {l with st:=1} SB.heap.inj SC;have hD:zC.h.get (σ 3)=some (.loop {l with st:=1}):=SD.heap.get 3 (.loop {l with st:=1}) (by kernel_rfl);have hR:=Rnd.mk (F:=FF) (id:=σ 3) (args:=[.str line]) (s:=(z.set (some 21) (.yld (σ 3))).set (some 22) (.str line)) (l:=l) (s1:=zB) (s2:=zC) (l1:=l) (l2:={l with st:=1}) (e:= .nrm) hL (by rw[L.ps];rfl) (by rw[L.asg];exact eB) hB L.st ((congrArg (fun b=>Ev FF b (zB.hp (σ 3) (.loop {l with st:=1})) .nrm zC) L.body).mpr eC) hD;have hy:=kk3 h0r h3r hR;refine⟨_,sig (sig σ [0,1,2,3] 4) [0,1,2,3,5] 6,hy,kde,?_,?_⟩
 ·intro j hj;rcases lt4 hj with rfl |rfl |rfl |rfl <;> rfl
 ·have SE:=SD.hp' 3 l (i:=σ 3) (by kernel_rfl);rw[show({kaa [] [] (c1 {l with st:=1}) with h:=(kaa [] [] (c1 {l with st:=1})).h.put 3 (some (.loop l))}:St)=kaa [] [] (c1 l) by kernel_rfl] at SE;refine SE.regs' (fun t u hu=> ?_) rfl ?_ rfl rfl
  ·have hm:=kbw (show(ofL ([0,1].zip u01)).get t=some u from hu);simp only[u01,yaf,yad,yaa,yac,yab,or_false] at hm;rcases hm with⟨rfl,rfl⟩ | ⟨rfl,rfl⟩
   ·exact(khf (z:=z) (x:= .yld (σ 3)) (y:= .str line) (by decide) (by decide) (by decide) (by decide) rfl).trans (h0r.trans (by kernel_rfl))
   ·exact(khf (z:=z) (x:= .yld (σ 3)) (y:= .str line) (by decide) (by decide) (by decide) (by decide) rfl).trans (h1r.trans (by kernel_rfl))
  ·show zC.h.put (σ 3) (some (.loop ({({l with st:=1}:ALoop) with st:=0,pend:=none}:ALoop)))=zC.h.put (σ 3) (some (.loop l));rw[kns L.st L.pend]
theorem qos (out:List Bs) (rest:Bs) {z:St} {σ:Nat->Nat} (l:ALoop) (hσ: ∀ i j,σ i=σ j->i=j) (L:UOk σ l) (S:Sim (U0 out rest σ) (kaa [0,1] u01 (c0 l)) z) (hne:rest≠[]) (hr:rest.length<=1000000):
  ∃ z2 σ2,Ev FF lnX z .nrm z2/\Agree4 σ σ2/\Sim (U1 [(kap rest).1] (kap rest).2 σ2) (kaa [0,1] u01 (c1 l)) z2:=by
 have hline: ∃ z1 σ1,Ev FF (.seq lnA (.seq ln3 lnM)) z .nrm z1/\Agree4 σ σ1/\Sim (UL0 out (kap rest).2 (kap rest).1 σ1) (kaa [0,1,3] [.yld 3,.ptr 1 0,vt 1] (c0 l)) z1:=by
  have h0:(yas rest:Int) > 0:=by
   have:=yag.2 hne;omega
  by_cases h1:yaj rest 10 ≥ 0
  ·have hlt:yaj rest 10<rest.length:=by
    rcases kll rest with h |h
    ·exact h
    ·exact absurd h hne
   have hw:=kph h1 hlt hr;obtain⟨z1,e1,S1⟩:=qon out rest l hσ S h0 h1 (by rw[hw];omega);rw[hw,(kgs h1).1,(kgs h1).2] at S1;exact⟨z1,_,e1,fun j hj=>by rcases lt4 hj with rfl |rfl |rfl |rfl <;> rfl,S1⟩
  ·obtain⟨z1,e1,S1⟩:=qoq out rest l hσ S h0 h1;rw[klb h1];exact⟨z1,_,e1,fun j hj=>by rcases lt4 hj with rfl |rfl |rfl |rfl <;> rfl,S1⟩
 obtain⟨z1,σ1,e1,g1,S1⟩:=hline;obtain⟨z0,eA,e3⟩:=e1.seqI;obtain⟨z2,σ2,e2,h24,g2,S2⟩:=qol out _ _ l S1.heap.inj (L.agree g1) S1;refine⟨z2,σ2,?_,g1.trans g2,S2⟩;exact eA.seq (Ev.block (id:=1) (e3.assoc (e2.seq (Ev.cond (x:= .t 24) (t:=false) (kbs h24) (Ev.skip _)))))
theorem qom (out:List Bs) (rest line:Bs) {z:St} {σ:Nat->Nat} (l:ALoop) (hσ: ∀ i j,σ i=σ j->i=j) (L:UOk σ l) (S:Sim (UL1 out rest line σ) (kaa [0,1,3] [.yld 3,.ptr 1 0,vt 1] (c1 l)) z) (ho:out.length<=1000000):
  ∃ z' σ',Ev FF (.reg lnY) z .nrm z'/\z'.r.get 24=some (.bool false)/\Agree4 σ σ'/\Sim (U1 (out++[line]) rest σ') (kaa [0,1] u01 (c1 l)) z':=by
 have h0r:z.r.get 0=some (.yld (σ 3)):=S.regs 0 (.yld 3) (by kernel_rfl);have h1r:z.r.get 1=some (.ptr (σ 1) 0):=S.regs 1 (.ptr 1 0) (by kernel_rfl);have h3r:z.r.get 3=some (.str line):=S.regs 3 (vt 1) (by kernel_rfl);have hL:z.h.get (σ 3)=some (.loop l):=S.heap.get 3 (.loop l) (by kernel_rfl);have SA:Sim (UL1 out rest line σ) (kaa [2,7] [.ptr 2 0,vt 1] (c1 l)) {r:=kel l.r l.ps [.str line],h:=z.h,nx:=z.nx}:=by
  refine S.regs' (fun t u hu=> ?_) rfl rfl rfl rfl;have hm:=kbw (show(ofL ([2,7].zip [.ptr 2 0,vt 1])).get t=some u from hu);rw[L.ps];show(l.r.put 7 (some (.str line))).get t=_;rw[T.get_put];simp only[yaf,yad,yaa,yac,yab,or_false] at hm;rcases hm with⟨rfl,rfl⟩ | ⟨rfl,rfl⟩
  ·exact L.reg
  ·rfl
 obtain⟨zB,eB,SB⟩:=k6e out rest line l hσ SA;have hB:zB.h.get (σ 3)=some (.loop l):=SB.heap.get 3 (.loop l) (by kernel_rfl);have SC:=SB.hp' 3 {l with st:=1} (i:=σ 3) (by kernel_rfl);rw[show({kaa [2,5] [.ptr 2 0,vt 1] (c1 l) with h:=(kaa [2,5] [.ptr 2 0,vt 1] (c1 l)).h.put 3 (some (.loop {l with st:=1}))}:St)=kaa [2,5] [.ptr 2 0,vt 1] (c1 {l with st:=1}) by kernel_rfl] at SC;obtain⟨zC,eC,SD⟩:=k6g out rest line {l with st:=1} SB.heap.inj SC ho;have hD:zC.h.get (σ 3)=some (.loop {l with st:=1}):=SD.heap.get 3 (.loop {l with st:=1}) (by kernel_rfl);have hR:=Rnd.mk (F:=FF) (id:=σ 3) (args:=[.str line]) (s:=(z.set (some 21) (.yld (σ 3))).set (some 22) (.str line)) (l:=l) (s1:=zB) (s2:=zC) (l1:=l) (l2:={l with st:=1}) (e:= .nrm) hL (by rw[L.ps];rfl) (by rw[L.asg];exact eB) hB L.st ((congrArg (fun b=>Ev FF b (zB.hp (σ 3) (.loop {l with st:=1})) .nrm zC) L.body).mpr eC) hD;have hy:=kk3 h0r h3r hR;refine⟨_,sig (sig σ [0,1,2,3,4] 5) [0,1,2,3,6] 7,hy,kde,?_,?_⟩
 ·intro j hj;rcases lt4 hj with rfl |rfl |rfl |rfl <;> rfl
 ·have SE:=SD.hp' 3 l (i:=σ 3) (by kernel_rfl);rw[show({kaa [] [] (c1 {l with st:=1}) with h:=(kaa [] [] (c1 {l with st:=1})).h.put 3 (some (.loop l))}:St)=kaa [] [] (c1 l) by kernel_rfl] at SE;refine SE.regs' (fun t u hu=> ?_) rfl ?_ rfl rfl
  ·have hm:=kbw (show(ofL ([0,1].zip u01)).get t=some u from hu);simp only[u01,yaf,yad,yaa,yac,yab,or_false] at hm;rcases hm with⟨rfl,rfl⟩ | ⟨rfl,rfl⟩
   ·exact(khf (z:=z) (x:= .yld (σ 3)) (y:= .str line) (by decide) (by decide) (by decide) (by decide) rfl).trans (h0r.trans (by kernel_rfl))
   ·exact(khf (z:=z) (x:= .yld (σ 3)) (y:= .str line) (by decide) (by decide) (by decide) (by decide) rfl).trans (h1r.trans (by kernel_rfl))
  ·show zC.h.put (σ 3) (some (.loop ({({l with st:=1}:ALoop) with st:=0,pend:=none}:ALoop)))=zC.h.put (σ 3) (some (.loop l));rw[kns L.st L.pend]
theorem qot (out:List Bs) (rest:Bs) {z:St} {σ:Nat->Nat} (l:ALoop) (hσ: ∀ i j,σ i=σ j->i=j) (L:UOk σ l) (S:Sim (U1 out rest σ) (kaa [0,1] u01 (c1 l)) z) (hne:rest≠[]) (hr:rest.length<=1000000) (ho:out.length<=1000000):
  ∃ z2 σ2,Ev FF lnX z .nrm z2/\Agree4 σ σ2/\Sim (U1 (out++[(kap rest).1]) (kap rest).2 σ2) (kaa [0,1] u01 (c1 l)) z2:=by
 have hline: ∃ z1 σ1,Ev FF (.seq lnA (.seq ln3 lnM)) z .nrm z1/\Agree4 σ σ1/\Sim (UL1 out (kap rest).2 (kap rest).1 σ1) (kaa [0,1,3] [.yld 3,.ptr 1 0,vt 1] (c1 l)) z1:=by
  have h0:(yas rest:Int) > 0:=by
   have:=yag.2 hne;omega
  by_cases h1:yaj rest 10 ≥ 0
  ·have hlt:yaj rest 10<rest.length:=by
    rcases kll rest with h |h
    ·exact h
    ·exact absurd h hne
   have hw:=kph h1 hlt hr;obtain⟨z1,e1,S1⟩:=qoo out rest l hσ S h0 h1 (by rw[hw];omega);rw[hw,(kgs h1).1,(kgs h1).2] at S1;exact⟨z1,_,e1,fun j hj=>by rcases lt4 hj with rfl |rfl |rfl |rfl <;> rfl,S1⟩
  ·obtain⟨z1,e1,S1⟩:=qor out rest l hσ S h0 h1;rw[klb h1];exact⟨z1,_,e1,fun j hj=>by rcases lt4 hj with rfl |rfl |rfl |rfl <;> rfl,S1⟩
 obtain⟨z1,σ1,e1,g1,S1⟩:=hline;obtain⟨z0,eA,e3⟩:=e1.seqI;obtain⟨z2,σ2,e2,h24,g2,S2⟩:=qom out _ _ l S1.heap.inj (L.agree g1) S1 ho;refine⟨z2,σ2,?_,g1.trans g2,S2⟩;exact eA.seq (Ev.block (id:=1) (e3.assoc (e2.seq (Ev.cond (x:= .t 24) (t:=false) (kbs h24) (Ev.skip _)))))
theorem qop (l:ALoop): ∀ (n:Nat) (out:List Bs) (rest:Bs) {z:St} {σ:Nat->Nat},rest.length<n->out.length+rest.length<=1000000->(∀ i j,σ i=σ j->i=j)->UOk σ l->
  Sim (U1 out rest σ) (kaa [0,1] u01 (c1 l)) z-> ∃ z' σ' rest',Ev FF (.loop lnX) z (.ext 0) z'/\Agree4 σ σ'/\Sim (U1 (out++kbf rest) rest' σ') (kaa [] [] (c1 l)) z':=by
 intro n
 induction n with
 |zero=>intro out rest z σ h;omega
 |succ n ih=>
  intro out rest z σ hn h1 hσ L S;by_cases hr:rest=[]
  ·obtain⟨z1,e1,S1⟩:=qok out rest l hσ S (by rw[hr];simp);refine⟨z1,sig σ [0,1,2,3,4] 5,rest,Ev.loopJ (e1.seqJ (by intro h;cases h)) (by intro h;cases h),?_,?_⟩
   ·intro j hj;rcases lt4 hj with rfl |rfl |rfl |rfl <;> rfl
   ·rw[hr,kno,List.append_nil,←hr];exact S1
  ·have hlen:=kev rest;have hpos:=kfs hr;obtain⟨z2,σ2,e2,g2,S2⟩:=qot out rest l hσ L S hr (by omega) (by omega);obtain⟨z',σ',rest',x3,x4,x5⟩:=ih (out++[(kap rest).1]) (kap rest).2 (by omega) (by rw[yah,yae];omega) S2.heap.inj (L.agree g2) S2;refine⟨z',σ',rest',e2.loop x3,g2.trans x4,?_⟩;rw[ki6 hr];rw[yam] at x5;exact x5
def CallEv [Gl] (F:Nat->Option AFn) (f:Nat) (args:List AV) (s:St) (v:AV) (s':St):Prop:=∃ n,kb1 F (KN F n) (exA F (KN F n) n) f args s=some (v,s')
section
variable {G:Gl} {F:Nat->Option AFn}
theorem CallEv.mk {f:Nat} {fn:AFn} {args:List AV} {s s1:St} {e:AE} {v:AV} (hF:F f=some fn) (hp:fn.pure=false) (hb:Ev F fn.body {r:=inits 0 args .nil,h:=s.h,nx:=s.nx} e s1) (he:e= .nrm\/e= .ret) (hr:kcg fn s1=some v):
  CallEv F f args s v {r:=s.r,h:=s1.h,nx:=s1.nx}:=by
 obtain⟨n,hb⟩:=hb;refine⟨n,?_⟩;unfold kb1;simp only[hF,hp,Bool.false_eq_true,if_false,hb];rcases he with rfl |rfl
 ·simp only[hr]
 ·simp only[hr]
theorem EvR.call {f:AO} {g:Nat} {first caps:List AV} {xs:List AO} {d:Option Nat} {ops:List AOper} {s s1 s2:St} {v:AV} (hf:f.ev s= .fn g first caps) (hc:CallEv F g (first++xs.map (AO.ev s)++caps) s v s1) (h:EvR F ops (s1.set d v) s2):EvR F (⟨d,.call f xs,none⟩::ops) s s2:=by
 obtain⟨n,h⟩:=h;obtain⟨m,hc⟩:=hc;refine⟨max n m,?_⟩;have x1:=kp5 (kbz (F:=F) (show m<=max n m by omega)) (kb0 (F:=F) (kbz (F:=F) (show m<=max n m by omega)) (show m<=max n m by omega)) hc;have x2:=kg4 (kbz (F:=F) (show n<=max n m by omega)) (kb0 (F:=F) (kbz (F:=F) (show n<=max n m by omega)) (show n<=max n m by omega)) h;simp only[kb7,kb8,if_true,kbi,keu,hf,x1];exact x2
theorem kvs (K:Nat->List AV->Option AV) (ex:AC->St->Option (AE×St)): ∀ (l1 l2:List AOper) (s:St),kb7 F K ex (l1++l2) s=match kb7 F K ex l1 s with
  |some s1=>kb7 F K ex l2 s1
  |none=>none
 | [],_,_=>rfl
 |o::l1,l2,s=>by
  simp only[yan,kb7];by_cases hw:kb8 s o.guard=true
  ·rw[iq hw,iq hw];cases kbi F K ex o.op s with
   |none=>rfl
   |some q=>exact kvs K ex l1 l2 _
  ·rw[ir hw,ir hw];exact kvs K ex l1 l2 _
theorem EvR.app {l1 l2:List AOper} {s s1 s2:St} (h1:EvR F l1 s s1) (h2:EvR F l2 s1 s2):EvR F (l1++l2) s s2:=by
 obtain⟨n,h1⟩:=h1;obtain⟨m,h2⟩:=h2;refine⟨max n m,?_⟩;have x1:=kg4 (kbz (F:=F) (show n<=max n m by omega)) (kb0 (F:=F) (kbz (F:=F) (show n<=max n m by omega)) (show n<=max n m by omega)) h1;have x2:=kg4 (kbz (F:=F) (show m<=max n m by omega)) (kb0 (F:=F) (kbz (F:=F) (show m<=max n m by omega)) (show m<=max n m by omega)) h2;rw[kvs,x1];exact x2
theorem Ev.regI {l:List AOper} {s s1:St} {e:AE} (h:Ev F (.reg l) s e s1):EvR F l s s1:=by
 obtain⟨n,h⟩:=h;cases n with
 |zero=>cases h
 |succ n=>
  simp only[exA] at h;split at h
  ·rename_i s2 hx;cases h;exact⟨n+1,kg4 (fun _ _ _ h=>h) (kb0 (F:=F) (fun _ _ _ h=>h) (yaq n)) hx⟩
  ·cases h
end
abbrev tb:Blk:= .cells tdZ false 26
theorem k6h (s:Bs) {z:St} {σ:Nat->Nat} (hσ: ∀ i j,σ i=σ j->i=j) (S:Sim (kal [.str s] [] [] σ 2) (kaa [0,1] [.im [] true,.fn 49 [] [.ptr 1 0]] [tb,.cells [vt 0] false 9]) z): ∃ z1,Ev FF (.seq asA asB) z .nrm z1/\Sim (kal [.str s] [] [] (sig σ [0,1,2] 3) 3) (kaa [2,6] [.ptr 2 0,.fn 49 [] [.ptr 1 0]] [tb,.cells [vt 0] false 9,.cells [.im [] true] false 56]) z1:=by
 have H:=Tok.start (G:=gl20) (F:=FF) hσ S 2 1 0 0 [.str s] [] [] .n .n rfl rfl;exact H.ev _ _ _ [0,1,2] [.ptr 2 0,.fn 49 [] [.ptr 1 0]] [tb,.cells [vt 0] false 9,.cells [.im [] true] false 56] 3 _ _ _
theorem k6b (rest:Bs) {z:St} {σ:Nat->Nat} (l:ALoop) (hσ: ∀ i j,σ i=σ j->i=j) (S:Sim (U0 [] rest σ) (kaa [2] [.ptr 2 0] (c0 l)) z): ∃ z1,Ev FF asE z .ret z1/\Sim (kal [] [] [] (sig σ [0] 4) 1) (kaa [4] [.im [] true] [tb]) z1:=by
 have H:=Tok.start (G:=gl20) (F:=FF) hσ S 4 1 0 0 [.str rest] [] [] .n .n rfl rfl;exact H.ev _ _ _ [0] [.im [] true] [tb] 4 _ _ _
theorem k6c (out:List Bs) (rest:Bs) {z:St} {σ:Nat->Nat} (l:ALoop) (hσ: ∀ i j,σ i=σ j->i=j) (S:Sim (U1 out rest σ) (kaa [2] [.ptr 2 0] (c1 l)) z): ∃ z1,Ev FF asE z .ret z1/\Sim (kal [] [] [(1,out.map eT)] (sig σ [0,4] 5) 2) (kaa [4] [.sl 1 0 1000001 1 none] [tb,.own 1000001 false 9]) z1:=by
 have H:=Tok.start (G:=gl20) (F:=FF) hσ S 5 1 0 1 [.str rest] [] [(0,1,out.map eT)] .n (.c (OkO.own kae _) .n) rfl rfl;exact H.ev _ _ _ [0,4] [.sl 4 0 1000001 1 none] [tb,.own 1000001 false 9] 5 _ _ _
theorem Sim.begin {ρ:Val} {bs:List Blk} {z:St} (S:Sim ρ (kaa [] [] bs) z) (ts:List Nat) (ws:List AV) (r:T AV) (hr: ∀ t v,(kaa ts ws bs).r.get t=some v->r.get t=some (gm ρ v)):Sim ρ (kaa ts ws bs) {r:=r,h:=z.h,nx:=z.nx}:=
 S.regs' (s':=kaa ts ws bs) (c':={r:=r,h:=z.h,nx:=z.nx}) hr rfl rfl rfl rfl
theorem Sim.bare {ρ:Val} {ts:List Nat} {ws:List AV} {bs:List Blk} {z:St} (S:Sim ρ (kaa ts ws bs) z) (r:T AV):Sim ρ (kaa [] [] bs) {r:=r,h:=z.h,nx:=z.nx}:=
 S.regs' (s':=kaa [] [] bs) (c':={r:=r,h:=z.h,nx:=z.nx}) (fun t u hu=>by rw[show(kaa [] [] bs).r.get t=none from T.get_nil _] at hu;cases hu) rfl rfl rfl rfl
def kw3 (s:Bs) (σ:Nat->Nat) (z':St) (v:AV):Prop:=∃ σ',σ' 0=σ 0/\
 ((s=[]/\v= .im [] true/\Sim (kal [] [] [] σ' 1) (kaa [] [] [tb]) z')\/
  (s≠[]/\v= .sl (σ' 1) 0 (kbf s).length 1 none/\Sim (kal [] [] [(1,(kbf s).map eT)] σ' 2) (kaa [] [] [tb,.own 1000001 false 9]) z'))
theorem k56 (s:Bs) (hl:s.length<=1000000) {z:St} {σ:Nat->Nat} (S:Sim (kal [.str s] [] [] σ 2) (kaa [] [] [tb,.cells [vt 0] false 9]) z):
  ∃ v z',CallEv FF 48 [.im [] true,.fn 49 [] [.ptr (σ 1) 0]] z v z'/\z'.r=z.r/\kw3 s σ z' v:=by
 have S0:=S.begin [0,1] [.im [] true,.fn 49 [] [.ptr 1 0]] (inits 0 [.im [] true,.fn 49 [] [.ptr (σ 1) 0]] .nil) (fun t u hu=>by
  have hm:=kbw (show(ofL ([0,1].zip [AV.im [] true,.fn 49 [] [.ptr 1 0]])).get t=some u from hu);simp only[yaf,yad,yaa,yac,yab,or_false] at hm;rw[ki2];rcases hm with⟨rfl,rfl⟩ | ⟨rfl,rfl⟩
  ·exact(by kernel_rfl:some (AV.im [] true)=some (gm (kal [.str s] [] [] σ 2) (.im [] true)))
  ·exact(by kernel_rfl:some (AV.fn 49 [] [.ptr (σ 1) 0])=some (gm (kal [.str s] [] [] σ 2) (.fn 49 [] [.ptr 1 0]))))
 obtain⟨z1,e1,S1⟩:=k6h (σ:=σ) s S.heap.inj S0;obtain⟨zA,kA,kB⟩:=e1.seqI;generalize hσ3:sig σ [0,1,2] 3=σ3 at S1;have g0:σ3 0=σ 0:=by subst hσ3;rfl
 have g1:σ3 1=σ 1:=by subst hσ3;rfl
 have hnx:σ3 3=z1.nx:=S1.nxs 0;have h6:(AO.t 6).ev z1= .fn 49 [] [.ptr (σ3 1) 0]:=kbs ((S1.regs 6 (.fn 49 [] [.ptr 1 0]) (by kernel_rfl)).trans (by kernel_rfl));have h2:z1.r.get 2=some (.ptr (σ3 2) 0):=(S1.regs 2 (.ptr 2 0) (by kernel_rfl)).trans (by kernel_rfl);have L:UOk σ3 {st:=0,pend:=none,r:=z1.r,ps:=[7],asg:=asG,body:=asH,nt:=13}:=⟨rfl,rfl,rfl,rfl,rfl,h2⟩;generalize hl0:({st:=0,pend:=none,r:=z1.r,ps:=[7],asg:=asG,body:=asH,nt:=13}:ALoop)=l0 at L;have SI:Sim (U0 [] s σ3) (kaa [0,1] u01 (c0 l0)) {r:=inits 0 (.yld z1.nx::[.ptr (σ3 1) 0]) .nil,h:=z1.h.put z1.nx (some (.loop l0)),nx:=z1.nx+1}:=by
  have S2:Sim _ ((kaa [2,6] [.ptr 2 0,.fn 49 [] [.ptr 1 0]] [tb,.cells [vt 0] false 9,.cells [.im [] true] false 56]).new (.loop l0)) (z1.new (.loop l0)):=Sim.new S1 (.loop l0);have S4:Sim (kal [.str s] [] [] σ3 3) {r:= .nil,h:=((kaa [2,6] [.ptr 2 0,.fn 49 [] [.ptr 1 0]] [tb,.cells [vt 0] false 9,.cells [.im [] true] false 56]).new (.loop l0)).h,nx:=4} {r:=inits 0 (.yld z1.nx::[.ptr (σ3 1) 0]) .nil,h:=z1.h.put z1.nx (some (.loop l0)),nx:=z1.nx+1}:=
   S2.regs' (fun t u hu=>by rw[show(({r:= .nil,h:=((kaa [2,6] [.ptr 2 0,.fn 49 [] [.ptr 1 0]] [tb,.cells [vt 0] false 9,.cells [.im [] true] false 56]).new (.loop l0)).h,nx:=4}:St)).r.get t=none from T.get_nil _] at hu;cases hu) rfl rfl rfl rfl
  refine S4.up (fun t u hu=> ?_) (by kernel_rfl) rfl rfl (yaq 3) (yar 4) rfl (by kernel_rfl);have hm:=kbw (show(ofL ([0,1].zip u01)).get t=some u from hu);simp only[u01,yaf,yad,yaa,yac,yab,or_false] at hm;show(inits 0 (.yld z1.nx::[.ptr (σ3 1) 0]) .nil).get t=_;rw[ki2,←hnx];rcases hm with⟨rfl,rfl⟩ | ⟨rfl,rfl⟩
  ·exact(by kernel_rfl:some (AV.yld (σ3 3))=some (gm (U0 [] s σ3) (.yld 3)))
  ·exact(by kernel_rfl:some (AV.ptr (σ3 1) 0)=some (gm (U0 [] s σ3) (.ptr 1 0)))
 have ring: ∀ {z':St},Ev FF (.loop lnX) {r:=inits 0 (.yld z1.nx::[.ptr (σ3 1) 0]) .nil,h:=z1.h.put z1.nx (some (.loop l0)),nx:=z1.nx+1} (.ext 0) z'->z'.h.get z1.nx=some (.loop l0)->
   Ev FF (.rngf 13 (.t 6) [7] asG asH) z1 .nrm {r:=z1.r,h:=z'.h.put z1.nx (some (.loop {l0 with st:=3})),nx:=z'.nx}:=fun {z'} he hz=>by
  have hp:AE.after l0.pend= .nrm:=by rw[L.pend];rfl
  have hs:l0.st≠1:=by rw[L.st];decide
  subst hl0;have:=Ev.rngf (fn:=kai FF 49) h6 (by kernel_rfl) (by kernel_rfl) (by kernel_rfl) (by rw[ky6];exact he.block) (.inl rfl) hz hs;rw[hp] at this;exact this
 have fin: ∀ {z' z2:St},Ev FF (.rngf 13 (.t 6) [7] asG asH) z1 .nrm z'->Ev FF asE z' .ret z2->CallEv FF 48 [.im [] true,.fn 49 [] [.ptr (σ 1) 0]] z (z2.rg 4) {r:=z.r,h:=z2.h,nx:=z2.nx}:=fun {z' z2} h3 h4=>by
  refine CallEv.mk (fn:=kai FF 48) (by kernel_rfl) (by kernel_rfl) (e:= .ret) ?_ (.inr rfl) (by kernel_rfl);rw[k6i];have hb:=(h3.block (id:=0));exact kA.seq ((kB.seq hb).seq h4)
 by_cases hs:s=[]
 ·obtain⟨z',e',S'⟩:=qoj (σ:=σ3) [] s l0 SI.heap.inj SI (by rw[hs];simp);have e'':Ev FF (.loop lnX) _ (.ext 0) z':=Ev.loopJ (e'.seqJ (by intro h;cases h)) (by intro h;cases h);have hz:z'.h.get z1.nx=some (.loop l0):=by
   rw[←hnx];exact S'.heap.get 3 (.loop l0) (by kernel_rfl)
  have S6:=S'.hp' 3 {l0 with st:=3} (i:=z1.nx) hnx;rw[show({kaa [] [] (c0 l0) with h:=(kaa [] [] (c0 l0)).h.put 3 (some (.loop {l0 with st:=3}))}:St)=kaa [] [] (c0 {l0 with st:=3}) by kernel_rfl] at S6;have S7:=S6.begin [2] [.ptr 2 0] z1.r (fun t u hu=>by
   have hm:=kbw (show(ofL ([2].zip [AV.ptr 2 0])).get t=some u from hu);simp only[yaf,yad,yaa,yac,yab,or_false] at hm;obtain⟨rfl,rfl⟩:=hm;exact h2)
  obtain⟨z2,e2,S8⟩:=k6b (σ:=sig σ3 [0,1,2,3] 4) s {l0 with st:=3} S7.heap.inj S7;refine⟨_,_,fin (ring e'' hz) e2,rfl,_,?_,.inl ⟨hs,kbs (S8.regs 4 (.im [] true) (by kernel_rfl)),S8.bare z.r⟩⟩;exact g0
 ·have hlen:=kev s;have hpos:=kfs hs;obtain⟨z2,σ2,e2,a2,S2⟩:=qos (σ:=σ3) [] s l0 SI.heap.inj L SI hs hl;obtain⟨z',σ',rest',x3,x4,x5⟩:=qop l0 s.length [(kap s).1] (kap s).2 (by omega) (by rw[yae];omega) (σ:=σ2) S2.heap.inj (L.agree a2) S2;have a4:=a2.trans x4;have h3:σ' 3=z1.nx:=(a4 3 (by decide)).trans hnx;have hz:z'.h.get z1.nx=some (.loop l0):=by
   rw[←h3];exact x5.heap.get 3 (.loop l0) (by kernel_rfl)
  have hlines:[(kap s).1]++kbf (kap s).2=kbf s:=(ki6 hs).symm;rw[hlines] at x5;have S6:=x5.hp' 3 {l0 with st:=3} (i:=z1.nx) h3;rw[show({kaa [] [] (c1 l0) with h:=(kaa [] [] (c1 l0)).h.put 3 (some (.loop {l0 with st:=3}))}:St)=kaa [] [] (c1 {l0 with st:=3}) by kernel_rfl] at S6;have S7:=S6.begin [2] [.ptr 2 0] z1.r (fun t u hu=>by
   have hm:=kbw (show(ofL ([2].zip [AV.ptr 2 0])).get t=some u from hu);simp only[yaf,yad,yaa,yac,yab,or_false] at hm;obtain⟨rfl,rfl⟩:=hm;have e2:=a4 2 (by decide);exact h2.trans (by rw[←e2];rfl))
  obtain⟨z3,e3,S8⟩:=k6c (σ:=σ') (kbf s) rest' {l0 with st:=3} S7.heap.inj S7;refine⟨_,_,fin (ring (e2.loop x3) hz) e3,rfl,sig σ' [0,4] 5,?_,.inr ⟨hs,?_,S8.bare z.r⟩⟩
  ·exact(a4 0 (by decide)).trans g0
  ·rw[kbs (S8.regs 4 (.sl 1 0 1000001 1 none) (by kernel_rfl))];rw[show(gm (kal [] [] [(1,(kbf s).map eT)] (sig σ' [0,4] 5) 2) (.sl 1 0 1000001 1 none))= .sl ((sig σ' [0,4] 5) 1) 0 ((kbf s).map eT).length 1 none by kernel_rfl,List.length_map]
theorem k65 (s:Bs) (hl:s.length<=1000000) {z:St} {σ:Nat->Nat} (S:Sim (kal [.str s] [] [] σ 2) (kaa [] [] [tb,.cells [vt 0] false 9]) z):
  ∃ v z',CallEv FF 21 [.fn 49 [] [.ptr (σ 1) 0]] z v z'/\z'.r=z.r/\kw3 s σ z' v:=by
 have hbody:(kai FF 21).body= .seq (.reg [⟨some 2,.mov (.c (.im [] true)),none⟩]) (.seq (.reg [⟨some 3,.mov (.t 0),none⟩,⟨some 4,.call (.c (.fn 48 [] [])) [.c (.im [] true),.t 3],none⟩,⟨some 2,.mov (.t 4),none⟩]) .ret):=by kernel_rfl
 generalize hr0:(((inits 0 [.fn 49 [] [.ptr (σ 1) 0]] .nil).put 2 (some (.im [] true))).put 3 (some (.fn 49 [] [.ptr (σ 1) 0])):T AV)=r1;obtain⟨v,z1,hc,hr,hR⟩:=k56 s hl (S.bare r1);obtain⟨z1r,z1h,z1n⟩:=z1;have hr:r1=z1r:=hr.symm;subst hr;refine⟨v,{r:=z.r,h:=z1h,nx:=z1n},?_,rfl,?_⟩
 ·have hev:Ev FF (kai FF 21).body {r:=inits 0 [.fn 49 [] [.ptr (σ 1) 0]] .nil,h:=z.h,nx:=z.nx} .ret {r:=(r1.put 4 (some v)).put 2 (some v),h:=z1h,nx:=z1n}:=by
   rw[hbody];refine Ev.seq (Ev.reg (EvR.op (v:= .im [] true) (s1:={r:=inits 0 [.fn 49 [] [.ptr (σ 1) 0]] .nil,h:=z.h,nx:=z.nx}) (fun _=>rfl) (EvR.nil _))) (Ev.seq (Ev.reg ?_) (Ev.ret _));refine EvR.op (v:= .fn 49 [] [.ptr (σ 1) 0]) (s1:={r:=(inits 0 [.fn 49 [] [.ptr (σ 1) 0]] .nil).put 2 (some (.im [] true)),h:=z.h,nx:=z.nx}) (fun _=>by kernel_rfl) ?_;refine EvR.call (g:=48) (first:=[]) (caps:=[]) (v:=v) (s1:={r:=r1,h:=z1h,nx:=z1n}) rfl ?_ ?_
   ·subst hr0;exact hc
   ·refine EvR.op (v:=v) (s1:={r:=r1.put 4 (some v),h:=z1h,nx:=z1n}) (fun _=> ?_) (EvR.nil _);show some (St.rg {r:=r1.put 4 (some v),h:=z1h,nx:=z1n} 4,_)=_;rw[kbs (show(St.mk (r1.put 4 (some v)) z1h z1n).r.get 4=some v by show(r1.put 4 (some v)).get 4=_;rw[T.get_put,iq rfl])];rfl
  have:=CallEv.mk (f:=21) (s:=z) (fn:=kai FF 21) (v:=v) (by kernel_rfl) (by kernel_rfl) hev (.inr rfl) (by
   have h2:(St.mk ((r1.put 4 (some v)).put 2 (some v)) z1h z1n).rg 2=v:=kbs (by show((r1.put 4 (some v)).put 2 (some v)).get 2=_;rw[T.get_put,iq rfl]);show(match mapO (kdi _) [(2,none)] with |some [v]=>some v |some vs=>some (.tup vs) |none=>none)=_;simp only[mapO,kdi,h2])
  exact this
 ·obtain⟨σ',h0,h⟩:=hR;refine⟨σ',h0,?_⟩;rcases h with⟨a,b,c⟩ | ⟨a,b,c⟩
  ·exact .inl ⟨a,b,c.bare z.r⟩
  ·exact .inr ⟨a,b,c.bare z.r⟩
theorem k0e (n:Nat) (out:List Cl) (a:Nat):kff n out a []=(out,a,0):=by
 cases n with
 |zero=>rfl
 |succ n=>unfold kff;rw[iq rfl]
theorem ksa {n:Nat} {out:List Cl} {a:Nat} {rest:List UInt8} (h:rest≠[]):kff (n+1) out a rest=
  if kau (kap rest).1=true then kff n (out++[kas (kap rest).1]) (a+(kap rest).1.length) (kap rest).2 else([],a,1):=by
 rw[kff,ir h]
theorem kxc: ∀ {u x:List UInt8},(10:UInt8) ∉ u->kap (u++10::x)=(u++[10],x)
 | [],x,_=>by unfold kap;rfl
 |c::u,x,h=>by
  simp only[yaa,not_or] at h;rw[yan,kap,ir (fun e=>h.1 e.symm),kxc h.2];rfl
theorem qa2 {c:Cl} (h:kdt c=true) (x:List UInt8):kap (kbo c++x)=(kbo c,x):=by
 have h0:(0<=c.no/\c.no<=9)/\inW c.a=true/\inW c.b=true:=by simpa[kdt] using h
 obtain⟨h1,h2,h3⟩:=h0;have k2: -9223372036854775808<=c.a/\c.a<=9223372036854775807:=by simp only[inW,decide_eq_true_eq] at h2;omega
 have k3: -9223372036854775808<=c.b/\c.b<=9223372036854775807:=by simp only[inW,decide_eq_true_eq] at h3;omega
 have e:kbo c=(ka9 c.no++32::(kab c.a++32::kab c.b))++[10]:=by simp[kbo]
 have hn:(10:UInt8) ∉ ka9 c.no++32::(kab c.a++32::kab c.b):=by
  simp only[List.mem_append,yaa,not_or];exact⟨(kpl h1).2.1,by decide,(kgx k2).2.1,by decide,(kgx k3).2.1⟩
 rw[e,yam,List.singleton_append,kxc hn]
theorem kzv: ∀ (cs:List Blk) (k i:Nat),(ofL (idx k cs)).get i=if k<=i then cs[i - k]? else none
 | [],k,i=>by
   show(T.nil:T Blk).get i=_;rw[T.get_nil];split <;> simp
 |b::cs,k,i=>by
  show((ofL (idx (k+1) cs)).put k (some b)).get i=_;rw[T.get_put,kzv cs (k+1) i];by_cases h:k=i
  ·subst h;rw[iq rfl,iq (yar _),Nat.sub_self];rfl
  ·rw[ir h];by_cases h2:k<=i
   ·rw[iq h2,iq (by omega),show i - k=(i - (k+1))+1 by omega,List.getElem?_cons_succ]
   ·rw[ir h2,ir (by omega)]
theorem kjo (ts:List Nat) (ws:List AV) (cs:List Blk) (i:Nat):(kaa ts ws cs).h.get i=cs[i]? :=by
 show(ofL (idx 0 cs)).get i=_;rw[kzv,iq (Nat.zero_le _),Nat.sub_zero]
def kcx (σ:Nat->Nat) (k:Nat):Nat->Nat:=fun i=>if i<k then σ i else σ (i+1)
theorem Sim.hide {ρ ρ':Val} {ts:List Nat} {ws:List AV} {cs cs':List Blk} {b:Blk} {z:St} (S:Sim ρ (kaa ts ws (cs++[b])) z) (hlo:ρ.lo=cs.length+1) (hlo':ρ'.lo=cs.length) (hσ:ρ'.σ=kcx ρ.σ cs.length) (hb:cs.map (gB ρ)=cs'.map (gB ρ')) (hh:ρ'.hid=(ρ.σ cs.length,gB ρ b)::ρ.hid):Sim ρ' (kaa [] [] cs') z:=by
 have hlen:cs'.length=cs.length:=by have:=congrArg yas hb;simpa using this.symm
 have hg: ∀ i,i<cs.length-> ∀ k,cs[i]? =some k->z.h.get (ρ.σ i)=some (gB ρ k):=fun i hi k hk=>S.heap.get i k (by rw[kjo,List.getElem?_append_left hi,hk])
 refine⟨fun t v hv=> ?_,⟨fun id k hk=> ?_,fun id h1 h2=> ?_,fun i j e=> ?_,fun p hp=> ?_⟩,fun i=> ?_,?_⟩
 ·rw[show(kaa [] [] cs').r.get t=none from T.get_nil _] at hv;cases hv
 ·rw[kjo] at hk;have hlt:id<cs.length:=by rw[←hlen];exact(List.getElem?_eq_some_iff.1 hk).1
  have e1:=congrArg (·[id]?) hb;simp only[yak,hk,yai hlt,yao,yal] at e1;rw[hσ];unfold kcx;rw[iq hlt,hg id hlt _ (yai hlt),e1]
 ·rw[hlo'] at h1;rw[hσ];unfold kcx;rw[ir (by omega)];refine S.heap.absent (id+1) (by omega) ?_;rw[kjo];exact List.getElem?_eq_none (by rw[yah,yae];omega)
 ·rw[hσ] at e;unfold kcx at e;split at e <;> split at e
  ·exact S.heap.inj _ _ e
  ·have:=S.heap.inj _ _ e;omega
  ·have:=S.heap.inj _ _ e;omega
  ·have:=S.heap.inj _ _ e;omega
 ·rw[hh] at hp;rcases yaa.1 hp with rfl |hp
  ·refine⟨S.heap.get cs.length b (by rw[kjo];simp),fun i e=> ?_⟩;rw[hσ] at e;unfold kcx at e;split at e
   ·have:=S.heap.inj _ _ e;omega
   ·have:=S.heap.inj _ _ e;omega
  ·refine⟨(S.heap.hid p hp).1,fun i=> ?_⟩;rw[hσ];unfold kcx;split
   ·exact(S.heap.hid p hp).2 _
   ·exact(S.heap.hid p hp).2 _
 ·show ρ'.σ (cs'.length+i)=z.nx+i;rw[hσ,hlen];unfold kcx;rw[ir (by omega),←S.nxs i];congr 1;show cs.length+i+1=(cs++[b]).length+i;rw[yah,yae];omega
 ·rw[hlo'];show cs.length<=cs'.length;omega
theorem koc {l:Bs} (h:kap l=(l,[])) (hne:l≠[]):kfw l=if kau l=true then([kas l],l.length,0) else([],0,1):=by
 have hp:0<l.length:=yag.2 hne;unfold kfw;rw[ksa hne,h];by_cases hk:kau l=true
 ·rw[iq hk,iq hk,yap];show kff l.length [kas l] (0+l.length) []=_;rw[k0e,Nat.zero_add]
 ·rw[ir hk,ir hk]
theorem kob {l:Bs} (h:kap l=(l,[])) (hne:l≠[]) (hl:l.length<=1000000) (hk:kau l=true):kak FF 77 [.str l] (.tup [.im [[.int .i64 (kas l).no,.int .i64 (kas l).a,.int .i64 (kas l).b]] false,.int .i64 (l.length:Int),.int .i64 0]):=by
 have:=k0g l hl;rw[koc h hne,iq hk] at this;exact this
theorem kkj {l:Bs} (h:kap l=(l,[])) (hne:l≠[]) (hl:l.length<=1000000) (hk: ¬kau l=true):kak FF 77 [.str l] (.tup [.im [] true,.int .i64 0,.int .i64 1]):=by
 have:=k0g l hl;rw[koc h hne,ir hk] at this;exact this
theorem krz: ∀ (n:Nat) (s:Bs),s.length<n-> ∀ l ∈ kbf s,kap l=(l,[])/\l≠[]/\l.length<=s.length
 |0,_,h=>by omega
 |n+1,s,h=>by
  intro l hl;by_cases hs:s=[]
  ·subst hs;cases hl
  ·have hlen:=kev s;have hpos:=kfs hs;rw[ki6 hs] at hl;rcases yaa.1 hl with rfl |hl
   ·refine⟨?_,fun e=>by rw[e] at hpos;simp at hpos,by omega⟩;rcases k7b s with⟨p,h1,h2⟩ | ⟨h1,_⟩
    ·rw[h1];exact kxd h2
    ·exact kxe h1
   ·obtain⟨a,b,c⟩:=krz n _ (by omega) l hl;exact⟨a,b,by omega⟩
end Go.Proofs.Hz
