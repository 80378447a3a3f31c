/-
  Runs in pieces: what a piece of code comes to; loops over functions; a symbolic run of a piece.
  Conditions: none.
-/
import Derived.Test.YtamikoglpnoicaaGreatDoorT21
namespace Go.Proofs.Hz
open List renaming getElem?_map->yac,all_eq_true->yae
open Nat renaming le_succ->yaa,le_refl->yab
open Option renaming map_some->yaf
open Option.some renaming injEq->yad
def Ev [Gl] (F:Nat->Option AFn) (c:AC) (s:St) (e:AE) (s':St):Prop:=∃ n,exA F (KN F n) n c s=some (e,s')
def EvR [Gl] (F:Nat->Option AFn) (ops:List AOper) (s s':St):Prop:=∃ n,kb7 F (KN F n) (exA F (KN F n) n) ops s=some s'
def Rnd [Gl] (F:Nat->Option AFn) (id:Nat) (args:List AV) (s:St) (v:AV) (s':St):Prop:=∃ n,ke5 (exA F (KN F n) n) id args s=some (v,s')
section
variable {G:Gl} {F:Nat->Option AFn}
theorem kxt {n m:Nat} (h:n<=m) {c:AC} {s s':St} {e:AE} (hx:exA F (KN F n) n c s=some (e,s')):exA F (KN F m) m c s=some (e,s'):=kb0 (kbz h) h _ _ _ hx
theorem Ev.skip (s:St):Ev F .skip s .nrm s:=⟨1,rfl⟩
theorem Ev.ret (s:St):Ev F .ret s .ret s:=⟨1,rfl⟩
theorem Ev.exit (id:Nat) (s:St):Ev F (.exit id) s (.ext id) s:=⟨1,rfl⟩
theorem kqw (K:Nat->List AV->Option AV) (n:Nat) (a b:AC) (s:St):exA F K (n+1) (.seq a b) s=match exA F K n a s with
 |some (.nrm,s1)=>exA F K n b s1
 |r=>r:=rfl
theorem Ev.seq {a b:AC} {s s1 s2:St} {e:AE} (h1:Ev F a s .nrm s1) (h2:Ev F b s1 e s2):Ev F (.seq a b) s e s2:=by
 obtain⟨n,h1⟩:=h1;obtain⟨m,h2⟩:=h2;refine⟨max n m+1,?_⟩;have x1:=kb0 (F:=F) (kbz (F:=F) (show n<=max n m+1 by omega)) (show n<=max n m by omega) _ _ _ h1;have x2:=kb0 (F:=F) (kbz (F:=F) (show m<=max n m+1 by omega)) (show m<=max n m by omega) _ _ _ h2;rw[kqw,x1];exact x2
theorem Ev.seqJ {a b:AC} {s s1:St} {e:AE} (h1:Ev F a s e s1) (he:e≠ .nrm):Ev F (.seq a b) s e s1:=by
 obtain⟨n,h1⟩:=h1;refine⟨n+1,?_⟩;have x1:=kb0 (F:=F) (kbz (F:=F) (yaa n)) (yab n) _ _ _ h1;rw[kqw,x1];cases e with
 |nrm=>exact absurd rfl he
 |ext i=>rfl
 |gto l=>rfl
 |ret=>rfl
theorem Ev.seqI {a b:AC} {s s2:St} (h:Ev F (.seq a b) s .nrm s2): ∃ s1,Ev F a s .nrm s1/\Ev F b s1 .nrm s2:=by
 obtain⟨n,h⟩:=h;cases n with
 |zero=>cases h
 |succ n=>
  rw[kqw] at h;split at h
  ·rename_i s1 hx;exact⟨s1,⟨n+1,kb0 (F:=F) (fun _ _ _ h=>h) (yaa n) _ _ _ hx⟩,⟨n+1,kb0 (F:=F) (fun _ _ _ h=>h) (yaa n) _ _ _ h⟩⟩
  ·rename_i hne;exact absurd h (hne s2)
theorem Ev.assoc {a b c:AC} {s s1 s2:St} {e:AE} (h1:Ev F (.seq a b) s .nrm s1) (h2:Ev F c s1 e s2):Ev F (.seq a (.seq b c)) s e s2:=by
 obtain⟨s0,x,y⟩:=h1.seqI;exact x.seq (y.seq h2)
theorem k75 (K:Nat->List AV->Option AV) (n id:Nat) (b:AC) (s:St):exA F K (n+1) (.block id b) s=match exA F K n b s with
 |some (.ext j,s1)=>if j=id then some (.nrm,s1) else some (.ext j,s1)
 |r=>r:=rfl
def AE.out (id:Nat):AE->AE
 | .ext j=>if j=id then .nrm else .ext j
 |e=>e
theorem Ev.block {id:Nat} {b:AC} {s s1:St} {e:AE} (h:Ev F b s e s1):Ev F (.block id b) s (e.out id) s1:=by
 obtain⟨n,h⟩:=h;refine⟨n+1,?_⟩;rw[k75,kb0 (F:=F) (kbz (F:=F) (yaa n)) (yab n) _ _ _ h];cases e with
 |nrm=>rfl
 |ext j=>simp only[AE.out];split <;> rfl
 |gto l=>rfl
 |ret=>rfl
theorem kxs (K:Nat->List AV->Option AV) (n:Nat) (b:AC) (s:St):exA F K (n+1) (.loop b) s=match exA F K n b s with
 |some (.nrm,s1)=>exA F K n (.loop b) s1
 |r=>r:=rfl
theorem Ev.loop {b:AC} {s s1 s2:St} {e:AE} (h1:Ev F b s .nrm s1) (h2:Ev F (.loop b) s1 e s2):Ev F (.loop b) s e s2:=by
 obtain⟨n,h1⟩:=h1;obtain⟨m,h2⟩:=h2;refine⟨max n m+1,?_⟩;have x1:=kb0 (F:=F) (kbz (F:=F) (show n<=max n m+1 by omega)) (show n<=max n m by omega) _ _ _ h1;have x2:=kb0 (F:=F) (kbz (F:=F) (show m<=max n m+1 by omega)) (show m<=max n m by omega) _ _ _ h2;rw[kxs,x1];exact x2
theorem Ev.loopJ {b:AC} {s s1:St} {e:AE} (h1:Ev F b s e s1) (he:e≠ .nrm):Ev F (.loop b) s e s1:=by
 obtain⟨n,h1⟩:=h1;refine⟨n+1,?_⟩;have x1:=kb0 (F:=F) (kbz (F:=F) (yaa n)) (yab n) _ _ _ h1;rw[kxs,x1];cases e with
 |nrm=>exact absurd rfl he
 |ext i=>rfl
 |gto l=>rfl
 |ret=>rfl
theorem Ev.cond {x:AO} {a b:AC} {t:Bool} {s s1:St} {e:AE} (hx:x.ev s= .bool t) (h:Ev F (if t then a else b) s e s1):Ev F (.cond x a b) s e s1:=by
 obtain⟨n,h⟩:=h;refine⟨n+1,?_⟩;have x1:=kb0 (F:=F) (kbz (F:=F) (yaa n)) (yab n) _ _ _ h;simp only[exA,hx];cases t with
 |true=>exact x1
 |false=>exact x1
theorem Ev.reg {ops:List AOper} {s s1:St} (h:EvR F ops s s1):Ev F (.reg ops) s .nrm s1:=by
 obtain⟨n,h⟩:=h;refine⟨n+1,?_⟩;simp only[exA];rw[kg4 (kbz (yaa n)) (kb0 (kbz (yaa n)) (yab n)) h]
theorem EvR.nil (s:St):EvR F [] s s:=⟨0,rfl⟩
theorem EvR.op {o:AOp} {d:Option Nat} {ops:List AOper} {s s1 s2:St} {v:AV} (hc: ∀ n,kbi F (KN F n) (exA F (KN F n) n) o s=some (v,s1)) (h:EvR F ops (s1.set d v) s2):EvR F (⟨d,o,none⟩::ops) s s2:=by
 obtain⟨n,h⟩:=h;refine⟨n,?_⟩;simp only[kb7,kb8,if_true,hc n];exact h
theorem EvR.round {f:AO} {as:List AO} {d:Option Nat} {id:Nat} {ops:List AOper} {s s1 s2:St} {v:AV} (hf:f.ev s= .yld id) (hr:Rnd F id (as.map (AO.ev s)) s v s1) (h:EvR F ops (s1.set d v) s2):EvR F (⟨d,.call f as,none⟩::ops) s s2:=by
 obtain⟨n,h⟩:=h;obtain⟨m,hr⟩:=hr;refine⟨max n m,?_⟩;have x1:=k35 (kb0 (F:=F) (kbz (F:=F) (show m<=max n m by omega)) (show m<=max n m by omega)) hr;have x2:=kg4 (kbz (F:=F) (show n<=max n m by omega)) (kb0 (F:=F) (kbz (F:=F) (show n<=max n m by omega)) (show n<=max n m by omega)) h;simp only[kb7,kb8,if_true,kbi,keu,hf,x1];exact x2
theorem Rnd.mk {id:Nat} {args:List AV} {s s1 s2:St} {l l1 l2:ALoop} {e:AE} (h0:s.h.get id=some (.loop l)) (hl:l.ps.length=args.length)
  (ha:Ev F l.asg {r:=kel l.r l.ps args,h:=s.h,nx:=s.nx} .nrm s1) (h1:s1.h.get id=some (.loop l1)) (hs:l1.st=0)
  (hb:Ev F l.body (s1.hp id (.loop {l1 with st:=1})) e s2) (h2:s2.h.get id=some (.loop l2)):
  Rnd F id args s (.bool e.jump.isNone) {r:=s.r,h:=s2.h.put id (some (.loop {l2 with st:=if e.jump.isNone then 0 else 2,pend:=e.jump})),nx:=s2.nx}:=by
 obtain⟨n,ha⟩:=ha;obtain⟨m,hb⟩:=hb;refine⟨max n m,?_⟩;have x1:=kxt (show n<=max n m by omega) ha;have x2:=kxt (show m<=max n m by omega) hb;unfold ke5;rw[h0];simp only;rw[iq hl,x1];simp only[h1];rw[iq hs,x2];simp only[h2]
def AE.after:Option AE->AE
 |none=> .nrm
 |some e=>e
theorem Ev.rngf {nt:Nat} {f:AO} {ps:List Nat} {asg body:AC} {s s1:St} {g:Nat} {caps:List AV} {fn:AFn} {e1:AE} {l1:ALoop} (hf:f.ev s= .fn g [] caps) (hF:F g=some fn) (hp:fn.pure=false) (hr:fn.res=[])
  (hb:Ev F fn.body {r:=inits 0 (.yld s.nx::caps) .nil,h:=s.h.put s.nx (some (.loop {st:=0,pend:=none,r:=s.r,ps:=ps,asg:=asg,body:=body,nt:=nt})),nx:=s.nx+1} e1 s1)
  (he:e1= .nrm\/e1= .ret) (h1:s1.h.get s.nx=some (.loop l1)) (hs:l1.st≠1):
  Ev F (.rngf nt f ps asg body) s (AE.after l1.pend) {r:=s.r,h:=s1.h.put s.nx (some (.loop {l1 with st:=3})),nx:=s1.nx}:=by
 obtain⟨n,hb⟩:=hb;refine⟨n+1,?_⟩;have x1:=kb0 (F:=F) (kbz (F:=F) (yaa n)) (yab n) _ _ _ hb;have hc:kf5 F (KN F (n+1)) (exA F (KN F (n+1)) n) (f.ev s) [.yld s.nx] (s.new (.loop {st:=0,pend:=none,r:=s.r,ps:=ps,asg:=asg,body:=body,nt:=nt}))=some (.tup [],{r:=s.r,h:=s1.h,nx:=s1.nx}):=by
  rw[hf];unfold kf5 kb1;simp only[hF,hp,List.nil_append,List.singleton_append,Bool.false_eq_true,if_false];have x2:exA F (KN F (n+1)) n fn.body {r:=inits 0 (.yld s.nx::caps) .nil,h:=(s.new (.loop {st:=0,pend:=none,r:=s.r,ps:=ps,asg:=asg,body:=body,nt:=nt})).h,nx:=(s.new (.loop {st:=0,pend:=none,r:=s.r,ps:=ps,asg:=asg,body:=body,nt:=nt})).nx}=some (e1,s1):=x1;rw[x2];have hres:kcg fn s1=some (.tup []):=by unfold kcg;rw[hr];rfl
  rcases he with rfl |rfl
  ·simp only[hres];rfl
  ·simp only[hres];rfl
 simp only[exA];rw[hc];simp only[h1];rw[ir hs];cases hpd:l1.pend with
 |none=>simp only[AE.after]
 |some e=>simp only[AE.after]
theorem kc0 {fn:AFn} {k:List Fr} {a b:AC} {s s1:St} {r:AV} (h1:Ev F a s .nrm s1) (h2:J F fn k (.code b) s1 r):J F fn k (.code (.seq a b)) s r:=by
 obtain⟨n,h1⟩:=h1;refine kmh (fun m r hr=> ?_) h2;obtain⟨m',hm⟩:=kkp (k:= .sq b::k) h1 (m:=m) (r:=r) hr;exact⟨m'+1,k4c hm⟩
theorem kjt {fn:AFn} {k:List Fr} {a b:AC} {s s1:St} {e:AE} {r:AV} (h1:Ev F a s e s1) (he:e≠ .nrm) (h2:J F fn k (.sig e) s1 r):J F fn k (.code (.seq a b)) s r:=by
 obtain⟨n,h1⟩:=h1.seqJ (b:=b) he;exact kmh (fun m r hr=>kkp h1 hr) h2
def krq (ts ids:List Nat):Option (AE×St)->Option (AE×List AV×List Blk×Nat)
 |some (e,s)=>match mapO s.r.get ts,mapO s.h.get ids with
  |some vs,some bs=>if s.h.dom.all (fun i=>decide (i<s.nx)) && (decide ids.Nodup && ids.all (fun i=>decide (i<s.nx))) then some (e,vs,bs,s.nx) else none
  |_,_=>none
 |_=>none
theorem k5l {ρ:Val} {Φ:Facts} (H:Hold F ρ Φ) {n:Nat} {a:AC} {e:AE} {s c:St} (S:Sim ρ s c) {ts ids:List Nat} {vs:List AV} {bs:List Blk} {nx:Nat}
  (h:krq ts ids (exS Φ F (kej Φ.calls) n a s)=some (e,vs,bs,nx)) (ws:List AV) (cs:List Blk) (ρ':Val) {X:List AV} {Y:List Blk}
  (hσ:ρ'.σ=sig ρ.σ ids nx) (hlo:ρ'.lo=cs.length) (hh:ρ'.hid=ρ.hid) (hv1:vs.map (gm ρ)=X) (hv2:ws.map (gm ρ')=X) (hb1:bs.map (gB ρ)=Y) (hb2:cs.map (gB ρ')=Y):
  ∃ c1,Ev F a c e c1/\Sim ρ' (kaa ts ws cs) c1:=by
 have hv:=hv1.trans hv2.symm;have hb:=hb1.trans hb2.symm;unfold krq at h;split at h
 ·rename_i e2 s2 hx;split at h
  ·rename_i vs2 bs2 h1 h2;split at h
   ·rename_i hc;cases h;simp only[Bool.and_eq_true,decide_eq_true_eq] at hc;obtain⟨hd,hn,hl⟩:=hc;have hl': ∀ i ∈ ids,i<s2.nx:=fun i hi=>by simpa using yae.1 hl i hi
    obtain⟨v1,v2⟩:=kls h1;obtain⟨b1,b2⟩:=kls h2;have hcl:cs.length=ids.length:=by rw[←b1];have:=congrArg List.length hb;simpa using this.symm
    obtain⟨N,hN⟩:=knf H.calls;have hex:=kqx (F:=F) H.good H.ops H.apps H.apns (KS:=kej Φ.calls) (K:=KN F N) (fun f as r h=>hN _ (knq h));obtain⟨c1,hc1,S1⟩:=hex n _ _ _ _ _ hx S;have hinj: ∀ i j,ρ'.σ i=ρ'.σ j->i=j:=by rw[hσ];exact kv3 H.good.1.inj hn hl'
    refine⟨c1,⟨max N n,kb0 (F:=F) (kbz (F:=F) (show N<=max N n by omega)) (show n<=max N n by omega) _ _ _ hc1⟩,?_⟩;refine⟨fun t v hv'=> ?_,⟨fun id k hk=> ?_,fun id hid hno=> ?_,hinj,fun p hp=> ?_⟩,fun i=> ?_,?_⟩
    ·have hm:=kbw (show(ofL (ts.zip ws)).get t=some v from hv');obtain⟨j,hj1⟩:=List.getElem?_of_mem hm;rw[List.getElem?_zip_eq_some] at hj1;obtain⟨u,hu1,hu2⟩:=v2 j t hj1.1;have e1:=congrArg (·[j]?) hv;simp only[yac,hu1,hj1.2,yaf,yad] at e1;rw[S1.regs t u hu2,e1]
    ·have hm:=kbw (show(ofL (idx 0 cs)).get id=some k from hk);obtain⟨_,hj1⟩:=klm hm;rw[Nat.sub_zero] at hj1;have hlt:id<ids.length:=by rw[←hcl];exact(List.getElem?_eq_some_iff.1 hj1).1
     obtain⟨u,hu1,hu2⟩:=b2 id (ids.getD id 0) (by rw[List.getD_eq_getElem?_getD,List.getElem?_eq_getElem hlt];rfl);have e1:=congrArg (·[id]?) hb;simp only[yac,hu1,hj1,yaf,yad] at e1;have:ρ'.σ id=ρ.σ (ids.getD id 0):=by rw[hσ];unfold sig;rw[iq hlt]
     rw[this,S1.heap.get _ _ hu2,e1]
    ·rw[hlo] at hid;have hge: ¬id<ids.length:=by omega
     have:ρ'.σ id=ρ.σ (s2.nx+(id - ids.length)):=by rw[hσ];unfold sig;rw[ir hge]
     rw[this];refine S1.heap.absent _ (Nat.le_trans S1.lo (Nat.le_add_right _ _)) ?_;cases hg:s2.h.get (s2.nx+(id - ids.length)) with
     |none=>rfl
     |some k=>
      have:=yae.1 hd _ (T.mem_dom hg);simp at this;omega
    ·rw[hh] at hp;refine⟨(S1.heap.hid p hp).1,fun i=> ?_⟩;rw[hσ];unfold sig;split
     ·exact(S1.heap.hid p hp).2 _
     ·exact(S1.heap.hid p hp).2 _
    ·show ρ'.σ (cs.length+i)=c1.nx+i;rw[hσ];unfold sig;rw[ir (by omega),show s2.nx+(cs.length+i - ids.length)=s2.nx+i by omega];exact S1.nxs i
    ·rw[hlo];exact yab _
   ·cases h
  ·cases h
 ·cases h
theorem Tok.ev {σ:Nat->Nat} {lo:Nat} {s0 z:St} {A:As} {Φ:Facts} (H:Tok F σ lo s0 z A Φ) (a:AC) (e:AE) (ts ids:List Nat) (vs:List AV) (bs:List Blk) (nx:Nat) (ws:List AV) (cs:List Blk) (ρ':Val)
  (h:krq ts ids (exS Φ F (kej Φ.calls) 4000 a s0)=some (e,vs,bs,nx):=by as_aux_lemma=>kernel_rfl)
  (hσ:ρ'.σ=sig σ ids nx:=by kernel_rfl) (hlo:ρ'.lo=cs.length:=by kernel_rfl) (hv:vs.map (gm (A.val0 σ lo))=ws.map (gm ρ'):=by as_aux_lemma=>kernel_rfl) (hb:bs.map (gB (A.val0 σ lo))=cs.map (gB ρ'):=by as_aux_lemma=>kernel_rfl) (hh:ρ'.hid=A.hid:=by rfl): ∃ z1,Ev F a z e z1/\Sim ρ' (kaa ts ws cs) z1:=
 k5l H.all.1 H.all.2 h ws cs ρ' hσ hlo hh hv rfl hb rfl
theorem Sim.regs' {ρ:Val} {s c s' c':St} (S:Sim ρ s c) (hr: ∀ t v,s'.r.get t=some v->c'.r.get t=some (gm ρ v)) (h1:s'.h=s.h) (h2:c'.h=c.h) (h3:s'.nx=s.nx) (h4:c'.nx=c.nx):Sim ρ s' c':=
 ⟨hr,by rw[h1,h2];exact S.heap,by rw[h3,h4];exact S.nxs,by rw[h3];exact S.lo⟩
theorem Sim.put' {ρ:Val} {s c:St} (S:Sim ρ s c) (id:Nat) (b:Blk):Sim ρ {s with h:=s.h.put id (some b)} {c with h:=c.h.put (ρ.σ id) (some (gB ρ b))}:=
 ⟨S.regs,S.heap.put id b,S.nxs,S.lo⟩
end
end Go.Proofs.Hz
