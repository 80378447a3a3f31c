/-
  The evaluator is sound: what 'callN' answers, the machine's call returns, and what lay in memory before lies there still.
  Conditions: none.
-/
import Derived.Test.YtamikoglpnoicaaGreatDoorT16
namespace Go.Proofs.Hz
open Ids renaming none->yab
open Ren renaming none->yaa
open Go.RowKit
section
variable {G:Gl} {P:Program} {D D':Nat->Prop} {ρ ρ':Ren} {w w':World} {V V':Ids} {s s' s1:St} {a:Act} {m nt:Nat}
 {F:Nat->Option AFn} {KK:Nat->List AV->Option AV} {pu:Nat->Nat}
theorem kqg:Dom D ρ (fun _=>False)=D:=by
 funext b;simp[Dom]
theorem kq8 {h:T Blk} (H:HRel (C0 P pu) D w V ρ h) {M:Nat->Prop} {n:Nat} {args as:List AV} {vals:List Value} (hin: ∀ x ∈ args,kcp M h n x) (e:mapO (frz h n) args=some as) (hR:RL D w V ρ args vals):RL (Dom D ρ M) w yab yaa as vals:=by
 obtain⟨h1,h2⟩:=ki8 e;refine⟨h1.symm.trans hR.1,fun j x y hx hy=> ?_⟩;have hlt:j<args.length:=by rw[h1];exact(List.getElem?_eq_some_iff.1 hx).1
 have hlj:=List.getElem?_eq_getElem hlt;exact kra H (hin _ (List.getElem_mem hlt)) (h2 j _ x hlj hx) (hR.2 j _ y hlj hy)
theorem kxu {M:Nat->Prop} (e:Ext (Dom D ρ M) yaa w yab D' yaa w' yab):Ext D ρ w V D' ρ w' V where
 ids:=fun _ h=>h
 os:=e.os
 tape:=e.tape
 output:=e.output
 size:=e.size
 sub:=fun b hb=>e.sub b (.inl hb)
 frame:=fun b hb _=>e.frame b hb (.inr fun id=>by simp[yaa])
 shape:=fun b real ty mk hb=>⟨real,mk,(e.frame b (Array.getElem?_eq_some_iff.1 hb).1 (.inr fun id=>by simp[yaa])).trans hb,rfl⟩
 loops:=fun b r hb=>⟨r,(e.frame b (Array.getElem?_eq_some_iff.1 hb).1 (.inr fun id=>by simp[yaa])).trans hb,rfl⟩
 ren:=fun _ _ _ h=>h
 new:=fun id _ h=> .inl ⟨id,h⟩
 dnew:=fun b hb=>by
  rcases e.dnew b hb with(h | ⟨id,_,h⟩) | ⟨i,hi⟩ |h
  ·exact .inl h
  ·exact .inr (.inl ⟨id,h⟩)
  ·simp[yaa] at hi
  ·exact .inr (.inr h)
theorem k0u {M:Nat->Prop} {h':T Blk} (H:HRel (C0 P pu) (Dom D ρ M) w V ρ h') (db: ∀ b,Dom D ρ M b->b<w.heap.size) {r:AV} {val:Value} (hv:R D' w' yab yaa r val)
  (e:Ext (Dom D ρ M) yaa w yab D' yaa w' yab) (db': ∀ b,D' b->b<w'.heap.size):Post P pu D ρ w V s {s with h:=h'} r val w' D' ρ V where
 val:=hv.any
 heap:={
  lo:=H.lo
  dom:=H.dom
  inj:=H.inj
  bk:=fun id k hk=>by
   obtain⟨b,hb,hB⟩:=H.bk id k hk;have e2:Ext (Dom D ρ M) ρ w V D' ρ w' V:=by
    have e3:Ext (Dom (Dom D ρ M) ρ (fun _=>False)) yaa w yab D' yaa w' yab:=by rw[kqg];exact e
    exact kxu e3
   refine⟨b,hb,hB.ext e2 db (e.frame b (H.blt hb) (.inr fun id=>by simp[yaa])) fun hd=> ?_⟩;rcases e.dnew b hd with h | ⟨i,hi⟩ |h
   ·exact h
   ·simp[yaa] at hi
   ·exact absurd (H.blt hb) (Nat.not_lt.2 h)}
 ext:=kxu e
 nx:=Nat.le_refl _
 ids:=fun _ h=> .inl h
 db:=db'
theorem k8s {r:AV} {v:Value} (hf:r.flat=true) (h:R D w V ρ r v):R D' w' V' ρ' r v:=by
 cases h <;> simp only[AV.flat,Bool.false_eq_true] at hf
 ·exact .bool _
 ·exact .int _ _
 ·exact .str _ (by assumption)
 ·rename_i cs vs hl hx;refine .tup hl fun j x y hxj hyj=> ?_
  have h1:=hx j x y hxj hyj;have h2:=List.all_eq_true.1 hf x (List.mem_of_getElem? hxj);cases h1 <;> first |exact .bool _ |exact .int _ _ |exact .str _ (by assumption) |(simp at h2)
theorem k6w {n:Nat} (hF:FOk P pu F) (hK:KOk P KK) (hC: ∀ k,k<n->keq P pu (kb1 F KK (exA F KK k))):keq P pu (kb1 F KK (exA F KK n)):=by
 intro D ρ w V s s' g args vals v H db gl top hR he;unfold kb1 at he;split at he
 ·cases he
 ·rename_i af haf;split at he
  ·split at he
   ·cases he
   ·rename_i as has;split at he
    ·cases he
    ·rename_i r hr;split at he
     ·rename_i hfl;cases he;simp only[Bool.or_eq_true,Bool.not_eq_true'] at hfl;rcases hfl with hfl |hfl
      ·have hR2:=kq8 H (M:=fun _=>True) (fun x _=>ki1 _ _ x) has hR;have db2: ∀ b,Dom D ρ (fun _=>True) b->b<w.heap.size:=fun b hb=>hb.elim (db b) fun⟨id,_,h⟩=>H.blt h
       obtain⟨hfn,hcall⟩:=hK g hr db2 (gl.sub fun _ h=> .inl h) hR2;refine⟨hfn,fun j=>CallsIn.mono (hcall j) fun e w' ⟨val,D',he,hv,hx,hd⟩=> ?_⟩;have fr: ∀ b,b<w.heap.size->w'.heap[b]? =w.heap[b]? :=fun b hb=>hx.frame b hb (.inr fun id=>by simp[yaa])
       have e2:Ext D ρ w V D ρ w' V:=⟨fun _ h=>h,hx.os,hx.tape,hx.output,hx.size,fun _ h=>h,fun b hb _=>fr b hb,fun b real ty mk hb=>⟨real,mk,(fr b (Array.getElem?_eq_some_iff.1 hb).1).trans hb,rfl⟩,fun b r hb=>⟨r,(fr b (Array.getElem?_eq_some_iff.1 hb).1).trans hb,rfl⟩,fun _ _ _ h=>h,fun id _ h=> .inl ⟨id,h⟩,fun _ h=> .inl h⟩;refine⟨val,D,ρ,V,he,k8s hfl hv,⟨H.lo,H.dom,H.inj,fun id k hk=> ?_⟩,e2,Nat.le_refl _,fun _ h=> .inl h,fun b hb=>Nat.lt_of_lt_of_le (db b hb) hx.size⟩;obtain⟨b,hb,hB⟩:=H.bk id k hk;exact⟨b,hb,hB.ext e2 db (fr b (H.blt hb)) fun h=>h⟩
      ·have hR2:=kq8 H (M:=fun _=>False) (fun x hx=>klk _ _ _ x (by
        rw[List.any_eq_false] at hfl;simpa using hfl x hx)) has hR
       have H2:HRel (C0 P pu) (Dom D ρ fun _=>False) w V ρ s.h:=by rw[kqg];exact H
       have db2: ∀ b,Dom D ρ (fun _=>False) b->b<w.heap.size:=by rw[kqg];exact db
       obtain⟨hfn,hcall⟩:=hK g hr db2 (gl.sub fun _ h=> .inl h) hR2;exact⟨hfn,fun j=>CallsIn.mono (hcall j) fun e w' ⟨val,D',he,hv,hx,hd⟩=>⟨val,D',ρ,V,he,k0u (s:=s) H2 db2 hv hx hd⟩⟩
     ·split at he
      ·rename_i h1 hz;cases he;have key: ∀ {l:List AV} {g g':T Blk},MarkRel s.h g->fzL (fzs kbu) g l=some g'->MarkRel g g'/\ ∀ M:Nat->Prop,(∀ id,Mk g' id->M id)-> ∀ x ∈ l,kcp M s.h kbu x:=fun hg e=>krg (fun g g' v=>kyb kbu g g' v) hg e
       obtain⟨k1,k2⟩:=key (MarkRel.refl _) hz;have hR2:=kq8 H (k2 (Mk h1) fun _ h=>h) has hR;have H2:=H.mark k1;have db2: ∀ b,Dom D ρ (Mk h1) b->b<w.heap.size:=fun b hb=>hb.elim (db b) fun⟨id,_,h⟩=>H.blt h
       obtain⟨hfn,hcall⟩:=hK g hr db2 (gl.sub fun _ h=> .inl h) hR2;exact⟨hfn,fun j=>CallsIn.mono (hcall j) fun e w' ⟨val,D',he,hv,hx,hd⟩=>⟨val,D',ρ,V,he,k0u (s:=s) H2 db2 hv hx hd⟩⟩
      ·cases he
  ·split at he
   ·rename_i s2 hx;split at he
    ·rename_i u hu;cases he;obtain⟨hfn,hcall⟩:=kp1 hC (hF g af haf) H db gl top hR hx (.inl rfl) hu;exact⟨hfn,fun j=>CallsIn.mono (hcall j) fun e w' ⟨val,D',ρ',V',he,h1,h2,h3,h4,h5,h6⟩=>⟨val,D',ρ',V',he,h1,h2,h3,h4,h5,h6⟩⟩
    ·cases he
   ·rename_i s2 hx;split at he
    ·rename_i u hu;cases he;obtain⟨hfn,hcall⟩:=kp1 hC (hF g af haf) H db gl top hR hx (.inr rfl) hu;exact⟨hfn,fun j=>CallsIn.mono (hcall j) fun e w' ⟨val,D',ρ',V',he,h1,h2,h3,h4,h5,h6⟩=>⟨val,D',ρ',V',he,h1,h2,h3,h4,h5,h6⟩⟩
    ·cases he
   ·cases he
theorem k6v (hF:FOk P pu F) (hK:KOk P KK) (n:Nat):keq P pu (kb1 F KK (exA F KK n)):=by
 induction n using Nat.strongRecOn with
 |_ n ih=>exact k6w hF hK fun k hk=>ih k hk
theorem k6z (hF:FOk P pu F) {X:Nat->Option (List AV->Option AV)} (hX: ∀ f k,X f=some k->kgo P f k): ∀ n,KOk P (kbp F X n):=by
 intro n
 induction n with
 |zero=>intro f args r D w vals hr;cases hr
 |succ n ih=>
  intro f args r D w vals hr db gl hR;simp only[kbp] at hr;split at hr
  ·rename_i k hk;exact hX f k hk hr db gl hR
  ·split at hr
   ·rename_i af haf;have H0:HRel (C0 P pu) D w yab yaa (.nil:T Blk):=⟨fun _ _=>rfl,fun id b h=>by simp[yaa] at h,fun i j b h=>by simp[yaa] at h,fun id k h=>by simp[T.get] at h⟩;have fin: ∀ {e:AE} {s1:St} {v:AV},exA F (kbp F X n) (n+1) af.body {r:=inits 0 args .nil,h:= .nil,nx:=0}=some (e,s1)->(e= .nrm\/e= .ret)->kcg af s1=some v->frz s1.h kbu v=some r->khd P f/\
      ∀ n,CallsIn (FW none) n P f vals.toArray w fun e w'=>∃ val D',e= .returned val/\R D' w' yab yaa r val/\Ext D yaa w yab D' yaa w' yab/\ ∀ b,D' b->b<w'.heap.size:=fun {e s1 v} hx hn hu hz=>by
     obtain⟨hfn,hcall⟩:=kp1 (s:={r:= .nil,h:= .nil,nx:=0}) (fun k _=>k6v hF ih k) (hF f af haf) H0 db gl (fun i hi=>hi.elim) hR hx hn hu;refine⟨hfn,fun j=>CallsIn.mono (hcall j) fun e w' ⟨val,D',ρ',V',he,h1,h2,h3,h4,h5,h6⟩=> ?_⟩;refine⟨val,Dom D' ρ' (fun _=>True),he,kra h2 (ki1 _ _ _) hz h1,⟨fun _ h=>h,h3.os,h3.tape,h3.output,h3.size,fun b hb=> .inl (h3.sub b hb),h3.frame,fun b real ty mk hb=>⟨real,mk,(h3.frame b (Array.getElem?_eq_some_iff.1 hb).1 (.inr fun id=>by simp[yaa])).trans hb,rfl⟩,fun b r hb=>⟨r,(h3.frame b (Array.getElem?_eq_some_iff.1 hb).1 (.inr fun id=>by simp[yaa])).trans hb,rfl⟩,fun id b h=>h.elim,fun id b h=>by simp[yaa] at h,fun b hb=> ?_⟩,fun b hb=>hb.elim (h6 b) fun⟨id,_,h⟩=>h2.blt h⟩;rcases hb with hb | ⟨id,_,hb⟩
     ·exact h3.dnew b hb
     ·rcases h3.new id b hb with⟨i,hi⟩ |h
      ·simp[yaa] at hi
      ·exact .inr (.inr h)
    unfold koe at hr;split at hr
    ·rename_i s1 hx;split at hr
     ·rename_i v hv;exact fin hx (.inl rfl) hv hr
     ·cases hr
    ·rename_i s1 hx;split at hr
     ·rename_i v hv;exact fin hx (.inr rfl) hv hr
     ·cases hr
    ·cases hr
   ·cases hr
theorem qn3 (hF:FOk P pu F) {X:Nat->Option (List AV->Option AV)} (hX: ∀ f k,X f=some k->kgo P f k) {n f:Nat} {args:List AV} {r:AV} {vals:List Value} (hr:kbp F X n f args=some r) (db: ∀ b,D b->b<w.heap.size) (gl:GOk D w)
  (hR:RL D w yab yaa args vals):Calls P f vals.toArray w fun e w'=>∃ val D',e= .returned val/\R D' w' yab yaa r val/\Ext D yaa w yab D' yaa w' yab:=
 callsIn_wide.1 (CallsIn.mono ((k6z hF hX n f hr db gl hR).2 0) fun _ _ ⟨val,D',h1,h2,h3,_⟩=>⟨val,D',h1,h2,h3⟩)
end
end Go.Proofs.Hz
