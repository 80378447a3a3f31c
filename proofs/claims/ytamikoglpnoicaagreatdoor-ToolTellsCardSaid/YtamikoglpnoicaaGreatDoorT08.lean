/-
  Each operation: what the abstract evaluator says of it the machine does (second part: values alone).
  Conditions: none.
-/
import Derived.Test.YtamikoglpnoicaaGreatDoorT07
import Derived.Laws.Tables
import Derived.Laws.BytesString
import Derived.Laws.Small
namespace Go.Proofs.Hz
open Go.Builtin renaming len_->yad
open Go.Op renaming equalIn->yac,equal->yaf,unary->yag
open Go.Result renaming andThen_ok->yaa
open Go.Sem renaming run_bind->yab,run_pure->yae
open Go.RowKit
section
variable {G:Gl} {C:CodeRel} {P:Program} {D D':Nat->Prop} {ρ ρ':Ren} {w w':World} {V V':Ids} {h:T Blk} {s s':St} {a:Act}
theorem qal {op:BinOp} {k:IntKind} {x y:Int} {v:AV} (hs:ke1 op=false) (hv:kei op k x y=some v) (t:TypeId):
  ∃ u,(binOp op t (.int k x) (.int k y)).run P w= .ok u w/\R D w V ρ v u:=by
 cases op <;> simp[ke1] at hs <;> simp only[kei,kmn] at hv
 all_goals first
  |(cases hv;refine⟨_,?_,R.int _ _⟩;simp[binOp,Op.intArith];done)
  |(cases hv;refine⟨_,?_,R.bool _⟩;simp[binOp,Op.intCmp];done)
  |(split at hv
    ·cases hv
    ·rename_i hy;cases hv;refine⟨_,?_,R.int _ _⟩;simp[binOp,Op.intDiv,hy];done)
  |(simp only[Option.map_some,Option.some.injEq] at hv;subst hv;refine⟨_,?_,R.int _ _⟩;simp[binOp,Op.intBits];done)
theorem qoe {op:BinOp} {k k':IntKind} {x y:Int} {v:AV} (hv:kmc op k x y=some v) (t:TypeId):
  ∃ u,(binOp op t (.int k x) (.int k' y)).run P w= .ok u w/\R D w V ρ v u:=by
 unfold kmc at hv;split at hv
 ·cases hv
 ·rename_i hy;cases op <;> simp at hv
  ·subst hv;refine⟨_,?_,R.int _ _⟩;simp[binOp,Op.shift,hy]
  ·subst hv;refine⟨_,?_,R.int _ _⟩;simp[binOp,Op.shift,hy]
theorem kjp (s:ByteArray):s.toList=s.data.toList:=ByteArray.toList_eq s
theorem kks (s:ByteArray):s.size=s.data.toList.length:=rfl
theorem qo3 {op:BinOp} {x y:ByteArray} {v:AV} (hv:kkv op x.data.toList y.data.toList=some v) (t:TypeId):
  ∃ u,(binOp op t (.string x) (.string y)).run P w= .ok u w/\R D w V ρ v u:=by
 cases op <;> simp only[kkv] at hv
 case add=>
  split at hv
  ·rename_i hl;cases hv;have h1: ¬(((x.size+y.size:Nat):Int) > IntKind.i64.max):=by
    rw[←kks,←kks] at hl;have:IntKind.i64.max=9223372036854775807:=by decide
    rw[this];omega
   exact⟨.string (x++y),by simp only[binOp,Op.stringOp,ir h1,yae],.str _ (by rw[ByteArray.data_append,Array.toList_append])⟩
  ·cases hv
 all_goals first
  |(cases hv;exact⟨_,by simp only[binOp,Op.stringOp,yae,kjp],.bool _⟩)
  |(cases hv;done)
theorem kf0 {op:BinOp} {t:TypeId} {x y:Operand} {a b:Value} (hn: ∀ c d,¬(a= .agg c/\b= .agg d)) (hi: ¬(a= .nilIface/\b= .nilIface)):(eqGuard op t x y a b).run P w= .ok () w:=by
 unfold eqGuard;cases op <;> first
  |rfl
  |(cases a <;> cases b <;> first
   |rfl
   |exact absurd ⟨rfl,rfl⟩ (hn _ _)
   |exact absurd ⟨rfl,rfl⟩ hi)
theorem kp0 (H:HRel C D w V ρ s.h) (db: ∀ b,D b->b<w.heap.size) (hr:Regs D w V ρ s a) {o:Oper} {op:BinOp} {t ty:TypeId} {x y:Operand} (ho:o.op= .binOp op t x y ty) {x' y':AO} (hx:kar x=some x') (hy:kar y=some y')
  {v:AV} (he:opA s (.bin op x' y')=some (v,s')):OpPost C D ρ w V s s' v ((execOp a.eval o).run P w):=by
 simp only[opA] at he;cases hv:kd0 op (x'.ev s) (y'.ev s) with
 |none=>simp[hv] at he
 |some u=>
  simp[hv] at he;obtain⟨rfl,rfl⟩:=he;have h1:=ka8 hr hx;have h2:=ka8 hr hy;generalize hxv:a.eval x=xv at h1;generalize hyv:a.eval y=yv at h2;generalize x'.ev s=xa at h1 hv;generalize y'.ev s=ya at h2 hv;have fin: ∀ val,(binOp op t xv yv).run P w= .ok val w->(eqGuard op t x y xv yv).run P w= .ok () w->R D w V ρ u val->OpPost C D ρ w V s s u ((execOp a.eval o).run P w):=fun val hb hg hR=>
   .same H db (by simp only[execOp,ho,hxv,hyv,yab,hg,yaa,hb,yae]) hR
  unfold kd0 at hv;split at hv
  ·rename_i k1 a1 k2 a2;cases h1;cases h2;have hg:(eqGuard op t x y (.int k1 a1) (.int k2 a2)).run P w= .ok () w:=kf0 (by simp) (by simp);split at hv
   ·obtain⟨val,hb,hR⟩:=qoe (P:=P) (w:=w) (D:=D) (V:=V) (ρ:=ρ) hv t;exact fin val hb hg hR
   ·rename_i hs;split at hv
    ·rename_i hk;subst hk;obtain⟨val,hb,hR⟩:=qal (P:=P) (w:=w) (D:=D) (V:=V) (ρ:=ρ) (by simpa using hs) hv t;exact fin val hb hg hR
    ·cases hv
  ·cases h1 with
   |str sx hsx=>cases h2 with
    |str sy hsy=>
     subst hsx;subst hsy;obtain⟨val,hb,hR⟩:=qo3 (P:=P) (w:=w) (D:=D) (V:=V) (ρ:=ρ) hv t;exact fin val hb (kf0 (by simp) (by simp)) hR
  ·cases hv
theorem k7x (H:HRel C D w V ρ s.h) (db: ∀ b,D b->b<w.heap.size) (hr:Regs D w V ρ s a) {o:Oper} {op:BinOp} {t ty:TypeId} {x y:Operand} (ho:o.op= .binOp op t x y ty) (hop:op= .eql\/op= .neq) (hu:P.underlying t=some .bool) {x' y':AO} (hx:kar x=some x') (hy:kar y=some y')
  {v:AV} (he:opA s (.eqb (op == .neq) x' y')=some (v,s')):OpPost C D ρ w V s s' v ((execOp a.eval o).run P w):=by
 simp only[opA] at he;split at he
 ·rename_i b1 b2 e1 e2;cases he;have h1:=ka8 hr hx;have h2:=ka8 hr hy;rw[e1] at h1;rw[e2] at h2;generalize hxv:a.eval x=xv at h1;generalize hyv:a.eval y=yv at h2;cases h1;cases h2;have hg:(eqGuard op t x y (.bool b1) (.bool b2)).run P w= .ok () w:=kf0 (by simp) (by simp);have heq:=run_equal_bool (P:=P) w t b1 b2 hu;rcases hop with rfl |rfl
  ·exact .same H db (val:= .bool (b1 == b2)) (by simp only[execOp,ho,hxv,hyv,yab,hg,yaa,binOp,heq,yae]) (.bool _)
  ·exact .same H db (val:= .bool (!(b1 == b2))) (by simp only[execOp,ho,hxv,hyv,yab,hg,yaa,binOp,heq,yae]) (.bool _)
 ·cases he
theorem kqp (d:Nat) {t:TypeId} {p q:Array TypeId} {r:Bool} (hu:P.underlying t=some (.func p q r)):(yac (d+1) t .nilFunc .nilFunc).run P w= .ok true w:=by
 simp only[yac,yab,run_underlying hu,yaa];rfl
theorem kqo (d:Nat) {t:TypeId} {p q:Array TypeId} {r:Bool} (hu:P.underlying t=some (.func p q r)) (f:Fn) (x y:Array Value):(yac (d+1) t .nilFunc (.func f x y)).run P w= .ok false w:=by
 simp only[yac,yab,run_underlying hu,yaa];rfl
theorem kqn (d:Nat) {t:TypeId} {p q:Array TypeId} {r:Bool} (hu:P.underlying t=some (.func p q r)) (f:Fn) (x y:Array Value):(yac (d+1) t (.func f x y) .nilFunc).run P w= .ok false w:=by
 simp only[yac,yab,run_underlying hu,yaa];rfl
theorem kqs (d:Nat) {t e:TypeId} (hu:P.underlying t=some (.pointer e)) (b:Option Addr):(yac (d+1) t (.pointer none) (.pointer b)).run P w= .ok b.isNone w:=by
 simp only[yac,yab,run_underlying hu,yaa];rfl
theorem kqt (d:Nat) {t e:TypeId} (hu:P.underlying t=some (.pointer e)) (b:Addr):(yac (d+1) t (.pointer (some b)) (.pointer none)).run P w= .ok false w:=by
 simp only[yac,yab,run_underlying hu,yaa];rfl
theorem km0 (d:Nat) {t:TypeId} {m:Array (String×TypeId)} (hu:P.underlying t=some (.interface m)):(yac (d+1) t .nilIface .nilIface).run P w= .ok true w:=by
 simp only[yac,yab,run_underlying hu,yaa];rfl
theorem kqr (d:Nat) {t:TypeId} {m:Array (String×TypeId)} (hu:P.underlying t=some (.interface m)) (u:TypeId) (v:Value):(yac (d+1) t .nilIface (.iface u v)).run P w= .ok false w:=by
 simp only[yac,yab,run_underlying hu,yaa];rfl
theorem kqq (d:Nat) {t:TypeId} {m:Array (String×TypeId)} (hu:P.underlying t=some (.interface m)) (u:TypeId) (v:Value):(yac (d+1) t (.iface u v) .nilIface).run P w= .ok false w:=by
 simp only[yac,yab,run_underlying hu,yaa];rfl
theorem kqu (H:HRel C D w V ρ s.h) (db: ∀ b,D b->b<w.heap.size) (hr:Regs D w V ρ s a) {o:Oper} {op:BinOp} {t ty:TypeId} {x y:Operand} {k:Nat} (ho:o.op= .binOp op t x y ty) (hop:op= .eql\/op= .neq)
  (hu:(k=0/\ ∃ p q r,P.underlying t=some (.func p q r))\/(k=1/\ ∃ e,P.underlying t=some (.pointer e))\/(k=2/\(klo x || klo y)=true/\ ∃ m,P.underlying t=some (.interface m))) {x' y':AO} (hx:kar x=some x') (hy:kar y=some y')
  {v:AV} (he:opA s (.eqn k (op == .neq) x' y')=some (v,s')):OpPost C D ρ w V s s' v ((execOp a.eval o).run P w):=by
 simp only[opA] at he;split at he
 ·rename_i b1 b2 e1 e2;split at he
  ·rename_i hone;cases he;have h1:=ka8 hr hx;have h2:=ka8 hr hy;generalize hxv:a.eval x=xv at h1;generalize hyv:a.eval y=yv at h2;generalize x'.ev s=xa at h1 e1;generalize y'.ev s=ya at h2 e2;have fin:(eqGuard op t x y xv yv).run P w= .ok () w->(yaf t xv yv).run P w= .ok (b1 && b2) w->(∀ op,op= .eql\/op= .neq->(binOp op t xv yv)=(if op == .neq then(do pure (.bool (!(←yaf t xv yv)))) else do pure (.bool (←yaf t xv yv))))->OpPost C D ρ w V s s (.bool (if(op == .neq)=true then !(b1 && b2) else b1 && b2)) ((execOp a.eval o).run P w):=fun hg heq hb=>by
    rcases hop with rfl |rfl
    ·exact .same H db (val:= .bool (b1 && b2)) (by simp only[execOp,ho,hxv,hyv,yab,hg,yaa,hb .eql (.inl rfl)];simp[heq]) (.bool _)
    ·exact .same H db (val:= .bool (!(b1 && b2))) (by simp only[execOp,ho,hxv,hyv,yab,hg,yaa,hb .neq (.inr rfl)];simp[heq]) (.bool _)
   rcases hu with⟨rfl,p,q,r,hu⟩ | ⟨rfl,e,hu⟩ | ⟨rfl,hc,m,hu⟩
   ·cases xa <;> simp only[kfe] at e1 <;> cases e1 <;> cases ya <;> simp only[kfe] at e2 <;> cases e2 <;> simp at hone <;> cases h1 <;> cases h2
    all_goals (refine fin (kf0 (by simp) (by simp)) ?_ ?_)
    all_goals first
     |exact kqp 9999 hu
     |exact kqo 9999 hu _ _ _
     |exact kqn 9999 hu _ _ _
     |exact kqs 9999 hu _
     |exact kqt 9999 hu _
     |exact km0 9999 hu
     |exact kqr 9999 hu _ _
     |exact kqq 9999 hu _ _
     |(intro op hop';rcases hop' with rfl |rfl <;> rfl)
   ·cases xa <;> simp only[kfe] at e1 <;> cases e1 <;> cases ya <;> simp only[kfe] at e2 <;> cases e2 <;> simp at hone <;> cases h1 <;> cases h2
    all_goals (refine fin (kf0 (by simp) (by simp)) ?_ ?_)
    all_goals first
     |exact kqp 9999 hu
     |exact kqo 9999 hu _ _ _
     |exact kqn 9999 hu _ _ _
     |exact kqs 9999 hu _
     |exact kqt 9999 hu _
     |exact km0 9999 hu
     |exact kqr 9999 hu _ _
     |exact kqq 9999 hu _ _
     |(intro op hop';rcases hop' with rfl |rfl <;> rfl)
   ·have hg0:(eqGuard op t x y .nilIface .nilIface).run P w= .ok () w:=by
     unfold eqGuard;rcases hop with rfl |rfl <;> cases x <;> cases y <;> first |rfl |(simp[klo] at hc;done)
    cases xa <;> simp only[kfe] at e1 <;> cases e1 <;> cases ya <;> simp only[kfe] at e2 <;> cases e2 <;> simp at hone <;> cases h1 <;> cases h2
    ·refine fin hg0 (km0 9999 hu) ?_;intro op hop';rcases hop' with rfl |rfl <;> rfl
    all_goals (refine fin (kf0 (by simp) (by simp)) ?_ ?_)
    all_goals first
     |exact kqp 9999 hu
     |exact kqo 9999 hu _ _ _
     |exact kqn 9999 hu _ _ _
     |exact kqs 9999 hu _
     |exact kqt 9999 hu _
     |exact km0 9999 hu
     |exact kqr 9999 hu _ _
     |exact kqq 9999 hu _ _
     |(intro op hop';rcases hop' with rfl |rfl <;> rfl)
  ·cases he
 ·cases he
theorem k7v (d:Nat) {t e:TypeId} (hu:P.underlying t=some (.slice e)) (n c:Nat) (b:Option Addr) (m k:Nat):(yac (d+1) t (.slice none n c) (.slice b m k)).run P w= .ok b.isNone w:=by
 simp only[yac,yab,run_underlying hu,yaa];rfl
theorem kxp (d:Nat) {t e:TypeId} (hu:P.underlying t=some (.slice e)) (a:Addr) (n c m k:Nat):(yac (d+1) t (.slice (some a) n c) (.slice none m k)).run P w= .ok false w:=by
 simp only[yac,yab,run_underlying hu,yaa];rfl
theorem k70 (H:HRel C D w V ρ s.h) (db: ∀ b,D b->b<w.heap.size) (hr:Regs D w V ρ s a) {o:Oper} {op:BinOp} {t ty e:TypeId} {x y:Operand} (ho:o.op= .binOp op t x y ty) (hop:op= .eql\/op= .neq)
  (hu:P.underlying t=some (.slice e)) (hn:krn y=true) {x':AO} (hx:kar x=some x')
  {v:AV} (he:opA s (.eqn 3 (op == .neq) x' (.c .nils))=some (v,s')):OpPost C D ρ w V s s' v ((execOp a.eval o).run P w):=by
 have hy:a.eval y= .slice none 0 0:=by
  unfold krn at hn;split at hn
  ·rfl
  ·cases hn
 simp only[opA] at he;split at he
 ·rename_i b1 b2 e1 e2;cases e2;split at he
  ·cases he;have h1:=ka8 hr hx;generalize hxv:a.eval x=xv at h1;generalize x'.ev s=xa at h1 e1;have fin:(yaf t xv (.slice none 0 0)).run P w= .ok (b1 && true) w->(eqGuard op t x y xv (.slice none 0 0)).run P w= .ok () w->(∀ op,op= .eql\/op= .neq->(binOp op t xv (.slice none 0 0))=(if op == .neq then(do pure (.bool (!(←yaf t xv (.slice none 0 0))))) else do pure (.bool (←yaf t xv (.slice none 0 0)))))->OpPost C D ρ w V s s (.bool (if(op == .neq)=true then !(b1 && true) else b1 && true)) ((execOp a.eval o).run P w):=fun heq hg hb=>by
    rcases hop with rfl |rfl
    ·exact .same H db (val:= .bool (b1 && true)) (by simp only[execOp,ho,hxv,hy,yab,hg,yaa,hb .eql (.inl rfl)];simp[heq]) (.bool _)
    ·exact .same H db (val:= .bool (!(b1 && true))) (by simp only[execOp,ho,hxv,hy,yab,hg,yaa,hb .neq (.inr rfl)];simp[heq]) (.bool _)
   unfold kfe at e1;split at e1 <;> first |(cases e1;done) |skip
   all_goals first |(rename_i hk;cases hk;done) |skip
   ·cases e1;cases h1;refine fin (k7v 9999 hu _ _ _ _ _) (kf0 (by simp) (by simp)) ?_;intro op hop';rcases hop' with rfl |rfl <;> rfl
   ·cases e1;cases h1;refine fin (kxp 9999 hu _ _ _ _ _) (kf0 (by simp) (by simp)) ?_;intro op hop';rcases hop' with rfl |rfl <;> rfl
   ·cases e1;cases h1;refine fin (kxp 9999 hu _ _ _ _ _) (kf0 (by simp) (by simp)) ?_;intro op hop';rcases hop' with rfl |rfl <;> rfl
  ·cases he
 ·cases he
theorem qqz (H:HRel C D w V ρ s.h) (db: ∀ b,D b->b<w.heap.size) (hr:Regs D w V ρ s a) {o:Oper} {op:UnOp} {t:TypeId} {x:Operand} (ho:o.op= .unOp op t x) {x':AO} (hx:kar x=some x')
  {v:AV} (he:opA s (.un op x')=some (v,s')):OpPost C D ρ w V s s' v ((execOp a.eval o).run P w):=by
 simp only[opA] at he;cases hv:unA op (x'.ev s) with
 |none=>simp[hv] at he
 |some u=>
  simp[hv] at he;obtain⟨rfl,rfl⟩:=he;have h1:=ka8 hr hx;generalize hxv:a.eval x=xv at h1;generalize x'.ev s=xa at h1 hv;unfold unA at hv;split at hv
  ·cases hv;cases h1;exact .same H db (by simp[execOp,ho,hxv,yag]) (.bool _)
  ·cases hv;cases h1;exact .same H db (by simp[execOp,ho,hxv,yag,Op.intArith]) (.int _ _)
  ·rename_i k n;simp[kmn] at hv;subst hv;cases h1;exact .same H db (by simp[execOp,ho,hxv,yag,Op.intBits]) (.int _ _)
  ·cases hv
theorem k68 (H:HRel C D w V ρ s.h) (db: ∀ b,D b->b<w.heap.size) (hr:Regs D w V ρ s a) {o:Oper} {src dst:TypeId} {k k0:IntKind} {x:Operand} (ho:o.op= .convert src dst x) (h1:P.underlying src=some (.int k0)) (h2:P.underlying dst=some (.int k)) {x':AO} (hx:kar x=some x')
  {v:AV} (he:opA s (.conv k x')=some (v,s')):OpPost C D ρ w V s s' v ((execOp a.eval o).run P w):=by
 simp only[opA] at he;split at he
 ·rename_i k' n e1;cases he;have h:=ka8 hr hx;rw[e1] at h;generalize hxv:a.eval x=xv at h;cases h;exact .same H db (by simp[execOp,ho,hxv,convert,run_underlying h1,run_underlying h2,Conv.intToInt]) (.int _ _)
 ·cases he
theorem qdf (H:HRel C D w V ρ s.h) (db: ∀ b,D b->b<w.heap.size) (hr:Regs D w V ρ s a) {o:Oper} {src dst:TypeId} {x:Operand} (ho:o.op= .convert src dst x) (h1:P.underlying src=some .string) (h2:P.underlying dst=some .string) {x':AO} (hx:kar x=some x')
  {v:AV} (he:opA s (.mvs x')=some (v,s')):OpPost C D ρ w V s s' v ((execOp a.eval o).run P w):=by
 simp only[opA] at he;split at he
 ·rename_i l e1;cases he;have h:=ka8 hr hx;rw[e1] at h;generalize hxv:a.eval x=xv at h;cases h with
  |str sx hsx=>exact .same H db (val:= .string sx) (by simp[execOp,ho,hxv,convert,run_underlying h1,run_underlying h2]) (.str sx hsx)
 ·cases he
theorem kiw (hr:Regs D w V ρ s a) {xs:List Operand} {ys:List AO} (hx:mapO kar xs=some ys):RL D w V ρ (ys.map (AO.ev s)) (xs.map a.eval):=by
 obtain⟨h1,h2⟩:=ki8 hx;refine⟨by simp[h1],fun j x v hx hv=> ?_⟩;rw[List.getElem?_map] at hx hv;cases hy:ys[j]? with
 |none=>simp[hy] at hx
 |some y=>
  cases hz:xs[j]? with
  |none=>simp[hz] at hv
  |some z=>
   simp[hy] at hx;simp[hz] at hv;subst hx;subst hv;exact ka8 hr (h2 j z y hz hy)
theorem k8v {f:Nat} {first caps:List AV} {vf vc:Array Value} (h1:RL D w V ρ first vf.toList) (h2:RL D w V ρ caps vc.toList):R D w V ρ (.fn f first caps) (.func (.func f) vf vc):=
 .fn (by simpa using h1.1) (by simpa using h2.1) (fun j x v hx hv=>h1.2 j x v hx (by simpa using hv)) (fun j x v hx hv=>h2.2 j x v hx (by simpa using hv))
theorem qb5 (H:HRel C D w V ρ s.h) (db: ∀ b,D b->b<w.heap.size) (hr:Regs D w V ρ s a) {o:Oper} {f:Nat} {fs cs:Array Operand} (ho:o.op= .makeFunc (.func f) fs cs) {fs' cs':List AO} (h1:mapO kar fs.toList=some fs') (h2:mapO kar cs.toList=some cs'):
  OpPost C D ρ w V s s (.fn f (fs'.map (AO.ev s)) (cs'.map (AO.ev s))) ((execOp a.eval o).run P w):=
 .same H db (val:= .func (.func f) (fs.map a.eval) (cs.map a.eval)) (by simp[execOp,ho,Instr.makeFunc]) (k8v (by simpa using kiw hr h1) (by simpa using kiw hr h2))
theorem k0h {t:TypeId} {g:Bool} {n off:Nat} (hg:gO P t=some g) (hn:szO P t=some n) {cs l:List AV} {vs:Array Value} (hr:RL D w V ρ cs vs.toList) (hl:kb2 cs off n=some l) {v:AV} (hv:kdh g l=some v) (h1:g=false->n=1):
  ∃ u,(part t vs off).run P w= .ok u w/\R D w V ρ v u:=by
 obtain⟨hle,rfl,hlen⟩:=kko hl;have hsz:cs.length=vs.size:=by simpa using hr.1
 rcases kzu ((hr.drop off).take n) hv with⟨rfl,hR⟩ | ⟨rfl,u,hu,hR⟩
 ·refine⟨_,?_,hR⟩;have:(List.take n (List.drop off vs.toList)).toArray=vs.extract off (off+n):=by
   apply Array.ext';rw[Array.toList_extract,List.extract_eq_take_drop];simp
  simp[part,kg5 hg,kcj hn,this]
 ·refine⟨u,?_,hR⟩;have:vs[off]? =some u:=by
   have h2:(List.take n (List.drop off vs.toList))[0]? =some u:=by rw[hu];rfl
   rw[List.getElem?_take,h1 rfl,iq (by omega),List.getElem?_drop,Nat.add_zero,Array.getElem?_toList] at h2;exact h2
  simp[part,kg5 hg,this]
theorem k8u (H:HRel C D w V ρ s.h) (db: ∀ b,D b->b<w.heap.size) (hr:Regs D w V ρ s a) {o:Oper} {t:TypeId} {x:Operand} {f:Nat} (ho:o.op= .field t x f) {ao:AOp} (hc:kbl P (.field t x f)=some ao) {v:AV}
  (he:opA s ao=some (v,s')):OpPost C D ρ w V s s' v ((execOp a.eval o).run P w):=by
 simp only[kbl] at hc;split at hc
 ·rename_i fs y hu hy;split at hc
  ·rename_i fd hfd;split at hc
   ·rename_i g n hg hn;split at hc
    ·rename_i hgn;cases hc;simp only[opA] at he;split at he
     ·rename_i cs hcs;split at he
      ·rename_i l hl;cases hv:kdh g l with
       |none=>simp[hv] at he
       |some u=>
        simp[hv] at he;obtain⟨rfl,rfl⟩:=he;have hb:=ka8 hr hy;rw[hcs] at hb;obtain⟨vs,hvs,hR⟩:=hb.agg_inv;obtain⟨val,h1,h2⟩:=k0h (P:=P) hg hn hR hl hv hgn;exact .same H db (by simp[execOp,ho,hvs,Instr.field,run_underlying hu,hfd,asAgg,h1]) h2
      ·cases he
     ·cases he
    ·cases hc
   ·cases hc
  ·cases hc
 ·cases hc
theorem qau (H:HRel C D w V ρ s.h) (db: ∀ b,D b->b<w.heap.size) (hr:Regs D w V ρ s a) {o:Oper} {t e:TypeId} {len:Nat} {x i:Operand} (ho:o.op= .index t x i) (hu:P.underlying t=some (.array len e)) {y j:AO} (hy:kar x=some y) (hj:kar i=some j)
  {g:Bool} {sz:Nat} (hg:gO P e=some g) (hsz:szO P e=some sz) (hgn:g=false->sz=1) {v:AV} (he:opA s (.ixA g len sz y j)=some (v,s')):OpPost C D ρ w V s s' v ((execOp a.eval o).run P w):=by
 simp only[opA] at he;split at he
 ·rename_i n cs hn hcs;obtain⟨k,q,hk,h0,hq⟩:=kja (ka8 hr hj) hn;split at he
  ·rename_i hlt;split at he
   ·rename_i l hl;cases hv:kdh g l with
    |none=>simp[hv] at he
    |some u=>
     simp[hv] at he;obtain⟨rfl,rfl⟩:=he;have hb:=ka8 hr hy;rw[hcs] at hb;obtain⟨vs,hvs,hR⟩:=hb.agg_inv;obtain⟨val,h1,h2⟩:=k0h (P:=P) hg hsz hR hl hv hgn;have hq2:0<=q/\q<(len:Int):=⟨h0,by omega⟩;exact .same H db (by simp[execOp,ho,hvs,hk,Instr.index,asIntOf,run_underlying hu,hq2,kcj hsz,hq,h1]) h2
   ·cases he
  ·cases he
 ·cases he
theorem qav (H:HRel C D w V ρ s.h) (db: ∀ b,D b->b<w.heap.size) (hr:Regs D w V ρ s a) {o:Oper} {t:TypeId} {x i:Operand} (ho:o.op= .index t x i) (hu:P.underlying t=some .string) {y j:AO} (hy:kar x=some y) (hj:kar i=some j)
  {v:AV} (he:opA s (.ixS y j)=some (v,s')):OpPost C D ρ w V s s' v ((execOp a.eval o).run P w):=by
 simp only[opA] at he;split at he
 ·rename_i n b hn hb;obtain⟨k,q,hk,h0,hq⟩:=kja (ka8 hr hj) hn;cases hc:b[n]? with
  |none=>simp[hc] at he
  |some c=>
   simp[hc] at he;obtain⟨rfl,rfl⟩:=he;have h1:=ka8 hr hy;rw[hb] at h1;generalize hxv:a.eval x=xv at h1;cases h1 with
   |str sx hsx=>
    subst hsx;have hlt:n<sx.size:=by rw[kks];exact(List.getElem?_eq_some_iff.1 hc).1
    have hidx:sx[n]=c:=by
     have:=hc;rw[List.getElem?_eq_getElem (by rw[←kks];exact hlt)] at this;exact Option.some.inj this
    have hq3:(if 0<=q then sx[q.toNat]? else none)=some c:=by
     rw[iq h0,hq,getElem?_pos sx n hlt,hidx]
    exact .same H db (by simp only[execOp,ho,hxv,hk,Instr.index,asIntOf,yab,yae,yaa,run_underlying hu,hq3]) (.int _ _)
 ·cases he
theorem krw (H:HRel C D w V ρ s.h) {k:Nat} {t:TypeId} {xv:Value} {x':AO} (hR:R D w V ρ (x'.ev s) xv) {args:Array Value} {ts:Array TypeId} {ty:TypeId} (ht:ts[0]? =some t) (hrest:args[0]? =some xv)
  (hu:(k=0/\ ∃ e,P.underlying t=some (.slice e))\/(k=1/\P.underlying t=some .string)\/(k=2/\ ∃ k e,P.underlying t=some (.map k e))) {v:AV} (he:opA s (.len k x')=some (v,s')):
  ∃ u,s'=s/\(yad ts ty args).run P w= .ok u w/\R D w V ρ v u:=by
 simp only[opA] at he;split at he
 ·rename_i els cl e1;cases he;rcases hu with⟨_,e,hu⟩ | ⟨hk,hu⟩ | ⟨hk,k,e,hu⟩ <;> first |cases hk |skip
  rw[e1] at hR;cases hR with
  |imn hc ha=>exact⟨goInt 0,rfl,by simp[yad,ht,hrest,run_underlying hu],.int _ _⟩
  |im c hn hcl hD hl hc h1=>exact⟨goInt els.length,rfl,by simp[yad,ht,hrest,run_underlying hu],.int _ _⟩
 ·rename_i id off n sz c e1;cases he;rcases hu with⟨_,e,hu⟩ | ⟨hk,hu⟩ | ⟨hk,k,e,hu⟩ <;> first |cases hk |skip
  rw[e1] at hR;cases hR;exact⟨goInt n,rfl,by simp[yad,ht,hrest,run_underlying hu],.int _ _⟩
 ·rename_i e1;cases he;rcases hu with⟨_,e,hu⟩ | ⟨hk,hu⟩ | ⟨hk,k,e,hu⟩ <;> first |cases hk |skip
  rw[e1] at hR;cases hR;exact⟨goInt 0,rfl,by simp[yad,ht,hrest,run_underlying hu],.int _ _⟩
 ·rename_i b e1;cases he;rcases hu with⟨hk,e,hu⟩ | ⟨_,hu⟩ | ⟨hk,k,e,hu⟩ <;> first |cases hk |skip
  rw[e1] at hR;cases hR with
  |str sx hsx=>subst hsx;exact⟨goInt sx.size,rfl,by simp[yad,ht,hrest,run_underlying hu],by rw[←kks];exact .int _ _⟩
 ·rename_i id e1;split at he
  ·rename_i es hg;cases he;rcases hu with⟨hk,e,hu⟩ | ⟨hk,hu⟩ | ⟨_,k,e,hu⟩ <;> first |cases hk |skip
   rw[e1] at hR;cases hR with
   |mp hid hr2=>
    obtain⟨b,hb,hB⟩:=H.bk id _ hg;obtain⟨_,ents,clock,h1,h2,_⟩:=hB;have:=hr2 b hb;subst this;refine⟨goInt ents.size,rfl,by simp[yad,ht,hrest,run_underlying hu,getObj,Sem.run,h1],?_⟩;rw[h2];exact .int _ _
  ·cases he
 ·cases he
end
end Go.Proofs.Hz
