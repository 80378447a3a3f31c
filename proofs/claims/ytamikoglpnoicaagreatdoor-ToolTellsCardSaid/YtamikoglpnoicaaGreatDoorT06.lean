/-
  What an abstract value says of the machine's value: the relation 'R', of heaps 'HRel', of frames 'SRel'; how they go on ('Ext').
  Conditions: none.
-/
import Derived.Test.YtamikoglpnoicaaGreatDoorT01
import Derived.Below
import Derived.Laws.Rows
import Derived.Laws.Cells
import Derived.Laws.Append
namespace Go.Proofs.Hz
open List renaming getElem?_append_right->yaa,getElem?_take->yab,getElem?_drop->yac,getElem?_append_left->yad,getElem?_eq_some_iff->yae
open Nat renaming le_trans->yaf,le_of_not_lt->yag,le_refl->yah,lt_irrefl->yai
open Go.RowKit
abbrev Ren:=Nat->Option Nat
abbrev Ids:=Nat->Prop
def Ids.none:Ids:=fun _=>False
def Ids.add (V:Ids) (i:Nat):Ids:=fun j=>V j\/j=i
def Ren.none:Ren:=fun _=>Option.none
def Ren.set (ρ:Ren) (i:Nat) (b:Option Nat):Ren:=fun j=>if i=j then b else ρ j
inductive R (D:Nat->Prop) (w:World):Ids->Ren->AV->Value->Prop
 |bool {V:Ids} {ρ:Ren} (b:Bool):R D w V ρ (.bool b) (.bool b)
 |int {V:Ids} {ρ:Ren} (k:IntKind) (n:Int):R D w V ρ (.int k n) (.int k n)
 |str {V:Ids} {ρ:Ren} (s:ByteArray) {l:List UInt8} (h:l=s.data.toList):R D w V ρ (.str l) (.string s)
 |nilp {V:Ids} {ρ:Ren}:R D w V ρ .nilp (.pointer none)
 |ptr {V:Ids} {ρ:Ren} {id off:Nat} {a:Addr} (h:V id) (ha: ∀ b,ρ id=some b->a=⟨b,off,none⟩):R D w V ρ (.ptr id off) (.pointer (some a))
 |ip {V:Ids} {ρ:Ren} {cs:List AV} {off b o:Nat} (c:Nat->Value) (hD:D b) (hc: ∀ j,j<cs.length->w.cell? ⟨b,o+j,none⟩=some (c j))
  (h1: ∀ (j:Nat) (x:AV),cs[j]? =some x->R D w Ids.none Ren.none x (c j)):R D w V ρ (.ip cs off) (.pointer (some ⟨b,o+off,none⟩))
 |sl {V:Ids} {ρ:Ren} {id off n sz:Nat} {c:Option Nat} {a:Addr} {cap:Nat} (h:V id) (hn:n<=cap) (hc: ∀ k,c=some k->cap=k)
  (ha: ∀ b,ρ id=some b->cap=0\/(a=⟨b,off,none⟩/\ ∃(real:Array Value) (ty:TypeId) (mk:Nat×Nat),w.heap[b]? =some (Obj.cells real ty mk)/\off+cap*sz<=real.size)):R D w V ρ (.sl id off n sz c) (.slice (some a) n cap)
 |imn {V:Ids} {ρ:Ren} {clip:Bool} {a:Option Addr} {cap:Nat} (hc:clip=true->cap=0) (ha:a=none->cap=0):R D w V ρ (.im [] clip) (.slice a 0 cap)
 |im {V:Ids} {ρ:Ren} {els:List (List AV)} {clip:Bool} {b o sz cap:Nat} (c:Nat->Nat->Value) (hn:els.length<=cap) (hcl:clip=true->cap=els.length) (hD:D b)
  (hl: ∀ e ∈ els,e.length=sz) (hc: ∀ i j,i<els.length->j<sz->w.cell? ⟨b,o+(i*sz+j),none⟩=some (c i j))
  (h1: ∀ (i j:Nat) (e:List AV) (x:AV),els[i]? =some e->e[j]? =some x->R D w Ids.none Ren.none x (c i j)):R D w V ρ (.im els clip) (.slice (some ⟨b,o,none⟩) els.length cap)
 |fn {V:Ids} {ρ:Ren} {f:Nat} {first caps:List AV} {vf vc:Array Value} (lf:first.length=vf.size) (lc:caps.length=vc.size)
  (hf: ∀ (j:Nat) (x:AV) (v:Value),first[j]? =some x->vf[j]? =some v->R D w V ρ x v) (hc: ∀ (j:Nat) (x:AV) (v:Value),caps[j]? =some x->vc[j]? =some v->R D w V ρ x v):R D w V ρ (.fn f first caps) (.func (.func f) vf vc)
 |yld {V:Ids} {ρ:Ren} {id l:Nat} (h:V id) (hl: ∀ b,ρ id=some b->l=b):R D w V ρ (.yld id) (.func (.yield l) #[] #[])
 |nilf {V:Ids} {ρ:Ren}:R D w V ρ .nilf .nilFunc
 |nilm {V:Ids} {ρ:Ren}:R D w V ρ .nilm (.map none)
 |mp {V:Ids} {ρ:Ren} {id r:Nat} (h:V id) (hr: ∀ b,ρ id=some b->r=b):R D w V ρ (.mp id) (.map (some r))
 |nili {V:Ids} {ρ:Ren}:R D w V ρ .nili .nilIface
 |ifv {V:Ids} {ρ:Ren} {t:TypeId} {v:Value}:R D w V ρ .ifv (.iface t v)
 |ifc {V:Ids} {ρ:Ren} {t:TypeId} {x:AV} {v:Value} (h:R D w V ρ x v):R D w V ρ (.ifc t x) (.iface t v)
 |nils {V:Ids} {ρ:Ren}:R D w V ρ .nils (.slice none 0 0)
 |agg {V:Ids} {ρ:Ren} {cs:List AV} {vs:Array Value} (hl:cs.length=vs.size) (h: ∀ (j:Nat) (x:AV) (v:Value),cs[j]? =some x->vs[j]? =some v->R D w V ρ x v):R D w V ρ (.agg cs) (.agg vs)
 |tup {V:Ids} {ρ:Ren} {cs:List AV} {vs:Array Value} (hl:cs.length=vs.size) (h: ∀ (j:Nat) (x:AV) (v:Value),cs[j]? =some x->vs[j]? =some v->R D w V ρ x v):R D w V ρ (.tup cs) (.tuple vs)
structure Ext (D:Nat->Prop) (ρ:Ren) (w:World) (V:Ids) (D':Nat->Prop) (ρ':Ren) (w':World) (V':Ids):Prop where
 ids: ∀ i,V i->V' i
 os:w'.os=w.os
 tape:w'.tape=w.tape
 output:w'.output=w.output
 size:w.heap.size<=w'.heap.size
 sub: ∀ b,D b->D' b
 frame: ∀ b,b<w.heap.size->(D b\/ ∀ id,ρ id≠some b)->w'.heap[b]? =w.heap[b]?
 shape: ∀ (b:Nat) (real:Array Value) (ty:TypeId) (mk:Nat×Nat),w.heap[b]? =some (Obj.cells real ty mk)-> ∃(real':Array Value) (mk':Nat×Nat),w'.heap[b]? =some (Obj.cells real' ty mk')/\real'.size=real.size
 loops: ∀ (b:Nat) (r:Loop),w.heap[b]? =some (.loop r)-> ∃ r':Loop,w'.heap[b]? =some (.loop r')/\r'.defers=r.defers
 ren: ∀ id b,V id->ρ' id=some b->ρ id=some b
 new: ∀ id b,ρ' id=some b->(∃ i,ρ i=some b)\/w.heap.size<=b
 dnew: ∀ b,D' b->D b\/(∃ i,ρ i=some b)\/w.heap.size<=b
theorem kk8 {w w':World} {b:Nat} (h:w'.heap[b]? =w.heap[b]?) (o:Nat) (s:Option Nat):w'.cell? ⟨b,o,s⟩=w.cell? ⟨b,o,s⟩:=by
 simp only[World.cell?,h]
theorem R.mono {D D':Nat->Prop} {w w':World} (sub: ∀ b,D b->D' b) (fr: ∀ b,D b->w'.heap[b]? =w.heap[b]?)
  (shape: ∀ (b:Nat) (real:Array Value) (ty:TypeId) (mk:Nat×Nat),w.heap[b]? =some (Obj.cells real ty mk)-> ∃(real':Array Value) (mk':Nat×Nat),w'.heap[b]? =some (Obj.cells real' ty mk')/\real'.size=real.size)
  {V:Ids} {ρ:Ren} {x:AV} {v:Value} (h:R D w V ρ x v):
  ∀ {V':Ids} {ρ':Ren},(∀ i,V i->V' i)->(∀ id b,V id->ρ' id=some b->ρ id=some b)->R D' w' V' ρ' x v:=by
 induction h with
 |bool b=>intros;exact .bool b
 |int k n=>intros;exact .int k n
 |str s h=>intros;exact .str s h
 |nilp=>intros;exact .nilp
 |ptr h ha=>intro V' ρ' hn hr;exact .ptr (hn _ h) fun b hb=>ha b (hr _ _ h hb)
 |ip c hD hc _ ih=>intro V' ρ' _ _;exact .ip c (sub _ hD) (fun j hj=>by rw[kk8 (fr _ hD)];exact hc j hj) (fun j x hx=>ih j x hx (fun _ h=>h) (fun _ _ h _=>h.elim))
 |sl h hn hc ha=>
  intro V' ρ' hn' hr;refine .sl (hn' _ h) hn hc fun b hb=> ?_
  rcases ha b (hr _ _ h hb) with h0 | ⟨h1,real,ty,mk,h2,h3⟩
  ·exact .inl h0
  ·obtain⟨real',mk',h4,h5⟩:=shape _ _ _ _ h2;exact .inr ⟨h1,real',ty,mk',h4,by omega⟩
 |imn hc ha=>intros;exact .imn hc ha
 |im c hn hcl hD hl hc _ ih=>intro V' ρ' _ _;exact .im c hn hcl (sub _ hD) hl (fun i j hi hj=>by rw[kk8 (fr _ hD)];exact hc i j hi hj) (fun i j e x he hx=>ih i j e x he hx (fun _ h=>h) (fun _ _ h _=>h.elim))
 |fn lf lc _ _ ihf ihc=>intro V' ρ' hn hr;exact .fn lf lc (fun j x v hx hv=>ihf j x v hx hv hn hr) (fun j x v hx hv=>ihc j x v hx hv hn hr)
 |yld h hl=>intro V' ρ' hn hr;exact .yld (hn _ h) fun b hb=>hl b (hr _ _ h hb)
 |nilf=>intros;exact .nilf
 |nilm=>intros;exact .nilm
 |mp h hl=>intro V' ρ' hn hr;exact .mp (hn _ h) fun b hb=>hl b (hr _ _ h hb)
 |nili=>intros;exact .nili
 |ifv=>intros;exact .ifv
 |ifc _ ih=>intro V' ρ' hn hr;exact .ifc (ih hn hr)
 |nils=>intros;exact .nils
 |agg hl _ ih=>intro V' ρ' hn hr;exact .agg hl (fun j x v hx hv=>ih j x v hx hv hn hr)
 |tup hl _ ih=>intro V' ρ' hn hr;exact .tup hl (fun j x v hx hv=>ih j x v hx hv hn hr)
section
variable {D D' D₂:Nat->Prop} {ρ ρ' ρ₂:Ren} {w w' w₂:World} {V V' V₂:Ids}
theorem Ext.refl (D:Nat->Prop) (ρ:Ren) (w:World) (V:Ids):Ext D ρ w V D ρ w V:=
 ⟨fun _ h=>h,rfl,rfl,rfl,yah _,fun _ h=>h,fun _ _ _=>rfl,fun _ real _ mk h=>⟨real,mk,h,rfl⟩,fun _ r h=>⟨r,h,rfl⟩,fun _ _ _ h=>h,fun id _ h=> .inl ⟨id,h⟩,fun _ h=> .inl h⟩
theorem Ext.trans (h:Ext D ρ w V D' ρ' w' V') (k:Ext D' ρ' w' V' D₂ ρ₂ w₂ V₂):Ext D ρ w V D₂ ρ₂ w₂ V₂ where
 ids:=fun i hi=>k.ids i (h.ids i hi)
 os:=k.os.trans h.os
 tape:=k.tape.trans h.tape
 output:=k.output.trans h.output
 size:=yaf h.size k.size
 sub:=fun b hb=>k.sub b (h.sub b hb)
 frame:=fun b hb hf=>by
  refine(k.frame b (Nat.lt_of_lt_of_le hb h.size) ?_).trans (h.frame b hb hf);rcases hf with hf |hf
  ·exact .inl (h.sub b hf)
  ·refine .inr fun id hid=> ?_
   rcases h.new id b hid with⟨i,hi⟩ |hge
   ·exact hf i hi
   ·omega
 shape:=fun b real ty mk hb=>by
  obtain⟨r1,mk1,h1,h2⟩:=h.shape b real ty mk hb;obtain⟨r2,mk2,h3,h4⟩:=k.shape b r1 ty mk1 h1;exact⟨r2,mk2,h3,h4.trans h2⟩
 loops:=fun b r hb=>by
  obtain⟨r1,h1,h2⟩:=h.loops b r hb;obtain⟨r2,h3,h4⟩:=k.loops b r1 h1;exact⟨r2,h3,h4.trans h2⟩
 ren:=fun id b hid hb=>h.ren id b hid (k.ren id b (h.ids id hid) hb)
 new:=fun id b hb=>by
  rcases k.new id b hb with⟨i,hi⟩ |hge
  ·exact h.new i b hi
  ·exact .inr (yaf h.size hge)
 dnew:=fun b hb=>by
  rcases k.dnew b hb with hb | ⟨i,hi⟩ |hge
  ·exact h.dnew b hb
  ·exact .inr (h.new i b hi)
  ·exact .inr (.inr (yaf h.size hge))
theorem R.ext (e:Ext D ρ w V D' ρ' w' V') (db: ∀ b,D b->b<w.heap.size) {x:AV} {v:Value} (h:R D w V ρ x v):R D' w' V' ρ' x v:=
 h.mono e.sub (fun b hb=>e.frame b (db b hb) (.inl hb)) e.shape e.ids e.ren
theorem R.any {x:AV} {v:Value} (h:R D w Ids.none Ren.none x v):R D w V ρ x v:=
 h.mono (fun _ h=>h) (fun _ _=>rfl) (fun _ real _ mk h=>⟨real,mk,h,rfl⟩) (fun _ h=>h.elim) (fun _ _ h _=>h.elim)
theorem R.sub {x:AV} {v:Value} (hs: ∀ b,D b->D' b) (h:R D w V ρ x v):R D' w V ρ x v:=
 h.mono hs (fun _ _=>rfl) (fun _ real _ mk h=>⟨real,mk,h,rfl⟩) (fun _ h=>h) (fun _ _ _ h=>h)
end
def kr6 (mk:Nat×Nat) (n:Nat):Prop:=∀ j,j<n-> ¬(mk.1<=j/\j<mk.2)
structure LRel (D:Nat->Prop) (w:World) (V:Ids) (ρ:Ren) (l:ALoop) (r:Loop) (cs:Code->AC->Prop):Prop where
 st:(match r.state with | .ready=>0 | .busy=>1 | .done=>2 | .exhausted=>3)=l.st
 pend:(match r.pending,l.pend with
  |none,none=>True
  |some (.exit i),some (.ext j)=>i=j
  |some (.goto i),some (.gto j)=>i=j
  |some .ret,some .ret=>True
  |_,_=>False)
 size:l.nt<=r.tmps.size
 tmps: ∀ t,R D w V ρ ((l.r.get t).getD (.tup [])) (r.tmps.getD t undef)
 ps:r.params.toList=l.ps
 lt: ∀ p ∈ l.ps,p<l.nt
 asg:cs r.assign l.asg
 body:cs r.body l.body
structure CodeRel where
 rel:Nat->Code->AC->Prop
def BRel (C:CodeRel) (D:Nat->Prop) (w:World) (V:Ids) (ρ:Ren) (b:Nat):Blk->Prop
 | .cells cs fz ty=>(fz=true->D b)/\(fz=false-> ¬D b)/\ ∃(real:Array Value) (mk:Nat×Nat),w.heap[b]? =some (Obj.cells real ty mk)/\kr6 mk real.size/\cs.length<=real.size/\
  ∀ (j:Nat) (x:AV),cs[j]? =some x-> ∃ v,real[j]? =some v/\R D w V ρ x v
 | .map es=>¬D b/\ ∃(ents:Array MapEntry) (clock:Nat),w.heap[b]? =some (.map ents clock)/\ents.size=es.length/\
  ∀ (j:Nat) (x:AV×AV),es[j]? =some x-> ∃ e:MapEntry,ents[j]? =some e/\R D w V ρ x.1 e.key/\R D w V ρ x.2 e.val
 | .loop l=>¬D b/\ ∃ r,w.heap[b]? =some (.loop r)/\LRel D w V ρ l r (C.rel l.nt)
 | .own .. =>False
 | .pre .. =>False
 | .text v ty=>¬D b/\ ∃(bs:List UInt8) (real:Array Value) (hi:Nat),v= .str bs/\w.heap[b]? =some (Obj.cells real ty (0,hi))/\(0<bs.length/\bs.length<=hi)/\(bs.length<=real.size/\bs.length<=kaq)/\
  ∀ (j:Nat) (x:UInt8),bs[j]? =some x->real[j]? =some (.int .u8 x.toNat)
structure HRel (C:CodeRel) (D:Nat->Prop) (w:World) (V:Ids) (ρ:Ren) (h:T Blk):Prop where
 lo: ∀ id,¬V id->h.get id=none
 dom: ∀ id b,ρ id=some b-> ∃ k,h.get id=some k
 inj: ∀ i j b,ρ i=some b->ρ j=some b->i=j
 bk: ∀ id k,h.get id=some k-> ∃ b,ρ id=some b/\BRel C D w V ρ b k
structure GOk [Gl] (D:Nat->Prop) (w:World):Prop where
 tab: ∀ g x,Gl.tab g=some x->R D w Ids.none Ren.none x (.pointer (some ⟨g,0,none⟩))
 fact:Gl.fact D w
structure Regs [Gl] (D:Nat->Prop) (w:World) (V:Ids) (ρ:Ren) (s:St) (a:Act):Prop where
 regs: ∀ t,R D w V ρ (s.rg t) (a.tmps.getD t undef)
 gl:GOk D w
structure SRel [Gl] (C:CodeRel) (D:Nat->Prop) (w:World) (V:Ids) (ρ:Ren) (nt:Nat) (s:St) (a:Act):Prop where
 size:nt<=a.tmps.size
 regs:Regs D w V ρ s a
 heap:HRel C D w V ρ s.h
 top: ∀ i,V i->i<s.nx
 db: ∀ b,D b->b<w.heap.size
theorem HRel.lt {C:CodeRel} {D:Nat->Prop} {w:World} {V:Ids} {ρ:Ren} {h:T Blk} (H:HRel C D w V ρ h) {id b:Nat} (hb:ρ id=some b):V id:=by
 obtain⟨k,hk⟩:=H.dom id b hb;refine Classical.byContradiction fun hle=> ?_
 rw[H.lo id hle] at hk;cases hk
theorem BRel.lt {C:CodeRel} {D:Nat->Prop} {w:World} {V:Ids} {ρ:Ren} {b:Nat} {k:Blk} (h:BRel C D w V ρ b k):b<w.heap.size:=by
 have key: ∀ o,w.heap[b]? =some o->b<w.heap.size:=fun o ho=>(Array.getElem?_eq_some_iff.1 ho).1
 cases k with
 |cells cs fz ty=>obtain⟨_,_,_,_,h,_⟩:=h;exact key _ h
 |map es=>obtain⟨_,_,_,h,_⟩:=h;exact key _ h
 |loop l=>obtain⟨_,_,h,_⟩:=h;exact key _ h
 |own=>exact h.elim
 |pre=>exact h.elim
 |text v ty=>obtain⟨_,_,_,_,_,h,_⟩:=h;exact key _ h
theorem HRel.blt {C:CodeRel} {D:Nat->Prop} {w:World} {V:Ids} {ρ:Ren} {h:T Blk} (H:HRel C D w V ρ h) {id b:Nat} (hb:ρ id=some b):b<w.heap.size:=by
 obtain⟨k,hk⟩:=H.dom id b hb;obtain⟨b',h1,h2⟩:=H.bk id k hk;rw[hb] at h1;cases h1;exact h2.lt
open Go.RowKit
theorem kdj (b o j:Nat):(⟨b,o,none⟩:Addr).add j=⟨b,o+j,none⟩:=by
 unfold Addr.add;split
 ·rename_i h;subst h;rfl
 ·rfl
def RL (D:Nat->Prop) (w:World) (V:Ids) (ρ:Ren) (xs:List AV) (vs:List Value):Prop:=
 xs.length=vs.length/\ ∀ (j:Nat) (x:AV) (v:Value),xs[j]? =some x->vs[j]? =some v->R D w V ρ x v
section
variable {C:CodeRel} {D D':Nat->Prop} {ρ ρ':Ren} {w w':World} {V V':Ids} {h:T Blk}
theorem RL.nil:RL D w V ρ [] []:=⟨rfl,fun j x v hx _=>by simp at hx⟩
theorem RL.cons {x:AV} {v:Value} {xs:List AV} {vs:List Value} (h1:R D w V ρ x v) (h2:RL D w V ρ xs vs):RL D w V ρ (x::xs) (v::vs):=by
 refine⟨by simp[h2.1],fun j y u hy hu=> ?_⟩;cases j with
 |zero=>simp at hy hu;subst hy;subst hu;exact h1
 |succ j=>exact h2.2 j y u (by simpa using hy) (by simpa using hu)
theorem RL.inv_cons {x:AV} {xs:List AV} {vs:List Value} (h:RL D w V ρ (x::xs) vs): ∃ v us,vs=v::us/\R D w V ρ x v/\RL D w V ρ xs us:=by
 obtain⟨hl,h⟩:=h;cases vs with
 |nil=>simp at hl
 |cons v us=>exact⟨v,us,rfl,h 0 x v rfl rfl,by simpa using hl,fun j y u hy hu=>h (j+1) y u (by simpa using hy) (by simpa using hu)⟩
theorem RL.inv_nil {vs:List Value} (h:RL D w V ρ [] vs):vs=[]:=List.length_eq_zero_iff.1 h.1.symm
theorem RL.append {xs ys:List AV} {us vs:List Value} (h1:RL D w V ρ xs us) (h2:RL D w V ρ ys vs):RL D w V ρ (xs++ys) (us++vs):=by
 refine⟨by simp[h1.1,h2.1],fun j x v hx hv=> ?_⟩;by_cases hj:j<xs.length
 ·rw[yad hj] at hx;rw[yad (by rw[←h1.1];exact hj)] at hv;exact h1.2 j x v hx hv
 ·rw[yaa (yag hj)] at hx;rw[yaa (by rw[←h1.1];exact yag hj),←h1.1] at hv;exact h2.2 _ x v hx hv
theorem RL.take {xs:List AV} {vs:List Value} (h:RL D w V ρ xs vs) (n:Nat):RL D w V ρ (xs.take n) (vs.take n):=by
 refine⟨by simp[h.1],fun j x v hx hv=> ?_⟩;rw[yab] at hx hv;split at hx
 ·rename_i hj;rw[iq hj] at hv;exact h.2 j x v hx hv
 ·cases hx
theorem RL.drop {xs:List AV} {vs:List Value} (h:RL D w V ρ xs vs) (n:Nat):RL D w V ρ (xs.drop n) (vs.drop n):=by
 refine⟨by simp[h.1],fun j x v hx hv=> ?_⟩;rw[yac] at hx hv;exact h.2 _ x v hx hv
theorem RL.splice {xs ys:List AV} {us vs:List Value} (h1:RL D w V ρ xs us) (h2:RL D w V ρ ys vs) (off:Nat):RL D w V ρ (Hz.splice xs off ys) (us.take off++vs++us.drop (off+vs.length)):=by
 unfold Hz.splice;rw[h2.1];exact((h1.take off).append h2).append (h1.drop _)
theorem RL.ext (e:Ext D ρ w V D' ρ' w' V') (db: ∀ b,D b->b<w.heap.size) {xs:List AV} {vs:List Value} (h:RL D w V ρ xs vs):RL D' w' V' ρ' xs vs:=
 ⟨h.1,fun j x v hx hv=>(h.2 j x v hx hv).ext e db⟩
theorem RL.one {xs:List AV} {vs:List Value} (h:RL D w V ρ xs vs) (h1:xs.all AV.one=true): ∀ v ∈ vs,v.oneCell'=true:=by
 intro v hv;obtain⟨j,hj⟩:=List.mem_iff_getElem?.1 hv;have hlt:j<xs.length:=by rw[h.1];exact(yae.1 hj).1
 have hx:=List.getElem?_eq_getElem hlt;have hr:=h.2 j _ v hx hj;have ho:=List.all_eq_true.1 h1 _ (List.getElem_mem hlt);generalize xs[j]=x at hr ho;cases hr <;> first |rfl |(simp[AV.one] at ho)
theorem kjv {A:Nat->Value->Prop}: ∀ (xs:List AV),(∀ (j:Nat) (x:AV),xs[j]? =some x-> ∃ v,A j v/\R D w V ρ x v)->
  ∃ vs,RL D w V ρ xs vs/\ ∀ j v,vs[j]? =some v->A j v:=by
 intro xs
 induction xs generalizing A with
 |nil=>intro _;exact⟨[],.nil,fun j v h=>by simp at h⟩
 |cons x xs ih=>
  intro H;obtain⟨v,hv,hr⟩:=H 0 x rfl;obtain⟨vs,h1,h2⟩:=ih (A:=fun j v=>A (j+1) v) (fun j y hy=>H (j+1) y (by simpa using hy));refine⟨v::vs,.cons hr h1,fun j u hu=> ?_⟩;cases j with
  |zero=>simp at hu;subst hu;exact hv
  |succ j=>exact h2 j u (by simpa using hu)
theorem R.agg_inv {cs:List AV} {v:Value} (h:R D w V ρ (.agg cs) v): ∃ vs:Array Value,v= .agg vs/\RL D w V ρ cs vs.toList:=by
 cases h with
 |agg hl h=>exact⟨_,rfl,by simpa using hl,fun j x v hx hv=>h j x v hx (by simpa using hv)⟩
theorem R.tup_inv {cs:List AV} {v:Value} (h:R D w V ρ (.tup cs) v): ∃ vs:Array Value,v= .tuple vs/\RL D w V ρ cs vs.toList:=by
 cases h with
 |tup hl h=>exact⟨_,rfl,by simpa using hl,fun j x v hx hv=>h j x v hx (by simpa using hv)⟩
theorem R.agg_mk {cs:List AV} {vs:List Value} (h:RL D w V ρ cs vs):R D w V ρ (.agg cs) (.agg vs.toArray):=
 .agg (by simpa using h.1) fun j x v hx hv=>h.2 j x v hx (by simpa using hv)
theorem R.tup_mk {cs:List AV} {vs:List Value} (h:RL D w V ρ cs vs):R D w V ρ (.tup cs) (.tuple vs.toArray):=
 .tup (by simpa using h.1) fun j x v hx hv=>h.2 j x v hx (by simpa using hv)
theorem R.cells {x:AV} {v:Value} (h:R D w V ρ x v):RL D w V ρ x.cells v.cells.toList:=by
 cases h with
 |agg hl h=>exact⟨by simpa[AV.cells,Value.cells] using hl,fun j x v hx hv=>h j x v hx (by simpa[Value.cells] using hv)⟩
 |_=>exact RL.cons (by constructor <;> assumption) .nil
theorem kko {cs l:List AV} {off n:Nat} (hr:kb2 cs off n=some l):off+n<=cs.length/\l=(cs.drop off).take n/\l.length=n:=by
 unfold kb2 at hr;split at hr
 ·rename_i hl;cases hr;exact⟨hl,rfl,by simp;omega⟩
 ·cases hr
theorem BRel.cell {b ty:Nat} {cs:List AV} {fz:Bool} (hb:BRel C D w V ρ b (.cells cs fz ty)) {j:Nat} {x:AV} (hx:cs[j]? =some x):
  ∃ v,w.cell? ⟨b,j,none⟩=some v/\R D w V ρ x v:=by
 obtain⟨_,_,real,mk,h1,_,_,h4⟩:=hb;obtain⟨v,hv,hr⟩:=h4 j x hx;exact⟨v,by simp[World.cell?,h1,hv],hr⟩
theorem qm2 (H:HRel C D w V ρ h) {x:AV} {v:Value} (hv:R D w V ρ x v) {n:Nat} {cs:List AV} (hr:rdH h x n=some cs):
  ∃ a vs,v= .pointer (some a)/\RL D w V ρ cs vs/\vs.length=n/\ ∀ j u,vs[j]? =some u->w.cell? (a.add j)=some u:=by
 unfold rdH at hr;split at hr
 ·rename_i id off;cases hv with
  |ptr hid ha=>
   rename_i a;split at hr
   ·rename_i cs0 fz ty hg;obtain⟨b,hb,hB⟩:=H.bk id _ hg;have:=ha b hb;subst this;obtain⟨hle,rfl,hl⟩:=kko hr;obtain⟨vs,h1,h2⟩:=kjv (A:=fun j u=>w.cell? ⟨b,off+j,none⟩=some u) ((cs0.drop off).take n) (D:=D) (w:=w) (V:=V) (ρ:=ρ) (fun j y hy=>by
     rw[yab] at hy;split at hy
     ·rw[yac] at hy;exact hB.cell hy
     ·cases hy)
    exact⟨_,vs,rfl,h1,by rw[←h1.1,hl],fun j u hu=>by rw[kdj];exact h2 j u hu⟩
   ·cases hr
 ·rename_i cs0 off;cases hv with
  |ip c hD hc h1=>
   rename_i b o;obtain⟨hle,rfl,hl⟩:=kko hr;obtain⟨vs,h2,h3⟩:=kjv (A:=fun j u=>w.cell? ⟨b,o+off+j,none⟩=some u) ((cs0.drop off).take n) (D:=D) (w:=w) (V:=V) (ρ:=ρ) (fun j y hy=>by
    rw[yab] at hy;split at hy
    ·rw[yac] at hy;have hlt:=(yae.1 hy).1;exact⟨c (off+j),by rw[Nat.add_assoc];exact hc _ hlt,(h1 _ _ hy).any⟩
    ·cases hy)
   exact⟨_,vs,rfl,h2,by rw[←h2.1,hl],fun j u hu=>by rw[kdj];exact h3 j u hu⟩
 ·cases hr
theorem BRel.ext {b:Nat} {k:Blk} (e:Ext D ρ w V D' ρ' w' V') (db: ∀ b,D b->b<w.heap.size) (hb:w'.heap[b]? =w.heap[b]?) (hd:D' b->D b) (hk:BRel C D w V ρ b k):BRel C D' w' V' ρ' b k:=by
 cases k with
 |cells cs fz ty=>
  obtain⟨h1,h2,real,mk,h3,h4,h5,h6⟩:=hk;exact⟨fun hf=>e.sub _ (h1 hf),fun hf hD=>h2 hf (hd hD),real,mk,hb.trans h3,h4,h5,fun j x hx=>let ⟨v,hv,hr⟩:=h6 j x hx;⟨v,hv,hr.ext e db⟩⟩
 |map es=>
  obtain⟨h1,ents,clock,h2,h3,h4⟩:=hk;exact⟨fun hD=>h1 (hd hD),ents,clock,hb.trans h2,h3,fun j x hx=>let ⟨v,hv,hr,hr2⟩:=h4 j x hx;⟨v,hv,hr.ext e db,hr2.ext e db⟩⟩
 |loop l=>
  obtain⟨h1,r,h2,h3⟩:=hk;exact⟨fun hD=>h1 (hd hD),r,hb.trans h2,⟨h3.st,h3.pend,h3.size,fun t=>(h3.tmps t).ext e db,h3.ps,h3.lt,h3.asg,h3.body⟩⟩
 |own=>exact hk.elim
 |pre=>exact hk.elim
 |text v ty=>
  obtain⟨h1,bs,real,hi,h2,h3,h4⟩:=hk;exact⟨fun hD=>h1 (hd hD),bs,real,hi,h2,hb.trans h3,h4⟩
theorem Ren.set_same (ρ:Ren) (i:Nat) (b:Option Nat):ρ.set i b i=b:=by simp[Ren.set]
theorem Ren.set_ne (ρ:Ren) {i j:Nat} (b:Option Nat) (hne:i≠j):ρ.set i b j=ρ j:=by simp[Ren.set,hne]
theorem kez (w:World) (o:Obj):(w.alloc o).heap[w.heap.size]? =some o:=heap_alloc_new w o
theorem ke0 (w:World) (o:Obj) (i:Nat) (hi:i<w.heap.size):(w.alloc o).heap[i]? =w.heap[i]? :=heap_alloc_old w o i hi
theorem Ext.add {id:Nat} (hid: ¬V id) (o:Obj):Ext D ρ w V D (ρ.set id (some w.heap.size)) (w.alloc o) (V.add id) where
 ids:=fun _ hi=> .inl hi
 os:=rfl
 tape:=rfl
 output:=rfl
 size:=by simp
 sub:=fun _ hb=>hb
 frame:=fun b hb _=>ke0 w o b hb
 shape:=fun b real ty mk hb=>⟨real,mk,by rw[ke0 w o b (Array.getElem?_eq_some_iff.1 hb).1];exact hb,rfl⟩
 loops:=fun b r hb=>⟨r,by rw[ke0 w o b (Array.getElem?_eq_some_iff.1 hb).1];exact hb,rfl⟩
 ren:=fun j b hj hb=>by
  have hne:id≠j:=fun e=>hid (e ▸ hj)
  rwa[Ren.set_ne _ _ hne] at hb
 new:=fun j b hb=>by
  by_cases hj:id=j
  ·subst hj;rw[Ren.set_same] at hb;cases hb;exact .inr (yah _)
  ·rw[Ren.set_ne _ _ hj] at hb;exact .inl ⟨j,hb⟩
 dnew:=fun b hb=> .inl hb
theorem HRel.add (H:HRel C D w V ρ h) (db: ∀ b,D b->b<w.heap.size) {id:Nat} (hid: ¬V id) (o:Obj) (k:Blk)
  (hk:BRel C D (w.alloc o) (V.add id) (ρ.set id (some w.heap.size)) w.heap.size k):
  HRel C D (w.alloc o) (V.add id) (ρ.set id (some w.heap.size)) (h.put id (some k)) where
 lo:=fun j hj=>by
  rw[T.get_put];have h1: ¬V j:=fun hv=>hj (.inl hv)
  have h2: ¬id=j:=fun e=>hj (.inr e.symm)
  rw[ir h2];exact H.lo j h1
 dom:=fun j b hb=>by
  rw[T.get_put];by_cases hj:id=j
  ·rw[iq hj];exact⟨k,rfl⟩
  ·rw[ir hj];rw[Ren.set_ne _ _ hj] at hb;exact H.dom j b hb
 inj:=fun i j b hi hj=>by
  by_cases h1:id=i <;> by_cases h2:id=j
  ·exact h1.symm.trans h2
  ·subst h1;rw[Ren.set_same] at hi;cases hi;rw[Ren.set_ne _ _ h2] at hj;exact absurd (H.blt hj) (yai _)
  ·subst h2;rw[Ren.set_same] at hj;cases hj;rw[Ren.set_ne _ _ h1] at hi;exact absurd (H.blt hi) (yai _)
  ·rw[Ren.set_ne _ _ h1] at hi;rw[Ren.set_ne _ _ h2] at hj;exact H.inj i j b hi hj
 bk:=fun j k' hk'=>by
  rw[T.get_put] at hk';by_cases hj:id=j
  ·subst hj;rw[iq rfl] at hk';cases hk';exact⟨_,Ren.set_same _ _ _,hk⟩
  ·rw[ir hj] at hk';obtain⟨b,hb,hB⟩:=H.bk j k' hk';exact⟨b,by rw[Ren.set_ne _ _ hj];exact hb,hB.ext (Ext.add hid o) db (ke0 w o b (H.blt hb)) (fun h=>h)⟩
theorem Ext.upd {id b:Nat} (hb:ρ id=some b) (hnd: ¬D b) (os:w'.os=w.os) (tape:w'.tape=w.tape) (output:w'.output=w.output)
  (size:w'.heap.size=w.heap.size) (hsame: ∀ c,c≠b->w'.heap[c]? =w.heap[c]?)
  (hshape: ∀ (real:Array Value) (ty:TypeId) (mk:Nat×Nat),w.heap[b]? =some (Obj.cells real ty mk)-> ∃(real':Array Value) (mk':Nat×Nat),w'.heap[b]? =some (Obj.cells real' ty mk')/\real'.size=real.size)
  (hloop: ∀ r:Loop,w.heap[b]? =some (.loop r)-> ∃ r':Loop,w'.heap[b]? =some (.loop r')/\r'.defers=r.defers):
  Ext D ρ w V D ρ w' V where
 ids:=fun _ hi=>hi
 os:=os
 tape:=tape
 output:=output
 size:=Nat.le_of_eq size.symm
 sub:=fun _ hb=>hb
 frame:=fun c _ hf=>hsame c (fun e=>by
  subst e;rcases hf with hf |hf
  ·exact hnd hf
  ·exact hf id hb)
 shape:=fun c real ty mk hc=>by
  by_cases e:c=b
  ·subst e;exact hshape real ty mk hc
  ·exact⟨real,mk,(hsame c e).trans hc,rfl⟩
 loops:=fun c r hc=>by
  by_cases e:c=b
  ·subst e;exact hloop r hc
  ·exact⟨r,(hsame c e).trans hc,rfl⟩
 ren:=fun _ _ _ hb=>hb
 new:=fun j _ hb=> .inl ⟨j,hb⟩
 dnew:=fun _ hb=> .inl hb
theorem HRel.upd (H:HRel C D w V ρ h) (db: ∀ b,D b->b<w.heap.size) {id b:Nat} (hb:ρ id=some b) (e:Ext D ρ w V D ρ w' V) (hsame: ∀ c,c≠b->w'.heap[c]? =w.heap[c]?)
  (k:Blk) (hk:BRel C D w' V ρ b k):HRel C D w' V ρ (h.put id (some k)) where
 lo:=fun j hj=>by
  have hne: ¬id=j:=fun e'=>hj (by subst e';exact H.lt hb)
  rw[T.get_put,ir hne];exact H.lo j hj
 dom:=fun j c hc=>by
  rw[T.get_put];by_cases hj:id=j
  ·rw[iq hj];exact⟨k,rfl⟩
  ·rw[ir hj];exact H.dom j c hc
 inj:=H.inj
 bk:=fun j k' hk'=>by
  rw[T.get_put] at hk';by_cases hj:id=j
  ·subst hj;rw[iq rfl] at hk';cases hk';exact⟨b,hb,hk⟩
  ·rw[ir hj] at hk';obtain⟨c,hc,hB⟩:=H.bk j k' hk';exact⟨c,hc,hB.ext e db (hsame c (fun e=>hj (H.inj id j b hb (e ▸ hc)))) (fun h=>h)⟩
theorem HRel.kill (H:HRel C D w V ρ h) (db: ∀ b,D b->b<w.heap.size) (id:Nat):
  HRel C D w V (ρ.set id none) (h.put id none)/\Ext D ρ w V D (ρ.set id none) w V:=by
 have e:Ext D ρ w V D (ρ.set id none) w V:=by
  refine⟨fun _ h=>h,rfl,rfl,rfl,yah _,fun _ h=>h,fun _ _ _=>rfl,fun _ real _ mk h=>⟨real,mk,h,rfl⟩,fun _ r h=>⟨r,h,rfl⟩,fun j b _ hb=> ?_,fun j b hb=> ?_,fun _ h=> .inl h⟩
  ·by_cases hj:id=j
   ·subst hj;rw[Ren.set_same] at hb;cases hb
   ·rwa[Ren.set_ne _ _ hj] at hb
  ·by_cases hj:id=j
   ·subst hj;rw[Ren.set_same] at hb;cases hb
   ·rw[Ren.set_ne _ _ hj] at hb;exact .inl ⟨j,hb⟩
 refine⟨⟨fun j hj=> ?_,fun j b hb=> ?_,fun i j b hi hj=> ?_,fun j k hk=> ?_⟩,e⟩
 ·rw[T.get_put];split
  ·rfl
  ·exact H.lo j hj
 ·by_cases hj:id=j
  ·subst hj;rw[Ren.set_same] at hb;cases hb
  ·rw[Ren.set_ne _ _ hj] at hb;rw[T.get_put,ir hj];exact H.dom j b hb
 ·by_cases h1:id=i
  ·subst h1;rw[Ren.set_same] at hi;cases hi
  ·by_cases h2:id=j
   ·subst h2;rw[Ren.set_same] at hj;cases hj
   ·rw[Ren.set_ne _ _ h1] at hi;rw[Ren.set_ne _ _ h2] at hj;exact H.inj i j b hi hj
 ·rw[T.get_put] at hk;by_cases hj:id=j
  ·rw[iq hj] at hk;cases hk
  ·rw[ir hj] at hk;obtain⟨b,hb,hB⟩:=H.bk j k hk;exact⟨b,by rw[Ren.set_ne _ _ hj];exact hb,hB.ext e db rfl (fun h=>h)⟩
theorem HRel.rename (H:HRel C D w V ρ h) {id b:Nat} (hid: ¬V id) (hfree: ∀ j,ρ j≠some b) (k:Blk)
  (hk:BRel C D w (V.add id) (ρ.set id (some b)) b k):
  HRel C D w (V.add id) (ρ.set id (some b)) (h.put id (some k)):=by
 have mono: ∀ {x:AV} {v:Value},R D w V ρ x v->R D w (V.add id) (ρ.set id (some b)) x v:=fun hr=>
  hr.mono (fun _ h=>h) (fun _ _=>rfl) (fun _ real _ mk h=>⟨real,mk,h,rfl⟩) (fun _ h=> .inl h) (fun j c hj hc=>by
   have hne:id≠j:=fun e=>hid (e ▸ hj)
   rwa[Ren.set_ne _ _ hne] at hc)
 have mB: ∀ {c:Nat} {k:Blk},BRel C D w V ρ c k->BRel C D w (V.add id) (ρ.set id (some b)) c k:=by
  intro c k hB;cases k with
  |cells cs fz ty=>
   obtain⟨h1,h2,real,mk,h3,h4,h5,h6⟩:=hB;exact⟨h1,h2,real,mk,h3,h4,h5,fun j x hx=>let ⟨v,hv,hr⟩:=h6 j x hx;⟨v,hv,mono hr⟩⟩
  |map es=>
   obtain⟨h1,ents,clock,h2,h3,h4⟩:=hB;exact⟨h1,ents,clock,h2,h3,fun j x hx=>let ⟨v,hv,hr,hr2⟩:=h4 j x hx;⟨v,hv,mono hr,mono hr2⟩⟩
  |loop l=>
   obtain⟨h1,r,h2,h3⟩:=hB;exact⟨h1,r,h2,⟨h3.st,h3.pend,h3.size,fun t=>mono (h3.tmps t),h3.ps,h3.lt,h3.asg,h3.body⟩⟩
  |own=>exact hB.elim
  |pre=>exact hB.elim
  |text v ty=>exact hB
 refine⟨fun j hj=> ?_,fun j c hc=> ?_,fun i j c hi hj=> ?_,fun j k' hk'=> ?_⟩
 ·have h1: ¬V j:=fun hv=>hj (.inl hv)
  have h2: ¬id=j:=fun e=>hj (.inr e.symm)
  rw[T.get_put,ir h2];exact H.lo j h1
 ·rw[T.get_put];by_cases hj:id=j
  ·rw[iq hj];exact⟨k,rfl⟩
  ·rw[ir hj];rw[Ren.set_ne _ _ hj] at hc;exact H.dom j c hc
 ·by_cases h1:id=i <;> by_cases h2:id=j
  ·exact h1.symm.trans h2
  ·subst h1;rw[Ren.set_same] at hi;cases hi;rw[Ren.set_ne _ _ h2] at hj;exact absurd hj (hfree j)
  ·subst h2;rw[Ren.set_same] at hj;cases hj;rw[Ren.set_ne _ _ h1] at hi;exact absurd hi (hfree i)
  ·rw[Ren.set_ne _ _ h1] at hi;rw[Ren.set_ne _ _ h2] at hj;exact H.inj i j c hi hj
 ·rw[T.get_put] at hk';by_cases hj:id=j
  ·subst hj;rw[iq rfl] at hk';cases hk';exact⟨b,Ren.set_same _ _ _,hk⟩
  ·rw[ir hj] at hk';obtain⟨c,hc,hB⟩:=H.bk j k' hk';exact⟨c,by rw[Ren.set_ne _ _ hj];exact hc,mB hB⟩
end
end Go.Proofs.Hz
