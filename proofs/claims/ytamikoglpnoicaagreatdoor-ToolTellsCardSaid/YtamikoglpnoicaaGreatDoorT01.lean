/-
  The abstract evaluator: values, heaps, operations, code. Nothing here speaks of the machine: it is plain Lean.
  Conditions: none.
-/
import GoSem.Dispatch
import Derived.Lib.Bytealg
namespace Go.Proofs.Hz
open List renaming replicate->yab
open Go.Op renaming bytesLess->yaa
open UInt8 renaming ofNat->yac
theorem iq {c:Prop} {h:Decidable c} (k:c) {α:Sort _} {a b:α}:ite c a b=a:=if_pos k
theorem ir {c:Prop} {h:Decidable c} (k: ¬c) {α:Sort _} {a b:α}:ite c a b=b:=if_neg k
inductive AV where
 |bool (b:Bool)
 |int (k:IntKind) (n:Int)
 |str (s:List UInt8)
 |nilp
 |ptr (id off:Nat)
 |ip (cs:List AV) (off:Nat)
 |sl (id off n sz:Nat) (c:Option Nat)
 |im (els:List (List AV)) (clip:Bool)
 |fn (f:Nat) (first caps:List AV)
 |yld (id:Nat)
 |nilf
 |nilm
 |mp (id:Nat)
 |nili
 |ifv
 |ifc (t:Nat) (x:AV)
 |nils
 |agg (cs:List AV)
 |tup (vs:List AV)
 |var (fl:Bool) (i:Nat)
class Gl where
 tab:Nat->Option AV
 X:Nat->Option (List AV->Option AV):=fun _=>none
 fact:(Nat->Prop)->World->Prop:=fun _ _=>True
 fact_ext: ∀ {D D':Nat->Prop} {w w':World},(∀ b,D b->D' b)->(∀ b,D b->w'.heap[b]? =w.heap[b]?)->fact D w->fact D' w':=by exact fun _ _ _=>trivial
inductive T (α:Type) where
 |nil
 |node (l:T α) (v:Option α) (r:T α)
namespace T
variable {α:Type}
def get:T α->Nat->Option α
 |nil,_=>none
 |node l v r,n=>if n=0 then v else if n % 2=1 then l.get (n / 2) else r.get (n / 2 - 1)
def left:T α->T α |nil=>nil |node l _ _=>l
def right:T α->T α |nil=>nil |node _ _ r=>r
def top:T α->Option α |nil=>none |node _ v _=>v
def kdo:Nat->T α->Nat->Option α->T α
 |0,t,_,_=>t
 |f+1,t,n,x=>
  if n=0 then node t.left x t.right
  else if n % 2=1 then node (kdo f t.left (n / 2) x) t.top t.right
  else node t.left t.top (kdo f t.right (n / 2 - 1) x)
def put (t:T α) (n:Nat) (x:Option α):T α:=kdo (n+1) t n x
theorem knb (t:T α):t.get 0=t.top:=by cases t <;> rfl
theorem kj9 (t:T α) {n:Nat} (h0:n≠0) (h:n % 2=1):t.get n=t.left.get (n / 2):=by
 cases t with
 |nil=>rfl
 |node l v r=>simp[get,h0,h,left]
theorem kj8 (t:T α) {n:Nat} (h0:n≠0) (h: ¬n % 2=1):t.get n=t.right.get (n / 2 - 1):=by
 cases t with
 |nil=>rfl
 |node l v r=>simp[get,h0,h,right]
theorem k9e: ∀ (f:Nat) (t:T α) (n:Nat) (x:Option α) (j:Nat),n<f->(kdo f t n x).get j=if n=j then x else t.get j:=by
 intro f
 induction f with
 |zero=>intro t n x j h;omega
 |succ f ih=>
  intro t n x j h;unfold kdo;by_cases h0:n=0
  ·subst h0;simp only[iq];by_cases hj:j=0
   ·subst hj;simp[get]
   ·have: ¬0=j:=fun e=>hj e.symm
    rw[ir this];by_cases ho:j % 2=1
    ·rw[kj9 _ hj ho,kj9 _ hj ho];rfl
    ·rw[kj8 _ hj ho,kj8 _ hj ho];rfl
  ·rw[ir h0];by_cases hn:n % 2=1
   ·rw[iq hn];by_cases hj:j=0
    ·subst hj;rw[ir h0,knb,knb];rfl
    ·by_cases ho:j % 2=1
     ·rw[kj9 _ hj ho,kj9 t hj ho];show(kdo f t.left (n / 2) x).get (j / 2)=_;rw[ih _ _ _ _ (by omega)];by_cases e:n=j
      ·subst e;simp
      ·rw[ir e,ir (by omega)]
     ·rw[kj8 _ hj ho,kj8 t hj ho,ir (by intro e;subst e;exact ho hn)];rfl
   ·rw[ir hn];by_cases hj:j=0
    ·subst hj;rw[ir h0,knb,knb];rfl
    ·by_cases ho:j % 2=1
     ·rw[kj9 _ hj ho,kj9 t hj ho,ir (by intro e;subst e;exact hn ho)];rfl
     ·rw[kj8 _ hj ho,kj8 t hj ho];show(kdo f t.right (n / 2 - 1) x).get (j / 2 - 1)=_;rw[ih _ _ _ _ (by omega)];by_cases e:n=j
      ·subst e;simp
      ·rw[ir e,ir (by omega)]
theorem get_put (t:T α) (n:Nat) (x:Option α) (j:Nat):(t.put n x).get j=if n=j then x else t.get j:=k9e _ _ _ _ _ (Nat.lt_succ_self n)
theorem get_nil (j:Nat):(nil:T α).get j=none:=rfl
end T
inductive AO where
 |t (n:Nat)
 |c (v:AV)
inductive AOp where
 |mov (x:AO)
 |pick (c a b:AO)
 |alloc (t:Nat) (z:List AV)
 |box (t:Nat) (x:AO)
 |build (z:List AV) (ps:List (Nat×Nat×AO))
 |bsl (t sz:Nat) (z:List AV) (ps:List (Nat×Nat×AO))
 |load (g:Bool) (n:Nat) (a:AO)
 |store (n:Nat) (a x:AO)
 |nilck (x:AO)
 |bin (op:BinOp) (x y:AO)
 |eqa (neg:Bool) (ks:List Nat) (x y:AO)
 |eqn (k:Nat) (neg:Bool) (x y:AO)
 |eqb (neg:Bool) (x y:AO)
 |un (op:UnOp) (x:AO)
 |conv (k:IntKind) (x:AO)
 |mvs (x:AO)
 |b2s (x:AO)
 |mkfn (f:Nat) (first caps:List AO)
 |faddr (off:Nat) (x:AO)
 |fld (g:Bool) (off n:Nat) (x:AO)
 |iaA (len sz:Nat) (x i:AO)
 |iaS (sz:Nat) (x i:AO)
 |ixA (g:Bool) (len sz:Nat) (x i:AO)
 |ixS (x i:AO)
 |slA (len sz:Nat) (x:AO) (lo hi mx:Option AO)
 |slS (sz:Nat) (x:AO) (lo hi mx:Option AO)
 |slT (x:AO) (lo hi:Option AO)
 |a2p (n:Nat) (x:AO)
 |mksl (t sz bytes:Nat) (z:List AV) (l c:AO)
 |mkmap
 |look (kk:Nat) (z:AV) (ok:Bool) (m k:AO)
 |mapup (kk:Nat) (m k x:AO)
 |extr (i:Nat) (x:AO)
 |app (t sz bytes:Nat) (s x:AO)
 |appn (t sz bytes:Nat) (z:List AV) (s n:AO)
 |cpy (sz:Nat) (d x:AO)
 |len (k:Nat) (x:AO)
 |lenc (n:Nat)
 |cap (x:AO)
 |mxi (x y:AO)
 |mni (x y:AO)
 |del (kk:Nat) (m k:AO)
 |cvp (t n:Nat) (x:AO)
 |usd (x:AO)
 |ust (t:Nat) (p n:AO)
 |s2b (t:Nat) (x:AO)
 |eqp (neg:Bool) (x y:AO)
 |mki (t:Nat) (x:AO)
 |eqi (neg:Bool) (t:Nat) (x y:AO)
 |ext (k:Nat) (x y:AO)
 |call (f:AO) (args:List AO)
 |fail
structure AOper where
 dst:Option Nat
 op:AOp
 guard:Option (Nat×Bool)
structure ADr where
 o:AOper
 i:Nat
 k:Nat
 back:Nat
 fl:Bool
inductive AC where
 |skip
 |reg (ops:List AOper)
 |drw (n:Nat) (ops:List ADr)
 |seq (a b:AC)
 |cond (x:AO) (a b:AC)
 |block (id:Nat) (b:AC)
 |loop (b:AC)
 |rngf (nt:Nat) (f:AO) (ps:List Nat) (asg body:AC)
 |exit (id:Nat)
 |scope (cur b:AC)
 |label (l:Nat)
 |goto (l:Nat)
 |ret
inductive AE where
 |nrm |ext (id:Nat) |gto (l:Nat) |ret
structure ALoop where
 st:Nat
 pend:Option AE
 r:T AV
 ps:List Nat
 asg:AC
 body:AC
 nt:Nat
inductive Blk where
 |cells (cs:List AV) (fz:Bool) (ty:Nat)
 |map (es:List (AV×AV))
 |loop (l:ALoop)
 |own (k:Nat) (fz:Bool) (ty:Nat)
 |text (v:AV) (ty:Nat)
 |pre (n c:Nat) (vs:List AV) (ty:Nat)
structure St where
 r:T AV
 h:T Blk
 nx:Nat
def St.rg (s:St) (n:Nat):AV:=(s.r.get n).getD (.tup [])
def AO.ev (s:St):AO->AV
 | .t n=>s.rg n
 | .c v=>v
def St.set (s:St) (d:Option Nat) (v:AV):St:=
 match d with
 |some d=>{s with r:=s.r.put d (some v)}
 |none=>s
def St.hp (s:St) (id:Nat) (b:Blk):St:={s with h:=s.h.put id (some b)}
def St.new (s:St) (b:Blk):St:={s with h:=s.h.put s.nx (some b),nx:=s.nx+1}
def AV.cells:AV->List AV
 | .agg cs=>cs
 |v=>[v]
def AV.one:AV->Bool
 | .agg _=>false
 | .tup _=>false
 |_=>true
def kb2 (cs:List AV) (off n:Nat):Option (List AV):=if off+n<=cs.length then some ((cs.drop off).take n) else none
def rdH (h:T Blk) (a:AV) (n:Nat):Option (List AV):=
 match a with
 | .ptr id off=>match h.get id with
   |some (.cells cs _ _)=>kb2 cs off n
   |_=>none
 | .ip cs off=>kb2 cs off n
 |_=>none
def kdh (g:Bool) (cs:List AV):Option AV:=
 if g then some (.agg cs) else match cs with
  | [x]=>some x
  |_=>none
def splice (cs:List AV) (off:Nat) (xs:List AV):List AV:=cs.take off++xs++cs.drop (off+xs.length)
def wrH (h:T Blk) (id off:Nat) (xs:List AV):Option (T Blk):=
 match h.get id with
 |some (.cells cs false ty)=>if off+xs.length<=cs.length/\xs.all AV.one then some (h.put id (some (.cells (splice cs off xs) false ty))) else none
 |_=>none
def wrA (h:T Blk) (a:AV) (xs:List AV):Option (T Blk):=
 match a with
 | .ptr id off=>wrH h id off xs
 |_=>none
def kfa:List AV->List (Nat×Nat×AV)->Option (List AV)
 |cs,[]=>some cs
 |cs,(off,n,x)::ps=>if x.cells.length=n/\off+n<=cs.length then kfa (splice cs off x.cells) ps else none
def evp (s:St) (ps:List (Nat×Nat×AO)):List (Nat×Nat×AV):=ps.map fun p=>(p.1,p.2.1,p.2.2.ev s)
def kmn (op:BinOp) (k:IntKind) (x y:Int):Option Int:=
 match op with
 | .and=>some (k.wrap (BitVec.ofInt k.bits x &&& BitVec.ofInt k.bits y).toNat)
 | .or=>some (k.wrap (BitVec.ofInt k.bits x |||BitVec.ofInt k.bits y).toNat)
 | .xor=>some (k.wrap (BitVec.ofInt k.bits x ^^^ BitVec.ofInt k.bits y).toNat)
 | .andNot=>some (k.wrap (BitVec.ofInt k.bits x &&& ~~~ (BitVec.ofInt k.bits y)).toNat)
 |_=>none
def kei (op:BinOp) (k:IntKind) (x y:Int):Option AV:=
 match op with
 | .add=>some (.int k (k.wrap (x+y)))
 | .sub=>some (.int k (k.wrap (x - y)))
 | .mul=>some (.int k (k.wrap (x*y)))
 | .quo=>if y=0 then none else some (.int k (k.wrap (x.tdiv y)))
 | .rem=>if y=0 then none else some (.int k (x.tmod y))
 | .eql=>some (.bool (x == y))
 | .neq=>some (.bool (x != y))
 | .lss=>some (.bool (decide (x<y)))
 | .leq=>some (.bool (decide (x<=y)))
 | .gtr=>some (.bool (decide (x > y)))
 | .geq=>some (.bool (decide (x ≥ y)))
 |_=>(kmn op k x y).map (.int k)
def kmc (op:BinOp) (k:IntKind) (x y:Int):Option AV:=
 if y<0 then none else
 match op with
 | .shl=>some (.int k (k.wrap (x*2 ^ (min y.toNat k.bits))))
 | .shr=>some (.int k (x.fdiv (2 ^ (min y.toNat k.bits))))
 |_=>none
def kkv (op:BinOp) (x y:List UInt8):Option AV:=
 match op with
 | .add=>if x.length+y.length<=140737488355328 then some (.str (x++y)) else none
 | .eql=>some (.bool (x == y))
 | .neq=>some (.bool (!(x == y)))
 | .lss=>some (.bool (yaa x y))
 | .leq=>some (.bool (yaa x y || x == y))
 | .gtr=>some (.bool (!(yaa x y || x == y)))
 | .geq=>some (.bool (!(yaa x y)))
 |_=>none
def ke1:BinOp->Bool
 | .shl=>true
 | .shr=>true
 |_=>false
def kd0 (op:BinOp) (x y:AV):Option AV:=
 match x,y with
 | .int k a,.int k' b=>if ke1 op then kmc op k a b else if k=k' then kei op k a b else none
 | .str a,.str b=>kkv op a b
 |_,_=>none
def kgt:Nat->AV->AV->Option Bool
 |0,.int k a,.int k' b=>if k=k' then some (a == b) else none
 |1,.bool a,.bool b=>some (a == b)
 |2,.str a,.str b=>some (a == b)
 |_,_,_=>none
def kct:List Nat->List AV->List AV->Option Bool
 | [],[],[]=>some true
 |k::ks,x::xs,y::ys=>match kgt k x y,kct ks xs ys with
  |some a,some b=>some (a && b)
  |_,_=>none
 |_,_,_=>none
def kfe:Nat->AV->Option Bool
 |0,.nilf=>some true
 |0,.fn .. =>some false
 |1,.nilp=>some true
 |1,.ptr .. =>some false
 |1,.ip .. =>some false
 |2,.nili=>some true
 |2,.ifv=>some false
 |2,.ifc .. =>some false
 |3,.nils=>some true
 |3,.sl .. =>some false
 |3,.im (_::_) _=>some false
 |_,_=>none
def unA (op:UnOp) (x:AV):Option AV:=
 match op,x with
 | .not,.bool b=>some (.bool (!b))
 | .neg,.int k n=>some (.int k (k.wrap (0 - n)))
 | .xor,.int k n=>(kmn .xor k (if k.signed then -1 else k.max) n).map (.int k)
 |_,_=>none
def kfl:List AV->Option (List UInt8)
 | []=>some []
 | .int .u8 n::r=>(kfl r).map (yac n.toNat:: ·)
 |_::_=>none
def kfm:List AV->Option (List UInt8)
 | []=>some []
 | .int .u8 n::r=>if 0<=n/\n<256 then(kfm r).map (yac n.toNat:: ·) else none
 |_::_=>none
def kcz (x:AV):Option Nat:=
 match x with
 | .int _ n=>if 0<=n then some n.toNat else none
 |_=>none
def kcv (s:St) (d:Nat):Option AO->Option Nat
 |none=>some d
 |some x=>kcz (x.ev s)
def kbn (h:T Blk) (sz:Nat) (x:AV):Option (Nat×List AV):=
 match x with
 | .im els _=>if els.all (fun e=>e.length == sz) then some (els.length,els.flatten) else none
 | .sl id off n z _=>if z=sz then match h.get id with
   |some (.cells cs _ _)=>(kb2 cs off (n*sz)).map fun l=>(n,l)
   |_=>none
   else none
 | .str s=>if sz=1 then some (s.length,s.map fun b=> .int .u8 b.toNat) else none
 |_=>none
def kaq:Nat:=140737488355328
def kkc:AV->AV->Option Bool
 | .int k a,.int k' b=>if k=k' then some (a == b) else none
 | .str a,.str b=>some (a == b)
 |_,_=>none
def kew (k:AV):List (AV×AV)->Nat->Option (Option (Nat×AV))
 | [],_=>some none
 |(x,v)::es,i=>match kkc k x with
  |some true=>some (some (i,v))
  |some false=>kew k es (i+1)
  |none=>none
def ke2:Nat->AV->Bool
 |0,.int .. =>true
 |1,.str .. =>true
 |_,_=>false
def kck (s:St) (len capk:Nat) (lo hi mx:Option AO):Option (Nat×Nat×Nat):=
 match kcv s capk mx,kcv s len hi,kcv s 0 lo with
 |some m,some h,some l=>if m<=capk/\h<=m/\l<=h/\(mx.isSome->hi.isSome) then some (l,h,m) else none
 |_,_,_=>none
def opA (s:St):AOp->Option (AV×St)
 | .mov x=>some (x.ev s,s)
 | .pick c a b=>match c.ev s with
   | .bool t=>some (if t then a.ev s else b.ev s,s)
   |_=>none
 | .alloc t z=>some (.ptr s.nx 0,s.new (.cells z false t))
 | .box t x=>if(x.ev s).cells.all AV.one then some (.ptr s.nx 0,s.new (.cells (x.ev s).cells false t)) else none
 | .build z ps=>(kfa z (evp s ps)).map fun cs=>(.agg cs,s)
 | .bsl t sz z ps=>if sz=0 then none else match kfa z (evp s ps) with
   |some cs=>if cs.all AV.one/\z.length % sz=0 then some (.sl s.nx 0 (z.length / sz) sz (some (z.length / sz)),s.new (.cells cs false t)) else none
   |none=>none
 | .load g n a=>match rdH s.h (a.ev s) n with
   |some cs=>(kdh g cs).map fun v=>(v,s)
   |none=>none
 | .store n a x=>if(x.ev s).cells.length=n then(wrA s.h (a.ev s) (x.ev s).cells).map fun h=>(.tup [],{s with h:=h}) else none
 | .nilck x=>match x.ev s with
   | .nilp=>none
   | .nili=>none
   | .nilf=>none
   | .ptr i o=>some (.ptr i o,s)
   | .ip cs o=>some (.ip cs o,s)
   | .fn f a b=>some (.fn f a b,s)
   | .yld l=>some (.yld l,s)
   |_=>none
 | .bin op x y=>(kd0 op (x.ev s) (y.ev s)).map fun v=>(v,s)
 | .eqa neg ks x y=>match x.ev s,y.ev s with
   | .agg xs,.agg ys=>(kct ks xs ys).map fun b=>(.bool (if neg then !b else b),s)
   |_,_=>none
 | .eqn k neg x y=>match kfe k (x.ev s),kfe k (y.ev s) with
   |some a,some b=>if a || b then some (.bool (if neg then !(a && b) else a && b),s) else none
   |_,_=>none
 | .eqb neg x y=>match x.ev s,y.ev s with
   | .bool a,.bool b=>some (.bool (if neg then !(a == b) else a == b),s)
   |_,_=>none
 | .un op x=>(unA op (x.ev s)).map fun v=>(v,s)
 | .conv k x=>match x.ev s with
   | .int _ n=>some (.int k (k.wrap n),s)
   |_=>none
 | .mvs x=>match x.ev s with
   | .str b=>some (.str b,s)
   |_=>none
 | .b2s x=>match kbn s.h 1 (x.ev s) with
   |some (_,cs)=>match x.ev s with
    | .str _=>none
    |_=>(kfl cs).map fun b=>(.str b,s)
   |none=>none
 | .mkfn f a b=>some (.fn f (a.map (AO.ev s)) (b.map (AO.ev s)),s)
 | .faddr off x=>match x.ev s with
   | .ptr id o=>some (.ptr id (o+off),s)
   | .ip cs o=>some (.ip cs (o+off),s)
   |_=>none
 | .fld g off n x=>match x.ev s with
   | .agg cs=>match kb2 cs off n with
     |some l=>(kdh g l).map fun v=>(v,s)
     |none=>none
   |_=>none
 | .iaA len sz x i=>match kcz (i.ev s) with
   |some j=>if j<len then match x.ev s with
     | .ptr id o=>some (.ptr id (o+j*sz),s)
     | .ip cs o=>some (.ip cs (o+j*sz),s)
     |_=>none
    else none
   |none=>none
 | .iaS sz x i=>match kcz (i.ev s) with
   |some j=>match x.ev s with
    | .im els _=>match els[j]? with
      |some e=>if e.length=sz then some (.ip e 0,s) else none
      |none=>none
    | .sl id off n z _=>if j<n/\z=sz then some (.ptr id (off+j*sz),s) else none
    |_=>none
   |none=>none
 | .ixA g len sz x i=>match kcz (i.ev s),x.ev s with
   |some j,.agg cs=>if j<len then match kb2 cs (j*sz) sz with
     |some l=>(kdh g l).map fun v=>(v,s)
     |none=>none
    else none
   |_,_=>none
 | .ixS x i=>match kcz (i.ev s),x.ev s with
   |some j,.str b=>(b[j]?).map fun c=>(.int .u8 c.toNat,s)
   |_,_=>none
 | .slA len sz x lo hi mx=>match kck s len len lo hi mx,x.ev s with
   |some (l,h,m),.ptr id o=>match s.h.get id with
    |some (.cells cs _ _)=>if o+len*sz<=cs.length/\0<sz then some (.sl id (o+l*sz) (h - l) sz (some (m - l)),s) else none
    |_=>none
   |_,_=>none
 | .slS sz x lo hi mx=>match x.ev s with
   | .im els cl=>match kck s els.length els.length lo hi mx with
     |some (l,h,m)=>if els.all (fun e=>e.length == sz) then some (.im ((els.drop l).take (h - l)) (if mx.isSome then m == h else cl && h == els.length),s) else none
     |none=>none
   | .sl id off n z c=>if z=sz then match kck s n (c.getD n) lo hi mx with
     |some (l,h,m)=>some (.sl id (off+l*sz) (h - l) sz (if mx.isSome then some (m - l) else c.map (· - l)),s)
     |none=>none
     else none
   |_=>none
 | .slT x lo hi=>match x.ev s with
   | .str b=>match kck s b.length b.length lo hi none with
     |some (l,h,_)=>some (.str ((b.drop l).take (h - l)),s)
     |none=>none
   |_=>none
 | .a2p n x=>match x.ev s with
   | .sl id off k sz _=>if sz=1/\n<=k/\0<n then some (.ptr id off,s) else none
   |_=>none
 | .mksl t sz bytes z l c=>match kcz (l.ev s),kcz (c.ev s) with
   |some l,some c=>if l<=c/\c*bytes<=kaq/\c<=kaq/\z.length=sz/\0<sz/\z.all AV.one then some (.sl s.nx 0 l sz (some c),s.new (.cells (yab c z).flatten false t)) else none
   |_,_=>none
 | .mkmap=>some (.mp s.nx,s.new (.map []))
 | .look kk z ok m k=>match m.ev s with
   | .mp id=>match s.h.get id with
     |some (.map es)=>if ke2 kk (k.ev s) then match kew (k.ev s) es 0 with
       |some (some (_,v))=>some (if ok then .tup [v,.bool true] else v,s)
       |some none=>some (if ok then .tup [z,.bool false] else z,s)
       |none=>none
      else none
     |_=>none
   |_=>none
 | .mapup kk m k x=>match m.ev s with
   | .mp id=>match s.h.get id with
     |some (.map es)=>if ke2 kk (k.ev s) then match kew (k.ev s) es 0 with
       |some (some (i,_))=>some (.tup [],s.hp id (.map (es.set i (k.ev s,x.ev s))))
       |some none=>some (.tup [],s.hp id (.map (es++[(k.ev s,x.ev s)])))
       |none=>none
      else none
     |_=>none
   |_=>none
 | .del kk m k=>match m.ev s with
   | .mp id=>match s.h.get id with
     |some (.map es)=>if ke2 kk (k.ev s) then match kew (k.ev s) es 0 with
       |some (some (i,_))=>some (.tup [],s.hp id (.map (es.eraseIdx i)))
       |some none=>some (.tup [],s)
       |none=>none
      else none
     |_=>none
   |_=>none
 | .extr i x=>match x.ev s with
   | .tup vs=>(vs[i]?).map fun v=>(v,s)
   |_=>none
 | .app t sz bytes d x=>match kbn s.h sz (x.ev s) with
   |some (n,xs)=>if xs.all AV.one/\0<sz then match d.ev s with
    | .im els cl=>if n=0 then some (.im els cl,s) else
      if cl/\els.all (fun e=>e.length == sz)/\(els.length+n)*bytes<=kaq/\els.length+n<=kaq then
       some (.sl s.nx 0 (els.length+n) sz none,s.new (.cells (els.flatten++xs) false t)) else none
    | .nils=>if n=0 then some (.nils,s) else
      if n*bytes<=kaq/\n<=kaq then some (.sl s.nx 0 n sz none,s.new (.cells xs false t)) else none
    | .sl id off k z c=>if z≠sz then none else if n=0/\c.isSome then some (.sl id off k z c,s) else
      if(k+n)*bytes<=kaq/\k+n<=kaq then
       match s.h.get id with
       |some (.cells cs fz ty)=>match c with
        |some m=>if k+n<=m then(wrH s.h id (off+k*sz) xs).map fun h=>(.sl id off (k+n) sz c,{s with h:=h})
         else match kb2 cs off (k*sz) with
          |some old=>some (.sl s.nx 0 (k+n) sz none,s.new (.cells (old++xs) false t))
          |none=>none
        |none=>if fz=false/\off=0/\k*sz<=cs.length/\ty=t then
         some (.sl s.nx 0 (k+n) sz none,{s with h:=(s.h.put id none).put s.nx (some (.cells (cs.take (k*sz)++xs) false t)),nx:=s.nx+1}) else none
       |_=>none
      else none
    |_=>none
    else none
   |none=>none
 | .appn t sz bytes z d n=>match kcz (n.ev s),d.ev s with
   |some n,.im els cl=>if n=0 then some (.im els cl,s) else
    if cl/\els.all (fun e=>e.length == sz)/\(els.length+n)*bytes<=kaq/\els.length+n<=kaq/\z.length=sz/\0<sz/\z.all AV.one then
     some (.sl s.nx 0 (els.length+n) sz none,s.new (.cells (els.flatten++(yab n z).flatten) false t)) else none
   |_,_=>none
 | .cpy sz d x=>match kbn s.h sz (x.ev s),d.ev s with
   |some (n,xs),.sl id off k z _=>if z=sz then(wrH s.h id off (xs.take (min n k*sz))).map fun h=>(.int .i64 (min n k:Nat),{s with h:=h}) else none
   |_,_=>none
 | .len k x=>match k,x.ev s with
   |0,.im els _=>some (.int .i64 els.length,s)
   |0,.sl _ _ n _ _=>some (.int .i64 n,s)
   |0,.nils=>some (.int .i64 0,s)
   |1,.str b=>some (.int .i64 b.length,s)
   |2,.mp id=>match s.h.get id with
    |some (.map es)=>some (.int .i64 es.length,s)
    |_=>none
   |_,_=>none
 | .lenc n=>some (.int .i64 n,s)
 | .cap x=>match x.ev s with
   | .im els true=>some (.int .i64 els.length,s)
   | .sl _ _ _ _ (some c)=>some (.int .i64 c,s)
   |_=>none
 | .mxi x y=>match x.ev s,y.ev s with
   | .int k a,.int _ b=>some (.int k (if b > a then b else a),s)
   |_,_=>none
 | .mni x y=>match x.ev s,y.ev s with
   | .int k a,.int _ b=>some (.int k (if b<a then b else a),s)
   |_,_=>none
 | .cvp t n x=>match x.ev s with
   | .nilp=>some (.nilp,s)
   | .ptr id 0=>match s.h.get id with
     |some (.cells cs _ ty)=>if ty=t/\n<=cs.length then some (.ptr id 0,s) else none
     |_=>none
   |_=>none
 | .usd x=>match x.ev s with
   | .nils=>some (.nilp,s)
   | .sl id off n _ _=>if 0<n then some (.ptr id off,s) else none
   |_=>none
 | .ust t p n=>match p.ev s,n.ev s with
   | .nilp,.int .i64 0=>some (.str [],s)
   | .ptr id 0,.int .i64 m=>match s.h.get id with
     |some (.cells cs false ty)=>if ty=t/\0<m/\m<=kaq then match kb2 cs 0 m.toNat with
       |some l=>(kfm l).map fun b=>(.str b,{s with h:=s.h.put id (some (.text (.str b) ty))})
       |none=>none
      else none
     |some (.text (.str b) ty)=>if ty=t/\m=b.length/\0<m then some (.str b,s) else none
     |_=>none
   |_,_=>none
 | .s2b t x=>match x.ev s with
   | .str b=>some (.sl s.nx 0 b.length 1 none,s.new (.cells (b.map fun c=> .int .u8 c.toNat) false t))
   |_=>none
 | .eqp neg x y=>match x.ev s,y.ev s with
   | .ptr i o,.ptr j p=>if i=j/\(s.h.get i).isSome then some (.bool (if neg then !(o == p) else o == p),s) else none
   |_,_=>none
 | .mki t x=>some (.ifc t (x.ev s),s)
 | .eqi neg t x y=>match x.ev s,y.ev s with
   | .ifc a (.int k m),.ifc b (.int j n)=>if a=b then(if a=t/\k=j then some (.bool (if neg then !(m == n) else m == n),s) else none) else some (.bool neg,s)
   |_,_=>none
 | .ext k x y=>match k,x.ev s,y.ev s with
   |0,v,_=>some (v,s)
   |1,.str b,.int .u8 c=>some (.int .i64 (Lib.indexByte b c.toNat.toUInt8),s)
   |2,.str b,.int .u8 c=>some (.int .i64 (Lib.countByte b c.toNat.toUInt8:Nat),s)
   |_,_,_=>none
 | .call .. =>none
 | .fail=>none
mutual
def AV.beq:AV->AV->Bool
 | .bool a,.bool b=>a == b
 | .int k a,.int j b=>decide (k=j) && decide (a=b)
 | .str a,.str b=>a == b
 | .nilp,.nilp=>true
 | .ptr a b,.ptr c d=>a == c && b == d
 | .ip a b,.ip c d=>kcy a c && b == d
 | .sl a b c d e,.sl a' b' c' d' e'=>a == a' && b == b' && c == c' && d == d' && e == e'
 | .im a b,.im c d=>ket a c && b == d
 | .fn a b c,.fn a' b' c'=>a == a' && kcy b b' && kcy c c'
 | .yld a,.yld b=>a == b
 | .nilf,.nilf=>true
 | .nilm,.nilm=>true
 | .mp a,.mp b=>a == b
 | .nili,.nili=>true
 | .ifv,.ifv=>false
 | .ifc t a,.ifc u b=>t == u && AV.beq a b
 | .nils,.nils=>true
 | .agg a,.agg b=>kcy a b
 | .tup a,.tup b=>kcy a b
 | .var a b,.var c d=>a == c && b == d
 |_,_=>false
def kcy:List AV->List AV->Bool
 | [],[]=>true
 |a::as,b::bs=>AV.beq a b && kcy as bs
 |_,_=>false
def ket:List (List AV)->List (List AV)->Bool
 | [],[]=>true
 |a::as,b::bs=>kcy a b && ket as bs
 |_,_=>false
end
def kb9 (sz:Nat):Nat->List AV->List (List AV)
 |0,_=>[]
 |k+1,l=>l.take sz::kb9 sz k (l.drop sz)
def mapO {α β:Type} (f:α->Option β):List α->Option (List β)
 | []=>some []
 |a::as=>match f a with
  |none=>none
  |some b=>match mapO f as with
   |none=>none
   |some bs=>some (b::bs)
def frz (h:T Blk):Nat->AV->Option AV
 |0,_=>none
 |n+1,v=>match v with
  | .sl id off k sz c=>match h.get id with
    |some (.cells cs _ _)=>match kb2 cs off (k*sz) with
     |some l=>match mapO (frz h n) l with
      |some l=>some (.im (kb9 sz k l) (c == some k))
      |none=>none
     |none=>none
    |_=>none
  | .agg cs=>(mapO (frz h n) cs).map .agg
  | .tup cs=>(mapO (frz h n) cs).map .tup
  | .fn f a b=>match mapO (frz h n) a,mapO (frz h n) b with
    |some a,some b=>some (.fn f a b)
    |_,_=>none
  | .ptr .. =>none
  | .mp .. =>none
  | .yld .. =>none
  | .ifc t (.int k n)=>some (.ifc t (.int k n))
  | .ifc .. =>some .ifv
  | .nils=>some (.im [] true)
  |v=>some v
def fzL (f:T Blk->AV->Option (T Blk)):T Blk->List AV->Option (T Blk)
 |h,[]=>some h
 |h,x::xs=>match f h x with
  |some h=>fzL f h xs
  |none=>none
def fzs:Nat->T Blk->AV->Option (T Blk)
 |0,_,_=>none
 |n+1,h,v=>match v with
  | .sl id _ _ _ _=>match h.get id with
    |some (.cells cs _ ty)=>fzL (fzs n) (h.put id (some (.cells cs true ty))) cs
    |_=>none
  | .agg cs=>fzL (fzs n) h cs
  | .tup cs=>fzL (fzs n) h cs
  | .fn _ a b=>match fzL (fzs n) h a with
    |some h=>fzL (fzs n) h b
    |none=>none
  |_=>some h
def AV.hasSl:Nat->AV->Bool
 |0,_=>true
 |n+1,v=>match v with
  | .sl .. =>true
  | .agg cs=>cs.any (hasSl n)
  | .tup cs=>cs.any (hasSl n)
  | .fn _ a b=>a.any (hasSl n) || b.any (hasSl n)
  |_=>false
def AV.flat:AV->Bool
 | .bool _=>true
 | .int .. =>true
 | .str _=>true
 | .var fl _=>fl
 | .tup vs=>vs.all fun v=>match v with
   | .bool _=>true
   | .int .. =>true
   | .str _=>true
   | .var fl _=>fl
   |_=>false
 |_=>false
structure AFn where
 nt:Nat
 res:List (Nat×Option (Bool×Nat))
 body:AC
 pure:Bool
def inits:Nat->List AV->T AV->T AV
 |_,[],t=>t
 |i,a::as,t=>inits (i+1) as (t.put i (some a))
def kdi (s:St) (p:Nat×Option (Bool×Nat)):Option AV:=
 match p.2 with
 |none=>some (s.rg p.1)
 |some (g,n)=>match rdH s.h (s.rg p.1) n with
  |some cs=>kdh g cs
  |none=>none
def kcg (fn:AFn) (s:St):Option AV:=
 match mapO (kdi s) fn.res with
 |some [v]=>some v
 |some vs=>some (.tup vs)
 |none=>none
def kbu:Nat:=24
section
variable (F:Nat->Option AFn) (K:Nat->List AV->Option AV)
def kb1 (ex:AC->St->Option (AE×St)) (f:Nat) (args:List AV) (s:St):Option (AV×St):=
 match F f with
 |none=>none
 |some fn=>
  if fn.pure then
   match mapO (frz s.h kbu) args with
   |none=>none
   |some as=>match K f as with
    |none=>none
    |some r=>if r.flat || !(args.any (AV.hasSl kbu)) then some (r,s) else match fzL (fzs kbu) s.h args with
     |some h=>some (r,{s with h:=h})
     |none=>none
  else match ex fn.body {r:=inits 0 args .nil,h:=s.h,nx:=s.nx} with
   |some (.nrm,s1)=>match kcg fn s1 with
    |some v=>some (v,{r:=s.r,h:=s1.h,nx:=s1.nx})
    |none=>none
   |some (.ret,s1)=>match kcg fn s1 with
    |some v=>some (v,{r:=s.r,h:=s1.h,nx:=s1.nx})
    |none=>none
   |_=>none
def kel (t:T AV):List Nat->List AV->T AV
 |p::ps,a::as=>kel (t.put p (some a)) ps as
 |_,_=>t
def AE.jump:AE->Option AE
 | .nrm=>none
 |e=>some e
def ke5 (ex:AC->St->Option (AE×St)) (id:Nat) (args:List AV) (s:St):Option (AV×St):=
 match s.h.get id with
 |some (.loop l)=>
  if l.ps.length=args.length then
   match ex l.asg {r:=kel l.r l.ps args,h:=s.h,nx:=s.nx} with
   |some (.nrm,s1)=>match s1.h.get id with
    |some (.loop l1)=>if l1.st=0 then
         match ex l.body (s1.hp id (.loop {l1 with st:=1})) with
         |some (e,s2)=>match s2.h.get id with
          |some (.loop l2)=>some (.bool e.jump.isNone,{r:=s.r,h:=s2.h.put id (some (.loop {l2 with st:=if e.jump.isNone then 0 else 2,pend:=e.jump})),nx:=s2.nx})
          |_=>none
         |none=>none
     else none
    |_=>none
   |_=>none
  else none
 |_=>none
def keu (ex:AC->St->Option (AE×St)) (f:AV) (args:List AV) (s:St):Option (AV×St):=
 match f with
 | .fn g first caps=>kb1 F K ex g (first++args++caps) s
 | .yld id=>ke5 ex id args s
 |_=>none
def kf5 (ex:AC->St->Option (AE×St)) (f:AV) (args:List AV) (s:St):Option (AV×St):=
 match f with
 | .fn g first caps=>kb1 F K ex g (first++args++caps) s
 |_=>none
def kbi (ex:AC->St->Option (AE×St)) (o:AOp) (s:St):Option (AV×St):=
 match o with
 | .call f as=>keu F K ex (f.ev s) (as.map (AO.ev s)) s
 |o=>opA s o
def kb8 (s:St):Option (Nat×Bool)->Bool
 |none=>true
 |some (t,b)=>match s.rg t with
  | .bool x=>x == b
  |_=>false
def kb7 (ex:AC->St->Option (AE×St)):List AOper->St->Option St
 | [],s=>some s
 |o::os,s=>if kb8 s o.guard then match kbi F K ex o.op s with
   |some (v,s1)=>kb7 ex os (s1.set o.dst v)
   |none=>none
  else kb7 ex os (s.set o.dst (.tup []))
def kgk:AOp->Bool
 | .mov _=>true | .pick .. =>true | .build .. =>true | .nilck _=>true | .bin .. =>true | .eqa .. =>true | .eqn .. =>true | .eqb .. =>true
 | .un .. =>true | .conv .. =>true | .mkfn .. =>true | .faddr .. =>true | .fld .. =>true | .iaA .. =>true | .iaS .. =>true
 | .ixA .. =>true | .ixS .. =>true | .slS .. =>true | .slT .. =>true | .extr .. =>true | .lenc _=>true | .cap _=>true
 | .mxi .. =>true | .mni .. =>true | .mvs _=>true | .mki .. =>true | .eqi .. =>true | .ext .. =>true | .usd _=>true
 |_=>false
def kfk:AOp->Bool
 | .load .. =>true | .look .. =>true | .len .. =>true | .b2s _=>true | .slA .. =>true | .cvp .. =>true | .eqp .. =>true
 |_=>false
def kjc:AOp->Bool
 | .alloc .. =>true | .box .. =>true | .bsl .. =>true | .mksl .. =>true | .mkmap=>true | .s2b .. =>true
 |_=>false
def kgm (s:St) (o:AOp) (v:AV) (h:T Blk):Bool:=
 match opA {s with h:=h} o with
 |some (u,_)=>AV.beq v u
 |none=>false
def khg (F:Nat->Option AFn):AOp->Bool
 | .call (.c (.fn g [] [])) _=>match F g with
   |some fn=>fn.pure
   |none=>false
 | .store .. =>true
 | .app .. =>true
 | .cpy .. =>true
 |_=>false
def ADr.seen (j:ADr) (hist:List (T Blk)):List (T Blk):=if j.fl then hist.take (j.back+1) else(hist.drop 1).take j.back
def kav (ex:AC->St->Option (AE×St)) (nx0:Nat) (hist:List (T Blk)) (o:ADr) (s:St):Option (AV×St×List (T Blk)):=
 if kb8 s o.o.guard then
  match o.k with
  |0=>if kgk o.o.op then match opA s o.o.op with
    |some (v,_)=>some (v,s,hist)
    |none=>none
   else match o.o.op with
    | .call f as=>match f.ev s with
      | .fn g first caps=>match F g with
        |some fn=>if fn.pure && !((first++as.map (AO.ev s)++caps).any (AV.hasSl kbu)) then
          match mapO (frz s.h kbu) (first++as.map (AO.ev s)++caps) with
          |some xs=>match K g xs with
           |some r=>some (r,s,hist)
           |none=>none
          |none=>none
         else none
        |none=>none
      |_=>none
    |_=>none
  |1=>if kjc o.o.op && (s.h.get (nx0+o.i)).isNone then match opA {s with nx:=nx0+o.i} o.o.op with
    |some (v,s1)=>some (v,{s1 with nx:=s.nx},hist)
    |none=>none
   else none
  |2=>match kbi F K ex o.o.op s with
   |some (v,s1)=>some (v,s1,s1.h::hist)
   |none=>none
  |3=>if khg F o.o.op then match kbi F K ex o.o.op s with
    |some (v,s1)=>some (v,s1,s1.h::hist)
    |none=>none
   else none
  |_=>if kfk o.o.op then match opA s o.o.op with
    |some (v,_)=>if decide (o.back<hist.length) && (o.seen hist).all (kgm s o.o.op v) then some (v,s,hist) else none
    |none=>none
   else none
 else some (.tup [],s,if o.k=2\/o.k=3 then s.h::hist else hist)
def kch (ex:AC->St->Option (AE×St)) (nx0:Nat):List ADr->St->List (T Blk)->Option St
 | [],s,_=>some s
 |o::os,s,hist=>match kav F K ex nx0 hist o s with
  |some (v,s1,hist)=>kch ex nx0 os (s1.set o.o.dst v) hist
  |none=>none
def kgc:AC->Nat->Option AC
 | .seq a b,l=>match kgc a l with
   |some r=>some (.seq r b)
   |none=>kgc b l
 | .label j,l=>if j=l then some .skip else none
 |_,_=>none
def exA:Nat->AC->St->Option (AE×St)
 |0,_,_=>none
 |n+1,c,s=>match c with
  | .skip=>some (.nrm,s)
  | .label _=>some (.nrm,s)
  | .reg ops=>match kb7 F K (exA n) ops s with
    |some s=>some (.nrm,s)
    |none=>none
  | .drw m ops=>match kch F K (exA n) s.nx ops {s with nx:=s.nx+m} [s.h] with
    |some s=>some (.nrm,s)
    |none=>none
  | .seq a b=>match exA n a s with
    |some (.nrm,s1)=>exA n b s1
    |r=>r
  | .cond x a b=>match x.ev s with
    | .bool t=>if t then exA n a s else exA n b s
    |_=>none
  | .block id b=>match exA n b s with
    |some (.ext j,s1)=>if j=id then some (.nrm,s1) else some (.ext j,s1)
    |r=>r
  | .loop b=>match exA n b s with
    |some (.nrm,s1)=>exA n (.loop b) s1
    |r=>r
  | .exit id=>some (.ext id,s)
  | .goto l=>some (.gto l,s)
  | .ret=>some (.ret,s)
  | .scope cur b=>match exA n cur s with
    |some (.gto l,s1)=>match kgc b l with
     |some rest=>exA n (.scope rest b) s1
     |none=>some (.gto l,s1)
    |r=>r
  | .rngf nt f ps asg body=>
    match kf5 F K (exA n) (f.ev s) [.yld s.nx] (s.new (.loop {st:=0,pend:=none,r:=s.r,ps:=ps,asg:=asg,body:=body,nt:=nt})) with
    |some (_,s1)=>match s1.h.get s.nx with
     |some (.loop l)=>if l.st=1 then none else match l.pend with
      |none=>some (.nrm,{r:=s.r,h:=s1.h.put s.nx (some (.loop {l with st:=3})),nx:=s1.nx})
      |some e=>some (e,{r:=s.r,h:=s1.h.put s.nx (some (.loop {l with st:=3})),nx:=s1.nx})
     |_=>none
    |none=>none
def koe (n:Nat) (fn:AFn) (args:List AV):Option AV:=
 match exA F K n fn.body {r:=inits 0 args .nil,h:= .nil,nx:=0} with
 |some (.nrm,s)=>match kcg fn s with
  |some v=>frz s.h kbu v
  |none=>none
 |some (.ret,s)=>match kcg fn s with
  |some v=>frz s.h kbu v
  |none=>none
 |_=>none
end
def kbp (F:Nat->Option AFn) (X:Nat->Option (List AV->Option AV)):Nat->Nat->List AV->Option AV
 |0,_,_=>none
 |n+1,f,args=>match X f with
  |some k=>k args
  |none=>match F f with
   |some fn=>koe F (kbp F X n) (n+1) fn args
   |none=>none
def kf3 (a b:AC->St->Option (AE×St)):Prop:=∀ c s r,a c s=some r->b c s=some r
def KLe (a b:Nat->List AV->Option AV):Prop:=∀ f as r,a f as=some r->b f as=some r
section
variable {F:Nat->Option AFn} {K K':Nat->List AV->Option AV} {ex ex':AC->St->Option (AE×St)}
theorem kp5 (hk:KLe K K') (he:kf3 ex ex') {f:Nat} {as:List AV} {s:St} {r:AV×St} (h:kb1 F K ex f as s=some r):kb1 F K' ex' f as s=some r:=by
 unfold kb1 at h ⊢;split at h
 ·cases h
 ·rename_i fn hF;split at h
  ·rename_i hp;rw[iq hp];split at h
   ·cases h
   ·rename_i xs hx
    try simp only[hx]
    cases hr:K f xs with
    |none=>simp[hr] at h
    |some v=>rw[hk _ _ _ hr];simp only[hr] at h;exact h
  ·rename_i hp;rw[ir hp];split at h
   ·rename_i s1 h1;rw[he _ _ _ h1];exact h
   ·rename_i s1 h1;rw[he _ _ _ h1];exact h
   ·cases h
theorem k35 (he:kf3 ex ex') {id:Nat} {as:List AV} {s:St} {r:AV×St} (h:ke5 ex id as s=some r):ke5 ex' id as s=some r:=by
 unfold ke5 at h ⊢;split at h
 ·rename_i l hl
  try simp only[hl]
  split at h
  ·rename_i hp;rw[iq hp];split at h
   ·rename_i s1 h1;rw[he _ _ _ h1];simp only;split at h
    ·rename_i l1 hl1
     try simp only[hl1]
     split at h
     ·rename_i h0;rw[iq h0];split at h
      ·rename_i e s2 h2;rw[he _ _ _ h2];exact h
      ·cases h
     ·cases h
    ·cases h
   ·cases h
  ·cases h
 ·cases h
theorem k60 (hk:KLe K K') (he:kf3 ex ex') {f:AV} {as:List AV} {s:St} {r:AV×St} (h:keu F K ex f as s=some r):keu F K' ex' f as s=some r:=by
 unfold keu at h ⊢;split at h
 ·exact kp5 hk he h
 ·exact k35 he h
 ·cases h
theorem k6y (hk:KLe K K') (he:kf3 ex ex') {f:AV} {as:List AV} {s:St} {r:AV×St} (h:kf5 F K ex f as s=some r):kf5 F K' ex' f as s=some r:=by
 unfold kf5 at h ⊢;split at h
 ·exact kp5 hk he h
 ·cases h
theorem kv8 (hk:KLe K K') (he:kf3 ex ex') {o:AOp} {s:St} {r:AV×St} (h:kbi F K ex o s=some r):kbi F K' ex' o s=some r:=by
 unfold kbi at h ⊢;split at h
 ·exact k60 hk he h
 ·exact h
theorem kg4 (hk:KLe K K') (he:kf3 ex ex'): ∀ {l:List AOper} {s s':St},kb7 F K ex l s=some s'->kb7 F K' ex' l s=some s'
 | [],_,_,h=>h
 |o::os,s,s',h=>by
  unfold kb7 at h ⊢;split at h
  ·rename_i hw;rw[iq hw];split at h
   ·rename_i v s1 h1;rw[kv8 hk he h1];exact kg4 hk he h
   ·cases h
  ·rename_i hw;rw[ir hw];exact kg4 hk he h
theorem k7j (hk:KLe K K') (he:kf3 ex ex') {nx0:Nat} {hist:List (T Blk)} {o:ADr} {s:St} {r:AV×St×List (T Blk)} (h:kav F K ex nx0 hist o s=some r):kav F K' ex' nx0 hist o s=some r:=by
 unfold kav at h ⊢;split at h
 ·rename_i hw;rw[iq hw];split at h
  ·split at h
   ·rename_i hq;rw[iq hq];exact h
   ·rename_i hq;rw[ir hq];split at h
    ·split at h
     ·split at h
      ·split at h
       ·rename_i hp
        try simp only[hp,if_true]
        split at h
        ·rename_i xs hx
         try simp only[hx]
         split at h
         ·rename_i v hv;rw[hk _ _ _ hv];exact h
         ·cases h
        ·cases h
       ·cases h
      ·cases h
     ·cases h
    ·cases h
  ·exact h
  ·split at h
   ·rename_i v s1 h1;rw[kv8 hk he h1];exact h
   ·cases h
  ·split at h
   ·rename_i hc;rw[iq hc];split at h
    ·rename_i v s1 h1;rw[kv8 hk he h1];exact h
    ·cases h
   ·cases h
  ·exact h
 ·rename_i hw;rw[ir hw];exact h
theorem kxl (hk:KLe K K') (he:kf3 ex ex') {nx0:Nat}: ∀ {l:List ADr} {s s':St} {hist:List (T Blk)},kch F K ex nx0 l s hist=some s'->kch F K' ex' nx0 l s hist=some s'
 | [],_,_,_,h=>h
 |o::os,s,s',hist,h=>by
  unfold kch at h ⊢;split at h
  ·rename_i v s1 hist1 h1;rw[k7j hk he h1];exact kxl hk he h
  ·cases h
theorem kb0 (hk:KLe K K'): ∀ {n m:Nat},n<=m->kf3 (exA F K n) (exA F K' m):=by
 intro n
 induction n with
 |zero=>intro m _ c s r h;cases h
 |succ n ih=>
  intro m hm c s r h;obtain⟨m,rfl⟩: ∃ k,m=k+1:=⟨m - 1,by omega⟩;have he:kf3 (exA F K n) (exA F K' m):=ih (by omega);cases c with
  |skip=>exact h
  |label l=>exact h
  |exit id=>exact h
  |goto l=>exact h
  |ret=>exact h
  |reg ops=>
   simp only[exA] at h ⊢;split at h
   ·rename_i s1 h1;rw[kg4 hk he h1];exact h
   ·cases h
  |drw k ops=>
   simp only[exA] at h ⊢;split at h
   ·rename_i s1 h1;rw[kxl hk he h1];exact h
   ·cases h
  |seq a b=>
   simp only[exA] at h ⊢;split at h
   ·rename_i s1 h1;rw[he _ _ _ h1];exact he _ _ _ h
   ·rename_i hne;have:=he _ _ _ h;rw[this];split
    ·rename_i s1 h1;cases h1;exact absurd h (hne s1)
    ·rfl
  |cond x a b=>
   simp only[exA] at h ⊢;split at h
   ·rename_i t ht
    try simp only[ht]
    cases t with
    |true=>exact he _ _ _ (by simpa using h)
    |false=>exact he _ _ _ (by simpa using h)
   ·cases h
  |block id b=>
   simp only[exA] at h ⊢;split at h
   ·rename_i j s1 h1;rw[he _ _ _ h1];exact h
   ·rename_i hne;have:=he _ _ _ h;rw[this];split
    ·rename_i j s1 h1;cases h1;exact absurd h (hne j s1)
    ·rfl
  |loop b=>
   simp only[exA] at h ⊢;split at h
   ·rename_i s1 h1;rw[he _ _ _ h1];exact he _ _ _ h
   ·rename_i hne;have:=he _ _ _ h;rw[this];split
    ·rename_i s1 h1;cases h1;exact absurd h (hne s1)
    ·rfl
  |scope cur b=>
   simp only[exA] at h ⊢;split at h
   ·rename_i l s1 h1;rw[he _ _ _ h1];simp only;split at h
    ·rename_i rest hr;try simp only[hr]
     exact he _ _ _ h
    ·rename_i hr;try simp only[hr]
     exact h
   ·rename_i hne;have:=he _ _ _ h;rw[this];split
    ·rename_i l s1 h1;cases h1;exact absurd h (hne l s1)
    ·rfl
  |rngf nt f ps asg body=>
   simp only[exA] at h ⊢;split at h
   ·rename_i v s1 h1;rw[k6y hk he h1];exact h
   ·cases h
theorem kp6 {X:Nat->Option (List AV->Option AV)}: ∀ {n m:Nat},n<=m->KLe (kbp F X n) (kbp F X m):=by
 intro n
 induction n with
 |zero=>intro m _ f as r h;cases h
 |succ n ih=>
  intro m hm f as r h;obtain⟨m,rfl⟩: ∃ k,m=k+1:=⟨m - 1,by omega⟩;have hk:=ih (m:=m) (by omega);simp only[kbp] at h ⊢;split at h
  ·rename_i k hX;try simp only[hX]
   exact h
  ·rename_i hX
   try simp only[hX]
   split at h
   ·rename_i fn hF
    try simp only[hF]
    unfold koe at h ⊢;split at h
    ·rename_i s1 h1;rw[kb0 hk hm _ _ _ h1];exact h
    ·rename_i s1 h1;rw[kb0 hk hm _ _ _ h1];exact h
    ·cases h
   ·cases h
end
end Go.Proofs.Hz
