/-
  The program's code told as abstract code: operations, regions, functions.
  Conditions: none.
-/
import Derived.Test.YtamikoglpnoicaaGreatDoorT01
import Derived.Test.YtamikoglpnoicaaGreatDoorT06
import Derived.Laws.Entries
import Derived.Laws.IdiomCopy
import Derived.Laws.StructEq
namespace Go.Proofs.Hz
open List renaming getElem?_eq_some_iff->yaa,replicate->yac
open Nat renaming add_assoc->yab
def khe:Value->Option AV
 | .bool b=>some (.bool b)
 | .int k n=>some (.int k n)
 | .string s=>some (.str s.data.toList)
 | .pointer none=>some .nilp
 | .slice none 0 0=>some (.im [] true)
 | .nilFunc=>some .nilf
 | .map none=>some .nilm
 | .nilIface=>some .nili
 | .func (.func f) first captured=>if first.size=0/\captured.size=0 then some (.fn f [] []) else none
 |_=>none
def kk4:Value->Option AV
 | .agg cs=>(mapO khe cs.toList).map .agg
 | .tuple vs=>if vs.size=0 then some (.tup []) else none
 |v=>khe v
def kyp:Value->Bool
 | .slice none 0 0=>true
 |_=>false
def kpr (v:Value):Option AV:=if kyp v then some .nils else khe v
section
variable [Gl]
def kar:Operand->Option AO
 | .tmp t=>some (.t t)
 | .const v=>(kk4 v).map .c
 | .func f=>some (.c (.fn f [] []))
 | .global g=>(Gl.tab g).map .c
def kea:Option Operand->Option (Option AO)
 |none=>some none
 |some x=>(kar x).map some
def szO (P:Program) (t:TypeId):Option Nat:=(P.info? t).map (·.size)
def byO (P:Program) (t:TypeId):Option Nat:=(P.info? t).map (·.bytes)
def gO (P:Program) (t:TypeId):Option Bool:=
 match P.underlying t with
 |some (.struct _)=>some true
 |some (.array _ _)=>some true
 |some _=>some false
 |none=>none
def qan (P:Program) (t:TypeId):Bool:=
 match P.info? t with
 |some i=>match i.desc with
  | .named n _=>n == "strings.Builder"
  |_=>false
 |none=>false
def kio (P:Program) (t:TypeId):Value->Option AV:=if qan P t then kpr else khe
def zO (P:Program) (t:TypeId):Option (List AV):=
 match P.info? t with
 |some i=>match i.zero with
  |some z=>mapO (kio P t) z.cells.toList
  |none=>none
 |none=>none
def zvO (P:Program) (t:TypeId):Option AV:=
 match P.info? t with
 |some i=>match i.zero with
  |some z=>kk4 z
  |none=>none
 |none=>none
def elO (P:Program) (t:TypeId):Option TypeId:=
 match P.underlying t with
 |some (.slice e)=>some e
 |_=>none
def kkk (p:TypeId->Option (List Nat)):Nat->List Field->Option (List Nat)
 |_,[]=>some []
 |at_,f::fs=>if f.name≠ "_" /\f.offset=at_ then match p f.type with
   |some ks=>match kkk p (at_+ks.length) fs with
    |some l=>some (ks++l)
    |none=>none
   |none=>none
  else none
def kd4 (P:Program):Nat->TypeId->Option (List Nat)
 |0,_=>none
 |d+1,t=>match P.underlying t with
  |some .bool=>if szO P t=some 1 then some [1] else none
  |some (.int _)=>if szO P t=some 1 then some [0] else none
  |some .string=>if szO P t=some 1 then some [2] else none
  |some (.struct fs)=>if P.stoodInHeld t then none else match kkk (kd4 P d) 0 fs.toList with
   |some ks=>if szO P t=some ks.length then some ks else none
   |none=>none
  |some (.array n e)=>match kd4 P d e with
   |some ks=>if szO P t=some (n*ks.length)/\szO P e=some ks.length then some (yac n ks).flatten else none
   |none=>none
  |_=>none
def kgr (f:Nat->Option (Nat×Nat)) (ps:List (Nat×Operand)):Option (List (Nat×Nat×AO)):=
 mapO (fun p=>match f p.1,kar p.2 with
  |some (off,n),some x=>some (off,n,x)
  |_,_=>none) ps
def kq4 (P:Program) (fs:Array Field) (i:Nat):Option (Nat×Nat):=
 match fs[i]? with
 |some f=>(szO P f.type).map fun n=>(f.offset,n)
 |none=>none
def klo:Operand->Bool
 | .const .nilIface=>true
 |_=>false
def krn:Operand->Bool
 | .const (.slice none 0 0)=>true
 |_=>false
def kyo:Operand->Bool
 | .const (.pointer none)=>true
 |_=>false
def kln (P:Program):Option Nat:=
 (List.range P.types.size).find? fun t=>match P.info? t with
  |some i=>match i.desc with
   | .named "internal/strconv.Error" _=>i.comparable && (match P.underlying t with |some (.int _)=>true |_=>false)
   |_=>false
  |none=>false
def kw7 (P:Program) (op:BinOp) (t:TypeId) (x y:Operand):Option AOp:=
 match kar x,kar y with
 |some a,some b=>
  if op= .eql\/op= .neq then match P.underlying t with
   |some (.int _)=>some (.bin op a b)
   |some .string=>some (.bin op a b)
   |some .bool=>some (.eqb (op == .neq) a b)
   |some (.struct _)=>(kd4 P 12 t).map fun ks=> .eqa (op == .neq) ks a b
   |some (.array _ _)=>(kd4 P 12 t).map fun ks=> .eqa (op == .neq) ks a b
   |some (.func _ _ _)=>some (.eqn 0 (op == .neq) a b)
   |some (.pointer e)=>if kyo x || kyo y then some (.eqn 1 (op == .neq) a b) else match szO P e with
    |some (_+1)=>some (.eqp (op == .neq) a b)
    |_=>none
   |some (.interface _)=>if klo x || klo y then some (.eqn 2 (op == .neq) a b) else(kln P).map fun u=> .eqi (op == .neq) u a b
   |some (.slice _)=>if krn y then some (.eqn 3 (op == .neq) a (.c .nils)) else none
   |_=>none
  else some (.bin op a b)
 |_,_=>none
def kw8 (P:Program) (src dst:TypeId) (x:Operand):Option AOp:=
 match P.underlying src,P.underlying dst,kar x with
 |some (.int _),some (.int k),some a=>some (.conv k a)
 |some .string,some .string,some a=>some (.mvs a)
 |some (.slice e),some .string,some a=>match P.underlying e with
  |some (.int .u8)=>some (.b2s a)
  |_=>none
 |some .string,some (.slice e),some a=>match P.underlying e with
  |some (.int .u8)=>some (.s2b e a)
  |_=>none
 |some (.pointer u),some .unsafePointer,some a=>match szO P u with
  |some (n+1)=>some (.cvp u (n+1) a)
  |_=>none
 |some .unsafePointer,some (.pointer u),some a=>match szO P u with
  |some (n+1)=>some (.cvp u (n+1) a)
  |_=>none
 |_,_,_=>none
def kxb (P:Program) (t:TypeId) (x:Operand) (lo hi mx:Option Operand):Option AOp:=
 match kar x,kea lo,kea hi,kea mx with
 |some a,some l,some h,some m=>match P.underlying t with
  |some (.array n e)=>match szO P e with
   |some sz=>some (.slA n sz a l h m)
   |none=>none
  |some (.slice e)=>match szO P e with
   |some sz=>some (.slS sz a l h m)
   |none=>none
  |some .string=>if mx.isNone then some (.slT a l h) else none
  |_=>none
 |_,_,_,_=>none
def khq (P:Program) (t:TypeId):Option (Nat×TypeId×TypeId):=
 match P.underlying t with
 |some (.map kt et)=>match P.underlying kt with
  |some (.int _)=>some (0,kt,et)
  |some .string=>some (1,kt,et)
  |_=>none
 |_=>none
def ki3 (P:Program) (t:TypeId):Bool:=
 match P.underlying t with
 |some (.slice _)=>true
 |some .string=>true
 |_=>false
def kka (P:Program) (t:TypeId):Bool:=
 match P.underlying t with
 |some (.int _)=>true
 |_=>false
def kqa (P:Program) (t u:TypeId) (s x:AO):Option AOp:=
 match elO P t with
 |some e=>match szO P e,byO P e,zO P e with
  |some sz,some by_,some z=>if z.length=sz/\ki3 P u then some (.app e sz by_ s x) else if z.length=sz/\kka P u then some (.appn e sz by_ z s x) else none
  |_,_,_=>none
 |none=>none
def kw9 (P:Program) (t:TypeId) (x:AO):Option AOp:=
 match P.underlying t with
 |some (.slice _)=>some (.len 0 x)
 |some .string=>some (.len 1 x)
 |some (.map _ _)=>some (.len 2 x)
 |some (.array n _)=>some (.lenc n)
 |_=>none
def kqb (P:Program) (b:Builtin) (ts:Array TypeId) (args:List AO):Option AOp:=
 match b,args,ts[0]? with
 | .append,[s,x],some t=>match ts[1]? with
   |some u=>kqa P t u s x
   |none=>none
 | .copy,[d,s],some t=>match elO P t with
   |some e=>(szO P e).map fun sz=> .cpy sz d s
   |none=>none
 | .len,[x],some t=>kw9 P t x
 | .cap,[x],some t=>match P.underlying t with
   |some (.slice _)=>some (.cap x)
   |_=>none
 | .max,[x,y],_=>some (.mxi x y)
 | .min,[x,y],_=>some (.mni x y)
 | .delete,[m,k],some t=>match khq P t with
   |some (kk,_,_)=>some (.del kk m k)
   |none=>none
 | .unsafeSliceData,[x],some _=>some (.usd x)
 | .unsafeString,[p,n],some t=>match P.underlying t with
   |some (.pointer e)=>match P.underlying e with
    |some (.int .u8)=>if P.cellsOf e=1/\2<=P.depth then some (.ust e p n) else none
    |_=>none
   |_=>none
 |_,_,_=>none
def kld (P:Program) (f:Nat):Option Nat:=
 match P.funcs[f]? with
 |some fn=>if fn.body.isNone && fn.origin == "" then
   if fn.name == "internal/abi.NoEscape" then some 0
   else if fn.name == "internal/bytealg.IndexByteString" then some 1
   else if fn.name == "internal/bytealg.CountString" then some 2
   else none
  else none
 |none=>none
def km2 (k:Nat):List AO->Option AOp
 | [x]=>if k=0 then some (.ext 0 x x) else none
 | [x,y]=>if k=1\/k=2 then some (.ext k x y) else none
 |_=>none
def kbl (P:Program):Op->Option AOp
 | .move x=>(kar x).map .mov
 | .assign x=>(kar x).map .mov
 | .pick c a b=>match kar c,kar a,kar b with
   |some c,some a,some b=>some (.pick c a b)
   |_,_,_=>none
 | .alloc t=>(zO P t).map (.alloc t)
 | .box t x=>(kar x).map (.box t)
 | .build t ps=>match zO P t,P.underlying t with
   |some z,some (.struct fs)=>if fs.all (fun f=>(P.info? f.type).isSome) then(kgr (kq4 P fs) ps.toList).map (.build z) else none
   |some z,some (.array _ e)=>match szO P e with
    |some sz=>(kgr (fun i=>some (i*sz,sz)) ps.toList).map (.build z)
    |none=>none
   |_,_=>none
 | .buildSlice t len ps=>match elO P t with
   |some e=>match szO P e,zO P e with
    |some sz,some z=>if len*sz<=16777216/\z.length=sz/\0<sz then(kgr (fun i=>some (i*sz,sz)) ps.toList).map (.bsl e sz (yac len z).flatten) else none
    |_,_=>none
   |none=>none
 | .load t a=>match gO P t,szO P t,kar a with
   |some g,some n,some a=>if g=false->n=1 then some (.load g n a) else none
   |_,_,_=>none
 | .store t a x=>match szO P t,kar a,kar x with
   |some n,some a,some x=>some (.store n a x)
   |_,_,_=>none
 | .nilCheck x=>(kar x).map .nilck
 | .binOp op t x y _=>kw7 P op t x y
 | .unOp op _ x=>(kar x).map (.un op)
 | .convert src dst x=>kw8 P src dst x
 | .sliceToArrayPointer t x=>match P.underlying t,kar x with
   |some (.array n _),some x=>some (.a2p n x)
   |_,_=>none
 | .makeFunc (.func f) first caps=>match mapO kar first.toList,mapO kar caps.toList with
   |some a,some b=>some (.mkfn f a b)
   |_,_=>none
 | .makeMap t r=>match r,P.underlying t with
   |none,some (.map _ _)=>some .mkmap
   |some (.const (.int _ _)),some (.map _ _)=>some .mkmap
   |_,_=>none
 | .makeSlice t l c=>match elO P t with
   |some e=>match szO P e,byO P e,zO P e,kar l,kar c with
    |some sz,some by_,some z,some l,some c=>some (.mksl e sz by_ z l c)
    |_,_,_,_,_=>none
   |none=>none
 | .slice t x lo hi mx=>kxb P t x lo hi mx
 | .fieldAddr s x f=>match P.underlying s,kar x with
   |some (.struct fs),some a=>match fs[f]? with
    |some f=>match szO P f.type with
     |some n=>if n=0 then none else some (.faddr f.offset a)
     |none=>none
    |none=>none
   |_,_=>none
 | .field s x f=>match P.underlying s,kar x with
   |some (.struct fs),some a=>match fs[f]? with
    |some f=>match gO P f.type,szO P f.type with
     |some g,some n=>if g=false->n=1 then some (.fld g f.offset n a) else none
     |_,_=>none
    |none=>none
   |_,_=>none
 | .indexAddr t x i=>match P.underlying t,kar x,kar i with
   |some (.array len e),some a,some j=>(szO P e).map fun sz=> .iaA len sz a j
   |some (.slice e),some a,some j=>(szO P e).map fun sz=> .iaS sz a j
   |_,_,_=>none
 | .index t x i=>match P.underlying t,kar x,kar i with
   |some (.array len e),some a,some j=>match gO P e,szO P e with
    |some g,some sz=>if g=false->sz=1 then some (.ixA g len sz a j) else none
    |_,_=>none
   |some .string,some a,some j=>some (.ixS a j)
   |_,_,_=>none
 | .lookup t x i ok=>match khq P t,kar x,kar i with
   |some (kk,_,et),some a,some j=>(zvO P et).map fun z=> .look kk z ok a j
   |_,_,_=>none
 | .mapUpdate t m k x=>match khq P t,kar m,kar k,kar x with
   |some (kk,_,_),some m,some k,some x=>some (.mapup kk m k x)
   |_,_,_,_=>none
 | .insert t m k x=>match khq P t,kar m,kar k,kar x with
   |some (kk,_,_),some m,some k,some x=>some (.mapup kk m k x)
   |_,_,_,_=>none
 | .extract x i=>(kar x).map (.extr i)
 | .makeInterface t x=>match P.underlying t,kar x with
   |some (.interface _),_=>none
   |some _,some x=>some (.mki t x)
   |_,_=>none
 | .call c=>match mapO kar c.args.toList with
   |some as=>match c.callee with
    | .builtin b=>kqb P b c.argTypes as
    | .value (.func f)=>match kld P f with
      |none=>some (.call (.c (.fn f [] [])) as)
      |some k=>km2 k as
    | .value f=>(kar f).map fun f=> .call f as
    | .invoke _ _=>none
   |none=>none
 |_=>none
def kmt (ops:Array Oper):Option (Nat×Bool)->Option (Option (Nat×Bool))
 |none=>some none
 |some (j,b)=>match(ops[j]?).bind (·.dst) with
  |some t=>some (some (t,b))
  |none=>none
def kfr (P:Program) (op:Op):Option AOp:=
 match kbl P op with
 |some (.call f as)=>match op with
  | .call c=>match c.callee with
    | .value _=>some (.call f as)
    |_=>none
  |_=>none
 |none=>some .fail
 |r=>r
def kf6 (P:Program) (nt:Nat) (ops:Array Oper) (o:Oper):Option AOper:=
 match kfr P o.op,kmt ops o.guard with
 |some op,some g=>if(match o.dst with |some d=>decide (d<nt) |none=>true) then some {dst:=o.dst,op:=op,guard:=g} else none
 |_,_=>none
def kjz:ResultVar->(P:Program)->Option (Nat×Option (Bool×Nat))
 | .tmp t,_=>some (t,none)
 | .cell a t,P=>match gO P t,szO P t with
   |some g,some n=>if g=false->n=1 then some (a,some (g,n)) else none
   |_,_=>none
end
open Go.RowKit
theorem ki8 {α β:Type} {f:α->Option β}: ∀ {as:List α} {bs:List β},mapO f as=some bs->as.length=bs.length/\ ∀ (j:Nat) (a:α) (b:β),as[j]? =some a->bs[j]? =some b->f a=some b
 | [],bs,h=>by
   cases h;exact⟨rfl,fun j a b ha _=>by simp at ha⟩
 |a::as,bs,h=>by
  unfold mapO at h;split at h
  ·cases h
  ·rename_i b hb;split at h
   ·cases h
   ·rename_i bs' hbs;cases h;obtain⟨h1,h2⟩:=ki8 hbs;refine⟨by simp[h1],fun j x y hx hy=> ?_⟩;cases j with
    |zero=>simp at hx hy;subst hx;subst hy;exact hb
    |succ j=>exact h2 j x y (by simpa using hx) (by simpa using hy)
section
variable {G:Gl} {C:CodeRel} {P:Program} {D D':Nat->Prop} {ρ ρ':Ren} {w w':World} {V V':Ids} {h:T Blk}
theorem kmj {v:Value} {x:AV} (hx:khe v=some x):R D w V ρ x v:=by
 unfold khe at hx;split at hx <;> first |(cases hx;constructor;done) |(cases hx;done) |skip
 ·cases hx;exact .str _ rfl
 ·cases hx;exact .imn (fun _=>rfl) (fun _=>rfl)
 ·split at hx
  ·rename_i hs;cases hx;obtain⟨h1,h2⟩:=hs;exact .fn h1.symm h2.symm (fun j x v hx _=>by simp at hx) (fun j x v hx _=>by simp at hx)
  ·cases hx
theorem k5w {vs:List Value} {xs:List AV} (hx:mapO khe vs=some xs):RL D w V ρ xs vs:=by
 obtain⟨h1,h2⟩:=ki8 hx;exact⟨h1.symm,fun j x v hx hv=>kmj (h2 j v x hv hx)⟩
theorem kwu {v:Value} {x:AV} (hx:kk4 v=some x):R D w V ρ x v:=by
 unfold kk4 at hx;split at hx
 ·rename_i cs;cases hm:mapO khe cs.toList with
  |none=>simp[hm] at hx
  |some l=>simp[hm] at hx;subst hx;exact R.agg_mk (k5w hm)
 ·split at hx
  ·rename_i hs;cases hx;exact .tup hs.symm (fun j x v hx _=>by simp at hx)
  ·cases hx
 ·exact kmj hx
theorem k5u {v:Value} {x:AV} (hx:kpr v=some x):R D w V ρ x v:=by
 unfold kpr at hx;split at hx
 ·rename_i hs;cases hx;unfold kyp at hs;split at hs
  ·exact .nils
  ·cases hs
 ·exact kmj hx
theorem k5v {t:TypeId} {v:Value} {x:AV} (hx:kio P t v=some x):R D w V ρ x v:=by
 unfold kio at hx;split at hx
 ·exact k5u hx
 ·exact kmj hx
theorem kf4 {t:TypeId} {vs:List Value} {xs:List AV} (hx:mapO (kio P t) vs=some xs):RL D w V ρ xs vs:=by
 obtain⟨h1,h2⟩:=ki8 hx;exact⟨h1.symm,fun j x v hx hv=>k5v (h2 j v x hv hx)⟩
theorem GOk.ext (e:Ext D ρ w V D' ρ' w' V') (db: ∀ b,D b->b<w.heap.size) (h:GOk D w):GOk D' w':=⟨fun g x hx=>
 (h.tab g x hx).mono e.sub (fun b hb=>e.frame b (db b hb) (.inl hb)) e.shape (fun _ h=>h) (fun _ _ h _=>h.elim),Gl.fact_ext e.sub (fun b hb=>e.frame b (db b hb) (.inl hb)) h.fact⟩
theorem GOk.sub (hs: ∀ b,D b->D' b) (h:GOk D w):GOk D' w:=⟨fun g x hx=>(h.tab g x hx).sub hs,Gl.fact_ext hs (fun _ _=>rfl) h.fact⟩
variable {s s':St} {a:Act}
theorem ka8 (hr:Regs D w V ρ s a) {x:Operand} {y:AO} (hx:kar x=some y):R D w V ρ (y.ev s) (a.eval x):=by
 cases x with
 |tmp t=>cases hx;exact hr.regs t
 |const v=>
  simp only[kar] at hx;cases hm:kk4 v with
  |none=>simp[hm] at hx
  |some u=>simp[hm] at hx;subst hx;exact kwu hm
 |global g=>
  simp only[kar] at hx;cases hm:Gl.tab g with
  |none=>simp[hm] at hx
  |some u=>simp[hm] at hx;subst hx;exact(hr.gl.tab g u hm).any
 |func f=>cases hx;exact .fn rfl rfl (fun j x v hx _=>by simp at hx) (fun j x v hx _=>by simp at hx)
def OpPost (C:CodeRel) (D:Nat->Prop) (ρ:Ren) (w:World) (V:Ids) (s s':St) (v:AV) (res:Result Next):Prop:=
 ∃ val w' D' ρ' V',(res= .ok (.value val) w'\/(res= .ok .skip w'/\val=undef))/\R D' w' V' ρ' v val/\HRel C D' w' V' ρ' s'.h/\Ext D ρ w V D' ρ' w' V'/\s'.r=s.r/\s.nx<=s'.nx/\
  (∀ i,V' i->V i\/(s.nx<=i/\i<s'.nx))/\ ∀ b,D' b->b<w'.heap.size
theorem OpPost.same (H:HRel C D w V ρ s.h) (db: ∀ b,D b->b<w.heap.size) {v:AV} {val:Value} {res:Result Next} (hr:res= .ok (.value val) w) (hv:R D w V ρ v val):OpPost C D ρ w V s s v res:=
 ⟨val,w,D,ρ,V,.inl hr,hv,H,.refl D ρ w V,rfl,Nat.le_refl _,fun _ h=> .inl h,db⟩
theorem kcj {t:TypeId} {n:Nat} (hn:szO P t=some n) (w:World):(sizeOf t).run P w= .ok n w:=by
 unfold szO at hn;cases hi:P.info? t with
 |none=>simp[hi] at hn
 |some i=>simp[hi] at hn;simp[sizeOf,typeInfo,hi,hn]
theorem kg5 {t:TypeId} {g:Bool} (hg:gO P t=some g) (w:World):(isAgg t).run P w= .ok g w:=by
 unfold gO at hg;cases hu:P.underlying t with
 |none=>simp[hu] at hg
 |some d=>simp only[isAgg,Sem.run_bind,run_underlying hu,Result.andThen_ok];cases d <;> simp_all
theorem kid {t:TypeId} {xs:List AV} (hz:zO P t=some xs) (w:World): ∃ z:Value,(zeroValue t).run P w= .ok z w/\mapO (kio P t) z.cells.toList=some xs:=by
 unfold zO at hz;cases hi:P.info? t with
 |none=>simp[hi] at hz
 |some i=>
  simp only[hi] at hz;cases hq:i.zero with
  |none=>simp[hq] at hz
  |some z=>simp only[hq] at hz;exact⟨z,by simp[zeroValue,typeInfo,hi,hq],hz⟩
theorem kl8 {t e:TypeId} (he:elO P t=some e):P.underlying t=some (.slice e):=by
 unfold elO at he;split at he
 ·cases he;assumption
 ·cases he
theorem kzu {g:Bool} {cs:List AV} {vs:List Value} {v:AV} (hr:RL D w V ρ cs vs) (hv:kdh g cs=some v):
  (g=true/\R D w V ρ v (.agg vs.toArray))\/(g=false/\ ∃ u,vs=[u]/\R D w V ρ v u):=by
 cases g with
 |true=>simp[kdh] at hv;subst hv;exact .inl ⟨rfl,R.agg_mk hr⟩
 |false=>
  simp only[kdh,Bool.false_eq_true,if_false] at hv;split at hv
  ·cases hv;obtain⟨u,us,rfl,h1,h2⟩:=hr.inv_cons;have:=h2.inv_nil;subst this;exact .inr ⟨rfl,u,rfl,h1⟩
  ·cases hv
theorem k4a (H:HRel C D w V ρ h) {x:AV} {val:Value} (hx:R D w V ρ x val) {t:TypeId} {g:Bool} {n:Nat} (hg:gO P t=some g) (hn:szO P t=some n)
  {cs:List AV} (hr:rdH h x n=some cs) {v:AV} (hv:kdh g cs=some v): ∃ ad u,val= .pointer (some ad)/\(loadVar t ad).run P w= .ok u w/\R D w V ρ v u:=by
 obtain⟨ad,vs,rfl,h1,h2,h3⟩:=qm2 H hx hr;rcases kzu h1 hv with⟨rfl,hR⟩ | ⟨rfl,u,rfl,hR⟩
 ·refine⟨ad,_,rfl,?_,hR⟩;have hl:=run_loadCells_list (P:=P) w ad vs h3;rw[h2] at hl;simp[loadVar,kg5 hg,kcj hn,hl]
 ·refine⟨ad,u,rfl,?_,hR⟩;have h0:=h3 0 u rfl;have:ad.add 0=ad:=by simp[Addr.add]
  rw[this] at h0;simp[loadVar,kg5 hg,h0]
theorem kzi (H:HRel C D w V ρ s.h) (db: ∀ b,D b->b<w.heap.size) (hr:Regs D w V ρ s a) {x:Operand} {y:AO} (hx:kar x=some y):
 OpPost C D ρ w V s s (y.ev s) (.ok (.value (a.eval x)) w):= .same H db rfl (ka8 hr hx)
theorem qbt (H:HRel C D w V ρ s.h) (db: ∀ b,D b->b<w.heap.size) (hr:Regs D w V ρ s a) {o:Oper} {t:TypeId} {x:Operand} (ho:o.op= .load t x) {ao:AOp} (hc:kbl P (.load t x)=some ao) {v:AV}
  (he:opA s ao=some (v,s')):OpPost C D ρ w V s s' v ((execOp a.eval o).run P w):=by
 simp only[kbl] at hc;split at hc
 ·rename_i g n y hg hn hy;split at hc
  ·cases hc;simp only[opA] at he;split at he
   ·rename_i cs hrd;cases hv:kdh g cs with
    |none=>simp[hv] at he
    |some u=>
     simp[hv] at he;obtain⟨rfl,rfl⟩:=he;obtain⟨ad,val,h1,h2,h3⟩:=k4a H (ka8 hr hy) hg hn hrd hv;exact .same H db (by simp[execOp,ho,Instr.loadAt,h1,Instr.sureAddr,h2]) h3
   ·cases he
  ·cases hc
 ·cases hc
theorem qej (H:HRel C D w V ρ s.h) (db: ∀ b,D b->b<w.heap.size) (hr:Regs D w V ρ s a) {o:Oper} {c x y:Operand} (ho:o.op= .pick c x y) {ao:AOp} (hc:kbl P (.pick c x y)=some ao) {v:AV}
  (he:opA s ao=some (v,s')):OpPost C D ρ w V s s' v ((execOp a.eval o).run P w):=by
 simp only[kbl] at hc;split at hc
 ·rename_i c' x' y' h1 h2 h3;cases hc;simp only[opA] at he;split at he
  ·rename_i t ht;cases he;have hb:=ka8 hr h1;rw[ht] at hb;generalize hcv:a.eval c=cv at hb;cases hb;cases t
   ·exact .same H db (val:=a.eval y) (by simp[execOp,ho,hcv,asBool]) (by simpa using ka8 hr h3)
   ·exact .same H db (val:=a.eval x) (by simp[execOp,ho,hcv,asBool]) (by simpa using ka8 hr h2)
  ·cases he
 ·cases hc
theorem k8f (H:HRel C D w V ρ s.h) (db: ∀ b,D b->b<w.heap.size) (hr:Regs D w V ρ s a) {o:Oper} {x:Operand} {i:Nat} (ho:o.op= .extract x i) {ao:AOp} (hc:kbl P (.extract x i)=some ao) {v:AV}
  (he:opA s ao=some (v,s')):OpPost C D ρ w V s s' v ((execOp a.eval o).run P w):=by
 simp only[kbl] at hc;cases hx:kar x with
 |none=>simp[hx] at hc
 |some y=>
  simp[hx] at hc;subst hc;simp only[opA] at he;split at he
  ·rename_i vs hvs;cases hi:vs[i]? with
   |none=>simp[hi] at he
   |some u=>
    simp[hi] at he;obtain⟨rfl,rfl⟩:=he;have hb:=ka8 hr hx;rw[hvs] at hb;obtain⟨us,hus,hl⟩:=hb.tup_inv;have hlt:i<us.toList.length:=by rw[←hl.1];exact(yaa.1 hi).1
    have hq:us[i]? =some us[i]:=Array.getElem?_eq_getElem (by simpa using hlt);exact .same H db (val:=us[i]) (by simp[execOp,ho,hus,Instr.extract,hq]) (hl.2 i u _ hi (by rw[Array.getElem?_toList];exact hq))
  ·cases he
theorem qdw (H:HRel C D w V ρ s.h) (db: ∀ b,D b->b<w.heap.size) (hr:Regs D w V ρ s a) {o:Oper} {x:Operand} (ho:o.op= .nilCheck x) {ao:AOp} (hc:kbl P (.nilCheck x)=some ao) {v:AV}
  (he:opA s ao=some (v,s')):OpPost C D ρ w V s s' v ((execOp a.eval o).run P w):=by
 simp only[kbl] at hc;cases hx:kar x with
 |none=>simp[hx] at hc
 |some y=>
  simp[hx] at hc;subst hc;have hb:=ka8 hr hx;generalize hxv:a.eval x=xv at hb;simp only[opA] at he;generalize hyv:y.ev s=yv at hb he;cases hb <;> simp at he <;> obtain⟨rfl,rfl⟩:=he
  ·rename_i id off ad hid ha;exact .same H db (by simp[execOp,ho,hxv]) (.ptr hid ha)
  ·rename_i cs off b o' c hD hc' h1;exact .same H db (by simp[execOp,ho,hxv]) (.ip c hD hc' h1)
  ·rename_i f first caps vf vc lf lc hf hc';exact .same H db (by simp[execOp,ho,hxv]) (.fn lf lc hf hc')
  ·rename_i id l hid hl;exact .same H db (by simp[execOp,ho,hxv]) (.yld hid hl)
theorem k8k (H:HRel C D w V ρ s.h) (db: ∀ b,D b->b<w.heap.size) (hr:Regs D w V ρ s a) {o:Oper} {t:TypeId} {x:Operand} {f:Nat} (ho:o.op= .fieldAddr t x f) {ao:AOp} (hc:kbl P (.fieldAddr t x f)=some ao) {v:AV}
  (he:opA s ao=some (v,s')):OpPost C D ρ w V s s' v ((execOp a.eval o).run P w):=by
 simp only[kbl] at hc;split at hc
 ·rename_i fs y hu hy;split at hc
  ·rename_i fd hfd;split at hc
   ·rename_i n hn;split at hc
    ·cases hc
    ·rename_i hn0;cases hc;have hb:=ka8 hr hy;generalize hxv:a.eval x=xv at hb;simp only[opA] at he;generalize hyv:y.ev s=yv at hb he;have run: ∀ ad:Addr,xv= .pointer (some ad)->(execOp a.eval o).run P w= .ok (.value (.pointer (some (ad.add fd.offset)))) w:=fun ad e=>by
      simp[execOp,ho,hxv,e,Instr.fieldAt,run_underlying hu,hfd,Instr.sureAddr,fieldPlace,kcj hn,hn0]
     cases hb <;> simp at he <;> obtain⟨rfl,rfl⟩:=he
     ·rename_i id off ad hid ha;refine .same H db (run ad rfl) (.ptr hid fun b hb=> ?_);rw[ha b hb,kdj]
     ·rename_i cs off b o' c hD hc' h1;refine .same H db (run _ rfl) ?_;rw[kdj,yab];exact .ip c hD hc' h1
   ·cases hc
  ·cases hc
 ·cases hc
theorem kja {x:AV} {v:Value} (hR:R D w V ρ x v) {n:Nat} (hn:kcz x=some n): ∃ k i,v= .int k i/\0<=i/\i.toNat=n:=by
 unfold kcz at hn;split at hn
 ·split at hn
  ·cases hn;cases hR;exact⟨_,_,rfl,by assumption,rfl⟩
  ·cases hn
 ·cases hn
theorem qah (H:HRel C D w V ρ s.h) (db: ∀ b,D b->b<w.heap.size) (hr:Regs D w V ρ s a) {o:Oper} {t e:TypeId} {len:Nat} {x i:Operand} (ho:o.op= .indexAddr t x i) (hu:P.underlying t=some (.array len e)) {y j:AO} (hy:kar x=some y) (hj:kar i=some j)
  {sz:Nat} (hsz:szO P e=some sz) {v:AV} (he:opA s (.iaA len sz y j)=some (v,s')):OpPost C D ρ w V s s' v ((execOp a.eval o).run P w):=by
 simp only[opA] at he;split at he
 ·rename_i n hn;obtain⟨k,q,hk,h0,hq⟩:=kja (ka8 hr hj) hn;split at he
  ·rename_i hlt;have hb:=ka8 hr hy;generalize hxv:a.eval x=xv at hb;generalize hyv:y.ev s=yv at hb he;have hq2:0<=q/\q<(len:Int):=⟨h0,by omega⟩;have run: ∀ ad:Addr,xv= .pointer (some ad)->(execOp a.eval o).run P w= .ok (.value (.pointer (some (ad.add (n*sz))))) w:=fun ad e=>by
    simp[execOp,ho,hxv,e,hk,Instr.indexAt,asIntOf,run_underlying hu,Instr.sureAddr,kcj hsz,hq2,hq]
   cases hb <;> simp at he <;> obtain⟨rfl,rfl⟩:=he
   ·rename_i id off ad hid ha;refine .same H db (run ad rfl) (.ptr hid fun b hb=> ?_);rw[ha b hb,kdj]
   ·rename_i cs off b o' c hD hc' h1;refine .same H db (run _ rfl) ?_;rw[kdj,yab];exact .ip c hD hc' h1
  ·cases he
 ·cases he
theorem qai (H:HRel C D w V ρ s.h) (db: ∀ b,D b->b<w.heap.size) (hr:Regs D w V ρ s a) {o:Oper} {t e:TypeId} {x i:Operand} (ho:o.op= .indexAddr t x i) (hu:P.underlying t=some (.slice e)) {y j:AO} (hy:kar x=some y) (hj:kar i=some j)
  {sz:Nat} (hsz:szO P e=some sz) {v:AV} (he:opA s (.iaS sz y j)=some (v,s')):OpPost C D ρ w V s s' v ((execOp a.eval o).run P w):=by
 simp only[opA] at he;split at he
 ·rename_i n hn;obtain⟨k,q,hk,h0,hq⟩:=kja (ka8 hr hj) hn;have hb:=ka8 hr hy;generalize hxv:a.eval x=xv at hb;generalize hyv:y.ev s=yv at hb he;have run: ∀ (ad:Addr) (len cap:Nat),n<len->xv= .slice (some ad) len cap->(execOp a.eval o).run P w= .ok (.value (.pointer (some (ad.add (n*sz))))) w:=fun ad len cap hl e=>by
   have hq2:0<=q/\q<(len:Int):=⟨h0,by omega⟩;simp[execOp,ho,hxv,e,hk,Instr.indexAt,asIntOf,run_underlying hu,kcj hsz,hq2,hq]
  cases hb with
  |sl hid hn' hc' ha=>
   simp only[] at he;split at he
   ·rename_i hlt;obtain⟨hlt,hz⟩:=hlt;cases he;refine .same H db (run _ _ _ hlt rfl) (.ptr hid fun b hb=> ?_);rcases ha b hb with h00 | ⟨h1,_⟩
    ·omega
    ·rw[h1,kdj,←hz]
   ·cases he
  |imn _ _=>simp at he
  | @im _ _ els clip b o' sz' cap c hn' hcl hD hl hc' h1=>
    simp only[] at he;split at he
    ·rename_i el hel;split at he
     ·rename_i hes;cases he;have hlt:=(yaa.1 hel).1;have hmem:el ∈ els:=List.mem_of_getElem? hel;have hsz':sz'=sz:=by rw[←hl el hmem];exact hes
      subst hsz';refine .same H db (run _ _ _ hlt rfl) ?_;rw[kdj];exact R.ip (off:=0) (o:=o'+n*sz') (c n) hD (fun j hj=>by rw[yab];exact hc' n j hlt (by rw[←hes];exact hj)) (fun j x hx=>h1 n j el x hel hx)
     ·cases he
    ·cases he
  |_=>simp at he
 ·cases he
end
end Go.Proofs.Hz
