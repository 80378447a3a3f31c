/-
  Chapter 15: functions of the library that are known by the shelf's contracts: strconv.Itoa, strings.Split at a separator of one byte. And: Chapter 20: walks through the functions of syscalls' texts (part d), written by a program of our own (wip/tools).
  Conditions: none.
-/
import Derived.Test.YtamikoglpnoicaaGreatDoorT00
import Derived.Test.YtamikoglpnoicaaGreatDoorT22
import Derived.Lib.SplitLaws
import Derived.Lib.IndexMore
import Derived.Lib.LaidTab
import Derived.Lib.AtoiErrMem
import Derived.Test.YtamikoglpnoicaaGreatDoorProg
open Go Go.Proofs
namespace Go.Proofs.Hz
open Go.RowKit
def digK:Nat→Nat→List UInt8→List UInt8
 |0,_,acc=>acc
 |f+1,u,acc=>if u<10 then UInt8.ofNat (48+u)::acc else digK f (u / 10) (UInt8.ofNat (48+u % 10)::acc)
def kaa (n:Int):List UInt8:=if n<0 then 45::digK 20 n.natAbs [] else digK 20 n.toNat []
theorem knp: ∀ (f u:Nat) (acc:List UInt8),u<10 ^ (f+1)→digK (f+1) u acc=Lib.decDigits u++acc
 |0,u,acc,h=>by
  have h10:u<10:=by simpa using h
  unfold digK
  rw[Lib.decDigits,if_pos h10,dif_pos h10];rfl
 |f+1,u,acc,h=>by
  unfold digK
  rw[Lib.decDigits]
  by_cases h10:u<10
  ·rw[if_pos h10,dif_pos h10];rfl
  ·rw[if_neg h10,dif_neg h10,knp f (u / 10) _ (by rw[Nat.pow_succ] at h;omega)]
   simp
theorem kix {n:Int} (h0: -9223372036854775808≤n) (h1:n≤9223372036854775807):kaa n=Lib.itoa n:=by
 unfold kaa Lib.itoa
 split
 ·rw[knp 19 _ _ (by have:(10:Nat) ^ (19+1)=100000000000000000000:=by decide
                    omega)]
  simp
 ·rw[knp 19 _ _ (by have:(10:Nat) ^ (19+1)=100000000000000000000:=by decide
                    omega)]
  simp
def kap (c:UInt8):List UInt8→List (List UInt8)
 | []=>[[]]
 |x::l=>if x=c then []::kap c l else match kap c l with
  |p::ps=>(x::p)::ps
  | []=>[[x]]
theorem krq (c:UInt8): ∀ l,kap c l≠[]
 | []=>by simp[kap]
 |x::l=>by
  unfold kap
  split
  ·simp
  ·split <;> simp
theorem krr {c:UInt8}: ∀ {l:List UInt8},c ∉ l→kap c l=[l]
 | [],_=>rfl
 |x::l,h=>by
  simp only[List.mem_cons,not_or] at h
  unfold kap
  rw[if_neg (fun e=>h.1 e.symm),krr h.2]
theorem kmp {c:UInt8}: ∀ {p l:List UInt8},c ∉ p→kap c (p++c::l)=p::kap c l
 | [],l,_=>by simp[kap]
 |x::p,l,h=>by
  simp only[List.mem_cons,not_or] at h
  simp only[List.cons_append,kap]
  rw[if_neg (fun e=>h.1 e.symm),kmp h.2]
theorem kty (c:UInt8): ∀ l:List UInt8,Lib.index l [c]=Lib.indexByte l c
 | []=>rfl
 |b::l=>by
  simp only[Lib.index,Lib.indexByte,kty c l]
  by_cases h:c=b
  ·subst h;simp
  ·have h2:(b == c)=false:=beq_eq_false_iff_ne.2 fun e=>h e.symm
   have h1:(c == b)=false:=beq_eq_false_iff_ne.2 h
   simp[List.isPrefixOf,h1,h2]
theorem qft {c:UInt8} {sep:ByteArray} (hsep:sep.data.toList=[c]): ∀ (k:Nat) (s:ByteArray),Lib.countB s sep=k→(Lib.splitB sep 0 k s).map (·.data.toList)=kap c s.data.toList:=by
 have h1:sep.size=1:=by rw[Lib.size_eq,hsep];rfl
 have hix: ∀ s:ByteArray,Lib.indexB s sep=Lib.indexByte s.data.toList c:=fun s=>by
  show Lib.index _ _=_
  rw[hsep,kty]
 intro k
 induction k with
 |zero=>
  intro s hk
  have hm:Lib.indexB s sep= -1:=by
   rcases Lib.indexB_cases s sep with h | ⟨i,h,_⟩
   ·exact h
   ·have:=Lib.countB_hit s sep i (by omega) h
    omega
  rw[hix] at hm
  have:=Lib.indexByte_none hm
  rw[krr fun hc=>by
   obtain⟨j,hj⟩:=List.getElem?_of_mem hc
   exact this j hj]
  rfl
 |succ k ih=>
  intro s hk
  rcases Lib.indexB_cases s sep with h | ⟨i,h,hroom⟩
  ·rw[Lib.countB_miss s sep h] at hk;omega
  ·have hc:=Lib.countB_hit s sep i (by omega) h
   rw[Lib.splitB_hit sep 0 k s i h,List.map_cons,ih _ (by omega),Lib.extract_from_zero,Lib.extract_to_end,h1]
   rw[hix] at h
   obtain⟨e1,e2⟩:=Lib.indexByte_some h
   have hl:s.data.toList=s.data.toList.take i++c::s.data.toList.drop (i+1):=by
    conv=>lhs;rw[←List.take_append_drop i s.data.toList]
    congr 1
    obtain⟨hlt,hv⟩:=List.getElem?_eq_some_iff.1 e1
    rw[←hv,List.drop_eq_getElem_cons hlt]
   conv=>rhs;rw[hl]
   rw[kmp fun hm=>by
    obtain⟨j,hj⟩:=List.getElem?_of_mem hm
    rw[List.getElem?_take] at hj
    split at hj
    ·rename_i hlt;exact e2 j hlt hj
    ·cases hj]
   rfl
def kItoa:List AV→Option AV
 | [.int .i64 n]=>if -9223372036854775808≤n∧n≤9223372036854775807 then some (.str (kaa n)) else none
 |_=>none
def kSplit:List AV→Option AV
 | [.str s,.str [c]]=>if s.length<4294967281 then some (.im ((kap c s).map fun p=>[.str p]) true) else none
 |_=>none
section
variable {G:Gl} {P:Program} {D:Nat→Prop} {w w':World}
theorem kin (h:Below w.heap.size w w'):Ext D Ren.none w Ids.none D Ren.none w' Ids.none where
 ids:=fun _ h=>h
 os:=h.os
 tape:=h.tape
 output:=h.output
 size:=h.size
 sub:=fun _ h=>h
 frame:=fun b hb _=>h.block b hb
 shape:=fun b real _ mk hb=>⟨real,mk,(h.block b (Array.getElem?_eq_some_iff.1 hb).1).trans hb,rfl⟩
 loops:=fun b r hb=>⟨r,(h.block b (Array.getElem?_eq_some_iff.1 hb).1).trans hb,rfl⟩
 ren:=fun _ _ _ h=>h
 new:=fun id _ h=> .inl ⟨id,h⟩
 dnew:=fun _ h=> .inl h
theorem kow {f:Nat} {k:List AV→Option AV} (hf:IsFn P f) (h: ∀ {args:List AV} {r:AV} {D:Nat→Prop} {w:World} {vals:List Value},k args=some r→(∀ b,D b→b<w.heap.size)→GOk D w→RL D w Ids.none Ren.none args vals→
  Calls P f vals.toArray w fun e w'=>∃ val D',e= .returned val∧R D' w' Ids.none Ren.none r val∧Ext D Ren.none w Ids.none D' Ren.none w' Ids.none∧ ∀ b,D' b→b<w'.heap.size):KOk1 P f k:=
 fun hr db gl hR=>⟨hf,fun _=>callsIn_wide.2 (h hr db gl hR)⟩
end
def kgp (D:Nat→Prop) (w:World):Prop:=((D 1∧Lib.TabIs Tryz.prog w "internal/strconv.uint64pow10" .u64 Lib.pow10Tab)∧D 0∧ ∃ m:Int,w.cell? ⟨0,0,none⟩=some (.int .i64 m))∧
 (D 2∧ ∃ u v,w.cell? ⟨2,0,none⟩=some (.iface u v))∧D 3∧ ∃ u v,w.cell? ⟨3,0,none⟩=some (.iface u v)
theorem g1:Tryz.prog.globalNamed "internal/strconv.uint64pow10" =some 1:=by kernel_rfl
theorem k2k {D D':Nat→Prop} {w w':World} (hs: ∀ b,D b→D' b) (hh: ∀ b,D b→w'.heap[b]? =w.heap[b]?) (h:kgp D w):kgp D' w':=by
 obtain⟨⟨⟨h1,h2⟩,h3,m,h4⟩,⟨h5,u,v,h6⟩,h7,u',v',h8⟩:=h
 refine⟨⟨⟨hs _ h1,?_⟩,hs _ h3,m,by rw[kii (hh _ h3)];exact h4⟩,⟨hs _ h5,u,v,by rw[kii (hh _ h5)];exact h6⟩,hs _ h7,u',v',by rw[kii (hh _ h7)];exact h8⟩
 unfold Lib.TabIs at h2 ⊢
 rw[←h2]
 unfold World.var?
 rw[g1]
 simp only[Option.bind_some,hh _ h1]
theorem k3u:IsFn Tryz.prog 31:=⟨Tryz.f31,_,Tryz.func31,rfl,fun h=>by cases(show(Tryz.f31.name == "runtime.NumGoroutine")=false by kernel_rfl).symm.trans (beq_iff_eq.2 h)⟩
theorem k3v:IsFn Tryz.prog 158:=⟨Tryz.f158,_,Tryz.func158,rfl,fun h=>by cases(show(Tryz.f158.name == "runtime.NumGoroutine")=false by kernel_rfl).symm.trans (beq_iff_eq.2 h)⟩
theorem k3y {G:Gl} (hG: ∀ D w,GOk D w→kgp D w):KOk1 Tryz.prog 31 kItoa:=kow k3u fun {args r D w vals} hr db gl hR=>by
 unfold kItoa at hr
 split at hr
 ·rename_i n
  split at hr
  ·rename_i hn
   cases hr
   obtain⟨v,us,rfl,h1,h2⟩:=hR.inv_cons
   obtain rfl:=List.eq_nil_of_length_eq_zero h2.1.symm
   cases h1
   refine(Tryz.strconv_Itoa n hn.1 hn.2 w (hG D w gl).1.1.2).mono fun e w' ⟨he,q,os,hw⟩=> ?_
   subst hw
   have hb:Below w.heap.size w (Sort.grow (w.drewN q) os):=⟨rfl,rfl,rfl,by show w.heap.size≤(w.heap++os).size;rw[Array.size_append];omega,fun k hk=>by show(w.heap++os)[k]? =_;exact Array.getElem?_append_left hk⟩
   exact⟨_,D,he,.str _ (by rw[kix hn.1 hn.2]),kin hb,fun b hb'=>Nat.lt_of_lt_of_le (db b hb') hb.size⟩
  ·cases hr
 ·cases hr
theorem qfu {G:Gl} (hG: ∀ D w,GOk D w→kgp D w):KOk1 Tryz.prog 158 kSplit:=kow k3v fun {args r D w vals} hr db gl hR=>by
 unfold kSplit at hr
 split at hr
 ·rename_i s c
  split at hr
  ·rename_i hn
   cases hr
   obtain⟨v,us,rfl,h1,h2⟩:=hR.inv_cons
   obtain⟨v2,us2,rfl,h3,h4⟩:=h2.inv_cons
   obtain rfl:=List.eq_nil_of_length_eq_zero h4.1.symm
   cases h1 with
   |str bs hbs=>
    cases h3 with
    |str bc hbc=>
     obtain⟨m,hm⟩:=(hG D w gl).1.2.2
     have hsz:bs.size=s.length:=by rw[Lib.size_eq,←hbs]
     have hsep:bc.size=1:=by rw[Lib.size_eq,←hbc];rfl
     refine(Tryz.strings_Split bs bc m w (by omega) hm (by omega)).mono fun e w' ⟨he,hw⟩=> ?_
     subst hw
     have hb:Below w.heap.size w (w.alloc (.cells ((Lib.splitB bc 0 (Lib.countB bs bc) bs).map Value.string).toArray 9)):=⟨rfl,rfl,rfl,by simp,fun k hk=>kdo w _ k hk⟩
     have hmap:=qft (c:=c) (sep:=bc) hbc.symm (Lib.countB bs bc) bs rfl
     rw[←hbs] at hmap
     have hlen:=Lib.splitB_all bc (by omega) 0 (Lib.countB bs bc) bs rfl
     have hlen2:(kap c s).length=Lib.countB bs bc+1:=by rw[←hmap,List.length_map,hlen]
     refine⟨_,fun b=>D b∨b=w.heap.size,he,?_,?_,fun b hb'=> ?_⟩
     ·have key:R (fun b=>D b∨b=w.heap.size) (w.alloc (.cells ((Lib.splitB bc 0 (Lib.countB bs bc) bs).map Value.string).toArray 9)) Ids.none Ren.none (.im ((kap c s).map fun p=>[.str p]) true) (.slice (some ⟨w.heap.size,0,none⟩) ((kap c s).map fun p=>[AV.str p]).length (Lib.countB bs bc+1)):=by
       refine .im (b:=w.heap.size) (o:=0) (sz:=1) (fun i _=>Value.string ((Lib.splitB bc 0 (Lib.countB bs bc) bs).getD i ⟨#[]⟩)) (by rw[List.length_map,hlen2];exact Nat.le_refl _) (fun _=>by rw[List.length_map,hlen2]) (.inr rfl) (fun e he=> ?_) (fun i j hi hj=> ?_) fun i j e x hei hxj=> ?_
       ·obtain⟨p,_,rfl⟩:=List.mem_map.1 he;rfl
       ·have hj0:j=0:=by omega
        subst hj0
        rw[List.length_map,hlen2] at hi
        have hi':i<(Lib.splitB bc 0 (Lib.countB bs bc) bs).length:=by omega
        simp only[World.cell?,Nat.zero_add,Nat.mul_one,Nat.add_zero,kdn]
        simp[hi']
       ·rw[List.getElem?_map,Option.map_eq_some_iff] at hei
        obtain⟨p,hp,rfl⟩:=hei
        have hj0:j=0:=by
            have:=(List.getElem?_eq_some_iff.1 hxj).1
            simp at this;omega
        subst hj0
        cases hxj
        rw[←hmap,List.getElem?_map,Option.map_eq_some_iff] at hp
        obtain⟨q,hq,rfl⟩:=hp
        rw[List.getD_eq_getElem?_getD,hq]
        exact .str _ rfl
      rw[List.length_map,hlen2] at key
      exact key
     ·have e0:=kin (D:=D) hb
      exact⟨e0.ids,e0.os,e0.tape,e0.output,e0.size,fun _ h=> .inl h,e0.frame,e0.shape,e0.loops,e0.ren,e0.new,fun b hb'=>hb'.elim .inl fun h=> .inr (.inr (by omega))⟩
     ·rcases hb' with hb' |hb'
      ·exact Nat.lt_of_lt_of_le (db b hb') hb.size
      ·rw[hb'];simp
  ·cases hr
 ·cases hr
def kAtoi:List AV→Option AV
 | [.str s]=>if s.length≤281474976710656 then(match Lib.atoiAll s with
   | .ok v=>some (.tup [.int .i64 v,.nili])
   |Go.Lib.NumEnd.syntax=>some (.tup [.int .i64 0,.ifv])
   | .range=>some (.tup [.int .i64 (Lib.atoiSat s),.ifv])) else none
 |_=>none
theorem k3w:IsFn Tryz.prog 112:=⟨Tryz.f112,_,Tryz.func112,rfl,fun h=>by cases(show(Tryz.f112.name == "runtime.NumGoroutine")=false by kernel_rfl).symm.trans (beq_iff_eq.2 h)⟩
theorem R.pair {D:Nat→Prop} {w:World} {x y:AV} {a b:Value} (h1:R D w Ids.none Ren.none x a) (h2:R D w Ids.none Ren.none y b):R D w Ids.none Ren.none (.tup [x,y]) (.tuple #[a,b]):=
 .tup rfl fun j z v hz hv=>by
  match j with
  |0=>cases hz;cases hv;exact h1
  |1=>cases hz;cases hv;exact h2
  |j+2=>simp at hz
theorem k0i {G:Gl} (hG: ∀ D w,GOk D w→kgp D w):KOk1 Tryz.prog 112 kAtoi:=kow k3w fun {args r D w vals} hr db gl hR=>by
 unfold kAtoi at hr
 split at hr
 ·rename_i s
  split at hr
  ·rename_i hn
   obtain⟨v,us,rfl,h1,h2⟩:=hR.inv_cons
   obtain rfl:=List.eq_nil_of_length_eq_zero h2.1.symm
   obtain⟨_,⟨_,e2⟩,_,e3⟩:=hG D w gl
   cases h1 with
   |str bs hbs=>
    have hsz:bs.size=s.length:=by rw[Lib.size_eq,←hbs]
    split at hr
    ·rename_i n hq
     cases hr
     refine(Tryz.strconv_Atoi_ok bs (by omega) n (by rw[←hbs];exact hq) w).mono fun e w' ⟨he,hw⟩=> ?_
     have hb:Below w.heap.size w w':=by
      rcases hw with rfl | ⟨t,rfl⟩
      ·exact Below.refl _ _
      ·exact Lib.bytesWorld_below _ _ _
     exact⟨_,D,he,.pair (.int _ _) .nili,kin hb,fun b hb'=>Nat.lt_of_lt_of_le (db b hb') hb.size⟩
    ·rename_i hq
     cases hr
     obtain⟨u,v,hc⟩:=e2
     refine(Tryz.strconv_Atoi_syntax bs (by omega) (by rw[←hbs];exact hq) _ w hc (.inr ⟨_,_,rfl⟩)).mono fun e w' ⟨N,he,_,_,hb⟩=> ?_
     exact⟨_,D,he,.pair (.int _ _) .ifv,kin hb,fun b hb'=>Nat.lt_of_lt_of_le (db b hb') hb.size⟩
    ·rename_i hq
     cases hr
     obtain⟨u,v,hc⟩:=e3
     refine(Tryz.strconv_Atoi_range bs (by omega) (by rw[←hbs];exact hq) _ w hc (.inr ⟨_,_,rfl⟩)).mono fun e w' ⟨N,he,_,_,hb⟩=> ?_
     rw[←hbs] at he
     exact⟨_,D,he,.pair (.int _ _) .ifv,kin hb,fun b hb'=>Nat.lt_of_lt_of_le (db b hb') hb.size⟩
  ·cases hr
 ·cases hr
end Go.Proofs.Hz
open Go Go.Proofs
namespace Go.Proofs.Hz
def puN (i:Nat):Nat:=[2,2,2,1,1,1,1,1,2,1,2,2,1,1,1,1,1,1,1,2,1,0,0,0,2,2,2,2,2,2,0,2,1,2,0,2,2,1,1,1,1,2,2,1,1,1,1,1,0,0,2,0,0,0,0,2,0,2,2,1,2,1,0,1,1,1,1,1,1,1,1,1,0,2,2,0,2,2,2,0,2,2,1,0,1,1,2,1,1,2,2,2,2,2,2,2,2,2,2,1,1,1,0,0,0,1,0,0,2,2,2,2,2,2,2,2,1,1,2,2,0,2,0,0,1,2,2,2,2,1,1,2,0,0,0,0,1,1,0,0,2,1,1,1,1,0,1,1,0,0,0,0,2,2,2,2,2,2,2,0,0,2,2,2,2,2,2,2,1,2,2,1,0,0,1,2,0,1,0,1,0,0,0,0,0,0,0,2,1,0,0,0,0,2,2,2,2,0,0,0,0,2,2,2,0,0,0,0,0,0,1,0,1,0,0,1,0,2,2,2,2,2,2,0,0,0,0,0,0,0,0,1,0,0,0,0,1,2,2,2,2,2,2,0,2,0,0,0,0,1,0,0,0,0,2,2,0,0,0,0,0,0,2,2,2,2,0,0,0,0,0,2,0,0,0,0,0,0,1,0,0,2,2,2,2,2,0,1,1,1,0,0,0,0,0,0,0,0,0,0,0,0,0,0,0,0,0,0,0,0,0,0,0,0,0,0,0,0,2,0,0,1,1,2,1,1,2,1,1,1,1,2,1,1,1,1,1,1,1,1,1,2,2,2,2,2,2,2,2,0,0,0,0,0,0,0,0,2,0,0,2,2,2,2,2,2,2,2,2,2,2].getD i 0
def glT (g:Nat):Option AV:=
 if g=2 then some (.ip [.ifv] 0)
 else if g=3 then some (.ip [.ifv] 0)
 else none
def glX (f:Nat):Option (List AV→Option AV):=
 if f=31 then some kItoa
 else if f=158 then some kSplit
 else if f=112 then some kAtoi
 else none
instance gl20:Gl where
 tab:=glT
 X:=glX
 fact:=kgp
 fact_ext:=k2k
theorem hX15: ∀ f k,Gl.X f=some k→KOk1 Tryz.prog f k:=fun f k h=>by
 have hG: ∀ D w,GOk D w→kgp D w:=fun _ _ h=>h.fact
 simp only[Gl.X,glX] at h
 split at h
 ·rename_i hf;subst hf;cases h;exact fun {_ _ _ _ _}=>k3y hG
 ·split at h
  ·rename_i hf;subst hf;cases h;exact fun {_ _ _ _ _}=>qfu hG
  ·split at h
   ·rename_i hf;subst hf;cases h;exact fun {_ _ _ _ _}=>k0i hG
   ·cases h
noncomputable def FF:Nat→Option AFn:=kik Tryz.prog puN
structure Cl where
 no:Int
 a:Int
 b:Int
instance:Inhabited Cl:=⟨⟨0,0,0⟩⟩
def Cl.av (c:Cl):AV:= .agg [.int .i64 c.no,.int .i64 c.a,.int .i64 c.b]
def eC (c:Cl):List AV:=[.int .i64 c.no,.int .i64 c.a,.int .i64 c.b]
def kindsA:AV:= .agg [(.str [115,101,110,100]),(.int .i64 28),(.int .i64 8),(.bool true),(.int .i64 1),(.int .i64 0),(.int .i64 0),(.str [114,101,99,118]),(.int .i64 29),(.int .i64 8),(.bool false),(.int .i64 2),(.int .i64 0),(.int .i64 0),(.str [116,114,121]),(.int .i64 10),(.int .i64 8),(.bool false),(.int .i64 2),(.int .i64 3),(.int .i64 0),(.str [112,117,116]),(.int .i64 16),(.int .i64 65536),(.bool true),(.int .i64 4),(.int .i64 0),(.int .i64 5),(.str [108,111,111,107]),(.int .i64 17),(.int .i64 65536),(.bool false),(.int .i64 8),(.int .i64 7),(.int .i64 0),(.str [99,117,116]),(.int .i64 18),(.int .i64 65536),(.bool false),(.int .i64 6),(.int .i64 7),(.int .i64 0),(.str [115,101,116]),(.int .i64 19),(.int .i64 16),(.bool false),(.int .i64 10),(.int .i64 0),(.int .i64 0),(.str [114,101,115,101,116]),(.int .i64 20),(.int .i64 16),(.bool false),(.int .i64 11),(.int .i64 0),(.int .i64 0),(.str [116,101,115,116]),(.int .i64 21),(.int .i64 16),(.bool false),(.int .i64 12),(.int .i64 0),(.int .i64 0),(.str [121,105,101,108,100]),(.int .i64 27),(.int .i64 0),(.bool false),(.int .i64 0),(.int .i64 0),(.int .i64 0)]
structure Kd where
 w:List UInt8
 op:Int
 most:Int
 value:Bool
 well:Int
 none:Int
 had:Int
def kdOf (no:Int):Kd:=
 if no=0 then⟨[115,101,110,100],28,8,true,1,0,0⟩
 else if no=1 then⟨[114,101,99,118],29,8,false,2,0,0⟩
 else if no=2 then⟨[116,114,121],10,8,false,2,3,0⟩
 else if no=3 then⟨[112,117,116],16,65536,true,4,0,5⟩
 else if no=4 then⟨[108,111,111,107],17,65536,false,8,7,0⟩
 else if no=5 then⟨[99,117,116],18,65536,false,6,7,0⟩
 else if no=6 then⟨[115,101,116],19,16,false,10,0,0⟩
 else if no=7 then⟨[114,101,115,101,116],20,16,false,11,0,0⟩
 else if no=8 then⟨[116,101,115,116],21,16,false,12,0,0⟩
 else if no=9 then⟨[121,105,101,108,100],27,0,false,0,0,0⟩
 else⟨[],0,0,false,0,0,0⟩
def Kd.av (k:Kd):AV:= .agg [.str k.w,.int .i64 k.op,.int .i64 k.most,.bool k.value,.int .i64 k.well,.int .i64 k.none,.int .i64 k.had]
theorem kt5:Spec FF 58 [] kindsA:=⟨60,by kernel_rfl⟩
end Go.Proofs.Hz
open Go Go.Proofs
namespace Go.Proofs.Hz
theorem Cl.ext' {c d:Cl} (h1:c.no=d.no) (h2:c.a=d.a) (h3:c.b=d.b):c=d:=by
 cases c;cases d
 simp only at h1 h2 h3
 subst h1;subst h2;subst h3;rfl
instance:DecidableEq Cl:=fun c d=>
 if h:c.no=d.no∧c.a=d.a∧c.b=d.b then .isTrue (Cl.ext' h.1 h.2.1 h.2.2) else .isFalse fun e=>h (e ▸ ⟨rfl,rfl,rfl⟩)
theorem ka0:Enc eC 3:=⟨fun _=>rfl,fun _=>rfl,fun c=>by simp[eC,beqL,AV.beq]⟩
def kdf (no:Int):List UInt8:=(kdOf no).w
def kj1 (no:Int):Option (List UInt8):=if 0≤no∧no≤9 then some (kdf no) else none
def inI (n:Int):Bool:=decide (-9223372036854775808≤n∧n≤9223372036854775807)
def inW (n:Int):Bool:=decide (-4611686018427387904≤n∧n≤4611686018427387904)
def kbp (c:Cl):List UInt8:=kdf c.no++[32]++kaa c.a++[32]++kaa c.b++[10]
def ka1 (l:List Cl):List UInt8:=(l.map kbp).flatten
def kc7 (c:Cl):Bool:=decide (0≤c.no∧c.no≤9) && (inW c.a && inW c.b)
def kcg (l:List Cl):Bool:=l.all kc7
def okC (c:Cl):Bool:=decide (0≤c.no∧c.no≤9) && (inI c.a && inI c.b)
def okP (l:List Cl):Bool:=decide (l.length≤100000) && l.all okC
def eqC (l m:List Cl):Bool:=decide (l=m)
theorem ka5 (n:Int) (h: -9223372036854775808≤n∧n≤9223372036854775807):Spec FF 31 [.int .i64 n] (.str (kaa n)):=⟨1,by
 show kItoa [.int .i64 n]=_
 simp only[kItoa]
 rw[if_pos h]⟩
end Go.Proofs.Hz
open Go Go.Proofs
namespace Go.Proofs.Hz
def kme (no:Int):Option AV:=
 if no=0 then
  some (.str [115,101,110,100])
 else
  if no=1 then
   some (.str [114,101,99,118])
  else
   if no=2 then
    some (.str [116,114,121])
   else
    if no=3 then
     some (.str [112,117,116])
    else
     if no=4 then
      some (.str [108,111,111,107])
     else
      if no=5 then
       some (.str [99,117,116])
      else
       if no=6 then
        some (.str [115,101,116])
       else
        if no=7 then
         some (.str [114,101,115,101,116])
        else
         if no=8 then
          some (.str [116,101,115,116])
         else
          if no=9 then some (.str [121,105,101,108,100]) else none
def kxn:List AV:=[(vt 0)]
def kq0 (no:Int) (σ:Nat→Nat):Val:=(valL ([.int .i64 no]) ([]) [] σ 0)
def qc7 (no:Int) (_σ:Nat→Nat):List AV:=[(.int .i64 no)]
def qc8 (_no:Int) (_σ:Nat→Nat):List Blk:=[]
theorem qc5 (no:Int) (σ:Nat→Nat):kxn.map (gm (kq0 no σ))=qc7 no σ:=by kernel_rfl
theorem qc6 (no:Int) (σ:Nat→Nat):([]:List Blk).map (gB (kq0 no σ))=qc8 no σ:=by kernel_rfl
set_option maxHeartbeats 10000000 in
theorem qda (no:Int) {r0:AV} (h:kme no=some r0):Spec FF 41 [(.int .i64 no)] r0:=by
 unfold kme at h
 have hσ: ∀ i j:Nat,(fun i:Nat=>i) i=(fun i:Nat=>i) j→i=j:=fun _ _ e=>e
 exact kbk (ρ:=kq0 no (fun i=>i)) (xs:=kxn) (by kernel_rfl) rfl rfl (by kernel_rfl) (fun z0 S=>have H:=Tok.start hσ S 0 1 0 0 ([.int .i64 no]) ([]) [] (.n) .n (qc5 no _) (qc6 no _);iteE h (fun h0 h=>have H:=H.c (p:=(.iaS 1 (.c (.sl 0 0 10 1 (some 10))) (cT 0),(.ptr 0 0))) (fun _ _ _=>keq (j:=0) (k:= .i64) (m:=no) (by kernel_rfl) h0 (by decide) (by decide));H.e [] h) (fun _ h=>iteE h (fun h1 h=>have H:=H.c (p:=(.iaS 1 (.c (.sl 0 0 10 1 (some 10))) (cT 0),(.ptr 0 1))) (fun _ _ _=>keq (j:=1) (k:= .i64) (m:=no) (by kernel_rfl) h1 (by decide) (by decide));H.e [] h) (fun _ h=>iteE h (fun h2 h=>have H:=H.c (p:=(.iaS 1 (.c (.sl 0 0 10 1 (some 10))) (cT 0),(.ptr 0 2))) (fun _ _ _=>keq (j:=2) (k:= .i64) (m:=no) (by kernel_rfl) h2 (by decide) (by decide));H.e [] h) (fun _ h=>iteE h (fun h3 h=>have H:=H.c (p:=(.iaS 1 (.c (.sl 0 0 10 1 (some 10))) (cT 0),(.ptr 0 3))) (fun _ _ _=>keq (j:=3) (k:= .i64) (m:=no) (by kernel_rfl) h3 (by decide) (by decide));H.e [] h) (fun _ h=>iteE h (fun h4 h=>have H:=H.c (p:=(.iaS 1 (.c (.sl 0 0 10 1 (some 10))) (cT 0),(.ptr 0 4))) (fun _ _ _=>keq (j:=4) (k:= .i64) (m:=no) (by kernel_rfl) h4 (by decide) (by decide));H.e [] h) (fun _ h=>iteE h (fun h5 h=>have H:=H.c (p:=(.iaS 1 (.c (.sl 0 0 10 1 (some 10))) (cT 0),(.ptr 0 5))) (fun _ _ _=>keq (j:=5) (k:= .i64) (m:=no) (by kernel_rfl) h5 (by decide) (by decide));H.e [] h) (fun _ h=>iteE h (fun h6 h=>have H:=H.c (p:=(.iaS 1 (.c (.sl 0 0 10 1 (some 10))) (cT 0),(.ptr 0 6))) (fun _ _ _=>keq (j:=6) (k:= .i64) (m:=no) (by kernel_rfl) h6 (by decide) (by decide));H.e [] h) (fun _ h=>iteE h (fun h7 h=>have H:=H.c (p:=(.iaS 1 (.c (.sl 0 0 10 1 (some 10))) (cT 0),(.ptr 0 7))) (fun _ _ _=>keq (j:=7) (k:= .i64) (m:=no) (by kernel_rfl) h7 (by decide) (by decide));H.e [] h) (fun _ h=>iteE h (fun h8 h=>have H:=H.c (p:=(.iaS 1 (.c (.sl 0 0 10 1 (some 10))) (cT 0),(.ptr 0 8))) (fun _ _ _=>keq (j:=8) (k:= .i64) (m:=no) (by kernel_rfl) h8 (by decide) (by decide));H.e [] h) (fun _ h=>reqE h (fun h9 h=>have H:=H.c (p:=(.iaS 1 (.c (.sl 0 0 10 1 (some 10))) (cT 0),(.ptr 0 9))) (fun _ _ _=>keq (j:=9) (k:= .i64) (m:=no) (by kernel_rfl) h9 (by decide) (by decide));H.e [] h)))))))))))
def kfy:Nat→List Cl→Bool→List Cl→Bool→Int→Option AV
 |0,_,_,_,_,_=>none
 |fu+1,l,bl,m,bm,p0=>
  if p0<(List.length l:Int) then
   if 0≤p0 then Option.bind (l[Int.toNat p0]?) fun x2=>
   Option.bind (m[Int.toNat p0]?) fun x3=>
   if(!((x2.no:Int) == x3.no && ((x2.a:Int) == x3.a && ((x2.b:Int) == x3.b && true))))=true then
    some (.bool false)
   else
    kfy fu l bl m bm (w64 (p0+1)) else none
  else
   some (.bool true)
def kwj:List AV:=[(vf 0),(vf 1),(vt 0),(vt 1)]
def kwi:List Blk:=[]
def kje (l:List Cl) (bl:Bool) (m:List Cl) (bm:Bool) (p0:Int) (σ:Nat→Nat):Val:=(valL ([.int .i64 (List.length l:Int),.int .i64 p0]) ([.im (List.map eC l) bl,.im (List.map eC m) bm]) [] σ 0)
def k9v (l:List Cl) (bl:Bool) (m:List Cl) (bm:Bool) (p0:Int) (_σ:Nat→Nat):List AV:=[(.im (List.map eC l) bl),(.im (List.map eC m) bm),(.int .i64 (List.length l:Int)),(.int .i64 p0)]
def k9w (_l:List Cl) (_bl:Bool) (_m:List Cl) (_bm:Bool) (_p0:Int) (_σ:Nat→Nat):List Blk:=[]
theorem kpy (l:List Cl) (bl:Bool) (m:List Cl) (bm:Bool) (p0:Int) (σ:Nat→Nat):kwj.map (gm (kje l bl m bm p0 σ))=k9v l bl m bm p0 σ:=by kernel_rfl
theorem kpz (l:List Cl) (bl:Bool) (m:List Cl) (bm:Bool) (p0:Int) (σ:Nat→Nat):kwi.map (gB (kje l bl m bm p0 σ))=k9w l bl m bm p0 σ:=by kernel_rfl
theorem k9y: ∀ (fu:Nat),∀ (l:List Cl) (bl:Bool) (m:List Cl) (bm:Bool) (p0:Int) {r0:AV} {z0:St} {σ:Nat→Nat},(∀ i j,σ i=σ j→i=j)→kfy fu l bl m bm p0=some r0→Sim (kje l bl m bm p0 σ) (tmpl [0,1,12,13] kwj kwi) z0→J FF (fnOf FF 59) (cutK (fnOf FF 59) 0) (.code (.loop (cutB (fnOf FF 59) 0))) z0 r0:=by
 intro fu
 induction fu with
 |zero=>
  intro _ _ _ _ _ _ _ _ _ h _
  unfold kfy at h
  cases h
 |succ fu ih=>
  intro l bl m bm p0 r0 z0 σ hσ h S
  unfold kfy at h
  exact kcq (have H:=Tok.start hσ S 0 2 2 0 ([.int .i64 (List.length l:Int),.int .i64 p0]) ([.im (List.map eC l) bl,.im (List.map eC m) bm]) [] (.c (OkF.im ka0 _ _) <| .c (OkF.im ka0 _ _) <| .n) (.n) (kpy l bl m bm p0 _) (kpz l bl m bm p0 _);have H:=H.t 3 [.bool (decide (p0<(List.length l:Int)))]|>.r [(.bin .lss (cT 1) (cT 0),(vt 2))];iteE h (fun h0 h=>have H:=H.m 2 true (decide_eq_true h0);reqE h (fun h1 h=>ka3 h (fun x2 h2 h=>have H:=H.t 6 [.int .i64 x2.no,.int .i64 x2.a,.int .i64 x2.b]|>.c (p:=(.iaS 3 (cF 0) (cT 1),(.ip [(vt 3),(vt 4),(vt 5)] 0))) (fun _ _ _=>fIa (sz:=3) (e:=eC) (l:=l) (b:=bl) (k:= .i64) (n:=p0) (y:=x2) ka0 (by kernel_rfl) (by kernel_rfl) h1 h2 (by kernel_rfl));ka3 h (fun x3 h3 h=>have H:=H.t 10 [.int .i64 x3.no,.int .i64 x3.a,.int .i64 x3.b,.bool (!((x2.no:Int) == x3.no && ((x2.a:Int) == x3.a && ((x2.b:Int) == x3.b && true))))]|>.r [(.eqa true [0,0,0] (.c (.agg [(vt 3),(vt 4),(vt 5)])) (.c (.agg [(vt 6),(vt 7),(vt 8)])),(vt 9))]|>.c (p:=(.iaS 3 (cF 1) (cT 1),(.ip [(vt 6),(vt 7),(vt 8)] 0))) (fun _ _ _=>fIa (sz:=3) (e:=eC) (l:=m) (b:=bm) (k:= .i64) (n:=p0) (y:=x3) ka0 (by kernel_rfl) (by kernel_rfl) h1 h3 (by kernel_rfl));iteE h (fun h4 h=>have H:=H.m 9 true h4;H.e [0] h) (fun h4 h=>have H:=H.t 11 [.int .i64 (w64 (p0+1))]|>.r [(.bin .add (cT 1) (cI 1),(vt 10))]|>.m 9 false (bF h4);H.k [0] [0,1,12,13] [] [(vf 0),(vf 1),(vt 0),(vt 10)] [] 9 (kje l bl m bm (w64 (p0+1)) _) (kpy l bl m bm (w64 (p0+1)) _) (kpz l bl m bm (w64 (p0+1)) _) (fun _ hi S=>ih _ _ _ _ _ hi h S)))))) (fun h0 h=>have H:=H.m 2 false (decide_eq_false h0);H.e [0] h))
def kl4 (fu:Nat) (l:List Cl) (bl:Bool) (m:List Cl) (bm:Bool):Option AV:=
 if(List.length l:Int)=(List.length m:Int) then
  kfy fu l bl m bm 0
 else
  some (.bool false)
def kwh:List AV:=[(vf 0),(vf 1)]
def kpx (l:List Cl) (bl:Bool) (m:List Cl) (bm:Bool) (σ:Nat→Nat):Val:=(valL ([]) ([.im (List.map eC l) bl,.im (List.map eC m) bm]) [] σ 0)
def k9t (l:List Cl) (bl:Bool) (m:List Cl) (bm:Bool) (_σ:Nat→Nat):List AV:=[(.im (List.map eC l) bl),(.im (List.map eC m) bm)]
def k9u (_l:List Cl) (_bl:Bool) (_m:List Cl) (_bm:Bool) (_σ:Nat→Nat):List Blk:=[]
theorem k9r (l:List Cl) (bl:Bool) (m:List Cl) (bm:Bool) (σ:Nat→Nat):kwh.map (gm (kpx l bl m bm σ))=k9t l bl m bm σ:=by kernel_rfl
theorem k9s (l:List Cl) (bl:Bool) (m:List Cl) (bm:Bool) (σ:Nat→Nat):([]:List Blk).map (gB (kpx l bl m bm σ))=k9u l bl m bm σ:=by kernel_rfl
theorem k90 {fu:Nat} (l:List Cl) (bl:Bool) (m:List Cl) (bm:Bool) {r0:AV} (h:kl4 fu l bl m bm=some r0):Spec FF 59 [(.im (List.map eC l) bl),(.im (List.map eC m) bm)] r0:=by
 unfold kl4 at h
 have hσ: ∀ i j:Nat,(fun i:Nat=>i) i=(fun i:Nat=>i) j→i=j:=fun _ _ e=>e
 exact kbk (ρ:=kpx l bl m bm (fun i=>i)) (xs:=kwh) (by kernel_rfl) rfl rfl (by kernel_rfl) (fun z0 S=>have H:=Tok.start hσ S 0 0 2 0 ([]) ([.im (List.map eC l) bl,.im (List.map eC m) bm]) [] (.c (OkF.im ka0 _ _) <| .c (OkF.im ka0 _ _) <| .n) .n (k9r l bl m bm _) (k9s l bl m bm _);have H:=H.t 3 [.int .i64 (List.length l:Int),.int .i64 (List.length m:Int),.bool (!decide ((List.length l:Int)=(List.length m:Int)))]|>.r [(.bin .neq (cT 0) (cT 1),(vt 2))]|>.c (p:=(.len 0 (cF 0),(vt 0))) (fun _ _ _=>fLen (e:=eC) (l:=l) (b:=bl) (by kernel_rfl) (by kernel_rfl))|>.c (p:=(.len 0 (cF 1),(vt 1))) (fun _ _ _=>fLen (e:=eC) (l:=m) (b:=bm) (by kernel_rfl) (by kernel_rfl));iteE h (fun h0 h=>have H:=H.m 2 false (nT h0);H.k [0] [0,1,12,13] [] [(vf 0),(vf 1),(vt 0),(.int .i64 0)] [] 0 (kje l bl m bm 0 _) (kpy l bl m bm 0 _) (kpz l bl m bm 0 _) (fun _ hi S=>k9y _ _ _ _ _ _ hi h S)) (fun h0 h=>have H:=H.m 2 true (nF h0);H.e [0] h))
def kf6:Nat→List Cl→Bool→List Cl→Bool→Int→Option AV
 |0,_,_,_,_,_=>none
 |fu+1,l,bl,m,bm,p0=>
  if p0<(List.length l:Int) then
   if 0≤p0 then Option.bind (l[Int.toNat p0]?) fun x2=>
   Option.bind (m[Int.toNat p0]?) fun x3=>
   if(!((x2.no:Int) == x3.no && ((x2.a:Int) == x3.a && ((x2.b:Int) == x3.b && true))))=true then
    some (.bool false)
   else
    kf6 fu l bl m bm (w64 (p0+1)) else none
  else
   some (.bool true)
def kxj:List AV:=[(vf 0),(vf 1),(vt 0)]
def kxi:List Blk:=[]
def kjl (l:List Cl) (bl:Bool) (m:List Cl) (bm:Bool) (p0:Int) (σ:Nat→Nat):Val:=(valL ([.int .i64 p0]) ([.im (List.map eC l) bl,.im (List.map eC m) bm]) [] σ 0)
def qcz (l:List Cl) (bl:Bool) (m:List Cl) (bm:Bool) (p0:Int) (_σ:Nat→Nat):List AV:=[(.im (List.map eC l) bl),(.im (List.map eC m) bm),(.int .i64 p0)]
def qc0 (_l:List Cl) (_bl:Bool) (_m:List Cl) (_bm:Bool) (_p0:Int) (_σ:Nat→Nat):List Blk:=[]
theorem kqy (l:List Cl) (bl:Bool) (m:List Cl) (bm:Bool) (p0:Int) (σ:Nat→Nat):kxj.map (gm (kjl l bl m bm p0 σ))=qcz l bl m bm p0 σ:=by kernel_rfl
theorem kqz (l:List Cl) (bl:Bool) (m:List Cl) (bm:Bool) (p0:Int) (σ:Nat→Nat):kxi.map (gB (kjl l bl m bm p0 σ))=qc0 l bl m bm p0 σ:=by kernel_rfl
theorem qc1: ∀ (fu:Nat),∀ (l:List Cl) (bl:Bool) (m:List Cl) (bm:Bool) (p0:Int) {r0:AV} {z0:St} {σ:Nat→Nat},(∀ i j,σ i=σ j→i=j)→kf6 fu l bl m bm p0=some r0→Sim (kjl l bl m bm p0 σ) (tmpl [0,1,5] kxj kxi) z0→J FF (fnOf FF 37) (cutK (fnOf FF 37) 0) (.code (.loop (cutB (fnOf FF 37) 0))) z0 r0:=by
 intro fu
 induction fu with
 |zero=>
  intro _ _ _ _ _ _ _ _ _ h _
  unfold kf6 at h
  cases h
 |succ fu ih=>
  intro l bl m bm p0 r0 z0 σ hσ h S
  unfold kf6 at h
  exact kcq (have H:=Tok.start hσ S 0 1 2 0 ([.int .i64 p0]) ([.im (List.map eC l) bl,.im (List.map eC m) bm]) [] (.c (OkF.im ka0 _ _) <| .c (OkF.im ka0 _ _) <| .n) (.n) (kqy l bl m bm p0 _) (kqz l bl m bm p0 _);have H:=H.t 3 [.int .i64 (List.length l:Int),.bool (decide (p0<(List.length l:Int)))]|>.r [(.bin .lss (cT 0) (cT 1),(vt 2))]|>.c (p:=(.len 0 (cF 0),(vt 1))) (fun _ _ _=>fLen (e:=eC) (l:=l) (b:=bl) (by kernel_rfl) (by kernel_rfl));iteE h (fun h0 h=>have H:=H.m 2 true (decide_eq_true h0);reqE h (fun h1 h=>ka3 h (fun x2 h2 h=>have H:=H.t 6 [.int .i64 x2.no,.int .i64 x2.a,.int .i64 x2.b]|>.c (p:=(.iaS 3 (cF 0) (cT 0),(.ip [(vt 3),(vt 4),(vt 5)] 0))) (fun _ _ _=>fIa (sz:=3) (e:=eC) (l:=l) (b:=bl) (k:= .i64) (n:=p0) (y:=x2) ka0 (by kernel_rfl) (by kernel_rfl) h1 h2 (by kernel_rfl));ka3 h (fun x3 h3 h=>have H:=H.t 10 [.int .i64 x3.no,.int .i64 x3.a,.int .i64 x3.b,.bool (!((x2.no:Int) == x3.no && ((x2.a:Int) == x3.a && ((x2.b:Int) == x3.b && true))))]|>.r [(.eqa true [0,0,0] (.c (.agg [(vt 3),(vt 4),(vt 5)])) (.c (.agg [(vt 6),(vt 7),(vt 8)])),(vt 9))]|>.c (p:=(.iaS 3 (cF 1) (cT 0),(.ip [(vt 6),(vt 7),(vt 8)] 0))) (fun _ _ _=>fIa (sz:=3) (e:=eC) (l:=m) (b:=bm) (k:= .i64) (n:=p0) (y:=x3) ka0 (by kernel_rfl) (by kernel_rfl) h1 h3 (by kernel_rfl));iteE h (fun h4 h=>have H:=H.m 9 true h4;H.e [0] h) (fun h4 h=>have H:=H.t 11 [.int .i64 (w64 (p0+1))]|>.r [(.bin .add (cT 0) (cI 1),(vt 10))]|>.m 9 false (bF h4);H.k [0] [0,1,5] [] [(vf 0),(vf 1),(vt 10)] [] 9 (kjl l bl m bm (w64 (p0+1)) _) (kqy l bl m bm (w64 (p0+1)) _) (kqz l bl m bm (w64 (p0+1)) _) (fun _ hi S=>ih _ _ _ _ _ hi h S)))))) (fun h0 h=>have H:=H.m 2 false (decide_eq_false h0);H.e [0] h))
def kmd (fu:Nat) (l:List Cl) (bl:Bool) (m:List Cl) (bm:Bool):Option AV:=
 if(List.length l:Int)=(List.length m:Int) then
  kf6 fu l bl m bm 0
 else
  some (.bool false)
def kxh:List AV:=[(vf 0),(vf 1)]
def kqx (l:List Cl) (bl:Bool) (m:List Cl) (bm:Bool) (σ:Nat→Nat):Val:=(valL ([]) ([.im (List.map eC l) bl,.im (List.map eC m) bm]) [] σ 0)
def qcx (l:List Cl) (bl:Bool) (m:List Cl) (bm:Bool) (_σ:Nat→Nat):List AV:=[(.im (List.map eC l) bl),(.im (List.map eC m) bm)]
def qcy (_l:List Cl) (_bl:Bool) (_m:List Cl) (_bm:Bool) (_σ:Nat→Nat):List Blk:=[]
theorem qcv (l:List Cl) (bl:Bool) (m:List Cl) (bm:Bool) (σ:Nat→Nat):kxh.map (gm (kqx l bl m bm σ))=qcx l bl m bm σ:=by kernel_rfl
theorem qcw (l:List Cl) (bl:Bool) (m:List Cl) (bm:Bool) (σ:Nat→Nat):([]:List Blk).map (gB (kqx l bl m bm σ))=qcy l bl m bm σ:=by kernel_rfl
theorem qc3 {fu:Nat} (l:List Cl) (bl:Bool) (m:List Cl) (bm:Bool) {r0:AV} (h:kmd fu l bl m bm=some r0):Spec FF 37 [(.im (List.map eC l) bl),(.im (List.map eC m) bm)] r0:=by
 unfold kmd at h
 have hσ: ∀ i j:Nat,(fun i:Nat=>i) i=(fun i:Nat=>i) j→i=j:=fun _ _ e=>e
 exact kbk (ρ:=kqx l bl m bm (fun i=>i)) (xs:=kxh) (by kernel_rfl) rfl rfl (by kernel_rfl) (fun z0 S=>have H:=Tok.start hσ S 0 0 2 0 ([]) ([.im (List.map eC l) bl,.im (List.map eC m) bm]) [] (.c (OkF.im ka0 _ _) <| .c (OkF.im ka0 _ _) <| .n) .n (qcv l bl m bm _) (qcw l bl m bm _);have H:=H.t 3 [.int .i64 (List.length l:Int),.int .i64 (List.length m:Int),.bool (!decide ((List.length l:Int)=(List.length m:Int)))]|>.r [(.bin .neq (cT 0) (cT 1),(vt 2))]|>.c (p:=(.len 0 (cF 0),(vt 0))) (fun _ _ _=>fLen (e:=eC) (l:=l) (b:=bl) (by kernel_rfl) (by kernel_rfl))|>.c (p:=(.len 0 (cF 1),(vt 1))) (fun _ _ _=>fLen (e:=eC) (l:=m) (b:=bm) (by kernel_rfl) (by kernel_rfl));iteE h (fun h0 h=>have H:=H.m 2 false (nT h0);H.k [0] [0,1,5] [] [(vf 0),(vf 1),(.int .i64 0)] [] 0 (kjl l bl m bm 0 _) (kqy l bl m bm 0 _) (kqz l bl m bm 0 _) (fun _ hi S=>qc1 _ _ _ _ _ _ hi h S)) (fun h0 h=>have H:=H.m 2 true (nF h0);H.e [0] h))
def kf8:Nat→List Cl→Bool→Int→Option AV
 |0,_,_,_=>none
 |fu+1,l,bl,p0=>
  if p0<(List.length l:Int) then
   if 0≤p0 then Option.bind (l[Int.toNat p0]?) fun x2=>
   if x2.no<0 then
    some (.bool false)
   else
    if x2.no > 9 then
     some (.bool false)
    else
     if x2.a<(-4611686018427387904) then
      some (.bool false)
     else
      if x2.a > 4611686018427387904 then
       some (.bool false)
      else
       if x2.b<(-4611686018427387904) then
        some (.bool false)
       else
        if x2.b > 4611686018427387904 then
         some (.bool false)
        else
         kf8 fu l bl (w64 (p0+1)) else none
  else
   some (.bool true)
def kxv:List AV:=[(vf 0),(vt 0)]
def kxu:List Blk:=[]
def kjp (l:List Cl) (bl:Bool) (p0:Int) (σ:Nat→Nat):Val:=(valL ([.int .i64 p0]) ([.im (List.map eC l) bl]) [] σ 0)
def qdu (l:List Cl) (bl:Bool) (p0:Int) (_σ:Nat→Nat):List AV:=[(.im (List.map eC l) bl),(.int .i64 p0)]
def qdv (_l:List Cl) (_bl:Bool) (_p0:Int) (_σ:Nat→Nat):List Blk:=[]
theorem kra (l:List Cl) (bl:Bool) (p0:Int) (σ:Nat→Nat):kxv.map (gm (kjp l bl p0 σ))=qdu l bl p0 σ:=by kernel_rfl
theorem krb (l:List Cl) (bl:Bool) (p0:Int) (σ:Nat→Nat):kxu.map (gB (kjp l bl p0 σ))=qdv l bl p0 σ:=by kernel_rfl
set_option maxHeartbeats 10000000 in
theorem qdx: ∀ (fu:Nat),∀ (l:List Cl) (bl:Bool) (p0:Int) {r0:AV} {z0:St} {σ:Nat→Nat},(∀ i j,σ i=σ j→i=j)→kf8 fu l bl p0=some r0→Sim (kjp l bl p0 σ) (tmpl [0,3] kxv kxu) z0→J FF (fnOf FF 17) (cutK (fnOf FF 17) 0) (.code (.loop (cutB (fnOf FF 17) 0))) z0 r0:=by
 intro fu
 induction fu with
 |zero=>
  intro _ _ _ _ _ _ _ h _
  unfold kf8 at h
  cases h
 |succ fu ih=>
  intro l bl p0 r0 z0 σ hσ h S
  unfold kf8 at h
  exact kcq (have H:=Tok.start hσ S 0 1 1 0 ([.int .i64 p0]) ([.im (List.map eC l) bl]) [] (.c (OkF.im ka0 _ _) <| .n) (.n) (kra l bl p0 _) (krb l bl p0 _);have H:=H.t 3 [.int .i64 (List.length l:Int),.bool (decide (p0<(List.length l:Int)))]|>.r [(.bin .lss (cT 0) (cT 1),(vt 2))]|>.c (p:=(.len 0 (cF 0),(vt 1))) (fun _ _ _=>fLen (e:=eC) (l:=l) (b:=bl) (by kernel_rfl) (by kernel_rfl));iteE h (fun h0 h=>have H:=H.m 2 true (decide_eq_true h0);reqE h (fun h1 h=>ka3 h (fun x2 h2 h=>have H:=H.t 7 [.int .i64 x2.no,.int .i64 x2.a,.int .i64 x2.b,.bool (decide (x2.no<0))]|>.r [(.bin .lss (cT 3) (cI 0),(vt 6))]|>.c (p:=(.iaS 3 (cF 0) (cT 0),(.ip [(vt 3),(vt 4),(vt 5)] 0))) (fun _ _ _=>fIa (sz:=3) (e:=eC) (l:=l) (b:=bl) (k:= .i64) (n:=p0) (y:=x2) ka0 (by kernel_rfl) (by kernel_rfl) h1 h2 (by kernel_rfl));iteE h (fun h3 h=>have H:=H.m 6 true (decide_eq_true h3);H.e [0] h) (fun h3 h=>have H:=H.t 8 [.bool (decide (x2.no > 9))]|>.r [(.bin .gtr (cT 3) (cI 9),(vt 7))]|>.m 6 false (decide_eq_false h3);iteE h (fun h4 h=>have H:=H.m 7 true (decide_eq_true h4);H.e [0] h) (fun h4 h=>have H:=H.t 9 [.bool (decide (x2.a<(-4611686018427387904)))]|>.r [(.bin .lss (cT 4) (cI (-4611686018427387904)),(vt 8))]|>.m 7 false (decide_eq_false h4);iteE h (fun h5 h=>have H:=H.m 8 true (decide_eq_true h5);H.e [0] h) (fun h5 h=>have H:=H.t 10 [.bool (decide (x2.a > 4611686018427387904))]|>.r [(.bin .gtr (cT 4) (cI 4611686018427387904),(vt 9))]|>.m 8 false (decide_eq_false h5);iteE h (fun h6 h=>have H:=H.m 9 true (decide_eq_true h6);H.e [0] h) (fun h6 h=>have H:=H.t 11 [.bool (decide (x2.b<(-4611686018427387904)))]|>.r [(.bin .lss (cT 5) (cI (-4611686018427387904)),(vt 10))]|>.m 9 false (decide_eq_false h6);iteE h (fun h7 h=>have H:=H.m 10 true (decide_eq_true h7);H.e [0] h) (fun h7 h=>have H:=H.t 12 [.bool (decide (x2.b > 4611686018427387904))]|>.r [(.bin .gtr (cT 5) (cI 4611686018427387904),(vt 11))]|>.m 10 false (decide_eq_false h7);iteE h (fun h8 h=>have H:=H.m 11 true (decide_eq_true h8);H.e [0] h) (fun h8 h=>have H:=H.t 13 [.int .i64 (w64 (p0+1))]|>.r [(.bin .add (cT 0) (cI 1),(vt 12))]|>.m 11 false (decide_eq_false h8);H.k [0] [0,3] [] [(vf 0),(vt 12)] [] 1 (kjp l bl (w64 (p0+1)) _) (kra l bl (w64 (p0+1)) _) (krb l bl (w64 (p0+1)) _) (fun _ hi S=>ih _ _ _ hi h S)))))))))) (fun h0 h=>have H:=H.m 2 false (decide_eq_false h0);H.e [0] h))
def kmf (fu:Nat) (l:List Cl) (bl:Bool):Option AV:=
 kf8 fu l bl 0
def kxt:List AV:=[(vf 0)]
def kq9 (l:List Cl) (bl:Bool) (σ:Nat→Nat):Val:=(valL ([]) ([.im (List.map eC l) bl]) [] σ 0)
def qds (l:List Cl) (bl:Bool) (_σ:Nat→Nat):List AV:=[(.im (List.map eC l) bl)]
def qdt (_l:List Cl) (_bl:Bool) (_σ:Nat→Nat):List Blk:=[]
theorem qdq (l:List Cl) (bl:Bool) (σ:Nat→Nat):kxt.map (gm (kq9 l bl σ))=qds l bl σ:=by kernel_rfl
theorem qdr (l:List Cl) (bl:Bool) (σ:Nat→Nat):([]:List Blk).map (gB (kq9 l bl σ))=qdt l bl σ:=by kernel_rfl
theorem qdz {fu:Nat} (l:List Cl) (bl:Bool) {r0:AV} (h:kmf fu l bl=some r0):Spec FF 17 [(.im (List.map eC l) bl)] r0:=by
 unfold kmf at h
 have hσ: ∀ i j:Nat,(fun i:Nat=>i) i=(fun i:Nat=>i) j→i=j:=fun _ _ e=>e
 exact kbk (ρ:=kq9 l bl (fun i=>i)) (xs:=kxt) (by kernel_rfl) rfl rfl (by kernel_rfl) (fun z0 S=>have H:=Tok.start hσ S 0 0 1 0 ([]) ([.im (List.map eC l) bl]) [] (.c (OkF.im ka0 _ _) <| .n) .n (qdq l bl _) (qdr l bl _);H.k [0] [0,3] [] [(vf 0),(.int .i64 0)] [] 0 (kjp l bl 0 _) (kra l bl 0 _) (krb l bl 0 _) (fun _ hi S=>qdx _ _ _ _ hi h S))
end Go.Proofs.Hz
