/-
  Chapter 15: functions of the library that are known by the shelf's contracts: strconv.Itoa, strings.Split at a separator of one byte.
  Conditions: none.
-/
import Derived.Test.YtamikoglpnoicaaGreatDoorT00
import Derived.Test.YtamikoglpnoicaaGreatDoorT21
import Derived.Lib.SplitLaws
import Derived.Lib.IndexMore
import Derived.Lib.LaidTab
import Derived.Lib.AtoiErrMem
import Derived.Test.YtamikoglpnoicaaGreatDoorProg
open Go Go.Proofs
namespace Go.Proofs.Hz
open Ids renaming none->yak
open Int renaming toNat_natCast->yam,toNat->yau
open Go.Lib renaming countB->yag,splitB->yap,size_eq->yar,decDigits->yas,indexByte->yat,indexB_cases->yax,countB_hit->yay,index->ya0
open List renaming getElem?_eq_getElem->yaa,map->yab,take_succ_eq_append_getElem->yac,take_of_length_le->yad,eq_nil_of_length_eq_zero->yae,length_map->yah,getElem?_eq_some_iff->yal,getElem?_of_mem->yaq,getElem?_map->yaw,mem_cons->yaz
open Nat renaming lt_of_lt_of_le->yaf
open OkF renaming im->yav
open Option renaming bind_some->yai,bind->yan,map_eq_some_iff->yao
open Ren renaming none->yaj
open UInt8 renaming ofNat->ya1
open Go.RowKit
def kj2:Nat->Nat->List UInt8->List UInt8
 |0,_,acc=>acc
 |f+1,u,acc=>if u<10 then ya1 (48+u)::acc else kj2 f (u / 10) (ya1 (48+u % 10)::acc)
def kab (n:Int):List UInt8:=if n<0 then 45::kj2 20 n.natAbs [] else kj2 20 n.toNat []
theorem kqf: ∀ (f u:Nat) (acc:List UInt8),u<10 ^ (f+1)->kj2 (f+1) u acc=yas u++acc
 |0,u,acc,h=>by
  have h10:u<10:=by simpa using h
  unfold kj2;rw[yas,iq h10,dif_pos h10];rfl
 |f+1,u,acc,h=>by
  unfold kj2;rw[yas];by_cases h10:u<10
  ·rw[iq h10,dif_pos h10];rfl
  ·rw[ir h10,dif_neg h10,kqf f (u / 10) _ (by rw[Nat.pow_succ] at h;omega)];simp
theorem ki4 {n:Int} (h0: -9223372036854775808<=n) (h1:n<=9223372036854775807):kab n=Lib.itoa n:=by
 unfold kab Lib.itoa;split
 ·rw[kqf 19 _ _ (by have:(10:Nat) ^ (19+1)=100000000000000000000:=by decide
                    omega)]
  simp
 ·rw[kqf 19 _ _ (by have:(10:Nat) ^ (19+1)=100000000000000000000:=by decide
                    omega)]
  simp
def kbd (c:UInt8):List UInt8->List (List UInt8)
 | []=>[[]]
 |x::l=>if x=c then []::kbd c l else match kbd c l with
  |p::ps=>(x::p)::ps
  | []=>[[x]]
theorem kv6 (c:UInt8): ∀ l,kbd c l≠[]
 | []=>by simp[kbd]
 |x::l=>by
  unfold kbd;split
  ·simp
  ·split <;> simp
theorem kv7 {c:UInt8}: ∀ {l:List UInt8},c ∉ l->kbd c l=[l]
 | [],_=>rfl
 |x::l,h=>by
  simp only[yaz,not_or] at h;unfold kbd;rw[ir (fun e=>h.1 e.symm),kv7 h.2]
theorem ko8 {c:UInt8}: ∀ {p l:List UInt8},c ∉ p->kbd c (p++c::l)=p::kbd c l
 | [],l,_=>by simp[kbd]
 |x::p,l,h=>by
  simp only[yaz,not_or] at h;simp only[List.cons_append,kbd];rw[ir (fun e=>h.1 e.symm),ko8 h.2]
theorem kym (c:UInt8): ∀ l:List UInt8,ya0 l [c]=yat l c
 | []=>rfl
 |b::l=>by
  simp only[ya0,yat,kym c l];by_cases h:c=b
  ·subst h;simp
  ·have h2:(b == c)=false:=beq_eq_false_iff_ne.2 fun e=>h e.symm
   have h1:(c == b)=false:=beq_eq_false_iff_ne.2 h;simp[List.isPrefixOf,h1,h2]
theorem qov {c:UInt8} {sep:ByteArray} (hsep:sep.data.toList=[c]): ∀ (k:Nat) (s:ByteArray),yag s sep=k->(yap sep 0 k s).map (·.data.toList)=kbd c s.data.toList:=by
 have h1:sep.size=1:=by rw[yar,hsep];rfl
 have hix: ∀ s:ByteArray,Lib.indexB s sep=yat s.data.toList c:=fun s=>by
  show ya0 _ _=_;rw[hsep,kym]
 intro k
 induction k with
 |zero=>
  intro s hk;have hm:Lib.indexB s sep= -1:=by
   rcases yax s sep with h | ⟨i,h,_⟩
   ·exact h
   ·have:=yay s sep i (by omega) h;omega
  rw[hix] at hm;have:=Lib.indexByte_none hm;rw[kv7 fun hc=>by
   obtain⟨j,hj⟩:=yaq hc;exact this j hj]
  rfl
 |succ k ih=>
  intro s hk;rcases yax s sep with h | ⟨i,h,hroom⟩
  ·rw[Lib.countB_miss s sep h] at hk;omega
  ·have hc:=yay s sep i (by omega) h;rw[Lib.splitB_hit sep 0 k s i h,List.map_cons,ih _ (by omega),Lib.extract_from_zero,Lib.extract_to_end,h1];rw[hix] at h;obtain⟨e1,e2⟩:=Lib.indexByte_some h;have hl:s.data.toList=s.data.toList.take i++c::s.data.toList.drop (i+1):=by
    conv=>lhs;rw[←List.take_append_drop i s.data.toList]
    congr 1;obtain⟨hlt,hv⟩:=yal.1 e1;rw[←hv,List.drop_eq_getElem_cons hlt]
   conv=>rhs;rw[hl]
   rw[ko8 fun hm=>by
    obtain⟨j,hj⟩:=yaq hm;rw[List.getElem?_take] at hj;split at hj
    ·rename_i hlt;exact e2 j hlt hj
    ·cases hj]
   rfl
def kItoa:List AV->Option AV
 | [.int .i64 n]=>if -9223372036854775808<=n/\n<=9223372036854775807 then some (.str (kab n)) else none
 |_=>none
def kSplit:List AV->Option AV
 | [.str s,.str [c]]=>if s.length<4294967281 then some (.im ((kbd c s).map fun p=>[.str p]) true) else none
 |_=>none
section
variable {G:Gl} {P:Program} {D:Nat->Prop} {w w':World}
theorem kle (h:Below w.heap.size w w'):Ext D yaj w yak D yaj w' yak where
 ids:=fun _ h=>h
 os:=h.os
 tape:=h.tape
 output:=h.output
 size:=h.size
 sub:=fun _ h=>h
 frame:=fun b hb _=>h.block b hb
 shape:=fun b real _ mk hb=>⟨real,mk,(h.block b (Array.getElem?_eq_some_iff.1 hb).1).trans hb,rfl⟩
 loops:=fun b r hb=>⟨r,(h.block b (Array.getElem?_eq_some_iff.1 hb).1).trans hb,rfl⟩
 ren:=fun _ _ _ h=>h
 new:=fun id _ h=> .inl ⟨id,h⟩
 dnew:=fun _ h=> .inl h
theorem kru {f:Nat} {k:List AV->Option AV} (hf:khd P f) (h: ∀ {args:List AV} {r:AV} {D:Nat->Prop} {w:World} {vals:List Value},k args=some r->(∀ b,D b->b<w.heap.size)->GOk D w->RL D w yak yaj args vals->
  Calls P f vals.toArray w fun e w'=>∃ val D',e= .returned val/\R D' w' yak yaj r val/\Ext D yaj w yak D' yaj w' yak/\ ∀ b,D' b->b<w'.heap.size):kgo P f k:=
 fun hr db gl hR=>⟨hf,fun _=>callsIn_wide.2 (h hr db gl hR)⟩
end
def kiy (D:Nat->Prop) (w:World):Prop:=((D 1/\Lib.TabIs Tryz.prog w "internal/strconv.uint64pow10" .u64 Lib.pow10Tab)/\D 0/\ ∃ m:Int,w.cell? ⟨0,0,none⟩=some (.int .i64 m))/\
 (D 2/\ ∃ u v,w.cell? ⟨2,0,none⟩=some (.iface u v))/\D 3/\ ∃ u v,w.cell? ⟨3,0,none⟩=some (.iface u v)
theorem g1:Tryz.prog.globalNamed "internal/strconv.uint64pow10" =some 1:=by kernel_rfl
theorem k8j {D D':Nat->Prop} {w w':World} (hs: ∀ b,D b->D' b) (hh: ∀ b,D b->w'.heap[b]? =w.heap[b]?) (h:kiy D w):kiy D' w':=by
 obtain⟨⟨⟨h1,h2⟩,h3,m,h4⟩,⟨h5,u,v,h6⟩,h7,u',v',h8⟩:=h;refine⟨⟨⟨hs _ h1,?_⟩,hs _ h3,m,by rw[kk8 (hh _ h3)];exact h4⟩,⟨hs _ h5,u,v,by rw[kk8 (hh _ h5)];exact h6⟩,hs _ h7,u',v',by rw[kk8 (hh _ h7)];exact h8⟩;unfold Lib.TabIs at h2 ⊢;rw[←h2];unfold World.var?;rw[g1];simp only[yai,hh _ h1]
theorem qao:khd Tryz.prog 31:=⟨Tryz.f31,_,Tryz.func31,rfl,fun h=>by cases(show(Tryz.f31.name == "runtime.NumGoroutine")=false by kernel_rfl).symm.trans (beq_iff_eq.2 h)⟩
theorem qap:khd Tryz.prog 158:=⟨Tryz.f158,_,Tryz.func158,rfl,fun h=>by cases(show(Tryz.f158.name == "runtime.NumGoroutine")=false by kernel_rfl).symm.trans (beq_iff_eq.2 h)⟩
theorem qas {G:Gl} (hG: ∀ D w,GOk D w->kiy D w):kgo Tryz.prog 31 kItoa:=kru qao fun {args r D w vals} hr db gl hR=>by
 unfold kItoa at hr;split at hr
 ·rename_i n;split at hr
  ·rename_i hn;cases hr;obtain⟨v,us,rfl,h1,h2⟩:=hR.inv_cons;obtain rfl:=yae h2.1.symm;cases h1;refine(Tryz.strconv_Itoa n hn.1 hn.2 w (hG D w gl).1.1.2).mono fun e w' ⟨he,q,os,hw⟩=> ?_
   subst hw;have hb:Below w.heap.size w (Sort.grow (w.drewN q) os):=⟨rfl,rfl,rfl,by show w.heap.size<=(w.heap++os).size;rw[Array.size_append];omega,fun k hk=>by show(w.heap++os)[k]? =_;exact Array.getElem?_append_left hk⟩;exact⟨_,D,he,.str _ (by rw[ki4 hn.1 hn.2]),kle hb,fun b hb'=>yaf (db b hb') hb.size⟩
  ·cases hr
 ·cases hr
theorem qow {G:Gl} (hG: ∀ D w,GOk D w->kiy D w):kgo Tryz.prog 158 kSplit:=kru qap fun {args r D w vals} hr db gl hR=>by
 unfold kSplit at hr;split at hr
 ·rename_i s c;split at hr
  ·rename_i hn;cases hr;obtain⟨v,us,rfl,h1,h2⟩:=hR.inv_cons;obtain⟨v2,us2,rfl,h3,h4⟩:=h2.inv_cons;obtain rfl:=yae h4.1.symm;cases h1 with
   |str bs hbs=>
    cases h3 with
    |str bc hbc=>
     obtain⟨m,hm⟩:=(hG D w gl).1.2.2;have hsz:bs.size=s.length:=by rw[yar,←hbs]
     have hsep:bc.size=1:=by rw[yar,←hbc];rfl
     refine(Tryz.strings_Split bs bc m w (by omega) hm (by omega)).mono fun e w' ⟨he,hw⟩=> ?_
     subst hw;have hb:Below w.heap.size w (w.alloc (.cells ((yap bc 0 (yag bs bc) bs).map Value.string).toArray 9)):=⟨rfl,rfl,rfl,by simp,fun k hk=>ke0 w _ k hk⟩;have hmap:=qov (c:=c) (sep:=bc) hbc.symm (yag bs bc) bs rfl;rw[←hbs] at hmap;have hlen:=Lib.splitB_all bc (by omega) 0 (yag bs bc) bs rfl;have hlen2:(kbd c s).length=yag bs bc+1:=by rw[←hmap,yah,hlen]
     refine⟨_,fun b=>D b\/b=w.heap.size,he,?_,?_,fun b hb'=> ?_⟩
     ·have key:R (fun b=>D b\/b=w.heap.size) (w.alloc (.cells ((yap bc 0 (yag bs bc) bs).map Value.string).toArray 9)) yak yaj (.im ((kbd c s).map fun p=>[.str p]) true) (.slice (some ⟨w.heap.size,0,none⟩) ((kbd c s).map fun p=>[AV.str p]).length (yag bs bc+1)):=by
       refine .im (b:=w.heap.size) (o:=0) (sz:=1) (fun i _=>Value.string ((yap bc 0 (yag bs bc) bs).getD i ⟨#[]⟩)) (by rw[yah,hlen2];exact Nat.le_refl _) (fun _=>by rw[yah,hlen2]) (.inr rfl) (fun e he=> ?_) (fun i j hi hj=> ?_) fun i j e x hei hxj=> ?_
       ·obtain⟨p,_,rfl⟩:=List.mem_map.1 he;rfl
       ·have hj0:j=0:=by omega
        subst hj0;rw[yah,hlen2] at hi;have hi':i<(yap bc 0 (yag bs bc) bs).length:=by omega
        simp only[World.cell?,Nat.zero_add,Nat.mul_one,Nat.add_zero,kez];simp[hi']
       ·rw[yaw,yao] at hei;obtain⟨p,hp,rfl⟩:=hei;have hj0:j=0:=by
            have:=(yal.1 hxj).1;simp at this;omega
        subst hj0;cases hxj;rw[←hmap,yaw,yao] at hp;obtain⟨q,hq,rfl⟩:=hp;rw[List.getD_eq_getElem?_getD,hq];exact .str _ rfl
      rw[yah,hlen2] at key;exact key
     ·have e0:=kle (D:=D) hb;exact⟨e0.ids,e0.os,e0.tape,e0.output,e0.size,fun _ h=> .inl h,e0.frame,e0.shape,e0.loops,e0.ren,e0.new,fun b hb'=>hb'.elim .inl fun h=> .inr (.inr (by omega))⟩
     ·rcases hb' with hb' |hb'
      ·exact yaf (db b hb') hb.size
      ·rw[hb'];simp
  ·cases hr
 ·cases hr
def kAtoi:List AV->Option AV
 | [.str s]=>if s.length<=281474976710656 then(match Lib.atoiAll s with
   | .ok v=>some (.tup [.int .i64 v,.nili])
   |Go.Lib.NumEnd.syntax=>some (.tup [.int .i64 0,.ifv])
   | .range=>some (.tup [.int .i64 (Lib.atoiSat s),.ifv])) else none
 |_=>none
theorem qaq:khd Tryz.prog 112:=⟨Tryz.f112,_,Tryz.func112,rfl,fun h=>by cases(show(Tryz.f112.name == "runtime.NumGoroutine")=false by kernel_rfl).symm.trans (beq_iff_eq.2 h)⟩
theorem R.pair {D:Nat->Prop} {w:World} {x y:AV} {a b:Value} (h1:R D w yak yaj x a) (h2:R D w yak yaj y b):R D w yak yaj (.tup [x,y]) (.tuple #[a,b]):=
 .tup rfl fun j z v hz hv=>by
  match j with
  |0=>cases hz;cases hv;exact h1
  |1=>cases hz;cases hv;exact h2
  |j+2=>simp at hz
theorem k6k {G:Gl} (hG: ∀ D w,GOk D w->kiy D w):kgo Tryz.prog 112 kAtoi:=kru qaq fun {args r D w vals} hr db gl hR=>by
 unfold kAtoi at hr;split at hr
 ·rename_i s;split at hr
  ·rename_i hn;obtain⟨v,us,rfl,h1,h2⟩:=hR.inv_cons;obtain rfl:=yae h2.1.symm;obtain⟨_,⟨_,e2⟩,_,e3⟩:=hG D w gl;cases h1 with
   |str bs hbs=>
    have hsz:bs.size=s.length:=by rw[yar,←hbs]
    split at hr
    ·rename_i n hq;cases hr;refine(Tryz.strconv_Atoi_ok bs (by omega) n (by rw[←hbs];exact hq) w).mono fun e w' ⟨he,hw⟩=> ?_
     have hb:Below w.heap.size w w':=by
      rcases hw with rfl | ⟨t,rfl⟩
      ·exact Below.refl _ _
      ·exact Lib.bytesWorld_below _ _ _
     exact⟨_,D,he,.pair (.int _ _) .nili,kle hb,fun b hb'=>yaf (db b hb') hb.size⟩
    ·rename_i hq;cases hr;obtain⟨u,v,hc⟩:=e2;refine(Tryz.strconv_Atoi_syntax bs (by omega) (by rw[←hbs];exact hq) _ w hc (.inr ⟨_,_,rfl⟩)).mono fun e w' ⟨N,he,_,_,hb⟩=> ?_
     exact⟨_,D,he,.pair (.int _ _) .ifv,kle hb,fun b hb'=>yaf (db b hb') hb.size⟩
    ·rename_i hq;cases hr;obtain⟨u,v,hc⟩:=e3;refine(Tryz.strconv_Atoi_range bs (by omega) (by rw[←hbs];exact hq) _ w hc (.inr ⟨_,_,rfl⟩)).mono fun e w' ⟨N,he,_,_,hb⟩=> ?_
     rw[←hbs] at he;exact⟨_,D,he,.pair (.int _ _) .ifv,kle hb,fun b hb'=>yaf (db b hb') hb.size⟩
  ·cases hr
 ·cases hr
def puN (i:Nat):Nat:=[2,2,2,1,1,1,1,1,2,1,2,2,1,1,1,1,1,1,1,2,1,0,0,0,2,2,2,2,2,2,0,2,1,2,0,2,2,1,1,1,1,2,2,1,1,1,1,1,0,0,2,0,0,0,0,2,0,2,2,1,2,1,0,1,1,1,1,1,1,1,1,1,0,2,2,0,2,2,2,0,2,2,1,0,1,1,2,1,1,2,2,2,2,2,2,2,2,2,2,1,1,1,0,0,0,1,0,0,2,2,2,2,2,2,2,2,1,1,2,2,0,2,0,0,1,2,2,2,2,1,1,2,0,0,0,0,1,1,0,0,2,1,1,1,1,0,1,1,0,0,0,0,2,2,2,2,2,2,2,0,0,2,2,2,2,2,2,2,1,2,2,1,0,0,1,2,0,1,0,1,0,0,0,0,0,0,0,2,1,0,0,0,0,2,2,2,2,0,0,0,0,2,2,2,0,0,0,0,0,0,1,0,1,0,0,1,0,2,2,2,2,2,2,0,0,0,0,0,0,0,0,1,0,0,0,0,1,2,2,2,2,2,2,0,2,0,0,0,0,1,0,0,0,0,2,2,0,0,0,0,0,0,2,2,2,2,0,0,0,0,0,2,0,0,0,0,0,0,1,0,0,2,2,2,2,2,0,1,1,1,0,0,0,0,0,0,0,0,0,0,0,0,0,0,0,0,0,0,0,0,0,0,0,0,0,0,0,0,2,0,0,1,1,2,1,1,2,1,1,1,1,2,1,1,1,1,1,1,1,1,1,2,2,2,2,2,2,2,2,0,0,0,0,0,0,0,0,2,0,0,2,2,2,2,2,2,2,2,2,2,2].getD i 0
def glT (g:Nat):Option AV:=
 if g=2 then some (.ip [.ifv] 0)
 else if g=3 then some (.ip [.ifv] 0)
 else none
def glX (f:Nat):Option (List AV->Option AV):=
 if f=31 then some kItoa
 else if f=158 then some kSplit
 else if f=112 then some kAtoi
 else none
instance gl20:Gl where
 tab:=glT
 X:=glX
 fact:=kiy
 fact_ext:=k8j
theorem k9h: ∀ f k,Gl.X f=some k->kgo Tryz.prog f k:=fun f k h=>by
 have hG: ∀ D w,GOk D w->kiy D w:=fun _ _ h=>h.fact
 simp only[Gl.X,glX] at h;split at h
 ·rename_i hf;subst hf;cases h;exact fun {_ _ _ _ _}=>qas hG
 ·split at h
  ·rename_i hf;subst hf;cases h;exact fun {_ _ _ _ _}=>qow hG
  ·split at h
   ·rename_i hf;subst hf;cases h;exact fun {_ _ _ _ _}=>k6k hG
   ·cases h
noncomputable def FF:Nat->Option AFn:=kk9 Tryz.prog puN
structure Cl where
 no:Int
 a:Int
 b:Int
instance:Inhabited Cl:=⟨⟨0,0,0⟩⟩
def Cl.av (c:Cl):AV:= .agg [.int .i64 c.no,.int .i64 c.a,.int .i64 c.b]
def eC (c:Cl):List AV:=[.int .i64 c.no,.int .i64 c.a,.int .i64 c.b]
def kindsA:AV:= .agg [(.str [115,101,110,100]),(.int .i64 28),(.int .i64 8),(.bool true),(.int .i64 1),(.int .i64 0),(.int .i64 0),(.str [114,101,99,118]),(.int .i64 29),(.int .i64 8),(.bool false),(.int .i64 2),(.int .i64 0),(.int .i64 0),(.str [116,114,121]),(.int .i64 10),(.int .i64 8),(.bool false),(.int .i64 2),(.int .i64 3),(.int .i64 0),(.str [112,117,116]),(.int .i64 16),(.int .i64 65536),(.bool true),(.int .i64 4),(.int .i64 0),(.int .i64 5),(.str [108,111,111,107]),(.int .i64 17),(.int .i64 65536),(.bool false),(.int .i64 8),(.int .i64 7),(.int .i64 0),(.str [99,117,116]),(.int .i64 18),(.int .i64 65536),(.bool false),(.int .i64 6),(.int .i64 7),(.int .i64 0),(.str [115,101,116]),(.int .i64 19),(.int .i64 16),(.bool false),(.int .i64 10),(.int .i64 0),(.int .i64 0),(.str [114,101,115,101,116]),(.int .i64 20),(.int .i64 16),(.bool false),(.int .i64 11),(.int .i64 0),(.int .i64 0),(.str [116,101,115,116]),(.int .i64 21),(.int .i64 16),(.bool false),(.int .i64 12),(.int .i64 0),(.int .i64 0),(.str [121,105,101,108,100]),(.int .i64 27),(.int .i64 0),(.bool false),(.int .i64 0),(.int .i64 0),(.int .i64 0)]
structure Kd where
 w:List UInt8
 op:Int
 most:Int
 value:Bool
 well:Int
 none:Int
 had:Int
def knk (no:Int):Kd:=
 if no=0 then⟨[115,101,110,100],28,8,true,1,0,0⟩
 else if no=1 then⟨[114,101,99,118],29,8,false,2,0,0⟩
 else if no=2 then⟨[116,114,121],10,8,false,2,3,0⟩
 else if no=3 then⟨[112,117,116],16,65536,true,4,0,5⟩
 else if no=4 then⟨[108,111,111,107],17,65536,false,8,7,0⟩
 else if no=5 then⟨[99,117,116],18,65536,false,6,7,0⟩
 else if no=6 then⟨[115,101,116],19,16,false,10,0,0⟩
 else if no=7 then⟨[114,101,115,101,116],20,16,false,11,0,0⟩
 else if no=8 then⟨[116,101,115,116],21,16,false,12,0,0⟩
 else if no=9 then⟨[121,105,101,108,100],27,0,false,0,0,0⟩
 else⟨[],0,0,false,0,0,0⟩
def Kd.av (k:Kd):AV:= .agg [.str k.w,.int .i64 k.op,.int .i64 k.most,.bool k.value,.int .i64 k.well,.int .i64 k.none,.int .i64 k.had]
theorem kyu:kak FF 58 [] kindsA:=⟨60,by kernel_rfl⟩
theorem Cl.ext' {c d:Cl} (h1:c.no=d.no) (h2:c.a=d.a) (h3:c.b=d.b):c=d:=by
 cases c;cases d;simp only at h1 h2 h3;subst h1;subst h2;subst h3;rfl
instance:DecidableEq Cl:=fun c d=>
 if h:c.no=d.no/\c.a=d.a/\c.b=d.b then .isTrue (Cl.ext' h.1 h.2.1 h.2.2) else .isFalse fun e=>h (e ▸ ⟨rfl,rfl,rfl⟩)
theorem ka5:Enc eC 3:=⟨fun _=>rfl,fun _=>rfl,fun c=>by simp[eC,kcy,AV.beq]⟩
def ka9 (no:Int):List UInt8:=(knk no).w
def kik (no:Int):Option (List UInt8):=if 0<=no/\no<=9 then some (ka9 no) else none
def inI (n:Int):Bool:=decide (-9223372036854775808<=n/\n<=9223372036854775807)
def inW (n:Int):Bool:=decide (-4611686018427387904<=n/\n<=4611686018427387904)
def kbo (c:Cl):List UInt8:=ka9 c.no++[32]++kab c.a++[32]++kab c.b++[10]
def kbr (l:List Cl):List UInt8:=(l.map kbo).flatten
def kdt (c:Cl):Bool:=decide (0<=c.no/\c.no<=9) && (inW c.a && inW c.b)
def kd9 (l:List Cl):Bool:=l.all kdt
def okC (c:Cl):Bool:=decide (0<=c.no/\c.no<=9) && (inI c.a && inI c.b)
def okP (l:List Cl):Bool:=decide (l.length<=100000) && l.all okC
def eqC (l m:List Cl):Bool:=decide (l=m)
theorem kbk (n:Int) (h: -9223372036854775808<=n/\n<=9223372036854775807):kak FF 31 [.int .i64 n] (.str (kab n)):=⟨1,by
 show kItoa [.int .i64 n]=_;simp only[kItoa];rw[iq h]⟩
def koy (no:Int):Option AV:=
 if no=0 then
  some (.str [115,101,110,100])
 else
  if no=1 then
   some (.str [114,101,99,118])
  else
   if no=2 then
    some (.str [116,114,121])
   else
    if no=3 then
     some (.str [112,117,116])
    else
     if no=4 then
      some (.str [108,111,111,107])
     else
      if no=5 then
       some (.str [99,117,116])
      else
       if no=6 then
        some (.str [115,101,116])
       else
        if no=7 then
         some (.str [114,101,115,101,116])
        else
         if no=8 then
          some (.str [116,101,115,116])
         else
          if no=9 then some (.str [121,105,101,108,100]) else none
def k3b:List AV:=[(vt 0)]
def ku1 (no:Int) (σ:Nat->Nat):Val:=(kal ([.int .i64 no]) ([]) [] σ 0)
def qlt (no:Int) (_σ:Nat->Nat):List AV:=[(.int .i64 no)]
def qlu (_no:Int) (_σ:Nat->Nat):List Blk:=[]
theorem qlr (no:Int) (σ:Nat->Nat):k3b.map (gm (ku1 no σ))=qlt no σ:=by kernel_rfl
theorem qls (no:Int) (σ:Nat->Nat):([]:List Blk).map (gB (ku1 no σ))=qlu no σ:=by kernel_rfl
set_option maxHeartbeats 10000000 in
theorem qlw (no:Int) {r0:AV} (h:koy no=some r0):kak FF 41 [(.int .i64 no)] r0:=by
 unfold koy at h;have hσ: ∀ i j:Nat,(fun i:Nat=>i) i=(fun i:Nat=>i) j->i=j:=fun _ _ e=>e
 exact kbq (ρ:=ku1 no (fun i=>i)) (xs:=k3b) (by kernel_rfl) rfl rfl (by kernel_rfl) (fun z0 S=>have H:=Tok.start hσ S 0 1 0 0 ([.int .i64 no]) ([]) [] (.n) .n (qlr _ _) (qls _ _);kaf h (fun h0 h=>have H:=H.c (p:=(.iaS 1 (.c (.sl 0 0 10 1 (some 10))) (cT 0),(.ptr 0 0))) (fun _ _ _=>kf9 (j:=0) (k:= .i64) (m:=no) (by kernel_rfl) h0 (by decide) (by decide));H.e [] h) (fun _ h=>kaf h (fun h1 h=>have H:=H.c (p:=(.iaS 1 (.c (.sl 0 0 10 1 (some 10))) (cT 0),(.ptr 0 1))) (fun _ _ _=>kf9 (j:=1) (k:= .i64) (m:=no) (by kernel_rfl) h1 (by decide) (by decide));H.e [] h) (fun _ h=>kaf h (fun h2 h=>have H:=H.c (p:=(.iaS 1 (.c (.sl 0 0 10 1 (some 10))) (cT 0),(.ptr 0 2))) (fun _ _ _=>kf9 (j:=2) (k:= .i64) (m:=no) (by kernel_rfl) h2 (by decide) (by decide));H.e [] h) (fun _ h=>kaf h (fun h3 h=>have H:=H.c (p:=(.iaS 1 (.c (.sl 0 0 10 1 (some 10))) (cT 0),(.ptr 0 3))) (fun _ _ _=>kf9 (j:=3) (k:= .i64) (m:=no) (by kernel_rfl) h3 (by decide) (by decide));H.e [] h) (fun _ h=>kaf h (fun h4 h=>have H:=H.c (p:=(.iaS 1 (.c (.sl 0 0 10 1 (some 10))) (cT 0),(.ptr 0 4))) (fun _ _ _=>kf9 (j:=4) (k:= .i64) (m:=no) (by kernel_rfl) h4 (by decide) (by decide));H.e [] h) (fun _ h=>kaf h (fun h5 h=>have H:=H.c (p:=(.iaS 1 (.c (.sl 0 0 10 1 (some 10))) (cT 0),(.ptr 0 5))) (fun _ _ _=>kf9 (j:=5) (k:= .i64) (m:=no) (by kernel_rfl) h5 (by decide) (by decide));H.e [] h) (fun _ h=>kaf h (fun h6 h=>have H:=H.c (p:=(.iaS 1 (.c (.sl 0 0 10 1 (some 10))) (cT 0),(.ptr 0 6))) (fun _ _ _=>kf9 (j:=6) (k:= .i64) (m:=no) (by kernel_rfl) h6 (by decide) (by decide));H.e [] h) (fun _ h=>kaf h (fun h7 h=>have H:=H.c (p:=(.iaS 1 (.c (.sl 0 0 10 1 (some 10))) (cT 0),(.ptr 0 7))) (fun _ _ _=>kf9 (j:=7) (k:= .i64) (m:=no) (by kernel_rfl) h7 (by decide) (by decide));H.e [] h) (fun _ h=>kaf h (fun h8 h=>have H:=H.c (p:=(.iaS 1 (.c (.sl 0 0 10 1 (some 10))) (cT 0),(.ptr 0 8))) (fun _ _ _=>kf9 (j:=8) (k:= .i64) (m:=no) (by kernel_rfl) h8 (by decide) (by decide));H.e [] h) (fun _ h=>kac h (fun h9 h=>have H:=H.c (p:=(.iaS 1 (.c (.sl 0 0 10 1 (some 10))) (cT 0),(.ptr 0 9))) (fun _ _ _=>kf9 (j:=9) (k:= .i64) (m:=no) (by kernel_rfl) h9 (by decide) (by decide));H.e [] h)))))))))))
def khz:Nat->List Cl->Bool->List Cl->Bool->Int->Option AV
 |0,_,_,_,_,_=>none
 |fu+1,l,bl,m,bm,p0=>
  if p0<(l.length:Int) then
   if 0<=p0 then yan (l[yau p0]?) fun x2=>
   yan (m[yau p0]?) fun x3=>
   if(!((x2.no:Int) == x3.no && ((x2.a:Int) == x3.a && ((x2.b:Int) == x3.b && true))))=true then
    some (.bool false)
   else
    khz fu l bl m bm (w64 (p0+1)) else none
  else
   some (.bool true)
def k1d:List AV:=[(vf 0),(vf 1),(vt 0),(vt 1)]
def k1c:List Blk:=[]
def ksz (l:List Cl) (bl:Bool) (m:List Cl) (bm:Bool) (p0:Int) (σ:Nat->Nat):Val:=(kal ([.int .i64 l.length,.int .i64 p0]) ([.im (yab eC l) bl,.im (yab eC m) bm]) [] σ 0)
def qgj (l:List Cl) (bl:Bool) (m:List Cl) (bm:Bool) (p0:Int) (_σ:Nat->Nat):List AV:=[(.im (yab eC l) bl),(.im (yab eC m) bm),(.int .i64 l.length),(.int .i64 p0)]
def qgk (_l:List Cl) (_bl:Bool) (_m:List Cl) (_bm:Bool) (_p0:Int) (_σ:Nat->Nat):List Blk:=[]
theorem ksx (l:List Cl) (bl:Bool) (m:List Cl) (bm:Bool) (p0:Int) (σ:Nat->Nat):k1d.map (gm (ksz l bl m bm p0 σ))=qgj l bl m bm p0 σ:=by kernel_rfl
theorem ksy (l:List Cl) (bl:Bool) (m:List Cl) (bm:Bool) (p0:Int) (σ:Nat->Nat):k1c.map (gB (ksz l bl m bm p0 σ))=qgk l bl m bm p0 σ:=by kernel_rfl
theorem qgm: ∀ (fu:Nat),∀ (l:List Cl) (bl:Bool) (m:List Cl) (bm:Bool) (p0:Int) {r0:AV} {z0:St} {σ:Nat->Nat},(∀ i j,σ i=σ j->i=j)->khz fu l bl m bm p0=some r0->Sim (ksz l bl m bm p0 σ) (kaa [0,1,12,13] k1d k1c) z0->J FF (kai FF 59) (kcm (kai FF 59) 0) (.code (.loop (kcl (kai FF 59) 0))) z0 r0:=by
 intro fu
 induction fu with
 |zero=>
  intro _ _ _ _ _ _ _ _ _ h _;unfold khz at h;cases h
 |succ fu ih=>
  intro l bl m bm p0 r0 z0 σ hσ h S;unfold khz at h;exact kcr (have H:=Tok.start hσ S 0 2 2 0 ([.int .i64 l.length,.int .i64 p0]) ([.im (yab eC l) bl,.im (yab eC m) bm]) [] (.c (yav ka5 _ _) <| .c (yav ka5 _ _) <| .n) (.n) (ksx _ _ _ _ _ _) (ksy _ _ _ _ _ _);have H:=H.t 3 [.bool (decide (p0<(l.length:Int)))]|>.q 2 (.bin .lss (cT 1) (cT 0));kaf h (fun h0 h=>have H:=H.y 2 h0;kac h (fun h1 h=>kbb h (fun x2 h2 h=>have H:=H.t 6 [.int .i64 x2.no,.int .i64 x2.a,.int .i64 x2.b]|>.I (vf 0) (vt 1) [(vt 3),(vt 4),(vt 5)] ka5 h1 h2;kbb h (fun x3 h3 h=>have H:=H.t 10 [.int .i64 x3.no,.int .i64 x3.a,.int .i64 x3.b,.bool (!((x2.no:Int) == x3.no && ((x2.a:Int) == x3.a && ((x2.b:Int) == x3.b && true))))]|>.q 9 (.eqa true [0,0,0] (.c (.agg [(vt 3),(vt 4),(vt 5)])) (.c (.agg [(vt 6),(vt 7),(vt 8)])))|>.I (vf 1) (vt 1) [(vt 6),(vt 7),(vt 8)] ka5 h1 h3;kaf h (fun h4 h=>have H:=H.m 9 true h4;H.e [0] h) (fun h4 h=>have H:=H.t 11 [.int .i64 (w64 (p0+1))]|>.q 10 (.bin .add (cT 1) (cI 1))|>.m 9 false (bF h4);H.k [0] [0,1,12,13] [] [(vf 0),(vf 1),(vt 0),(vt 10)] [] 9 _ (ksx _ _ _ _ _ _) (ksy _ _ _ _ _ _) (fun _ hi S=>ih _ _ _ _ _ hi h S)))))) (fun h0 h=>have H:=H.w 2 h0;H.e [0] h))
def koi (fu:Nat) (l:List Cl) (bl:Bool) (m:List Cl) (bm:Bool):Option AV:=
 if(l.length:Int)=(m.length:Int) then
  khz fu l bl m bm 0
 else
  some (.bool false)
def k1b:List AV:=[(vf 0),(vf 1)]
def ksw (l:List Cl) (bl:Bool) (m:List Cl) (bm:Bool) (σ:Nat->Nat):Val:=(kal ([]) ([.im (yab eC l) bl,.im (yab eC m) bm]) [] σ 0)
def qgh (l:List Cl) (bl:Bool) (m:List Cl) (bm:Bool) (_σ:Nat->Nat):List AV:=[(.im (yab eC l) bl),(.im (yab eC m) bm)]
def qgi (_l:List Cl) (_bl:Bool) (_m:List Cl) (_bm:Bool) (_σ:Nat->Nat):List Blk:=[]
theorem qgf (l:List Cl) (bl:Bool) (m:List Cl) (bm:Bool) (σ:Nat->Nat):k1b.map (gm (ksw l bl m bm σ))=qgh l bl m bm σ:=by kernel_rfl
theorem qgg (l:List Cl) (bl:Bool) (m:List Cl) (bm:Bool) (σ:Nat->Nat):([]:List Blk).map (gB (ksw l bl m bm σ))=qgi l bl m bm σ:=by kernel_rfl
theorem qgo {fu:Nat} (l:List Cl) (bl:Bool) (m:List Cl) (bm:Bool) {r0:AV} (h:koi fu l bl m bm=some r0):kak FF 59 [(.im (yab eC l) bl),(.im (yab eC m) bm)] r0:=by
 unfold koi at h;have hσ: ∀ i j:Nat,(fun i:Nat=>i) i=(fun i:Nat=>i) j->i=j:=fun _ _ e=>e
 exact kbq (ρ:=ksw l bl m bm (fun i=>i)) (xs:=k1b) (by kernel_rfl) rfl rfl (by kernel_rfl) (fun z0 S=>have H:=Tok.start hσ S 0 0 2 0 ([]) ([.im (yab eC l) bl,.im (yab eC m) bm]) [] (.c (yav ka5 _ _) <| .c (yav ka5 _ _) <| .n) .n (qgf _ _ _ _ _) (qgg _ _ _ _ _);have H:=H.t 3 [.int .i64 l.length,.int .i64 m.length,.bool (!decide ((l.length:Int)=(m.length:Int)))]|>.q 2 (.bin .neq (cT 0) (cT 1))|>.L (vf 0) 0|>.L (vf 1) 1;kaf h (fun h0 h=>have H:=H.m 2 false (nT h0);H.k [0] [0,1,12,13] [] [(vf 0),(vf 1),(vt 0),(.int .i64 0)] [] 0 _ (ksx _ _ _ _ _ _) (ksy _ _ _ _ _ _) (fun _ hi S=>qgm _ _ _ _ _ _ hi h S)) (fun h0 h=>have H:=H.m 2 true (nF h0);H.e [0] h))
def kh8:Nat->List Cl->Bool->List Cl->Bool->Int->Option AV
 |0,_,_,_,_,_=>none
 |fu+1,l,bl,m,bm,p0=>
  if p0<(l.length:Int) then
   if 0<=p0 then yan (l[yau p0]?) fun x2=>
   yan (m[yau p0]?) fun x3=>
   if(!((x2.no:Int) == x3.no && ((x2.a:Int) == x3.a && ((x2.b:Int) == x3.b && true))))=true then
    some (.bool false)
   else
    kh8 fu l bl m bm (w64 (p0+1)) else none
  else
   some (.bool true)
def k22:List AV:=[(vf 0),(vf 1),(vt 0)]
def k21:List Blk:=[]
def kuu (l:List Cl) (bl:Bool) (m:List Cl) (bm:Bool) (p0:Int) (σ:Nat->Nat):Val:=(kal ([.int .i64 p0]) ([.im (yab eC l) bl,.im (yab eC m) bm]) [] σ 0)
def qk5 (l:List Cl) (bl:Bool) (m:List Cl) (bm:Bool) (p0:Int) (_σ:Nat->Nat):List AV:=[(.im (yab eC l) bl),(.im (yab eC m) bm),(.int .i64 p0)]
def qk6 (_l:List Cl) (_bl:Bool) (_m:List Cl) (_bm:Bool) (_p0:Int) (_σ:Nat->Nat):List Blk:=[]
theorem kus (l:List Cl) (bl:Bool) (m:List Cl) (bm:Bool) (p0:Int) (σ:Nat->Nat):k22.map (gm (kuu l bl m bm p0 σ))=qk5 l bl m bm p0 σ:=by kernel_rfl
theorem kut (l:List Cl) (bl:Bool) (m:List Cl) (bm:Bool) (p0:Int) (σ:Nat->Nat):k21.map (gB (kuu l bl m bm p0 σ))=qk6 l bl m bm p0 σ:=by kernel_rfl
theorem qk7: ∀ (fu:Nat),∀ (l:List Cl) (bl:Bool) (m:List Cl) (bm:Bool) (p0:Int) {r0:AV} {z0:St} {σ:Nat->Nat},(∀ i j,σ i=σ j->i=j)->kh8 fu l bl m bm p0=some r0->Sim (kuu l bl m bm p0 σ) (kaa [0,1,5] k22 k21) z0->J FF (kai FF 37) (kcm (kai FF 37) 0) (.code (.loop (kcl (kai FF 37) 0))) z0 r0:=by
 intro fu
 induction fu with
 |zero=>
  intro _ _ _ _ _ _ _ _ _ h _;unfold kh8 at h;cases h
 |succ fu ih=>
  intro l bl m bm p0 r0 z0 σ hσ h S;unfold kh8 at h;exact kcr (have H:=Tok.start hσ S 0 1 2 0 ([.int .i64 p0]) ([.im (yab eC l) bl,.im (yab eC m) bm]) [] (.c (yav ka5 _ _) <| .c (yav ka5 _ _) <| .n) (.n) (kus _ _ _ _ _ _) (kut _ _ _ _ _ _);have H:=H.t 3 [.int .i64 l.length,.bool (decide (p0<(l.length:Int)))]|>.q 2 (.bin .lss (cT 0) (cT 1))|>.L (vf 0) 1;kaf h (fun h0 h=>have H:=H.y 2 h0;kac h (fun h1 h=>kbb h (fun x2 h2 h=>have H:=H.t 6 [.int .i64 x2.no,.int .i64 x2.a,.int .i64 x2.b]|>.I (vf 0) (vt 0) [(vt 3),(vt 4),(vt 5)] ka5 h1 h2;kbb h (fun x3 h3 h=>have H:=H.t 10 [.int .i64 x3.no,.int .i64 x3.a,.int .i64 x3.b,.bool (!((x2.no:Int) == x3.no && ((x2.a:Int) == x3.a && ((x2.b:Int) == x3.b && true))))]|>.q 9 (.eqa true [0,0,0] (.c (.agg [(vt 3),(vt 4),(vt 5)])) (.c (.agg [(vt 6),(vt 7),(vt 8)])))|>.I (vf 1) (vt 0) [(vt 6),(vt 7),(vt 8)] ka5 h1 h3;kaf h (fun h4 h=>have H:=H.m 9 true h4;H.e [0] h) (fun h4 h=>have H:=H.t 11 [.int .i64 (w64 (p0+1))]|>.q 10 (.bin .add (cT 0) (cI 1))|>.m 9 false (bF h4);H.k [0] [0,1,5] [] [(vf 0),(vf 1),(vt 10)] [] 9 _ (kus _ _ _ _ _ _) (kut _ _ _ _ _ _) (fun _ hi S=>ih _ _ _ _ _ hi h S)))))) (fun h0 h=>have H:=H.w 2 h0;H.e [0] h))
def kox (fu:Nat) (l:List Cl) (bl:Bool) (m:List Cl) (bm:Bool):Option AV:=
 if(l.length:Int)=(m.length:Int) then
  kh8 fu l bl m bm 0
 else
  some (.bool false)
def k20:List AV:=[(vf 0),(vf 1)]
def kur (l:List Cl) (bl:Bool) (m:List Cl) (bm:Bool) (σ:Nat->Nat):Val:=(kal ([]) ([.im (yab eC l) bl,.im (yab eC m) bm]) [] σ 0)
def qk3 (l:List Cl) (bl:Bool) (m:List Cl) (bm:Bool) (_σ:Nat->Nat):List AV:=[(.im (yab eC l) bl),(.im (yab eC m) bm)]
def qk4 (_l:List Cl) (_bl:Bool) (_m:List Cl) (_bm:Bool) (_σ:Nat->Nat):List Blk:=[]
theorem qk1 (l:List Cl) (bl:Bool) (m:List Cl) (bm:Bool) (σ:Nat->Nat):k20.map (gm (kur l bl m bm σ))=qk3 l bl m bm σ:=by kernel_rfl
theorem qk2 (l:List Cl) (bl:Bool) (m:List Cl) (bm:Bool) (σ:Nat->Nat):([]:List Blk).map (gB (kur l bl m bm σ))=qk4 l bl m bm σ:=by kernel_rfl
theorem qk9 {fu:Nat} (l:List Cl) (bl:Bool) (m:List Cl) (bm:Bool) {r0:AV} (h:kox fu l bl m bm=some r0):kak FF 37 [(.im (yab eC l) bl),(.im (yab eC m) bm)] r0:=by
 unfold kox at h;have hσ: ∀ i j:Nat,(fun i:Nat=>i) i=(fun i:Nat=>i) j->i=j:=fun _ _ e=>e
 exact kbq (ρ:=kur l bl m bm (fun i=>i)) (xs:=k20) (by kernel_rfl) rfl rfl (by kernel_rfl) (fun z0 S=>have H:=Tok.start hσ S 0 0 2 0 ([]) ([.im (yab eC l) bl,.im (yab eC m) bm]) [] (.c (yav ka5 _ _) <| .c (yav ka5 _ _) <| .n) .n (qk1 _ _ _ _ _) (qk2 _ _ _ _ _);have H:=H.t 3 [.int .i64 l.length,.int .i64 m.length,.bool (!decide ((l.length:Int)=(m.length:Int)))]|>.q 2 (.bin .neq (cT 0) (cT 1))|>.L (vf 0) 0|>.L (vf 1) 1;kaf h (fun h0 h=>have H:=H.m 2 false (nT h0);H.k [0] [0,1,5] [] [(vf 0),(vf 1),(.int .i64 0)] [] 0 _ (kus _ _ _ _ _ _) (kut _ _ _ _ _ _) (fun _ hi S=>qk7 _ _ _ _ _ _ hi h S)) (fun h0 h=>have H:=H.m 2 true (nF h0);H.e [0] h))
def kib:Nat->List Cl->Bool->Int->Option AV
 |0,_,_,_=>none
 |fu+1,l,bl,p0=>
  if p0<(l.length:Int) then
   if 0<=p0 then yan (l[yau p0]?) fun x2=>
   if x2.no<0 then
    some (.bool false)
   else
    if x2.no > 9 then
     some (.bool false)
    else
     if x2.a<(-4611686018427387904) then
      some (.bool false)
     else
      if x2.a > 4611686018427387904 then
       some (.bool false)
      else
       if x2.b<(-4611686018427387904) then
        some (.bool false)
       else
        if x2.b > 4611686018427387904 then
         some (.bool false)
        else
         kib fu l bl (w64 (p0+1)) else none
  else
   some (.bool true)
def k3o:List AV:=[(vf 0),(vt 0)]
def k3n:List Blk:=[]
def kvn (l:List Cl) (bl:Bool) (p0:Int) (σ:Nat->Nat):Val:=(kal ([.int .i64 p0]) ([.im (yab eC l) bl]) [] σ 0)
def qmq (l:List Cl) (bl:Bool) (p0:Int) (_σ:Nat->Nat):List AV:=[(.im (yab eC l) bl),(.int .i64 p0)]
def qmr (_l:List Cl) (_bl:Bool) (_p0:Int) (_σ:Nat->Nat):List Blk:=[]
theorem kvl (l:List Cl) (bl:Bool) (p0:Int) (σ:Nat->Nat):k3o.map (gm (kvn l bl p0 σ))=qmq l bl p0 σ:=by kernel_rfl
theorem kvm (l:List Cl) (bl:Bool) (p0:Int) (σ:Nat->Nat):k3n.map (gB (kvn l bl p0 σ))=qmr l bl p0 σ:=by kernel_rfl
theorem qmt: ∀ (fu:Nat),∀ (l:List Cl) (bl:Bool) (p0:Int) {r0:AV} {z0:St} {σ:Nat->Nat},(∀ i j,σ i=σ j->i=j)->kib fu l bl p0=some r0->Sim (kvn l bl p0 σ) (kaa [0,3] k3o k3n) z0->J FF (kai FF 17) (kcm (kai FF 17) 0) (.code (.loop (kcl (kai FF 17) 0))) z0 r0:=by
 intro fu
 induction fu with
 |zero=>
  intro _ _ _ _ _ _ _ h _;unfold kib at h;cases h
 |succ fu ih=>
  intro l bl p0 r0 z0 σ hσ h S;unfold kib at h;exact kcr (have H:=Tok.start hσ S 0 1 1 0 ([.int .i64 p0]) ([.im (yab eC l) bl]) [] (.c (yav ka5 _ _) <| .n) (.n) (kvl _ _ _ _) (kvm _ _ _ _);have H:=H.t 3 [.int .i64 l.length,.bool (decide (p0<(l.length:Int)))]|>.q 2 (.bin .lss (cT 0) (cT 1))|>.L (vf 0) 1;kaf h (fun h0 h=>have H:=H.y 2 h0;kac h (fun h1 h=>kbb h (fun x2 h2 h=>have H:=H.t 7 [.int .i64 x2.no,.int .i64 x2.a,.int .i64 x2.b,.bool (decide (x2.no<0))]|>.q 6 (.bin .lss (cT 3) (cI 0))|>.I (vf 0) (vt 0) [(vt 3),(vt 4),(vt 5)] ka5 h1 h2;kaf h (fun h3 h=>have H:=H.y 6 h3;H.e [0] h) (fun h3 h=>have H:=H.t 8 [.bool (decide (x2.no > 9))]|>.q 7 (.bin .gtr (cT 3) (cI 9))|>.w 6 h3;kaf h (fun h4 h=>have H:=H.y 7 h4;H.e [0] h) (fun h4 h=>have H:=H.t 9 [.bool (decide (x2.a<(-4611686018427387904)))]|>.q 8 (.bin .lss (cT 4) (cI (-4611686018427387904)))|>.w 7 h4;kaf h (fun h5 h=>have H:=H.y 8 h5;H.e [0] h) (fun h5 h=>have H:=H.t 10 [.bool (decide (x2.a > 4611686018427387904))]|>.q 9 (.bin .gtr (cT 4) (cI 4611686018427387904))|>.w 8 h5;kaf h (fun h6 h=>have H:=H.y 9 h6;H.e [0] h) (fun h6 h=>have H:=H.t 11 [.bool (decide (x2.b<(-4611686018427387904)))]|>.q 10 (.bin .lss (cT 5) (cI (-4611686018427387904)))|>.w 9 h6;kaf h (fun h7 h=>have H:=H.y 10 h7;H.e [0] h) (fun h7 h=>have H:=H.t 12 [.bool (decide (x2.b > 4611686018427387904))]|>.q 11 (.bin .gtr (cT 5) (cI 4611686018427387904))|>.w 10 h7;kaf h (fun h8 h=>have H:=H.y 11 h8;H.e [0] h) (fun h8 h=>have H:=H.t 13 [.int .i64 (w64 (p0+1))]|>.q 12 (.bin .add (cT 0) (cI 1))|>.w 11 h8;H.k [0] [0,3] [] [(vf 0),(vt 12)] [] 1 _ (kvl _ _ _ _) (kvm _ _ _ _) (fun _ hi S=>ih _ _ _ hi h S)))))))))) (fun h0 h=>have H:=H.w 2 h0;H.e [0] h))
def ko0 (fu:Nat) (l:List Cl) (bl:Bool):Option AV:=
 kib fu l bl 0
def k3m:List AV:=[(vf 0)]
def kvk (l:List Cl) (bl:Bool) (σ:Nat->Nat):Val:=(kal ([]) ([.im (yab eC l) bl]) [] σ 0)
def qmo (l:List Cl) (bl:Bool) (_σ:Nat->Nat):List AV:=[(.im (yab eC l) bl)]
def qmp (_l:List Cl) (_bl:Bool) (_σ:Nat->Nat):List Blk:=[]
theorem qmm (l:List Cl) (bl:Bool) (σ:Nat->Nat):k3m.map (gm (kvk l bl σ))=qmo l bl σ:=by kernel_rfl
theorem qmn (l:List Cl) (bl:Bool) (σ:Nat->Nat):([]:List Blk).map (gB (kvk l bl σ))=qmp l bl σ:=by kernel_rfl
theorem qmv {fu:Nat} (l:List Cl) (bl:Bool) {r0:AV} (h:ko0 fu l bl=some r0):kak FF 17 [(.im (yab eC l) bl)] r0:=by
 unfold ko0 at h;have hσ: ∀ i j:Nat,(fun i:Nat=>i) i=(fun i:Nat=>i) j->i=j:=fun _ _ e=>e
 exact kbq (ρ:=kvk l bl (fun i=>i)) (xs:=k3m) (by kernel_rfl) rfl rfl (by kernel_rfl) (fun z0 S=>have H:=Tok.start hσ S 0 0 1 0 ([]) ([.im (yab eC l) bl]) [] (.c (yav ka5 _ _) <| .n) .n (qmm _ _ _) (qmn _ _ _);H.k [0] [0,3] [] [(vf 0),(.int .i64 0)] [] 0 _ (kvl _ _ _ _) (kvm _ _ _ _) (fun _ hi S=>qmt _ _ _ _ hi h S))
theorem kbv {i n:Nat} (h:i<n) (hn:n<=1000000):w64 ((i:Int)+1)=((i+1:Nat):Int):=by
 unfold w64 IntKind.wrap;simp[IntKind.signed,IntKind.bits];omega
theorem kmr (x y:Cl):(!((x.no:Int) == y.no && ((x.a:Int) == y.a && ((x.b:Int) == y.b && true))))=true↔x≠y:=by
 constructor
 ·intro h e;subst e;simp at h
 ·intro h;simp only[Bool.and_true,Bool.not_eq_true',Bool.and_eq_false_iff,beq_eq_false_iff_ne];by_cases h1:x.no=y.no
  ·by_cases h2:x.a=y.a
   ·by_cases h3:x.b=y.b
    ·exact absurd (Cl.ext' h1 h2 h3) h
    ·exact .inr (.inr h3)
   ·exact .inr (.inl h2)
  ·exact .inl h1
theorem k36 {l m:List Cl} {i:Nat} {x y:Cl} (hx:l[i]? =some x) (hy:m[i]? =some y) (h:x≠y):l≠m:=fun e=>by subst e;rw[hx] at hy;exact h (Option.some.inj hy)
theorem qgl (l m:List Cl) (bl bm:Bool) (hl:l.length=m.length) (hn:l.length<=1000000): ∀ (k i:Nat),i+k=l.length->l.take i=m.take i->khz (k+1) l bl m bm i=some (.bool (eqC l m)):=by
 intro k
 induction k with
 |zero=>
  intro i hi ht;unfold khz;rw[ir (by omega)];have:l=m:=by
   have h1:l.take i=l:=yad (by omega);have h2:m.take i=m:=yad (by omega);rw[←h1,←h2];exact ht
  simp[eqC,this]
 |succ k ih=>
  intro i hi ht;have h1:i<l.length:=by omega
  have h2:i<m.length:=by omega
  unfold khz;rw[iq (by omega),iq (by omega)];simp only[yam,yaa h1,yaa h2,yai];by_cases hc:l[i]=m[i]
  ·rw[ir (fun h=>(kmr _ _).1 h hc),kbv h1 hn];refine ih (i+1) (by omega) ?_;rw[yac h1,yac h2,ht,hc]
  ·rw[iq ((kmr _ _).2 hc)];have:=k36 (yaa h1) (yaa h2) hc;simp[eqC,this]
theorem qgn (l m:List Cl) (bl bm:Bool) (hn:l.length<=1000000):koi (l.length+1) l bl m bm=some (.bool (eqC l m)):=by
 unfold koi;by_cases h:l.length=m.length
 ·rw[iq (by omega)];exact qgl l m bl bm h hn l.length 0 (by omega) (by simp)
 ·rw[ir (by omega)];have:l≠m:=fun e=>h (e ▸ rfl)
  simp[eqC,this]
theorem k23 (l m:List Cl) (bl bm:Bool) (hl:l.length=m.length) (hn:l.length<=1000000): ∀ (k i:Nat),i+k=l.length->l.take i=m.take i->kh8 (k+1) l bl m bm i=some (.bool (eqC l m)):=by
 intro k
 induction k with
 |zero=>
  intro i hi ht;unfold kh8;rw[ir (by omega)];have:l=m:=by
   have h1:l.take i=l:=yad (by omega);have h2:m.take i=m:=yad (by omega);rw[←h1,←h2];exact ht
  simp[eqC,this]
 |succ k ih=>
  intro i hi ht;have h1:i<l.length:=by omega
  have h2:i<m.length:=by omega
  unfold kh8;rw[iq (by omega),iq (by omega)];simp only[yam,yaa h1,yaa h2,yai];by_cases hc:l[i]=m[i]
  ·rw[ir (fun h=>(kmr _ _).1 h hc),kbv h1 hn];refine ih (i+1) (by omega) ?_;rw[yac h1,yac h2,ht,hc]
  ·rw[iq ((kmr _ _).2 hc)];have:=k36 (yaa h1) (yaa h2) hc;simp[eqC,this]
theorem qk8 (l m:List Cl) (bl bm:Bool) (hn:l.length<=1000000):kox (l.length+1) l bl m bm=some (.bool (eqC l m)):=by
 unfold kox;by_cases h:l.length=m.length
 ·first
   |(rw[iq (by omega)];exact k23 l m bl bm h hn l.length 0 (by omega) (by simp))
   |(rw[ir (by omega)];exact k23 l m bl bm h hn l.length 0 (by omega) (by simp))
 ·have:l≠m:=fun e=>h (e ▸ rfl)
  first
   |(rw[ir (by omega)];simp[eqC,this])
   |(rw[iq (by omega)];simp[eqC,this])
theorem k5j (c:Cl):kdt c=true↔(0<=c.no/\c.no<=9)/\(-4611686018427387904<=c.a/\c.a<=4611686018427387904)/\ -4611686018427387904<=c.b/\c.b<=4611686018427387904:=by
 simp[kdt,inW]
theorem qms (l:List Cl) (bl:Bool) (hn:l.length<=1000000): ∀ (k i:Nat),i+k=l.length->(l.take i).all kdt=true->kib (k+1) l bl i=some (.bool (kd9 l)):=by
 intro k
 induction k with
 |zero=>
  intro i hi ht;unfold kib;rw[ir (by omega)];have h1:l.take i=l:=yad (by omega);rw[h1] at ht;simp only[kd9,ht]
 |succ k ih=>
  intro i hi ht;have h1:i<l.length:=by omega
  have bad:kdt l[i]≠true->some (AV.bool false)=some (.bool (kd9 l)):=fun h=>by
   have:kd9 l=false:=by
    cases hw:kd9 l with
    |false=>rfl
    |true=>exact absurd (List.all_eq_true.1 hw _ (List.getElem_mem h1)) h
   rw[this]
  unfold kib;rw[iq (by omega),iq (by omega)];simp only[yam,yaa h1,yai];have hi:=k5j l[i];by_cases hc:kdt l[i]=true
  ·obtain⟨⟨c1,c2⟩,⟨c3,c4⟩,c5,c6⟩:=hi.1 hc;rw[ir (by omega),ir (by omega),ir (by omega),ir (by omega),ir (by omega),ir (by omega),kbv h1 hn];refine ih (i+1) (by omega) ?_;rw[yac h1,List.all_append,ht];simp[hc]
  ·have hb:=bad hc
   (repeat' split) <;> first |exact hb |(exfalso;exact hc (hi.2 (by omega)))
theorem qmu (l:List Cl) (bl:Bool) (hn:l.length<=1000000):ko0 (l.length+1) l bl=some (.bool (kd9 l)):=by
 unfold ko0;exact qms l bl hn l.length 0 (by omega) (by simp)
theorem klq (n:Int):n=0\/n=1\/n=2\/n=3\/n=4\/n=5\/n=6\/n=7\/n=8\/n=9\/(n<0\/10<=n):=by omega
theorem qlv {no:Int} {x:List UInt8} (h:kik no=some x):koy no=some (.str x):=by
 unfold kik at h;split at h
 ·cases h;rename_i hn;unfold koy;rcases klq no with h |h |h |h |h |h |h |h |h |h |h
  case inr.inr.inr.inr.inr.inr.inr.inr.inr.inr=>omega
  all_goals (subst h;rfl)
 ·cases h
theorem k71 (l m:List Cl) (bl bm:Bool) (h:l.length<=1000000):kak FF 59 [.im (l.map eC) bl,.im (m.map eC) bm] (.bool (eqC l m)):=qgo l bl m bm (qgn l m bl bm h)
theorem qoc (l m:List Cl) (bl bm:Bool) (h:l.length<=1000000):kak FF 37 [.im (l.map eC) bl,.im (m.map eC) bm] (.bool (eqC l m)):=qk9 l bl m bm (qk8 l m bl bm h)
theorem qrn (l:List Cl) (bl:Bool) (h:l.length<=1000000):kak FF 17 [.im (l.map eC) bl] (.bool (kd9 l)):=qmv l bl (qmu l bl h)
theorem k5f {no:Int} {x:List UInt8} (h:kik no=some x):kak FF 41 [.int .i64 no] (.str x):=qlw no (qlv h)
end Go.Proofs.Hz
