/-
  Chapter 15: a text's end; a number that is written so. And: Chapter 15: a line's syscall.
  Conditions: none.
-/
import Derived.Test.YtamikoglpnoicaaGreatDoorT24
open Go Go.Proofs
namespace Go.Proofs.Hz
theorem kr3 {n:Nat} (h:1≤n) (hn:n≤1000000):w64 ((n:Int) - 1)=((n - 1:Nat):Int):=by
 unfold w64 IntKind.wrap
 simp[IntKind.signed,IntKind.bits]
 omega
theorem k89 (s:List UInt8) (hl:s.length≤1000000):kl3 s=some (.bool (kac s)):=by
 unfold kl3
 by_cases h:(s.length:Int) ≥ 1
 ·have h1:1≤s.length:=by omega
  rw[if_pos h,kr3 h1 hl,if_pos (by omega)]
  congr 2
  have hne:s≠[]:=by intro e;subst e;simp at h1
  obtain⟨t,x,rfl⟩: ∃ t x,s=t++[x]:=⟨s.dropLast,s.getLast hne,(List.dropLast_concat_getLast hne).symm⟩
  rw[Int.toNat_natCast,List.length_append,List.length_singleton,Nat.add_sub_cancel,List.drop_left]
  unfold kac
  rw[List.getLast?_concat,Bool.eq_iff_iff]
  simp
 ·rw[if_neg h]
  have:s=[]:=List.eq_nil_of_length_eq_zero (by omega)
  subst this
  rfl
theorem k1v (s:List UInt8) (hl:s.length≤1000000):Spec FF 195 [.str s,.str [10]] (.bool (kac s)):=k9a s (k89 s hl)
theorem qbe (s:List UInt8) (hl:s.length≤1000000):kl9 s=some (.tup [.int .i64 (kad s),.bool (kaz s)]):=by
 unfold kl9 kaz inW
 rw[if_pos hl]
 by_cases h1:kdj s=true
 ·rw[if_pos h1]
  by_cases h2:kad s ≥ -4611686018427387904
  ·rw[if_pos h2]
   by_cases h3:kad s≤4611686018427387904
   ·rw[if_pos h3,if_pos (by omega)]
    simp[h1,h2,h3]
   ·rw[if_neg h3]
    simp[h3]
  ·rw[if_neg h2]
   have h2': ¬ -4611686018427387904≤kad s:=h2
   simp[h2']
 ·rw[if_neg h1]
  simp[h1]
theorem kcf (s:List UInt8) (hl:s.length≤1000000):Spec FF 161 [.str s] (.tup [.int .i64 (kad s),.bool (kaz s)]):=qbf s (qbe s hl)
end Go.Proofs.Hz
open Go Go.Proofs
namespace Go.Proofs.Hz
def kl2 (s:List UInt8):Option AV:=
 if List.length s≤1000000 then if(!(kac s))=true then
  some (.tup [(.str s),(.bool false)])
 else
  if 0≤(w64 ((List.length s:Int) - 1))∧(w64 ((List.length s:Int) - 1))≤(List.length s:Int) then some (.tup [(.str (List.take (Int.toNat (w64 ((List.length s:Int) - 1))) s)),(.bool true)]) else none else none
def kv5:List AV:=[(vt 0),(.str [10])]
def kpl (s:List UInt8) (σ:Nat→Nat):Val:=(valL ([.str s]) ([]) [] σ 0)
def k8n (s:List UInt8) (_σ:Nat→Nat):List AV:=[(.str s),(.str [10])]
def k8o (_s:List UInt8) (_σ:Nat→Nat):List Blk:=[]
theorem k8l (s:List UInt8) (σ:Nat→Nat):kv5.map (gm (kpl s σ))=k8n s σ:=by kernel_rfl
theorem k8m (s:List UInt8) (σ:Nat→Nat):([]:List Blk).map (gB (kpl s σ))=k8o s σ:=by kernel_rfl
theorem k8q (s:List UInt8) {r0:AV} (h:kl2 s=some r0):Spec FF 155 [(.str s),(.str [10])] r0:=by
 unfold kl2 at h
 have hσ: ∀ i j:Nat,(fun i:Nat=>i) i=(fun i:Nat=>i) j→i=j:=fun _ _ e=>e
 exact kbk (ρ:=kpl s (fun i=>i)) (xs:=kv5) (by kernel_rfl) rfl rfl (by kernel_rfl) (fun z0 S=>have H:=Tok.start hσ S 0 1 0 0 ([.str s]) ([]) [] (.n) .n (k8l s _) (k8m s _);reqE h (fun h0 h=>have H:=H.t 3 [.bool (kac s),.bool (!(kac s))]|>.r [(.un .not (cT 1),(vt 2))]|>.s [(vt 0),(.str [10])] (vt 1) (k1v s h0);iteE h (fun h1 h=>have H:=H.m 2 true h1;H.e [] h) (fun h1 h=>have H:=H.t 5 [.int .i64 (List.length s:Int),.int .i64 (w64 ((List.length s:Int) - 1))]|>.r [(.len 1 (cT 0),(vt 3)),(.bin .sub (cT 3) (cI 1),(vt 4))]|>.m 2 false (bF h1);reqE h (fun _ h=>have H:=H.t 6 [.str (List.take (Int.toNat (w64 ((List.length s:Int) - 1))) s)]|>.c (p:=(.slT (cT 0) none (some (cT 4)),(vt 5))) (fun _ _ _=>fSlT (l:=s) (l':=(List.take (Int.toNat (w64 ((List.length s:Int) - 1))) s)) (lo:=none) (hi:=(some ((vt 4),((w64 ((List.length s:Int) - 1)):Int)))) (by kernel_rfl) trivial ⟨.i64,by kernel_rfl⟩ (by simp only[optN];omega) (by simp[optN]) (by kernel_rfl));H.e [] h))))
end Go.Proofs.Hz
open Go Go.Proofs
namespace Go.Proofs.Hz
theorem k8p (s:List UInt8) (hl:s.length≤1000000):kl2 s=some (.tup [.str (cutT s),.bool (kac s)]):=by
 unfold kl2 cutT
 rw[if_pos hl]
 by_cases h:kac s=true
 ·obtain⟨t,rfl⟩:=kdz.1 h
  have h1:1≤(t++[10]).length:=by simp
  rw[if_neg (by simp[h]),kr3 h1 hl,if_pos (by omega),if_pos h,h]
  congr 5
  rw[Int.toNat_natCast,List.dropLast_eq_take]
 ·rw[if_pos (by simp[h]),if_neg h]
  simp[h]
theorem k1j (s:List UInt8) (hl:s.length≤1000000):Spec FF 155 [.str s,.str [10]] (.tup [.str (cutT s),.bool (kac s)]):=k8q s (k8p s hl)
end Go.Proofs.Hz
open Go Go.Proofs
namespace Go.Proofs.Hz
def qcut (s:List UInt8):Option AV:=
 if List.length s≤1000000 then some (.tup [(.str (cutT s)),(.bool (kac s))]) else none
def kv9:List AV:=[(vt 0),(.str [10])]
def kpp (s:List UInt8) (σ:Nat→Nat):Val:=(valL ([.str s]) ([]) [] σ 0)
def k81 (s:List UInt8) (_σ:Nat→Nat):List AV:=[(.str s),(.str [10])]
def k82 (_s:List UInt8) (_σ:Nat→Nat):List Blk:=[]
theorem k8j (s:List UInt8) (σ:Nat→Nat):kv9.map (gm (kpp s σ))=k81 s σ:=by kernel_rfl
theorem k8k (s:List UInt8) (σ:Nat→Nat):([]:List Blk).map (gB (kpp s σ))=k82 s σ:=by kernel_rfl
theorem k83 (s:List UInt8) {r0:AV} (h:qcut s=some r0):Spec FF 111 [(.str s),(.str [10])] r0:=by
 unfold qcut at h
 have hσ: ∀ i j:Nat,(fun i:Nat=>i) i=(fun i:Nat=>i) j→i=j:=fun _ _ e=>e
 exact kbk (ρ:=kpp s (fun i=>i)) (xs:=kv9) (by kernel_rfl) rfl rfl (by kernel_rfl) (fun z0 S=>have H:=Tok.start hσ S 0 1 0 0 ([.str s]) ([]) [] (.n) .n (k8j s _) (k8k s _);reqE h (fun h0 h=>have H:=H.t 3 [.str (cutT s),.bool (kac s)]|>.s [(vt 0),(.str [10])] (.tup [(vt 1),(vt 2)]) (k1j s h0);H.e [] h))
end Go.Proofs.Hz
open Go Go.Proofs
namespace Go.Proofs.Hz
theorem ka4 (s:List UInt8) (hl:s.length≤1000000):Spec FF 111 [.str s,.str [10]] (.tup [.str (cutT s),.bool (kac s)]):=k83 s (by unfold qcut;rw[if_pos hl])
end Go.Proofs.Hz
open Go Go.Proofs
namespace Go.Proofs.Hz
def kl8 (s:List UInt8):Option AV:=
 if List.length s≤1000000 then if List.length (cutT s)≤1000000 then if(!(kac s))=true then
  some (.tup [(.agg [(.int .i64 0),(.int .i64 0),(.int .i64 0)]),(.bool false)])
 else
  if(List.length (kap 32 (cutT s)):Int)=3 then
   Option.bind ((kap 32 (cutT s))[Int.toNat 0]?) fun x4=>
   if([115,101,110,100] == x4)=true then
     Option.bind ((kap 32 (cutT s))[Int.toNat 1]?) fun x6=>
     if List.length x6≤1000000 then Option.bind ((kap 32 (cutT s))[Int.toNat 2]?) fun x8=>
     if List.length x8≤1000000 then if(kaz x6)=true then
      some (.tup [(.agg [(.int .i64 0),(.int .i64 (kad x6)),(.int .i64 (kad x8))]),(.bool (kaz x8))])
     else
      some (.tup [(.agg [(.int .i64 0),(.int .i64 (kad x6)),(.int .i64 (kad x8))]),(.bool false)]) else none else none
   else
     if([114,101,99,118] == x4)=true then
      Option.bind ((kap 32 (cutT s))[Int.toNat 1]?) fun x7=>
      if List.length x7≤1000000 then Option.bind ((kap 32 (cutT s))[Int.toNat 2]?) fun x9=>
      if List.length x9≤1000000 then if(kaz x7)=true then
        some (.tup [(.agg [(.int .i64 1),(.int .i64 (kad x7)),(.int .i64 (kad x9))]),(.bool (kaz x9))])
      else
        some (.tup [(.agg [(.int .i64 1),(.int .i64 (kad x7)),(.int .i64 (kad x9))]),(.bool false)]) else none else none
     else
      if([116,114,121] == x4)=true then
       Option.bind ((kap 32 (cutT s))[Int.toNat 1]?) fun x8=>
       if List.length x8≤1000000 then Option.bind ((kap 32 (cutT s))[Int.toNat 2]?) fun x10=>
       if List.length x10≤1000000 then if(kaz x8)=true then
         some (.tup [(.agg [(.int .i64 2),(.int .i64 (kad x8)),(.int .i64 (kad x10))]),(.bool (kaz x10))])
       else
         some (.tup [(.agg [(.int .i64 2),(.int .i64 (kad x8)),(.int .i64 (kad x10))]),(.bool false)]) else none else none
      else
       if([112,117,116] == x4)=true then
        Option.bind ((kap 32 (cutT s))[Int.toNat 1]?) fun x9=>
        if List.length x9≤1000000 then Option.bind ((kap 32 (cutT s))[Int.toNat 2]?) fun x11=>
        if List.length x11≤1000000 then if(kaz x9)=true then
          some (.tup [(.agg [(.int .i64 3),(.int .i64 (kad x9)),(.int .i64 (kad x11))]),(.bool (kaz x11))])
        else
          some (.tup [(.agg [(.int .i64 3),(.int .i64 (kad x9)),(.int .i64 (kad x11))]),(.bool false)]) else none else none
       else
        if([108,111,111,107] == x4)=true then
         Option.bind ((kap 32 (cutT s))[Int.toNat 1]?) fun x10=>
         if List.length x10≤1000000 then Option.bind ((kap 32 (cutT s))[Int.toNat 2]?) fun x12=>
         if List.length x12≤1000000 then if(kaz x10)=true then
           some (.tup [(.agg [(.int .i64 4),(.int .i64 (kad x10)),(.int .i64 (kad x12))]),(.bool (kaz x12))])
         else
           some (.tup [(.agg [(.int .i64 4),(.int .i64 (kad x10)),(.int .i64 (kad x12))]),(.bool false)]) else none else none
        else
         if([99,117,116] == x4)=true then
          Option.bind ((kap 32 (cutT s))[Int.toNat 1]?) fun x11=>
          if List.length x11≤1000000 then Option.bind ((kap 32 (cutT s))[Int.toNat 2]?) fun x13=>
          if List.length x13≤1000000 then if(kaz x11)=true then
            some (.tup [(.agg [(.int .i64 5),(.int .i64 (kad x11)),(.int .i64 (kad x13))]),(.bool (kaz x13))])
          else
            some (.tup [(.agg [(.int .i64 5),(.int .i64 (kad x11)),(.int .i64 (kad x13))]),(.bool false)]) else none else none
         else
          if([115,101,116] == x4)=true then
           Option.bind ((kap 32 (cutT s))[Int.toNat 1]?) fun x12=>
           if List.length x12≤1000000 then Option.bind ((kap 32 (cutT s))[Int.toNat 2]?) fun x14=>
           if List.length x14≤1000000 then if(kaz x12)=true then
             some (.tup [(.agg [(.int .i64 6),(.int .i64 (kad x12)),(.int .i64 (kad x14))]),(.bool (kaz x14))])
           else
             some (.tup [(.agg [(.int .i64 6),(.int .i64 (kad x12)),(.int .i64 (kad x14))]),(.bool false)]) else none else none
          else
           if([114,101,115,101,116] == x4)=true then
            Option.bind ((kap 32 (cutT s))[Int.toNat 1]?) fun x13=>
            if List.length x13≤1000000 then Option.bind ((kap 32 (cutT s))[Int.toNat 2]?) fun x15=>
            if List.length x15≤1000000 then if(kaz x13)=true then
              some (.tup [(.agg [(.int .i64 7),(.int .i64 (kad x13)),(.int .i64 (kad x15))]),(.bool (kaz x15))])
            else
              some (.tup [(.agg [(.int .i64 7),(.int .i64 (kad x13)),(.int .i64 (kad x15))]),(.bool false)]) else none else none
           else
            if([116,101,115,116] == x4)=true then
             Option.bind ((kap 32 (cutT s))[Int.toNat 1]?) fun x14=>
             if List.length x14≤1000000 then Option.bind ((kap 32 (cutT s))[Int.toNat 2]?) fun x16=>
             if List.length x16≤1000000 then if(kaz x14)=true then
               some (.tup [(.agg [(.int .i64 8),(.int .i64 (kad x14)),(.int .i64 (kad x16))]),(.bool (kaz x16))])
             else
               some (.tup [(.agg [(.int .i64 8),(.int .i64 (kad x14)),(.int .i64 (kad x16))]),(.bool false)]) else none else none
            else
             if([121,105,101,108,100] == x4)=true then
              Option.bind ((kap 32 (cutT s))[Int.toNat 1]?) fun x15=>
              if List.length x15≤1000000 then Option.bind ((kap 32 (cutT s))[Int.toNat 2]?) fun x17=>
              if List.length x17≤1000000 then if(kaz x15)=true then
                some (.tup [(.agg [(.int .i64 9),(.int .i64 (kad x15)),(.int .i64 (kad x17))]),(.bool (kaz x17))])
              else
                some (.tup [(.agg [(.int .i64 9),(.int .i64 (kad x15)),(.int .i64 (kad x17))]),(.bool false)]) else none else none
             else
              Option.bind ((kap 32 (cutT s))[Int.toNat 1]?) fun x15=>
              if List.length x15≤1000000 then Option.bind ((kap 32 (cutT s))[Int.toNat 2]?) fun x17=>
              if List.length x17≤1000000 then some (.tup [(.agg [(.int .i64 (-1)),(.int .i64 (kad x15)),(.int .i64 (kad x17))]),(.bool false)]) else none else none
  else
   some (.tup [(.agg [(.int .i64 0),(.int .i64 0),(.int .i64 0)]),(.bool false)]) else none else none
def kwr:List AV:=[(vt 0)]
def kp7 (s:List UInt8) (σ:Nat→Nat):Val:=(valL ([.str s]) ([]) [] σ 0)
def qaq (s:List UInt8) (_σ:Nat→Nat):List AV:=[(.str s)]
def qar (_s:List UInt8) (_σ:Nat→Nat):List Blk:=[]
theorem qao (s:List UInt8) (σ:Nat→Nat):kwr.map (gm (kp7 s σ))=qaq s σ:=by kernel_rfl
theorem qap (s:List UInt8) (σ:Nat→Nat):([]:List Blk).map (gB (kp7 s σ))=qar s σ:=by kernel_rfl
set_option maxHeartbeats 10000000 in
theorem qat (s:List UInt8) {r0:AV} (h:kl8 s=some r0):Spec FF 113 [(.str s)] r0:=by
 unfold kl8 at h
 have hσ: ∀ i j:Nat,(fun i:Nat=>i) i=(fun i:Nat=>i) j→i=j:=fun _ _ e=>e
 exact kbk (ρ:=kp7 s (fun i=>i)) (xs:=kwr) (by kernel_rfl) rfl rfl (by kernel_rfl) (fun z0 S=>have H:=Tok.start hσ S 0 1 0 0 ([.str s]) ([]) [] (.n) .n (qao s _) (qap s _);reqE h (fun h0 h=>have H:=H.t 3 [.str (cutT s),.bool (kac s)]|>.s [(vt 0),(.str [10])] (.tup [(vt 1),(vt 2)]) (ka4 s h0);reqE h (fun h1 h=>have H:=H.t 4 [.bool (!(kac s))]|>.f 1 [.im (List.map eT (kap 32 (cutT s))) true] (.c (OkF.im kaf _ _) <| .n)|>.r [(.un .not (cT 2),(vt 3))]|>.s [(vt 1),(.str [32])] (vf 0) (qfv (cutT s) h1);iteE h (fun h2 h=>have H:=H.m 3 true h2;H.e [] h) (fun h2 h=>have H:=H.t 6 [.int .i64 (List.length (kap 32 (cutT s)):Int),.bool (!decide ((List.length (kap 32 (cutT s)):Int)=3))]|>.r [(.bin .neq (cT 4) (cI 3),(vt 5))]|>.m 3 false (bF h2)|>.c (p:=(.len 0 (cF 0),(vt 4))) (fun _ _ _=>fLen (e:=eT) (l:=(kap 32 (cutT s))) (b:=true) (by kernel_rfl) (by kernel_rfl));iteE h (fun h3 h=>have H:=H.m 5 false (nT h3)|>.s [] kindsA kt5;ka3 h (fun x4 h4 h=>have H:=H.t 8 [.str x4,.bool ([115,101,110,100] == x4)]|>.r [(.bin .eql (.c (.str [115,101,110,100])) (cT 6),(vt 7))]|>.c (p:=(.iaS 1 (cF 0) (cI 0),(.ip [(vt 6)] 0))) (fun _ _ _=>fIa (sz:=1) (e:=eT) (l:=(kap 32 (cutT s))) (b:=true) (k:= .i64) (n:=0) (y:=x4) kaf (by kernel_rfl) (by kernel_rfl) (by decide) h4 (by kernel_rfl));iteE h (fun h5 h=>have H:=H.m 7 true h5;ka3 h (fun x6 h6 h=>have H:=H.t 9 [.str x6]|>.c (p:=(.iaS 1 (cF 0) (cI 1),(.ip [(vt 8)] 0))) (fun _ _ _=>fIa (sz:=1) (e:=eT) (l:=(kap 32 (cutT s))) (b:=true) (k:= .i64) (n:=1) (y:=x6) kaf (by kernel_rfl) (by kernel_rfl) (by decide) h6 (by kernel_rfl));reqE h (fun h7 h=>have H:=H.t 11 [.int .i64 (kad x6),.bool (kaz x6)]|>.s [(vt 8)] (.tup [(vt 9),(vt 10)]) (kcf x6 h7);ka3 h (fun x8 h8 h=>have H:=H.t 12 [.str x8]|>.c (p:=(.iaS 1 (cF 0) (cI 2),(.ip [(vt 11)] 0))) (fun _ _ _=>fIa (sz:=1) (e:=eT) (l:=(kap 32 (cutT s))) (b:=true) (k:= .i64) (n:=2) (y:=x8) kaf (by kernel_rfl) (by kernel_rfl) (by decide) h8 (by kernel_rfl));reqE h (fun h9 h=>have H:=H.t 14 [.int .i64 (kad x8),.bool (kaz x8)]|>.s [(vt 11)] (.tup [(vt 12),(vt 13)]) (kcf x8 h9);iteE h (fun h10 h=>have H:=H.m 10 true h10;H.e [] h) (fun h10 h=>have H:=H.m 10 false (bF h10);H.e [] h)))))) (fun h5 h=>have H:=H.t 9 [.bool ([114,101,99,118] == x4)]|>.r [(.bin .eql (.c (.str [114,101,99,118])) (cT 6),(vt 8))]|>.m 7 false (bF h5);iteE h (fun h6 h=>have H:=H.m 8 true h6;ka3 h (fun x7 h7 h=>have H:=H.t 10 [.str x7]|>.c (p:=(.iaS 1 (cF 0) (cI 1),(.ip [(vt 9)] 0))) (fun _ _ _=>fIa (sz:=1) (e:=eT) (l:=(kap 32 (cutT s))) (b:=true) (k:= .i64) (n:=1) (y:=x7) kaf (by kernel_rfl) (by kernel_rfl) (by decide) h7 (by kernel_rfl));reqE h (fun h8 h=>have H:=H.t 12 [.int .i64 (kad x7),.bool (kaz x7)]|>.s [(vt 9)] (.tup [(vt 10),(vt 11)]) (kcf x7 h8);ka3 h (fun x9 h9 h=>have H:=H.t 13 [.str x9]|>.c (p:=(.iaS 1 (cF 0) (cI 2),(.ip [(vt 12)] 0))) (fun _ _ _=>fIa (sz:=1) (e:=eT) (l:=(kap 32 (cutT s))) (b:=true) (k:= .i64) (n:=2) (y:=x9) kaf (by kernel_rfl) (by kernel_rfl) (by decide) h9 (by kernel_rfl));reqE h (fun h10 h=>have H:=H.t 15 [.int .i64 (kad x9),.bool (kaz x9)]|>.s [(vt 12)] (.tup [(vt 13),(vt 14)]) (kcf x9 h10);iteE h (fun h11 h=>have H:=H.m 11 true h11;H.e [] h) (fun h11 h=>have H:=H.m 11 false (bF h11);H.e [] h)))))) (fun h6 h=>have H:=H.t 10 [.bool ([116,114,121] == x4)]|>.r [(.bin .eql (.c (.str [116,114,121])) (cT 6),(vt 9))]|>.m 8 false (bF h6);iteE h (fun h7 h=>have H:=H.m 9 true h7;ka3 h (fun x8 h8 h=>have H:=H.t 11 [.str x8]|>.c (p:=(.iaS 1 (cF 0) (cI 1),(.ip [(vt 10)] 0))) (fun _ _ _=>fIa (sz:=1) (e:=eT) (l:=(kap 32 (cutT s))) (b:=true) (k:= .i64) (n:=1) (y:=x8) kaf (by kernel_rfl) (by kernel_rfl) (by decide) h8 (by kernel_rfl));reqE h (fun h9 h=>have H:=H.t 13 [.int .i64 (kad x8),.bool (kaz x8)]|>.s [(vt 10)] (.tup [(vt 11),(vt 12)]) (kcf x8 h9);ka3 h (fun x10 h10 h=>have H:=H.t 14 [.str x10]|>.c (p:=(.iaS 1 (cF 0) (cI 2),(.ip [(vt 13)] 0))) (fun _ _ _=>fIa (sz:=1) (e:=eT) (l:=(kap 32 (cutT s))) (b:=true) (k:= .i64) (n:=2) (y:=x10) kaf (by kernel_rfl) (by kernel_rfl) (by decide) h10 (by kernel_rfl));reqE h (fun h11 h=>have H:=H.t 16 [.int .i64 (kad x10),.bool (kaz x10)]|>.s [(vt 13)] (.tup [(vt 14),(vt 15)]) (kcf x10 h11);iteE h (fun h12 h=>have H:=H.m 12 true h12;H.e [] h) (fun h12 h=>have H:=H.m 12 false (bF h12);H.e [] h)))))) (fun h7 h=>have H:=H.t 11 [.bool ([112,117,116] == x4)]|>.r [(.bin .eql (.c (.str [112,117,116])) (cT 6),(vt 10))]|>.m 9 false (bF h7);iteE h (fun h8 h=>have H:=H.m 10 true h8;ka3 h (fun x9 h9 h=>have H:=H.t 12 [.str x9]|>.c (p:=(.iaS 1 (cF 0) (cI 1),(.ip [(vt 11)] 0))) (fun _ _ _=>fIa (sz:=1) (e:=eT) (l:=(kap 32 (cutT s))) (b:=true) (k:= .i64) (n:=1) (y:=x9) kaf (by kernel_rfl) (by kernel_rfl) (by decide) h9 (by kernel_rfl));reqE h (fun h10 h=>have H:=H.t 14 [.int .i64 (kad x9),.bool (kaz x9)]|>.s [(vt 11)] (.tup [(vt 12),(vt 13)]) (kcf x9 h10);ka3 h (fun x11 h11 h=>have H:=H.t 15 [.str x11]|>.c (p:=(.iaS 1 (cF 0) (cI 2),(.ip [(vt 14)] 0))) (fun _ _ _=>fIa (sz:=1) (e:=eT) (l:=(kap 32 (cutT s))) (b:=true) (k:= .i64) (n:=2) (y:=x11) kaf (by kernel_rfl) (by kernel_rfl) (by decide) h11 (by kernel_rfl));reqE h (fun h12 h=>have H:=H.t 17 [.int .i64 (kad x11),.bool (kaz x11)]|>.s [(vt 14)] (.tup [(vt 15),(vt 16)]) (kcf x11 h12);iteE h (fun h13 h=>have H:=H.m 13 true h13;H.e [] h) (fun h13 h=>have H:=H.m 13 false (bF h13);H.e [] h)))))) (fun h8 h=>have H:=H.t 12 [.bool ([108,111,111,107] == x4)]|>.r [(.bin .eql (.c (.str [108,111,111,107])) (cT 6),(vt 11))]|>.m 10 false (bF h8);iteE h (fun h9 h=>have H:=H.m 11 true h9;ka3 h (fun x10 h10 h=>have H:=H.t 13 [.str x10]|>.c (p:=(.iaS 1 (cF 0) (cI 1),(.ip [(vt 12)] 0))) (fun _ _ _=>fIa (sz:=1) (e:=eT) (l:=(kap 32 (cutT s))) (b:=true) (k:= .i64) (n:=1) (y:=x10) kaf (by kernel_rfl) (by kernel_rfl) (by decide) h10 (by kernel_rfl));reqE h (fun h11 h=>have H:=H.t 15 [.int .i64 (kad x10),.bool (kaz x10)]|>.s [(vt 12)] (.tup [(vt 13),(vt 14)]) (kcf x10 h11);ka3 h (fun x12 h12 h=>have H:=H.t 16 [.str x12]|>.c (p:=(.iaS 1 (cF 0) (cI 2),(.ip [(vt 15)] 0))) (fun _ _ _=>fIa (sz:=1) (e:=eT) (l:=(kap 32 (cutT s))) (b:=true) (k:= .i64) (n:=2) (y:=x12) kaf (by kernel_rfl) (by kernel_rfl) (by decide) h12 (by kernel_rfl));reqE h (fun h13 h=>have H:=H.t 18 [.int .i64 (kad x12),.bool (kaz x12)]|>.s [(vt 15)] (.tup [(vt 16),(vt 17)]) (kcf x12 h13);iteE h (fun h14 h=>have H:=H.m 14 true h14;H.e [] h) (fun h14 h=>have H:=H.m 14 false (bF h14);H.e [] h)))))) (fun h9 h=>have H:=H.t 13 [.bool ([99,117,116] == x4)]|>.r [(.bin .eql (.c (.str [99,117,116])) (cT 6),(vt 12))]|>.m 11 false (bF h9);iteE h (fun h10 h=>have H:=H.m 12 true h10;ka3 h (fun x11 h11 h=>have H:=H.t 14 [.str x11]|>.c (p:=(.iaS 1 (cF 0) (cI 1),(.ip [(vt 13)] 0))) (fun _ _ _=>fIa (sz:=1) (e:=eT) (l:=(kap 32 (cutT s))) (b:=true) (k:= .i64) (n:=1) (y:=x11) kaf (by kernel_rfl) (by kernel_rfl) (by decide) h11 (by kernel_rfl));reqE h (fun h12 h=>have H:=H.t 16 [.int .i64 (kad x11),.bool (kaz x11)]|>.s [(vt 13)] (.tup [(vt 14),(vt 15)]) (kcf x11 h12);ka3 h (fun x13 h13 h=>have H:=H.t 17 [.str x13]|>.c (p:=(.iaS 1 (cF 0) (cI 2),(.ip [(vt 16)] 0))) (fun _ _ _=>fIa (sz:=1) (e:=eT) (l:=(kap 32 (cutT s))) (b:=true) (k:= .i64) (n:=2) (y:=x13) kaf (by kernel_rfl) (by kernel_rfl) (by decide) h13 (by kernel_rfl));reqE h (fun h14 h=>have H:=H.t 19 [.int .i64 (kad x13),.bool (kaz x13)]|>.s [(vt 16)] (.tup [(vt 17),(vt 18)]) (kcf x13 h14);iteE h (fun h15 h=>have H:=H.m 15 true h15;H.e [] h) (fun h15 h=>have H:=H.m 15 false (bF h15);H.e [] h)))))) (fun h10 h=>have H:=H.t 14 [.bool ([115,101,116] == x4)]|>.r [(.bin .eql (.c (.str [115,101,116])) (cT 6),(vt 13))]|>.m 12 false (bF h10);iteE h (fun h11 h=>have H:=H.m 13 true h11;ka3 h (fun x12 h12 h=>have H:=H.t 15 [.str x12]|>.c (p:=(.iaS 1 (cF 0) (cI 1),(.ip [(vt 14)] 0))) (fun _ _ _=>fIa (sz:=1) (e:=eT) (l:=(kap 32 (cutT s))) (b:=true) (k:= .i64) (n:=1) (y:=x12) kaf (by kernel_rfl) (by kernel_rfl) (by decide) h12 (by kernel_rfl));reqE h (fun h13 h=>have H:=H.t 17 [.int .i64 (kad x12),.bool (kaz x12)]|>.s [(vt 14)] (.tup [(vt 15),(vt 16)]) (kcf x12 h13);ka3 h (fun x14 h14 h=>have H:=H.t 18 [.str x14]|>.c (p:=(.iaS 1 (cF 0) (cI 2),(.ip [(vt 17)] 0))) (fun _ _ _=>fIa (sz:=1) (e:=eT) (l:=(kap 32 (cutT s))) (b:=true) (k:= .i64) (n:=2) (y:=x14) kaf (by kernel_rfl) (by kernel_rfl) (by decide) h14 (by kernel_rfl));reqE h (fun h15 h=>have H:=H.t 20 [.int .i64 (kad x14),.bool (kaz x14)]|>.s [(vt 17)] (.tup [(vt 18),(vt 19)]) (kcf x14 h15);iteE h (fun h16 h=>have H:=H.m 16 true h16;H.e [] h) (fun h16 h=>have H:=H.m 16 false (bF h16);H.e [] h)))))) (fun h11 h=>have H:=H.t 15 [.bool ([114,101,115,101,116] == x4)]|>.r [(.bin .eql (.c (.str [114,101,115,101,116])) (cT 6),(vt 14))]|>.m 13 false (bF h11);iteE h (fun h12 h=>have H:=H.m 14 true h12;ka3 h (fun x13 h13 h=>have H:=H.t 16 [.str x13]|>.c (p:=(.iaS 1 (cF 0) (cI 1),(.ip [(vt 15)] 0))) (fun _ _ _=>fIa (sz:=1) (e:=eT) (l:=(kap 32 (cutT s))) (b:=true) (k:= .i64) (n:=1) (y:=x13) kaf (by kernel_rfl) (by kernel_rfl) (by decide) h13 (by kernel_rfl));reqE h (fun h14 h=>have H:=H.t 18 [.int .i64 (kad x13),.bool (kaz x13)]|>.s [(vt 15)] (.tup [(vt 16),(vt 17)]) (kcf x13 h14);ka3 h (fun x15 h15 h=>have H:=H.t 19 [.str x15]|>.c (p:=(.iaS 1 (cF 0) (cI 2),(.ip [(vt 18)] 0))) (fun _ _ _=>fIa (sz:=1) (e:=eT) (l:=(kap 32 (cutT s))) (b:=true) (k:= .i64) (n:=2) (y:=x15) kaf (by kernel_rfl) (by kernel_rfl) (by decide) h15 (by kernel_rfl));reqE h (fun h16 h=>have H:=H.t 21 [.int .i64 (kad x15),.bool (kaz x15)]|>.s [(vt 18)] (.tup [(vt 19),(vt 20)]) (kcf x15 h16);iteE h (fun h17 h=>have H:=H.m 17 true h17;H.e [] h) (fun h17 h=>have H:=H.m 17 false (bF h17);H.e [] h)))))) (fun h12 h=>have H:=H.t 16 [.bool ([116,101,115,116] == x4)]|>.r [(.bin .eql (.c (.str [116,101,115,116])) (cT 6),(vt 15))]|>.m 14 false (bF h12);iteE h (fun h13 h=>have H:=H.m 15 true h13;ka3 h (fun x14 h14 h=>have H:=H.t 17 [.str x14]|>.c (p:=(.iaS 1 (cF 0) (cI 1),(.ip [(vt 16)] 0))) (fun _ _ _=>fIa (sz:=1) (e:=eT) (l:=(kap 32 (cutT s))) (b:=true) (k:= .i64) (n:=1) (y:=x14) kaf (by kernel_rfl) (by kernel_rfl) (by decide) h14 (by kernel_rfl));reqE h (fun h15 h=>have H:=H.t 19 [.int .i64 (kad x14),.bool (kaz x14)]|>.s [(vt 16)] (.tup [(vt 17),(vt 18)]) (kcf x14 h15);ka3 h (fun x16 h16 h=>have H:=H.t 20 [.str x16]|>.c (p:=(.iaS 1 (cF 0) (cI 2),(.ip [(vt 19)] 0))) (fun _ _ _=>fIa (sz:=1) (e:=eT) (l:=(kap 32 (cutT s))) (b:=true) (k:= .i64) (n:=2) (y:=x16) kaf (by kernel_rfl) (by kernel_rfl) (by decide) h16 (by kernel_rfl));reqE h (fun h17 h=>have H:=H.t 22 [.int .i64 (kad x16),.bool (kaz x16)]|>.s [(vt 19)] (.tup [(vt 20),(vt 21)]) (kcf x16 h17);iteE h (fun h18 h=>have H:=H.m 18 true h18;H.e [] h) (fun h18 h=>have H:=H.m 18 false (bF h18);H.e [] h)))))) (fun h13 h=>have H:=H.t 17 [.bool ([121,105,101,108,100] == x4)]|>.r [(.bin .eql (.c (.str [121,105,101,108,100])) (cT 6),(vt 16))]|>.m 15 false (bF h13);iteE h (fun h14 h=>have H:=H.m 16 true h14;ka3 h (fun x15 h15 h=>have H:=H.t 18 [.str x15]|>.c (p:=(.iaS 1 (cF 0) (cI 1),(.ip [(vt 17)] 0))) (fun _ _ _=>fIa (sz:=1) (e:=eT) (l:=(kap 32 (cutT s))) (b:=true) (k:= .i64) (n:=1) (y:=x15) kaf (by kernel_rfl) (by kernel_rfl) (by decide) h15 (by kernel_rfl));reqE h (fun h16 h=>have H:=H.t 20 [.int .i64 (kad x15),.bool (kaz x15)]|>.s [(vt 17)] (.tup [(vt 18),(vt 19)]) (kcf x15 h16);ka3 h (fun x17 h17 h=>have H:=H.t 21 [.str x17]|>.c (p:=(.iaS 1 (cF 0) (cI 2),(.ip [(vt 20)] 0))) (fun _ _ _=>fIa (sz:=1) (e:=eT) (l:=(kap 32 (cutT s))) (b:=true) (k:= .i64) (n:=2) (y:=x17) kaf (by kernel_rfl) (by kernel_rfl) (by decide) h17 (by kernel_rfl));reqE h (fun h18 h=>have H:=H.t 23 [.int .i64 (kad x17),.bool (kaz x17)]|>.s [(vt 20)] (.tup [(vt 21),(vt 22)]) (kcf x17 h18);iteE h (fun h19 h=>have H:=H.m 19 true h19;H.e [] h) (fun h19 h=>have H:=H.m 19 false (bF h19);H.e [] h)))))) (fun h14 h=>have H:=H.m 16 false (bF h14);ka3 h (fun x15 h15 h=>have H:=H.t 18 [.str x15]|>.c (p:=(.iaS 1 (cF 0) (cI 1),(.ip [(vt 17)] 0))) (fun _ _ _=>fIa (sz:=1) (e:=eT) (l:=(kap 32 (cutT s))) (b:=true) (k:= .i64) (n:=1) (y:=x15) kaf (by kernel_rfl) (by kernel_rfl) (by decide) h15 (by kernel_rfl));reqE h (fun h16 h=>have H:=H.t 20 [.int .i64 (kad x15),.bool (kaz x15)]|>.s [(vt 17)] (.tup [(vt 18),(vt 19)]) (kcf x15 h16);ka3 h (fun x17 h17 h=>have H:=H.t 21 [.str x17]|>.c (p:=(.iaS 1 (cF 0) (cI 2),(.ip [(vt 20)] 0))) (fun _ _ _=>fIa (sz:=1) (e:=eT) (l:=(kap 32 (cutT s))) (b:=true) (k:= .i64) (n:=2) (y:=x17) kaf (by kernel_rfl) (by kernel_rfl) (by decide) h17 (by kernel_rfl));reqE h (fun h18 h=>have H:=H.t 23 [.int .i64 (kad x17),.bool (kaz x17)]|>.s [(vt 20)] (.tup [(vt 21),(vt 22)]) (kcf x17 h18);H.e [] h)))))))))))))))) (fun h3 h=>have H:=H.m 5 true (nF h3);H.e [] h)))))
end Go.Proofs.Hz
open Go Go.Proofs
namespace Go.Proofs.Hz
theorem qhq (w:List UInt8):w=[115,101,110,100]∨w=[114,101,99,118]∨w=[116,114,121]∨w=[112,117,116]∨w=[108,111,111,107]∨w=[99,117,116]∨w=[115,101,116]∨w=[114,101,115,101,116]∨w=[116,101,115,116]∨w=[121,105,101,108,100]∨(¬ [115,101,110,100]=w∧ ¬ [114,101,99,118]=w∧ ¬ [116,114,121]=w∧ ¬ [112,117,116]=w∧ ¬ [108,111,111,107]=w∧ ¬ [99,117,116]=w∧ ¬ [115,101,116]=w∧ ¬ [114,101,115,101,116]=w∧ ¬ [116,101,115,116]=w∧ ¬ [121,105,101,108,100]=w):=by
 by_cases h0:w=[115,101,110,100]
 ·exact .inl h0
 by_cases h1:w=[114,101,99,118]
 ·exact .inr (.inl h1)
 by_cases h2:w=[116,114,121]
 ·exact .inr (.inr (.inl h2))
 by_cases h3:w=[112,117,116]
 ·exact .inr (.inr (.inr (.inl h3)))
 by_cases h4:w=[108,111,111,107]
 ·exact .inr (.inr (.inr (.inr (.inl h4))))
 by_cases h5:w=[99,117,116]
 ·exact .inr (.inr (.inr (.inr (.inr (.inl h5)))))
 by_cases h6:w=[115,101,116]
 ·exact .inr (.inr (.inr (.inr (.inr (.inr (.inl h6))))))
 by_cases h7:w=[114,101,115,101,116]
 ·exact .inr (.inr (.inr (.inr (.inr (.inr (.inr (.inl h7)))))))
 by_cases h8:w=[116,101,115,116]
 ·exact .inr (.inr (.inr (.inr (.inr (.inr (.inr (.inr (.inl h8))))))))
 by_cases h9:w=[121,105,101,108,100]
 ·exact .inr (.inr (.inr (.inr (.inr (.inr (.inr (.inr (.inr (.inl h9)))))))))
 exact .inr (.inr (.inr (.inr (.inr (.inr (.inr (.inr (.inr (.inr (⟨fun e=>h0 e.symm,fun e=>h1 e.symm,fun e=>h2 e.symm,fun e=>h3 e.symm,fun e=>h4 e.symm,fun e=>h5 e.symm,fun e=>h6 e.symm,fun e=>h7 e.symm,fun e=>h8 e.symm,fun e=>h9 e.symm⟩))))))))))
theorem qas (s:List UInt8) (hl:s.length≤1000000):kl8 s=some (.tup [(kav s).av,.bool (kay s)]):=by
 have hc:=ksz s
 unfold kl8 kav kay
 rw[if_pos hl,if_pos (by omega)]
 by_cases he:kac s=true
 ·rw[if_neg (by simp[he]),if_pos he,he]
  have hm: ∀ p ∈ kap 32 (cutT s),p.length≤1000000:=fun p hp=>Nat.le_trans (kmq hp) (by omega)
  generalize kap 32 (cutT s)=L at hm ⊢
  match L,hm with
  | [],_=>rfl
  | [_],_=>rfl
  | [_,_],_=>rfl
  |_::_::_::_::_,_=>rw[if_neg (by simp only[List.length_cons];omega)];rfl
  | [w,a,b],hm=>
    have ha:a.length≤1000000:=hm a (by simp)
    have hb:b.length≤1000000:=hm b (by simp)
    rw[if_pos (by simp)]
    simp only[show Int.toNat 0=0 from rfl,show Int.toNat 1=1 from rfl,show Int.toNat 2=2 from rfl,List.getElem?_cons_zero,List.getElem?_cons_succ,Option.bind_some,ha,hb,if_true,beq_iff_eq]
    rcases qhq w with rfl |rfl |rfl |rfl |rfl |rfl |rfl |rfl |rfl |rfl | ⟨h0,h1,h2,h3,h4,h5,h6,h7,h8,h9⟩
    case inr.inr.inr.inr.inr.inr.inr.inr.inr.inr=>
     rw[if_neg h0,if_neg h1,if_neg h2,if_neg h3,if_neg h4,if_neg h5,if_neg h6,if_neg h7,if_neg h8,if_neg h9]
     have hw:kd9 w= -1:=by
      unfold kd9
      rw[if_neg (Ne.symm h0),if_neg (Ne.symm h1),if_neg (Ne.symm h2),if_neg (Ne.symm h3),if_neg (Ne.symm h4),if_neg (Ne.symm h5),if_neg (Ne.symm h6),if_neg (Ne.symm h7),if_neg (Ne.symm h8),if_neg (Ne.symm h9)]
     simp[hw,Cl.av]
    all_goals
     by_cases hn:kaz a=true
     ·simp[kd9,Cl.av,hn]
     ·simp[kd9,Cl.av,hn]
 ·rw[if_pos (by simp[he]),if_neg he]
  simp[he,Cl.av]
theorem kk5 (s:List UInt8) (hl:s.length≤1000000):Spec FF 113 [.str s] (.tup [(kav s).av,.bool (kay s)]):=qat s (qas s hl)
end Go.Proofs.Hz
