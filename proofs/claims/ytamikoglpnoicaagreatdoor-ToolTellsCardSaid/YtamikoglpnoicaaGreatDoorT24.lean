/-
  Chapter 20: walks through the functions of syscalls' texts (part m), written by a program of our own (wip/tools).
  Conditions: none.
-/
import Derived.Test.YtamikoglpnoicaaGreatDoorT23
open Go Go.Proofs
namespace Go.Proofs.Hz
open Int renaming toNat->yab
open List renaming length->yac
open Option renaming bind->yaa
def kom (s:List UInt8):Option AV:=
 if s.length<=1000000 then if yac (kad s)<=1000000 then if(!(kao s))=true then
  some (.tup [(.agg [(.int .i64 0),(.int .i64 0),(.int .i64 0)]),(.bool false)])
 else
  if(yac (kbd 32 (kad s)):Int)=3 then
   yaa ((kbd 32 (kad s))[yab 0]?) fun x4=>
   if([115,101,110,100] == x4)=true then
     yaa ((kbd 32 (kad s))[yab 1]?) fun x6=>
     if x6.length<=1000000 then yaa ((kbd 32 (kad s))[yab 2]?) fun x8=>
     if x8.length<=1000000 then if(kba x6)=true then
      some (.tup [(.agg [(.int .i64 0),(.int .i64 (kam x6)),(.int .i64 (kam x8))]),(.bool (kba x8))])
     else
      some (.tup [(.agg [(.int .i64 0),(.int .i64 (kam x6)),(.int .i64 (kam x8))]),(.bool false)]) else none else none
   else
     if([114,101,99,118] == x4)=true then
      yaa ((kbd 32 (kad s))[yab 1]?) fun x7=>
      if x7.length<=1000000 then yaa ((kbd 32 (kad s))[yab 2]?) fun x9=>
      if x9.length<=1000000 then if(kba x7)=true then
        some (.tup [(.agg [(.int .i64 1),(.int .i64 (kam x7)),(.int .i64 (kam x9))]),(.bool (kba x9))])
      else
        some (.tup [(.agg [(.int .i64 1),(.int .i64 (kam x7)),(.int .i64 (kam x9))]),(.bool false)]) else none else none
     else
      if([116,114,121] == x4)=true then
       yaa ((kbd 32 (kad s))[yab 1]?) fun x8=>
       if x8.length<=1000000 then yaa ((kbd 32 (kad s))[yab 2]?) fun x10=>
       if x10.length<=1000000 then if(kba x8)=true then
         some (.tup [(.agg [(.int .i64 2),(.int .i64 (kam x8)),(.int .i64 (kam x10))]),(.bool (kba x10))])
       else
         some (.tup [(.agg [(.int .i64 2),(.int .i64 (kam x8)),(.int .i64 (kam x10))]),(.bool false)]) else none else none
      else
       if([112,117,116] == x4)=true then
        yaa ((kbd 32 (kad s))[yab 1]?) fun x9=>
        if x9.length<=1000000 then yaa ((kbd 32 (kad s))[yab 2]?) fun x11=>
        if x11.length<=1000000 then if(kba x9)=true then
          some (.tup [(.agg [(.int .i64 3),(.int .i64 (kam x9)),(.int .i64 (kam x11))]),(.bool (kba x11))])
        else
          some (.tup [(.agg [(.int .i64 3),(.int .i64 (kam x9)),(.int .i64 (kam x11))]),(.bool false)]) else none else none
       else
        if([108,111,111,107] == x4)=true then
         yaa ((kbd 32 (kad s))[yab 1]?) fun x10=>
         if x10.length<=1000000 then yaa ((kbd 32 (kad s))[yab 2]?) fun x12=>
         if x12.length<=1000000 then if(kba x10)=true then
           some (.tup [(.agg [(.int .i64 4),(.int .i64 (kam x10)),(.int .i64 (kam x12))]),(.bool (kba x12))])
         else
           some (.tup [(.agg [(.int .i64 4),(.int .i64 (kam x10)),(.int .i64 (kam x12))]),(.bool false)]) else none else none
        else
         if([99,117,116] == x4)=true then
          yaa ((kbd 32 (kad s))[yab 1]?) fun x11=>
          if x11.length<=1000000 then yaa ((kbd 32 (kad s))[yab 2]?) fun x13=>
          if x13.length<=1000000 then if(kba x11)=true then
            some (.tup [(.agg [(.int .i64 5),(.int .i64 (kam x11)),(.int .i64 (kam x13))]),(.bool (kba x13))])
          else
            some (.tup [(.agg [(.int .i64 5),(.int .i64 (kam x11)),(.int .i64 (kam x13))]),(.bool false)]) else none else none
         else
          if([115,101,116] == x4)=true then
           yaa ((kbd 32 (kad s))[yab 1]?) fun x12=>
           if x12.length<=1000000 then yaa ((kbd 32 (kad s))[yab 2]?) fun x14=>
           if x14.length<=1000000 then if(kba x12)=true then
             some (.tup [(.agg [(.int .i64 6),(.int .i64 (kam x12)),(.int .i64 (kam x14))]),(.bool (kba x14))])
           else
             some (.tup [(.agg [(.int .i64 6),(.int .i64 (kam x12)),(.int .i64 (kam x14))]),(.bool false)]) else none else none
          else
           if([114,101,115,101,116] == x4)=true then
            yaa ((kbd 32 (kad s))[yab 1]?) fun x13=>
            if x13.length<=1000000 then yaa ((kbd 32 (kad s))[yab 2]?) fun x15=>
            if x15.length<=1000000 then if(kba x13)=true then
              some (.tup [(.agg [(.int .i64 7),(.int .i64 (kam x13)),(.int .i64 (kam x15))]),(.bool (kba x15))])
            else
              some (.tup [(.agg [(.int .i64 7),(.int .i64 (kam x13)),(.int .i64 (kam x15))]),(.bool false)]) else none else none
           else
            if([116,101,115,116] == x4)=true then
             yaa ((kbd 32 (kad s))[yab 1]?) fun x14=>
             if x14.length<=1000000 then yaa ((kbd 32 (kad s))[yab 2]?) fun x16=>
             if x16.length<=1000000 then if(kba x14)=true then
               some (.tup [(.agg [(.int .i64 8),(.int .i64 (kam x14)),(.int .i64 (kam x16))]),(.bool (kba x16))])
             else
               some (.tup [(.agg [(.int .i64 8),(.int .i64 (kam x14)),(.int .i64 (kam x16))]),(.bool false)]) else none else none
            else
             if([121,105,101,108,100] == x4)=true then
              yaa ((kbd 32 (kad s))[yab 1]?) fun x15=>
              if x15.length<=1000000 then yaa ((kbd 32 (kad s))[yab 2]?) fun x17=>
              if x17.length<=1000000 then if(kba x15)=true then
                some (.tup [(.agg [(.int .i64 9),(.int .i64 (kam x15)),(.int .i64 (kam x17))]),(.bool (kba x17))])
              else
                some (.tup [(.agg [(.int .i64 9),(.int .i64 (kam x15)),(.int .i64 (kam x17))]),(.bool false)]) else none else none
             else
              yaa ((kbd 32 (kad s))[yab 1]?) fun x15=>
              if x15.length<=1000000 then yaa ((kbd 32 (kad s))[yab 2]?) fun x17=>
              if x17.length<=1000000 then some (.tup [(.agg [(.int .i64 (-1)),(.int .i64 (kam x15)),(.int .i64 (kam x17))]),(.bool false)]) else none else none
  else
   some (.tup [(.agg [(.int .i64 0),(.int .i64 0),(.int .i64 0)]),(.bool false)]) else none else none
def k1l:List AV:=[(vt 0)]
def kta (s:List UInt8) (σ:Nat->Nat):Val:=(kal ([.str s]) ([]) [] σ 0)
def qhe (s:List UInt8) (_σ:Nat->Nat):List AV:=[(.str s)]
def qhf (_s:List UInt8) (_σ:Nat->Nat):List Blk:=[]
theorem qhc (s:List UInt8) (σ:Nat->Nat):k1l.map (gm (kta s σ))=qhe s σ:=by kernel_rfl
theorem qhd (s:List UInt8) (σ:Nat->Nat):([]:List Blk).map (gB (kta s σ))=qhf s σ:=by kernel_rfl
set_option maxHeartbeats 10000000 in
theorem qhh (s:List UInt8) {r0:AV} (h:kom s=some r0):kak FF 113 [(.str s)] r0:=by
 unfold kom at h;have hσ: ∀ i j:Nat,(fun i:Nat=>i) i=(fun i:Nat=>i) j->i=j:=fun _ _ e=>e
 exact kbq (ρ:=kta s (fun i=>i)) (xs:=k1l) (by kernel_rfl) rfl rfl (by kernel_rfl) (fun z0 S=>have H:=Tok.start hσ S 0 1 0 0 ([.str s]) ([]) [] (.n) .n (qhc _ _) (qhd _ _);kac h (fun h0 h=>have H:=H.t 3 [.str (kad s),.bool (kao s)]|>.s [(vt 0),(.str [10])] (.tup [(vt 1),(vt 2)]) (kdg s h0);kac h (fun h1 h=>have H:=H.t 4 [.bool (!(kao s))]|>.f 1 [.im (List.map eT (kbd 32 (kad s))) true] (.c (OkF.im kae _ _) <| .n)|>.q 3 (.un .not (cT 2))|>.s [(vt 1),(.str [32])] (vf 0) (qox (kad s) h1);kaf h (fun h2 h=>have H:=H.m 3 true h2;H.e [] h) (fun h2 h=>have H:=H.t 6 [.int .i64 (yac (kbd 32 (kad s)):Int),.bool (!decide ((yac (kbd 32 (kad s)):Int)=3))]|>.q 5 (.bin .neq (cT 4) (cI 3))|>.m 3 false (bF h2)|>.L (vf 0) 4;kaf h (fun h3 h=>have H:=H.m 5 false (nT h3)|>.s [] kindsA kyu;kbb h (fun x4 h4 h=>have H:=H.t 8 [.str x4,.bool ([115,101,110,100] == x4)]|>.q 7 (.bin .eql (.c (.str [115,101,110,100])) (cT 6))|>.I (vf 0) (.int .i64 0) [(vt 6)] kae (by decide) h4;kaf h (fun h5 h=>have H:=H.m 7 true h5;kbb h (fun x6 h6 h=>have H:=H.t 9 [.str x6]|>.I (vf 0) (.int .i64 1) [(vt 8)] kae (by decide) h6;kac h (fun h7 h=>have H:=H.t 11 [.int .i64 (kam x6),.bool (kba x6)]|>.s [(vt 8)] (.tup [(vt 9),(vt 10)]) (kc6 x6 h7);kbb h (fun x8 h8 h=>have H:=H.t 12 [.str x8]|>.I (vf 0) (.int .i64 2) [(vt 11)] kae (by decide) h8;kac h (fun h9 h=>have H:=H.t 14 [.int .i64 (kam x8),.bool (kba x8)]|>.s [(vt 11)] (.tup [(vt 12),(vt 13)]) (kc6 x8 h9);kaf h (fun h10 h=>have H:=H.m 10 true h10;H.e [] h) (fun h10 h=>have H:=H.m 10 false (bF h10);H.e [] h)))))) (fun h5 h=>have H:=H.t 9 [.bool ([114,101,99,118] == x4)]|>.q 8 (.bin .eql (.c (.str [114,101,99,118])) (cT 6))|>.m 7 false (bF h5);kaf h (fun h6 h=>have H:=H.m 8 true h6;kbb h (fun x7 h7 h=>have H:=H.t 10 [.str x7]|>.I (vf 0) (.int .i64 1) [(vt 9)] kae (by decide) h7;kac h (fun h8 h=>have H:=H.t 12 [.int .i64 (kam x7),.bool (kba x7)]|>.s [(vt 9)] (.tup [(vt 10),(vt 11)]) (kc6 x7 h8);kbb h (fun x9 h9 h=>have H:=H.t 13 [.str x9]|>.I (vf 0) (.int .i64 2) [(vt 12)] kae (by decide) h9;kac h (fun h10 h=>have H:=H.t 15 [.int .i64 (kam x9),.bool (kba x9)]|>.s [(vt 12)] (.tup [(vt 13),(vt 14)]) (kc6 x9 h10);kaf h (fun h11 h=>have H:=H.m 11 true h11;H.e [] h) (fun h11 h=>have H:=H.m 11 false (bF h11);H.e [] h)))))) (fun h6 h=>have H:=H.t 10 [.bool ([116,114,121] == x4)]|>.q 9 (.bin .eql (.c (.str [116,114,121])) (cT 6))|>.m 8 false (bF h6);kaf h (fun h7 h=>have H:=H.m 9 true h7;kbb h (fun x8 h8 h=>have H:=H.t 11 [.str x8]|>.I (vf 0) (.int .i64 1) [(vt 10)] kae (by decide) h8;kac h (fun h9 h=>have H:=H.t 13 [.int .i64 (kam x8),.bool (kba x8)]|>.s [(vt 10)] (.tup [(vt 11),(vt 12)]) (kc6 x8 h9);kbb h (fun x10 h10 h=>have H:=H.t 14 [.str x10]|>.I (vf 0) (.int .i64 2) [(vt 13)] kae (by decide) h10;kac h (fun h11 h=>have H:=H.t 16 [.int .i64 (kam x10),.bool (kba x10)]|>.s [(vt 13)] (.tup [(vt 14),(vt 15)]) (kc6 x10 h11);kaf h (fun h12 h=>have H:=H.m 12 true h12;H.e [] h) (fun h12 h=>have H:=H.m 12 false (bF h12);H.e [] h)))))) (fun h7 h=>have H:=H.t 11 [.bool ([112,117,116] == x4)]|>.q 10 (.bin .eql (.c (.str [112,117,116])) (cT 6))|>.m 9 false (bF h7);kaf h (fun h8 h=>have H:=H.m 10 true h8;kbb h (fun x9 h9 h=>have H:=H.t 12 [.str x9]|>.I (vf 0) (.int .i64 1) [(vt 11)] kae (by decide) h9;kac h (fun h10 h=>have H:=H.t 14 [.int .i64 (kam x9),.bool (kba x9)]|>.s [(vt 11)] (.tup [(vt 12),(vt 13)]) (kc6 x9 h10);kbb h (fun x11 h11 h=>have H:=H.t 15 [.str x11]|>.I (vf 0) (.int .i64 2) [(vt 14)] kae (by decide) h11;kac h (fun h12 h=>have H:=H.t 17 [.int .i64 (kam x11),.bool (kba x11)]|>.s [(vt 14)] (.tup [(vt 15),(vt 16)]) (kc6 x11 h12);kaf h (fun h13 h=>have H:=H.m 13 true h13;H.e [] h) (fun h13 h=>have H:=H.m 13 false (bF h13);H.e [] h)))))) (fun h8 h=>have H:=H.t 12 [.bool ([108,111,111,107] == x4)]|>.q 11 (.bin .eql (.c (.str [108,111,111,107])) (cT 6))|>.m 10 false (bF h8);kaf h (fun h9 h=>have H:=H.m 11 true h9;kbb h (fun x10 h10 h=>have H:=H.t 13 [.str x10]|>.I (vf 0) (.int .i64 1) [(vt 12)] kae (by decide) h10;kac h (fun h11 h=>have H:=H.t 15 [.int .i64 (kam x10),.bool (kba x10)]|>.s [(vt 12)] (.tup [(vt 13),(vt 14)]) (kc6 x10 h11);kbb h (fun x12 h12 h=>have H:=H.t 16 [.str x12]|>.I (vf 0) (.int .i64 2) [(vt 15)] kae (by decide) h12;kac h (fun h13 h=>have H:=H.t 18 [.int .i64 (kam x12),.bool (kba x12)]|>.s [(vt 15)] (.tup [(vt 16),(vt 17)]) (kc6 x12 h13);kaf h (fun h14 h=>have H:=H.m 14 true h14;H.e [] h) (fun h14 h=>have H:=H.m 14 false (bF h14);H.e [] h)))))) (fun h9 h=>have H:=H.t 13 [.bool ([99,117,116] == x4)]|>.q 12 (.bin .eql (.c (.str [99,117,116])) (cT 6))|>.m 11 false (bF h9);kaf h (fun h10 h=>have H:=H.m 12 true h10;kbb h (fun x11 h11 h=>have H:=H.t 14 [.str x11]|>.I (vf 0) (.int .i64 1) [(vt 13)] kae (by decide) h11;kac h (fun h12 h=>have H:=H.t 16 [.int .i64 (kam x11),.bool (kba x11)]|>.s [(vt 13)] (.tup [(vt 14),(vt 15)]) (kc6 x11 h12);kbb h (fun x13 h13 h=>have H:=H.t 17 [.str x13]|>.I (vf 0) (.int .i64 2) [(vt 16)] kae (by decide) h13;kac h (fun h14 h=>have H:=H.t 19 [.int .i64 (kam x13),.bool (kba x13)]|>.s [(vt 16)] (.tup [(vt 17),(vt 18)]) (kc6 x13 h14);kaf h (fun h15 h=>have H:=H.m 15 true h15;H.e [] h) (fun h15 h=>have H:=H.m 15 false (bF h15);H.e [] h)))))) (fun h10 h=>have H:=H.t 14 [.bool ([115,101,116] == x4)]|>.q 13 (.bin .eql (.c (.str [115,101,116])) (cT 6))|>.m 12 false (bF h10);kaf h (fun h11 h=>have H:=H.m 13 true h11;kbb h (fun x12 h12 h=>have H:=H.t 15 [.str x12]|>.I (vf 0) (.int .i64 1) [(vt 14)] kae (by decide) h12;kac h (fun h13 h=>have H:=H.t 17 [.int .i64 (kam x12),.bool (kba x12)]|>.s [(vt 14)] (.tup [(vt 15),(vt 16)]) (kc6 x12 h13);kbb h (fun x14 h14 h=>have H:=H.t 18 [.str x14]|>.I (vf 0) (.int .i64 2) [(vt 17)] kae (by decide) h14;kac h (fun h15 h=>have H:=H.t 20 [.int .i64 (kam x14),.bool (kba x14)]|>.s [(vt 17)] (.tup [(vt 18),(vt 19)]) (kc6 x14 h15);kaf h (fun h16 h=>have H:=H.m 16 true h16;H.e [] h) (fun h16 h=>have H:=H.m 16 false (bF h16);H.e [] h)))))) (fun h11 h=>have H:=H.t 15 [.bool ([114,101,115,101,116] == x4)]|>.q 14 (.bin .eql (.c (.str [114,101,115,101,116])) (cT 6))|>.m 13 false (bF h11);kaf h (fun h12 h=>have H:=H.m 14 true h12;kbb h (fun x13 h13 h=>have H:=H.t 16 [.str x13]|>.I (vf 0) (.int .i64 1) [(vt 15)] kae (by decide) h13;kac h (fun h14 h=>have H:=H.t 18 [.int .i64 (kam x13),.bool (kba x13)]|>.s [(vt 15)] (.tup [(vt 16),(vt 17)]) (kc6 x13 h14);kbb h (fun x15 h15 h=>have H:=H.t 19 [.str x15]|>.I (vf 0) (.int .i64 2) [(vt 18)] kae (by decide) h15;kac h (fun h16 h=>have H:=H.t 21 [.int .i64 (kam x15),.bool (kba x15)]|>.s [(vt 18)] (.tup [(vt 19),(vt 20)]) (kc6 x15 h16);kaf h (fun h17 h=>have H:=H.m 17 true h17;H.e [] h) (fun h17 h=>have H:=H.m 17 false (bF h17);H.e [] h)))))) (fun h12 h=>have H:=H.t 16 [.bool ([116,101,115,116] == x4)]|>.q 15 (.bin .eql (.c (.str [116,101,115,116])) (cT 6))|>.m 14 false (bF h12);kaf h (fun h13 h=>have H:=H.m 15 true h13;kbb h (fun x14 h14 h=>have H:=H.t 17 [.str x14]|>.I (vf 0) (.int .i64 1) [(vt 16)] kae (by decide) h14;kac h (fun h15 h=>have H:=H.t 19 [.int .i64 (kam x14),.bool (kba x14)]|>.s [(vt 16)] (.tup [(vt 17),(vt 18)]) (kc6 x14 h15);kbb h (fun x16 h16 h=>have H:=H.t 20 [.str x16]|>.I (vf 0) (.int .i64 2) [(vt 19)] kae (by decide) h16;kac h (fun h17 h=>have H:=H.t 22 [.int .i64 (kam x16),.bool (kba x16)]|>.s [(vt 19)] (.tup [(vt 20),(vt 21)]) (kc6 x16 h17);kaf h (fun h18 h=>have H:=H.m 18 true h18;H.e [] h) (fun h18 h=>have H:=H.m 18 false (bF h18);H.e [] h)))))) (fun h13 h=>have H:=H.t 17 [.bool ([121,105,101,108,100] == x4)]|>.q 16 (.bin .eql (.c (.str [121,105,101,108,100])) (cT 6))|>.m 15 false (bF h13);kaf h (fun h14 h=>have H:=H.m 16 true h14;kbb h (fun x15 h15 h=>have H:=H.t 18 [.str x15]|>.I (vf 0) (.int .i64 1) [(vt 17)] kae (by decide) h15;kac h (fun h16 h=>have H:=H.t 20 [.int .i64 (kam x15),.bool (kba x15)]|>.s [(vt 17)] (.tup [(vt 18),(vt 19)]) (kc6 x15 h16);kbb h (fun x17 h17 h=>have H:=H.t 21 [.str x17]|>.I (vf 0) (.int .i64 2) [(vt 20)] kae (by decide) h17;kac h (fun h18 h=>have H:=H.t 23 [.int .i64 (kam x17),.bool (kba x17)]|>.s [(vt 20)] (.tup [(vt 21),(vt 22)]) (kc6 x17 h18);kaf h (fun h19 h=>have H:=H.m 19 true h19;H.e [] h) (fun h19 h=>have H:=H.m 19 false (bF h19);H.e [] h)))))) (fun h14 h=>have H:=H.m 16 false (bF h14);kbb h (fun x15 h15 h=>have H:=H.t 18 [.str x15]|>.I (vf 0) (.int .i64 1) [(vt 17)] kae (by decide) h15;kac h (fun h16 h=>have H:=H.t 20 [.int .i64 (kam x15),.bool (kba x15)]|>.s [(vt 17)] (.tup [(vt 18),(vt 19)]) (kc6 x15 h16);kbb h (fun x17 h17 h=>have H:=H.t 21 [.str x17]|>.I (vf 0) (.int .i64 2) [(vt 20)] kae (by decide) h17;kac h (fun h18 h=>have H:=H.t 23 [.int .i64 (kam x17),.bool (kba x17)]|>.s [(vt 20)] (.tup [(vt 21),(vt 22)]) (kc6 x17 h18);H.e [] h)))))))))))))))) (fun h3 h=>have H:=H.m 5 true (nF h3);H.e [] h)))))
theorem qq9 (w:List UInt8):w=[115,101,110,100]\/w=[114,101,99,118]\/w=[116,114,121]\/w=[112,117,116]\/w=[108,111,111,107]\/w=[99,117,116]\/w=[115,101,116]\/w=[114,101,115,101,116]\/w=[116,101,115,116]\/w=[121,105,101,108,100]\/(¬ [115,101,110,100]=w/\ ¬ [114,101,99,118]=w/\ ¬ [116,114,121]=w/\ ¬ [112,117,116]=w/\ ¬ [108,111,111,107]=w/\ ¬ [99,117,116]=w/\ ¬ [115,101,116]=w/\ ¬ [114,101,115,101,116]=w/\ ¬ [116,101,115,116]=w/\ ¬ [121,105,101,108,100]=w):=by
 by_cases h0:w=[115,101,110,100]
 ·exact .inl h0
 by_cases h1:w=[114,101,99,118]
 ·exact .inr (.inl h1)
 by_cases h2:w=[116,114,121]
 ·exact .inr (.inr (.inl h2))
 by_cases h3:w=[112,117,116]
 ·exact .inr (.inr (.inr (.inl h3)))
 by_cases h4:w=[108,111,111,107]
 ·exact .inr (.inr (.inr (.inr (.inl h4))))
 by_cases h5:w=[99,117,116]
 ·exact .inr (.inr (.inr (.inr (.inr (.inl h5)))))
 by_cases h6:w=[115,101,116]
 ·exact .inr (.inr (.inr (.inr (.inr (.inr (.inl h6))))))
 by_cases h7:w=[114,101,115,101,116]
 ·exact .inr (.inr (.inr (.inr (.inr (.inr (.inr (.inl h7)))))))
 by_cases h8:w=[116,101,115,116]
 ·exact .inr (.inr (.inr (.inr (.inr (.inr (.inr (.inr (.inl h8))))))))
 by_cases h9:w=[121,105,101,108,100]
 ·exact .inr (.inr (.inr (.inr (.inr (.inr (.inr (.inr (.inr (.inl h9)))))))))
 exact .inr (.inr (.inr (.inr (.inr (.inr (.inr (.inr (.inr (.inr (⟨fun e=>h0 e.symm,fun e=>h1 e.symm,fun e=>h2 e.symm,fun e=>h3 e.symm,fun e=>h4 e.symm,fun e=>h5 e.symm,fun e=>h6 e.symm,fun e=>h7 e.symm,fun e=>h8 e.symm,fun e=>h9 e.symm⟩))))))))))
theorem qhg (s:List UInt8) (hl:s.length<=1000000):kom s=some (.tup [(kas s).av,.bool (kau s)]):=by
 have hc:=kxf s;unfold kom kas kau;rw[iq hl,iq (by omega)];by_cases he:kao s=true
 ·rw[ir (by simp[he]),iq he,he];have hm: ∀ p ∈ kbd 32 (kad s),p.length<=1000000:=fun p hp=>Nat.le_trans (ko9 hp) (by omega)
  generalize kbd 32 (kad s)=L at hm ⊢
  match L,hm with
  | [],_=>rfl
  | [_],_=>rfl
  | [_,_],_=>rfl
  |_::_::_::_::_,_=>rw[ir (by simp only[List.length_cons];omega)];rfl
  | [w,a,b],hm=>
    have ha:a.length<=1000000:=hm a (by simp);have hb:b.length<=1000000:=hm b (by simp);rw[iq (by simp)];simp only[show yab 0=0 from rfl,show yab 1=1 from rfl,show yab 2=2 from rfl,List.getElem?_cons_zero,List.getElem?_cons_succ,Option.bind_some,ha,hb,if_true,beq_iff_eq];rcases qq9 w with rfl |rfl |rfl |rfl |rfl |rfl |rfl |rfl |rfl |rfl | ⟨h0,h1,h2,h3,h4,h5,h6,h7,h8,h9⟩
    case inr.inr.inr.inr.inr.inr.inr.inr.inr.inr=>
     rw[ir h0,ir h1,ir h2,ir h3,ir h4,ir h5,ir h6,ir h7,ir h8,ir h9];have hw:kfn w= -1:=by
      unfold kfn;rw[ir (Ne.symm h0),ir (Ne.symm h1),ir (Ne.symm h2),ir (Ne.symm h3),ir (Ne.symm h4),ir (Ne.symm h5),ir (Ne.symm h6),ir (Ne.symm h7),ir (Ne.symm h8),ir (Ne.symm h9)]
     simp[hw,Cl.av]
    all_goals
     by_cases hn:kba a=true
     ·simp[kfn,Cl.av,hn]
     ·simp[kfn,Cl.av,hn]
 ·rw[iq (by simp[he]),ir he];simp[he,Cl.av]
theorem knn (s:List UInt8) (hl:s.length<=1000000):kak FF 113 [.str s] (.tup [(kas s).av,.bool (kau s)]):=qhh s (qhg s hl)
end Go.Proofs.Hz
