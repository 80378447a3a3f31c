/-
  'hazellaw20.ToolMoves' returns true for every input, and its arguments read afterwards as they read before; the card.
  Conditions: none.
-/
import Derived.Test.YtamikoglpnoicaaGreatDoorT41
import Derived.Test.YtamikoglpnoicaaGreatDoorT42
open Go Go.Proofs
namespace Go.Proofs.Hz
theorem kdh {n:Int} (h: -9223372036854775808≤n∧n≤9223372036854775807):w64 n=n:=by
 unfold w64 IntKind.wrap
 simp[IntKind.signed,IntKind.bits]
 omega
end Go.Proofs.Hz
open Go Go.Proofs
namespace Go.Proofs.Hz
def kl0 (x:Td) (m:Mov):Option AV:=
 if(!(fewT x))=true then
  some (.bool true)
 else
  if kb2 x=true then if(!(ka6 x))=true then
   some (.bool true)
  else
   if(List.length x.m:Int) > 998 then
    some (.bool true)
   else
    if x.m=[] then
     if kbx x=true then if List.length (wS x)≤900000 then letB (kat (wS x)) fun x7=>
     if kbx (Td.mk x.n0 x.n1 x.n2 x.t x.bt ([(Mov.mk m.kind m.n)]) false)=true then if m.kind ≥ 0 then
      if m.kind≤2 then
         if m.n ≥ 0 then
          if(!((decide ((wE (Td.mk x.n0 x.n1 x.n2 x.t x.bt ([(Mov.mk m.kind m.n)]) false))=0)) == (decide (m.n≤9999))))=true then
           none
          else
           if List.length (wS (Td.mk x.n0 x.n1 x.n2 x.t x.bt ([(Mov.mk m.kind m.n)]) false))≤900000 then letB (kat (wS (Td.mk x.n0 x.n1 x.n2 x.t x.bt ([(Mov.mk m.kind m.n)]) false))) fun x14=>
           if List.length (wS x)+List.length [112,105,99,107,32,49,48,48,48,48,10]≤140737488355328 then letB (((wS x)++[112,105,99,107,32,49,48,48,48,48,10])) fun x16=>
           if List.length x16≤900000 then letB (kat x16) fun x18=>
           if(!(decide (m.n≤9999)))=true then
             if x18.2.2=1 then
              some (.bool (decide (x18.2.1=(w64 (x7.2.1+1)))))
             else
              none
           else
             if x14.2.2=0 then
              if x14.2.1=(w64 (x7.2.1+1)) then
               if kb2 x14.1=true then if(kbj x14.1 (Td.mk x.n0 x.n1 x.n2 x.t x.bt ([(Mov.mk m.kind m.n)]) false))=true then
                if 0≤(List.length (wS x):Int)∧(List.length (wS x):Int)≤(List.length (wS (Td.mk x.n0 x.n1 x.n2 x.t x.bt ([(Mov.mk m.kind m.n)]) false)):Int) then if((List.take (Int.toNat (List.length (wS x):Int)) (wS (Td.mk x.n0 x.n1 x.n2 x.t x.bt ([(Mov.mk m.kind m.n)]) false))) == (wS x))=true then
                 if x18.2.2=1 then
                  some (.bool (decide (x18.2.1=(w64 (x7.2.1+1)))))
                 else
                  none
                else
                 none else none
               else
                none else none
              else
               none
             else
              none else none else none else none
         else
          if(!((decide ((wE (Td.mk x.n0 x.n1 x.n2 x.t x.bt ([(Mov.mk m.kind m.n)]) false))=0)) == false))=true then
           none
          else
           if List.length (wS (Td.mk x.n0 x.n1 x.n2 x.t x.bt ([(Mov.mk m.kind m.n)]) false))≤900000 then letB (kat (wS (Td.mk x.n0 x.n1 x.n2 x.t x.bt ([(Mov.mk m.kind m.n)]) false))) fun x14=>
           if List.length (wS x)+List.length [112,105,99,107,32,49,48,48,48,48,10]≤140737488355328 then letB (((wS x)++[112,105,99,107,32,49,48,48,48,48,10])) fun x16=>
           if List.length x16≤900000 then letB (kat x16) fun x18=>
           if x18.2.2=1 then
             some (.bool (decide (x18.2.1=(w64 (x7.2.1+1)))))
           else
             none else none else none else none
      else
         if(!((decide ((wE (Td.mk x.n0 x.n1 x.n2 x.t x.bt ([(Mov.mk m.kind m.n)]) false))=0)) == false))=true then
          none
         else
          if List.length (wS (Td.mk x.n0 x.n1 x.n2 x.t x.bt ([(Mov.mk m.kind m.n)]) false))≤900000 then letB (kat (wS (Td.mk x.n0 x.n1 x.n2 x.t x.bt ([(Mov.mk m.kind m.n)]) false))) fun x13=>
          if List.length (wS x)+List.length [112,105,99,107,32,49,48,48,48,48,10]≤140737488355328 then letB (((wS x)++[112,105,99,107,32,49,48,48,48,48,10])) fun x15=>
          if List.length x15≤900000 then letB (kat x15) fun x17=>
          if x17.2.2=1 then
           some (.bool (decide (x17.2.1=(w64 (x7.2.1+1)))))
          else
           none else none else none else none
     else
      if(!((decide ((wE (Td.mk x.n0 x.n1 x.n2 x.t x.bt ([(Mov.mk m.kind m.n)]) false))=0)) == false))=true then
         none
      else
         if List.length (wS (Td.mk x.n0 x.n1 x.n2 x.t x.bt ([(Mov.mk m.kind m.n)]) false))≤900000 then letB (kat (wS (Td.mk x.n0 x.n1 x.n2 x.t x.bt ([(Mov.mk m.kind m.n)]) false))) fun x12=>
         if List.length (wS x)+List.length [112,105,99,107,32,49,48,48,48,48,10]≤140737488355328 then letB (((wS x)++[112,105,99,107,32,49,48,48,48,48,10])) fun x14=>
         if List.length x14≤900000 then letB (kat x14) fun x16=>
         if x16.2.2=1 then
          some (.bool (decide (x16.2.1=(w64 (x7.2.1+1)))))
         else
          none else none else none else none else none else none else none
    else
     if(List.length ([]:List Mov)+List.length x.m)*16≤kah∧List.length ([]:List Mov)+List.length x.m≤kah then if(List.length x.m+List.length [(Mov.mk m.kind m.n)])*16≤kah∧List.length x.m+List.length [(Mov.mk m.kind m.n)]≤kah then if kbx x=true then if List.length (wS x)≤900000 then letB (kat (wS x)) fun x9=>
     if kbx (Td.mk x.n0 x.n1 x.n2 x.t x.bt (x.m++[(Mov.mk m.kind m.n)]) false)=true then if m.kind ≥ 0 then
      if m.kind≤2 then
         if m.n ≥ 0 then
          if(!((decide ((wE (Td.mk x.n0 x.n1 x.n2 x.t x.bt (x.m++[(Mov.mk m.kind m.n)]) false))=0)) == (decide (m.n≤9999))))=true then
           none
          else
           if List.length (wS (Td.mk x.n0 x.n1 x.n2 x.t x.bt (x.m++[(Mov.mk m.kind m.n)]) false))≤900000 then letB (kat (wS (Td.mk x.n0 x.n1 x.n2 x.t x.bt (x.m++[(Mov.mk m.kind m.n)]) false))) fun x16=>
           if List.length (wS x)+List.length [112,105,99,107,32,49,48,48,48,48,10]≤140737488355328 then letB (((wS x)++[112,105,99,107,32,49,48,48,48,48,10])) fun x18=>
           if List.length x18≤900000 then letB (kat x18) fun x20=>
           if(!(decide (m.n≤9999)))=true then
             if x20.2.2=1 then
              some (.bool (decide (x20.2.1=(w64 (x9.2.1+1)))))
             else
              none
           else
             if x16.2.2=0 then
              if x16.2.1=(w64 (x9.2.1+1)) then
               if kb2 x16.1=true then if(kbj x16.1 (Td.mk x.n0 x.n1 x.n2 x.t x.bt (x.m++[(Mov.mk m.kind m.n)]) false))=true then
                if 0≤(List.length (wS x):Int)∧(List.length (wS x):Int)≤(List.length (wS (Td.mk x.n0 x.n1 x.n2 x.t x.bt (x.m++[(Mov.mk m.kind m.n)]) false)):Int) then if((List.take (Int.toNat (List.length (wS x):Int)) (wS (Td.mk x.n0 x.n1 x.n2 x.t x.bt (x.m++[(Mov.mk m.kind m.n)]) false))) == (wS x))=true then
                 if x20.2.2=1 then
                  some (.bool (decide (x20.2.1=(w64 (x9.2.1+1)))))
                 else
                  none
                else
                 none else none
               else
                none else none
              else
               none
             else
              none else none else none else none
         else
          if(!((decide ((wE (Td.mk x.n0 x.n1 x.n2 x.t x.bt (x.m++[(Mov.mk m.kind m.n)]) false))=0)) == false))=true then
           none
          else
           if List.length (wS (Td.mk x.n0 x.n1 x.n2 x.t x.bt (x.m++[(Mov.mk m.kind m.n)]) false))≤900000 then letB (kat (wS (Td.mk x.n0 x.n1 x.n2 x.t x.bt (x.m++[(Mov.mk m.kind m.n)]) false))) fun x16=>
           if List.length (wS x)+List.length [112,105,99,107,32,49,48,48,48,48,10]≤140737488355328 then letB (((wS x)++[112,105,99,107,32,49,48,48,48,48,10])) fun x18=>
           if List.length x18≤900000 then letB (kat x18) fun x20=>
           if x20.2.2=1 then
             some (.bool (decide (x20.2.1=(w64 (x9.2.1+1)))))
           else
             none else none else none else none
      else
         if(!((decide ((wE (Td.mk x.n0 x.n1 x.n2 x.t x.bt (x.m++[(Mov.mk m.kind m.n)]) false))=0)) == false))=true then
          none
         else
          if List.length (wS (Td.mk x.n0 x.n1 x.n2 x.t x.bt (x.m++[(Mov.mk m.kind m.n)]) false))≤900000 then letB (kat (wS (Td.mk x.n0 x.n1 x.n2 x.t x.bt (x.m++[(Mov.mk m.kind m.n)]) false))) fun x15=>
          if List.length (wS x)+List.length [112,105,99,107,32,49,48,48,48,48,10]≤140737488355328 then letB (((wS x)++[112,105,99,107,32,49,48,48,48,48,10])) fun x17=>
          if List.length x17≤900000 then letB (kat x17) fun x19=>
          if x19.2.2=1 then
           some (.bool (decide (x19.2.1=(w64 (x9.2.1+1)))))
          else
           none else none else none else none
     else
      if(!((decide ((wE (Td.mk x.n0 x.n1 x.n2 x.t x.bt (x.m++[(Mov.mk m.kind m.n)]) false))=0)) == false))=true then
         none
      else
         if List.length (wS (Td.mk x.n0 x.n1 x.n2 x.t x.bt (x.m++[(Mov.mk m.kind m.n)]) false))≤900000 then letB (kat (wS (Td.mk x.n0 x.n1 x.n2 x.t x.bt (x.m++[(Mov.mk m.kind m.n)]) false))) fun x14=>
         if List.length (wS x)+List.length [112,105,99,107,32,49,48,48,48,48,10]≤140737488355328 then letB (((wS x)++[112,105,99,107,32,49,48,48,48,48,10])) fun x16=>
         if List.length x16≤900000 then letB (kat x16) fun x18=>
         if x18.2.2=1 then
          some (.bool (decide (x18.2.1=(w64 (x9.2.1+1)))))
         else
          none else none else none else none else none else none else none else none else none else none
def kv3:List AV:=[(.agg [(vt 0),(vt 1),(vt 2),(vf 0),(vf 1)]),(.agg [(vt 3),(vt 4)])]
def kpj (x:Td) (m:Mov) (σ:Nat→Nat):Val:=(valL ([.int .i64 x.n0,.int .i64 x.n1,.int .i64 x.n2,.int .i64 m.kind,.int .i64 m.n]) ([.im (List.map eR x.t) x.bt,.im (List.map eM x.m) x.bm]) [] σ 0)
def k79 (x:Td) (m:Mov) (_σ:Nat→Nat):List AV:=[(.agg [(.int .i64 x.n0),(.int .i64 x.n1),(.int .i64 x.n2),(.im (List.map eR x.t) x.bt),(.im (List.map eM x.m) x.bm)]),(.agg [(.int .i64 m.kind),(.int .i64 m.n)])]
def k8a (_x:Td) (_m:Mov) (_σ:Nat→Nat):List Blk:=[]
theorem k77 (x:Td) (m:Mov) (σ:Nat→Nat):kv3.map (gm (kpj x m σ))=k79 x m σ:=by kernel_rfl
theorem k78 (x:Td) (m:Mov) (σ:Nat→Nat):([]:List Blk).map (gB (kpj x m σ))=k8a x m σ:=by kernel_rfl
set_option maxHeartbeats 10000000 in
theorem k8c (x:Td) (m:Mov) {r0:AV} (h:kl0 x m=some r0):Spec FF 6 [(.agg [(.int .i64 x.n0),(.int .i64 x.n1),(.int .i64 x.n2),(.im (List.map eR x.t) x.bt),(.im (List.map eM x.m) x.bm)]),(.agg [(.int .i64 m.kind),(.int .i64 m.n)])] r0:=by
 unfold kl0 at h
 have hσ: ∀ i j:Nat,(fun i:Nat=>i) i=(fun i:Nat=>i) j→i=j:=fun _ _ e=>e
 exact kbk (ρ:=kpj x m (fun i=>i)) (xs:=kv3) (by kernel_rfl) rfl rfl (by kernel_rfl) (fun z0 S=>have H:=Tok.start hσ S 0 5 2 0 ([.int .i64 x.n0,.int .i64 x.n1,.int .i64 x.n2,.int .i64 m.kind,.int .i64 m.n]) ([.im (List.map eR x.t) x.bt,.im (List.map eM x.m) x.bm]) [] (.c (OkF.im kau _ _) <| .c (OkF.im kam _ _) <| .n) .n (k77 x m _) (k78 x m _);have H:=H.t 7 [.bool (fewT x),.bool (!(fewT x))]|>.r [(.un .not (cT 5),(vt 6))]|>.s [] (.bool true) kmo|>.s [(.agg [(vt 0),(vt 1),(vt 2),(vf 0),(vf 1)])] (vt 5) (kkm x);iteE h (fun h0 h=>have H:=H.m 6 true h0;H.e [] h) (fun h0 h=>have H:=H.m 6 false (bF h0);reqE h (fun h1 h=>have H:=H.t 9 [.bool (ka6 x),.bool (!(ka6 x))]|>.r [(.un .not (cT 7),(vt 8))]|>.s [(.agg [(vt 0),(vt 1),(vt 2),(vf 0),(vf 1)])] (vt 7) (khu x h1);iteE h (fun h2 h=>have H:=H.m 8 true h2;H.e [] h) (fun h2 h=>have H:=H.t 11 [.int .i64 (List.length x.m:Int),.bool (decide ((List.length x.m:Int) > 998))]|>.r [(.bin .gtr (cT 9) (cI 998),(vt 10))]|>.m 8 false (bF h2)|>.c (p:=(.len 0 (cF 1),(vt 9))) (fun _ _ _=>fLen (e:=eM) (l:=x.m) (b:=x.bm) (by kernel_rfl) (by kernel_rfl));iteE h (fun h3 h=>have H:=H.m 10 true (decide_eq_true h3);H.e [] h) (fun h3 h=>have H:=H.m 10 false (decide_eq_false h3);iteE h (fun h4 h=>have H:=H.c (p:=(.app 45 2 16 (.c (.sl 3 0 0 2 (some 0))) (cF 1),(.sl 3 0 0 2 (some 0)))) (fun _ _ _=>kn9 (x:=(vf 1)) (c:=x.bm) (show gm _ _=_ from(show gm _ _= .im (List.map eM x.m) x.bm from(by kernel_rfl)).trans (by rw[h4];rfl)) (by decide));reqE h (fun h5 h=>have H:=H.t 13 [.str (wS x),.int .i64 (wE x)]|>.s [(.agg [(vt 0),(vt 1),(vt 2),(vf 0),(vf 1)])] (.tup [(vt 11),(vt 12)]) (kea x h5);reqE h (fun h6 h=>letE h (fun x7 h7 h=>have H:=H.t 18 [.int .i64 x7.1.n0,.int .i64 x7.1.n1,.int .i64 x7.1.n2,.int .i64 x7.2.1,.int .i64 x7.2.2]|>.f 4 [.im (List.map eR x7.1.t) x7.1.bt,.im (List.map eM x7.1.m) x7.1.bm] (.c (OkF.im kau _ _) <| .c (OkF.im kam _ _) <| .n)|>.s [(vt 11)] (.tup [(.agg [(vt 13),(vt 14),(vt 15),(vf 2),(vf 3)]),(vt 16),(vt 17)]) (kb0 (wS x) h6 h7);reqE h (fun h8 h=>have H:=H.t 21 [.str (wS (Td.mk x.n0 x.n1 x.n2 x.t x.bt ([(Mov.mk m.kind m.n)]) false)),.int .i64 (wE (Td.mk x.n0 x.n1 x.n2 x.t x.bt ([(Mov.mk m.kind m.n)]) false)),.bool (decide (m.kind ≥ 0))]|>.r [(.bin .geq (cT 3) (cI 0),(vt 20))]|>.s [(.agg [(vt 0),(vt 1),(vt 2),(vf 0),(.im [[(vt 3),(vt 4)]] false)])] (.tup [(vt 18),(vt 19)]) (kea (Td.mk x.n0 x.n1 x.n2 x.t x.bt ([(Mov.mk m.kind m.n)]) false) h8);iteE h (fun h9 h=>have H:=H.t 22 [.bool (decide (m.kind≤2))]|>.r [(.bin .leq (cT 3) (cI 2),(vt 21))]|>.m 20 true (decide_eq_true h9);iteE h (fun h10 h=>have H:=H.t 23 [.bool (decide (m.n ≥ 0))]|>.r [(.bin .geq (cT 4) (cI 0),(vt 22))]|>.m 21 true (decide_eq_true h10);iteE h (fun h11 h=>have H:=H.t 26 [.bool (decide (m.n≤9999)),.bool (decide ((wE (Td.mk x.n0 x.n1 x.n2 x.t x.bt ([(Mov.mk m.kind m.n)]) false))=0)),.bool (!((decide ((wE (Td.mk x.n0 x.n1 x.n2 x.t x.bt ([(Mov.mk m.kind m.n)]) false))=0)) == (decide (m.n≤9999))))]|>.r [(.bin .leq (cT 4) (cI 9999),(vt 23)),(.bin .eql (cT 19) (cI 0),(vt 24)),(.eqb true (cT 24) (cT 23),(vt 25))]|>.m 22 true (decide_eq_true h11);iteE h (fun _ h=>nomatch h) (fun h12 h=>have H:=H.m 25 false (bF h12);reqE h (fun h13 h=>letE h (fun x14 h14 h=>have H:=H.t 31 [.int .i64 x14.1.n0,.int .i64 x14.1.n1,.int .i64 x14.1.n2,.int .i64 x14.2.1,.int .i64 x14.2.2]|>.f 6 [.im (List.map eR x14.1.t) x14.1.bt,.im (List.map eM x14.1.m) x14.1.bm] (.c (OkF.im kau _ _) <| .c (OkF.im kam _ _) <| .n)|>.s [(vt 18)] (.tup [(.agg [(vt 26),(vt 27),(vt 28),(vf 4),(vf 5)]),(vt 29),(vt 30)]) (kb0 (wS (Td.mk x.n0 x.n1 x.n2 x.t x.bt ([(Mov.mk m.kind m.n)]) false)) h13 h14);reqE h (fun h15 h=>letE h (fun x16 h16 h=>have H:=H.t 32 [.str x16]|>.c (p:=(.bin .add (cT 11) (.c (.str [112,105,99,107,32,49,48,48,48,48,10])),(vt 31))) (fun _ _ _=>fCat (a:=(wS x)) (b:=[112,105,99,107,32,49,48,48,48,48,10]) (by kernel_rfl) (by kernel_rfl) h15 (by subst h16;kernel_rfl));reqE h (fun h17 h=>letE h (fun x18 h18 h=>have H:=H.t 38 [.int .i64 x18.1.n0,.int .i64 x18.1.n1,.int .i64 x18.1.n2,.int .i64 x18.2.1,.int .i64 x18.2.2,.bool (!(decide (m.n≤9999)))]|>.f 8 [.im (List.map eR x18.1.t) x18.1.bt,.im (List.map eM x18.1.m) x18.1.bm] (.c (OkF.im kau _ _) <| .c (OkF.im kam _ _) <| .n)|>.r [(.un .not (cT 23),(vt 37))]|>.s [(vt 31)] (.tup [(.agg [(vt 32),(vt 33),(vt 34),(vf 6),(vf 7)]),(vt 35),(vt 36)]) (kb0 x16 h17 h18);iteE h (fun h19 h=>have H:=H.t 39 [.bool (decide (x18.2.2=1))]|>.r [(.bin .eql (cT 36) (cI 1),(vt 38))]|>.m 37 true h19;iteE h (fun h20 h=>have H:=H.t 41 [.int .i64 (w64 (x7.2.1+1)),.bool (decide (x18.2.1=(w64 (x7.2.1+1))))]|>.r [(.bin .add (cT 16) (cI 1),(vt 39)),(.bin .eql (cT 35) (cT 39),(vt 40))]|>.m 38 true (decide_eq_true h20);H.e [] h) (fun _ h=>nomatch h)) (fun h19 h=>have H:=H.t 39 [.bool (decide (x14.2.2=0))]|>.r [(.bin .eql (cT 30) (cI 0),(vt 38))]|>.m 37 false (bF h19);iteE h (fun h20 h=>have H:=H.t 41 [.int .i64 (w64 (x7.2.1+1)),.bool (decide (x14.2.1=(w64 (x7.2.1+1))))]|>.r [(.bin .add (cT 16) (cI 1),(vt 39)),(.bin .eql (cT 29) (cT 39),(vt 40))]|>.m 38 true (decide_eq_true h20);iteE h (fun h21 h=>have H:=H.m 40 true (decide_eq_true h21);reqE h (fun h22 h=>have H:=H.t 42 [.bool (kbj x14.1 (Td.mk x.n0 x.n1 x.n2 x.t x.bt ([(Mov.mk m.kind m.n)]) false))]|>.s [(.agg [(vt 26),(vt 27),(vt 28),(vf 4),(vf 5)]),(.agg [(vt 0),(vt 1),(vt 2),(vf 0),(.im [[(vt 3),(vt 4)]] false)])] (vt 41) (kgb x14.1 (Td.mk x.n0 x.n1 x.n2 x.t x.bt ([(Mov.mk m.kind m.n)]) false) h22);iteE h (fun h23 h=>have H:=H.t 43 [.int .i64 (List.length (wS x):Int)]|>.r [(.len 1 (cT 11),(vt 42))]|>.m 41 true h23;reqE h (fun _ h=>have H:=H.t 45 [.str (List.take (Int.toNat (List.length (wS x):Int)) (wS (Td.mk x.n0 x.n1 x.n2 x.t x.bt ([(Mov.mk m.kind m.n)]) false))),.bool ((List.take (Int.toNat (List.length (wS x):Int)) (wS (Td.mk x.n0 x.n1 x.n2 x.t x.bt ([(Mov.mk m.kind m.n)]) false))) == (wS x))]|>.r [(.bin .eql (cT 43) (cT 11),(vt 44))]|>.c (p:=(.slT (cT 18) none (some (cT 42)),(vt 43))) (fun _ _ _=>fSlT (l:=(wS (Td.mk x.n0 x.n1 x.n2 x.t x.bt ([(Mov.mk m.kind m.n)]) false))) (l':=(List.take (Int.toNat (List.length (wS x):Int)) (wS (Td.mk x.n0 x.n1 x.n2 x.t x.bt ([(Mov.mk m.kind m.n)]) false)))) (lo:=none) (hi:=(some ((vt 42),((List.length (wS x):Int):Int)))) (by kernel_rfl) trivial ⟨.i64,by kernel_rfl⟩ (by simp only[optN];omega) (by simp[optN]) (by kernel_rfl));iteE h (fun h25 h=>have H:=H.t 46 [.bool (decide (x18.2.2=1))]|>.r [(.bin .eql (cT 36) (cI 1),(vt 45))]|>.m 44 true h25;iteE h (fun h26 h=>have H:=H.t 47 [.bool (decide (x18.2.1=(w64 (x7.2.1+1))))]|>.r [(.bin .eql (cT 35) (cT 39),(vt 46))]|>.m 45 true (decide_eq_true h26);H.e [] h) (fun _ h=>nomatch h)) (fun _ h=>nomatch h))) (fun _ h=>nomatch h))) (fun _ h=>nomatch h)) (fun _ h=>nomatch h)))))))))) (fun h11 h=>have H:=H.t 25 [.bool (decide ((wE (Td.mk x.n0 x.n1 x.n2 x.t x.bt ([(Mov.mk m.kind m.n)]) false))=0)),.bool (!((decide ((wE (Td.mk x.n0 x.n1 x.n2 x.t x.bt ([(Mov.mk m.kind m.n)]) false))=0)) == false))]|>.r [(.bin .eql (cT 19) (cI 0),(vt 23)),(.eqb true (cT 23) (.c (.bool false)),(vt 24))]|>.m 22 false (decide_eq_false h11);iteE h (fun _ h=>nomatch h) (fun h12 h=>have H:=H.m 24 false (bF h12);reqE h (fun h13 h=>letE h (fun x14 h14 h=>have H:=H.t 30 [.int .i64 x14.1.n0,.int .i64 x14.1.n1,.int .i64 x14.1.n2,.int .i64 x14.2.1,.int .i64 x14.2.2]|>.f 6 [.im (List.map eR x14.1.t) x14.1.bt,.im (List.map eM x14.1.m) x14.1.bm] (.c (OkF.im kau _ _) <| .c (OkF.im kam _ _) <| .n)|>.s [(vt 18)] (.tup [(.agg [(vt 25),(vt 26),(vt 27),(vf 4),(vf 5)]),(vt 28),(vt 29)]) (kb0 (wS (Td.mk x.n0 x.n1 x.n2 x.t x.bt ([(Mov.mk m.kind m.n)]) false)) h13 h14);reqE h (fun h15 h=>letE h (fun x16 h16 h=>have H:=H.t 31 [.str x16]|>.c (p:=(.bin .add (cT 11) (.c (.str [112,105,99,107,32,49,48,48,48,48,10])),(vt 30))) (fun _ _ _=>fCat (a:=(wS x)) (b:=[112,105,99,107,32,49,48,48,48,48,10]) (by kernel_rfl) (by kernel_rfl) h15 (by subst h16;kernel_rfl));reqE h (fun h17 h=>letE h (fun x18 h18 h=>have H:=H.t 37 [.int .i64 x18.1.n0,.int .i64 x18.1.n1,.int .i64 x18.1.n2,.int .i64 x18.2.1,.int .i64 x18.2.2,.bool (decide (x18.2.2=1))]|>.f 8 [.im (List.map eR x18.1.t) x18.1.bt,.im (List.map eM x18.1.m) x18.1.bm] (.c (OkF.im kau _ _) <| .c (OkF.im kam _ _) <| .n)|>.r [(.bin .eql (cT 35) (cI 1),(vt 36))]|>.s [(vt 30)] (.tup [(.agg [(vt 31),(vt 32),(vt 33),(vf 6),(vf 7)]),(vt 34),(vt 35)]) (kb0 x16 h17 h18);iteE h (fun h19 h=>have H:=H.t 39 [.int .i64 (w64 (x7.2.1+1)),.bool (decide (x18.2.1=(w64 (x7.2.1+1))))]|>.r [(.bin .add (cT 16) (cI 1),(vt 37)),(.bin .eql (cT 34) (cT 37),(vt 38))]|>.m 36 true (decide_eq_true h19);H.e [] h) (fun _ h=>nomatch h)))))))))) (fun h10 h=>have H:=H.t 24 [.bool (decide ((wE (Td.mk x.n0 x.n1 x.n2 x.t x.bt ([(Mov.mk m.kind m.n)]) false))=0)),.bool (!((decide ((wE (Td.mk x.n0 x.n1 x.n2 x.t x.bt ([(Mov.mk m.kind m.n)]) false))=0)) == false))]|>.r [(.bin .eql (cT 19) (cI 0),(vt 22)),(.eqb true (cT 22) (.c (.bool false)),(vt 23))]|>.m 21 false (decide_eq_false h10);iteE h (fun _ h=>nomatch h) (fun h11 h=>have H:=H.m 23 false (bF h11);reqE h (fun h12 h=>letE h (fun x13 h13 h=>have H:=H.t 29 [.int .i64 x13.1.n0,.int .i64 x13.1.n1,.int .i64 x13.1.n2,.int .i64 x13.2.1,.int .i64 x13.2.2]|>.f 6 [.im (List.map eR x13.1.t) x13.1.bt,.im (List.map eM x13.1.m) x13.1.bm] (.c (OkF.im kau _ _) <| .c (OkF.im kam _ _) <| .n)|>.s [(vt 18)] (.tup [(.agg [(vt 24),(vt 25),(vt 26),(vf 4),(vf 5)]),(vt 27),(vt 28)]) (kb0 (wS (Td.mk x.n0 x.n1 x.n2 x.t x.bt ([(Mov.mk m.kind m.n)]) false)) h12 h13);reqE h (fun h14 h=>letE h (fun x15 h15 h=>have H:=H.t 30 [.str x15]|>.c (p:=(.bin .add (cT 11) (.c (.str [112,105,99,107,32,49,48,48,48,48,10])),(vt 29))) (fun _ _ _=>fCat (a:=(wS x)) (b:=[112,105,99,107,32,49,48,48,48,48,10]) (by kernel_rfl) (by kernel_rfl) h14 (by subst h15;kernel_rfl));reqE h (fun h16 h=>letE h (fun x17 h17 h=>have H:=H.t 36 [.int .i64 x17.1.n0,.int .i64 x17.1.n1,.int .i64 x17.1.n2,.int .i64 x17.2.1,.int .i64 x17.2.2,.bool (decide (x17.2.2=1))]|>.f 8 [.im (List.map eR x17.1.t) x17.1.bt,.im (List.map eM x17.1.m) x17.1.bm] (.c (OkF.im kau _ _) <| .c (OkF.im kam _ _) <| .n)|>.r [(.bin .eql (cT 34) (cI 1),(vt 35))]|>.s [(vt 29)] (.tup [(.agg [(vt 30),(vt 31),(vt 32),(vf 6),(vf 7)]),(vt 33),(vt 34)]) (kb0 x15 h16 h17);iteE h (fun h18 h=>have H:=H.t 38 [.int .i64 (w64 (x7.2.1+1)),.bool (decide (x17.2.1=(w64 (x7.2.1+1))))]|>.r [(.bin .add (cT 16) (cI 1),(vt 36)),(.bin .eql (cT 33) (cT 36),(vt 37))]|>.m 35 true (decide_eq_true h18);H.e [] h) (fun _ h=>nomatch h)))))))))) (fun h9 h=>have H:=H.t 23 [.bool (decide ((wE (Td.mk x.n0 x.n1 x.n2 x.t x.bt ([(Mov.mk m.kind m.n)]) false))=0)),.bool (!((decide ((wE (Td.mk x.n0 x.n1 x.n2 x.t x.bt ([(Mov.mk m.kind m.n)]) false))=0)) == false))]|>.r [(.bin .eql (cT 19) (cI 0),(vt 21)),(.eqb true (cT 21) (.c (.bool false)),(vt 22))]|>.m 20 false (decide_eq_false h9);iteE h (fun _ h=>nomatch h) (fun h10 h=>have H:=H.m 22 false (bF h10);reqE h (fun h11 h=>letE h (fun x12 h12 h=>have H:=H.t 28 [.int .i64 x12.1.n0,.int .i64 x12.1.n1,.int .i64 x12.1.n2,.int .i64 x12.2.1,.int .i64 x12.2.2]|>.f 6 [.im (List.map eR x12.1.t) x12.1.bt,.im (List.map eM x12.1.m) x12.1.bm] (.c (OkF.im kau _ _) <| .c (OkF.im kam _ _) <| .n)|>.s [(vt 18)] (.tup [(.agg [(vt 23),(vt 24),(vt 25),(vf 4),(vf 5)]),(vt 26),(vt 27)]) (kb0 (wS (Td.mk x.n0 x.n1 x.n2 x.t x.bt ([(Mov.mk m.kind m.n)]) false)) h11 h12);reqE h (fun h13 h=>letE h (fun x14 h14 h=>have H:=H.t 29 [.str x14]|>.c (p:=(.bin .add (cT 11) (.c (.str [112,105,99,107,32,49,48,48,48,48,10])),(vt 28))) (fun _ _ _=>fCat (a:=(wS x)) (b:=[112,105,99,107,32,49,48,48,48,48,10]) (by kernel_rfl) (by kernel_rfl) h13 (by subst h14;kernel_rfl));reqE h (fun h15 h=>letE h (fun x16 h16 h=>have H:=H.t 35 [.int .i64 x16.1.n0,.int .i64 x16.1.n1,.int .i64 x16.1.n2,.int .i64 x16.2.1,.int .i64 x16.2.2,.bool (decide (x16.2.2=1))]|>.f 8 [.im (List.map eR x16.1.t) x16.1.bt,.im (List.map eM x16.1.m) x16.1.bm] (.c (OkF.im kau _ _) <| .c (OkF.im kam _ _) <| .n)|>.r [(.bin .eql (cT 33) (cI 1),(vt 34))]|>.s [(vt 28)] (.tup [(.agg [(vt 29),(vt 30),(vt 31),(vf 6),(vf 7)]),(vt 32),(vt 33)]) (kb0 x14 h15 h16);iteE h (fun h17 h=>have H:=H.t 37 [.int .i64 (w64 (x7.2.1+1)),.bool (decide (x16.2.1=(w64 (x7.2.1+1))))]|>.r [(.bin .add (cT 16) (cI 1),(vt 35)),(.bin .eql (cT 32) (cT 35),(vt 36))]|>.m 34 true (decide_eq_true h17);H.e [] h) (fun _ h=>nomatch h)))))))))))))) (fun h4 h=>reqE h (fun h5 h=>have H:=H.o 0 (2,List.map eM x.m) (.own kam _)|>.a ⟨false,2,16,(.im [] true),(vf 1),1000002⟩ (fun _ _ _=>fApp (e:=eM) (l:=([]:List Mov)) (m:=x.m) (cb:=true) (cx:=x.bm) (by kernel_rfl) (by kernel_rfl) (by kernel_rfl) h5 (.inr ⟨rfl,h4⟩) (by decide) (by decide) (by decide));reqE h (fun h6 h=>have H:=H.o 1 (2,List.map eM (x.m++[(Mov.mk m.kind m.n)])) (.own kam _)|>.a ⟨true,2,16,(vf 1000002),(.im [[(vt 3),(vt 4)]] true),1001002⟩ (fun _ _ _=>fApp (e:=eM) (l:=x.m) (m:=[(Mov.mk m.kind m.n)]) (cb:=false) (cx:=true) (by kernel_rfl) (by kernel_rfl) (by kernel_rfl) h6 (.inl rfl) (by decide) (by decide) (by decide));reqE h (fun h7 h=>have H:=H.t 13 [.str (wS x),.int .i64 (wE x)]|>.s [(.agg [(vt 0),(vt 1),(vt 2),(vf 0),(vf 1)])] (.tup [(vt 11),(vt 12)]) (kea x h7);reqE h (fun h8 h=>letE h (fun x9 h9 h=>have H:=H.t 18 [.int .i64 x9.1.n0,.int .i64 x9.1.n1,.int .i64 x9.1.n2,.int .i64 x9.2.1,.int .i64 x9.2.2]|>.f 4 [.im (List.map eR x9.1.t) x9.1.bt,.im (List.map eM x9.1.m) x9.1.bm] (.c (OkF.im kau _ _) <| .c (OkF.im kam _ _) <| .n)|>.s [(vt 11)] (.tup [(.agg [(vt 13),(vt 14),(vt 15),(vf 2),(vf 3)]),(vt 16),(vt 17)]) (kb0 (wS x) h8 h9);reqE h (fun h10 h=>have H:=H.t 21 [.str (wS (Td.mk x.n0 x.n1 x.n2 x.t x.bt (x.m++[(Mov.mk m.kind m.n)]) false)),.int .i64 (wE (Td.mk x.n0 x.n1 x.n2 x.t x.bt (x.m++[(Mov.mk m.kind m.n)]) false)),.bool (decide (m.kind ≥ 0))]|>.r [(.bin .geq (cT 3) (cI 0),(vt 20))]|>.s [(.agg [(vt 0),(vt 1),(vt 2),(vf 0),(vf 1001002)])] (.tup [(vt 18),(vt 19)]) (kea (Td.mk x.n0 x.n1 x.n2 x.t x.bt (x.m++[(Mov.mk m.kind m.n)]) false) h10);iteE h (fun h11 h=>have H:=H.t 22 [.bool (decide (m.kind≤2))]|>.r [(.bin .leq (cT 3) (cI 2),(vt 21))]|>.m 20 true (decide_eq_true h11);iteE h (fun h12 h=>have H:=H.t 23 [.bool (decide (m.n ≥ 0))]|>.r [(.bin .geq (cT 4) (cI 0),(vt 22))]|>.m 21 true (decide_eq_true h12);iteE h (fun h13 h=>have H:=H.t 26 [.bool (decide (m.n≤9999)),.bool (decide ((wE (Td.mk x.n0 x.n1 x.n2 x.t x.bt (x.m++[(Mov.mk m.kind m.n)]) false))=0)),.bool (!((decide ((wE (Td.mk x.n0 x.n1 x.n2 x.t x.bt (x.m++[(Mov.mk m.kind m.n)]) false))=0)) == (decide (m.n≤9999))))]|>.r [(.bin .leq (cT 4) (cI 9999),(vt 23)),(.bin .eql (cT 19) (cI 0),(vt 24)),(.eqb true (cT 24) (cT 23),(vt 25))]|>.m 22 true (decide_eq_true h13);iteE h (fun _ h=>nomatch h) (fun h14 h=>have H:=H.m 25 false (bF h14);reqE h (fun h15 h=>letE h (fun x16 h16 h=>have H:=H.t 31 [.int .i64 x16.1.n0,.int .i64 x16.1.n1,.int .i64 x16.1.n2,.int .i64 x16.2.1,.int .i64 x16.2.2]|>.f 6 [.im (List.map eR x16.1.t) x16.1.bt,.im (List.map eM x16.1.m) x16.1.bm] (.c (OkF.im kau _ _) <| .c (OkF.im kam _ _) <| .n)|>.s [(vt 18)] (.tup [(.agg [(vt 26),(vt 27),(vt 28),(vf 4),(vf 5)]),(vt 29),(vt 30)]) (kb0 (wS (Td.mk x.n0 x.n1 x.n2 x.t x.bt (x.m++[(Mov.mk m.kind m.n)]) false)) h15 h16);reqE h (fun h17 h=>letE h (fun x18 h18 h=>have H:=H.t 32 [.str x18]|>.c (p:=(.bin .add (cT 11) (.c (.str [112,105,99,107,32,49,48,48,48,48,10])),(vt 31))) (fun _ _ _=>fCat (a:=(wS x)) (b:=[112,105,99,107,32,49,48,48,48,48,10]) (by kernel_rfl) (by kernel_rfl) h17 (by subst h18;kernel_rfl));reqE h (fun h19 h=>letE h (fun x20 h20 h=>have H:=H.t 38 [.int .i64 x20.1.n0,.int .i64 x20.1.n1,.int .i64 x20.1.n2,.int .i64 x20.2.1,.int .i64 x20.2.2,.bool (!(decide (m.n≤9999)))]|>.f 8 [.im (List.map eR x20.1.t) x20.1.bt,.im (List.map eM x20.1.m) x20.1.bm] (.c (OkF.im kau _ _) <| .c (OkF.im kam _ _) <| .n)|>.r [(.un .not (cT 23),(vt 37))]|>.s [(vt 31)] (.tup [(.agg [(vt 32),(vt 33),(vt 34),(vf 6),(vf 7)]),(vt 35),(vt 36)]) (kb0 x18 h19 h20);iteE h (fun h21 h=>have H:=H.t 39 [.bool (decide (x20.2.2=1))]|>.r [(.bin .eql (cT 36) (cI 1),(vt 38))]|>.m 37 true h21;iteE h (fun h22 h=>have H:=H.t 41 [.int .i64 (w64 (x9.2.1+1)),.bool (decide (x20.2.1=(w64 (x9.2.1+1))))]|>.r [(.bin .add (cT 16) (cI 1),(vt 39)),(.bin .eql (cT 35) (cT 39),(vt 40))]|>.m 38 true (decide_eq_true h22);H.e [] h) (fun _ h=>nomatch h)) (fun h21 h=>have H:=H.t 39 [.bool (decide (x16.2.2=0))]|>.r [(.bin .eql (cT 30) (cI 0),(vt 38))]|>.m 37 false (bF h21);iteE h (fun h22 h=>have H:=H.t 41 [.int .i64 (w64 (x9.2.1+1)),.bool (decide (x16.2.1=(w64 (x9.2.1+1))))]|>.r [(.bin .add (cT 16) (cI 1),(vt 39)),(.bin .eql (cT 29) (cT 39),(vt 40))]|>.m 38 true (decide_eq_true h22);iteE h (fun h23 h=>have H:=H.m 40 true (decide_eq_true h23);reqE h (fun h24 h=>have H:=H.t 42 [.bool (kbj x16.1 (Td.mk x.n0 x.n1 x.n2 x.t x.bt (x.m++[(Mov.mk m.kind m.n)]) false))]|>.s [(.agg [(vt 26),(vt 27),(vt 28),(vf 4),(vf 5)]),(.agg [(vt 0),(vt 1),(vt 2),(vf 0),(vf 1001002)])] (vt 41) (kgb x16.1 (Td.mk x.n0 x.n1 x.n2 x.t x.bt (x.m++[(Mov.mk m.kind m.n)]) false) h24);iteE h (fun h25 h=>have H:=H.t 43 [.int .i64 (List.length (wS x):Int)]|>.r [(.len 1 (cT 11),(vt 42))]|>.m 41 true h25;reqE h (fun _ h=>have H:=H.t 45 [.str (List.take (Int.toNat (List.length (wS x):Int)) (wS (Td.mk x.n0 x.n1 x.n2 x.t x.bt (x.m++[(Mov.mk m.kind m.n)]) false))),.bool ((List.take (Int.toNat (List.length (wS x):Int)) (wS (Td.mk x.n0 x.n1 x.n2 x.t x.bt (x.m++[(Mov.mk m.kind m.n)]) false))) == (wS x))]|>.r [(.bin .eql (cT 43) (cT 11),(vt 44))]|>.c (p:=(.slT (cT 18) none (some (cT 42)),(vt 43))) (fun _ _ _=>fSlT (l:=(wS (Td.mk x.n0 x.n1 x.n2 x.t x.bt (x.m++[(Mov.mk m.kind m.n)]) false))) (l':=(List.take (Int.toNat (List.length (wS x):Int)) (wS (Td.mk x.n0 x.n1 x.n2 x.t x.bt (x.m++[(Mov.mk m.kind m.n)]) false)))) (lo:=none) (hi:=(some ((vt 42),((List.length (wS x):Int):Int)))) (by kernel_rfl) trivial ⟨.i64,by kernel_rfl⟩ (by simp only[optN];omega) (by simp[optN]) (by kernel_rfl));iteE h (fun h27 h=>have H:=H.t 46 [.bool (decide (x20.2.2=1))]|>.r [(.bin .eql (cT 36) (cI 1),(vt 45))]|>.m 44 true h27;iteE h (fun h28 h=>have H:=H.t 47 [.bool (decide (x20.2.1=(w64 (x9.2.1+1))))]|>.r [(.bin .eql (cT 35) (cT 39),(vt 46))]|>.m 45 true (decide_eq_true h28);H.e [] h) (fun _ h=>nomatch h)) (fun _ h=>nomatch h))) (fun _ h=>nomatch h))) (fun _ h=>nomatch h)) (fun _ h=>nomatch h)))))))))) (fun h13 h=>have H:=H.t 25 [.bool (decide ((wE (Td.mk x.n0 x.n1 x.n2 x.t x.bt (x.m++[(Mov.mk m.kind m.n)]) false))=0)),.bool (!((decide ((wE (Td.mk x.n0 x.n1 x.n2 x.t x.bt (x.m++[(Mov.mk m.kind m.n)]) false))=0)) == false))]|>.r [(.bin .eql (cT 19) (cI 0),(vt 23)),(.eqb true (cT 23) (.c (.bool false)),(vt 24))]|>.m 22 false (decide_eq_false h13);iteE h (fun _ h=>nomatch h) (fun h14 h=>have H:=H.m 24 false (bF h14);reqE h (fun h15 h=>letE h (fun x16 h16 h=>have H:=H.t 30 [.int .i64 x16.1.n0,.int .i64 x16.1.n1,.int .i64 x16.1.n2,.int .i64 x16.2.1,.int .i64 x16.2.2]|>.f 6 [.im (List.map eR x16.1.t) x16.1.bt,.im (List.map eM x16.1.m) x16.1.bm] (.c (OkF.im kau _ _) <| .c (OkF.im kam _ _) <| .n)|>.s [(vt 18)] (.tup [(.agg [(vt 25),(vt 26),(vt 27),(vf 4),(vf 5)]),(vt 28),(vt 29)]) (kb0 (wS (Td.mk x.n0 x.n1 x.n2 x.t x.bt (x.m++[(Mov.mk m.kind m.n)]) false)) h15 h16);reqE h (fun h17 h=>letE h (fun x18 h18 h=>have H:=H.t 31 [.str x18]|>.c (p:=(.bin .add (cT 11) (.c (.str [112,105,99,107,32,49,48,48,48,48,10])),(vt 30))) (fun _ _ _=>fCat (a:=(wS x)) (b:=[112,105,99,107,32,49,48,48,48,48,10]) (by kernel_rfl) (by kernel_rfl) h17 (by subst h18;kernel_rfl));reqE h (fun h19 h=>letE h (fun x20 h20 h=>have H:=H.t 37 [.int .i64 x20.1.n0,.int .i64 x20.1.n1,.int .i64 x20.1.n2,.int .i64 x20.2.1,.int .i64 x20.2.2,.bool (decide (x20.2.2=1))]|>.f 8 [.im (List.map eR x20.1.t) x20.1.bt,.im (List.map eM x20.1.m) x20.1.bm] (.c (OkF.im kau _ _) <| .c (OkF.im kam _ _) <| .n)|>.r [(.bin .eql (cT 35) (cI 1),(vt 36))]|>.s [(vt 30)] (.tup [(.agg [(vt 31),(vt 32),(vt 33),(vf 6),(vf 7)]),(vt 34),(vt 35)]) (kb0 x18 h19 h20);iteE h (fun h21 h=>have H:=H.t 39 [.int .i64 (w64 (x9.2.1+1)),.bool (decide (x20.2.1=(w64 (x9.2.1+1))))]|>.r [(.bin .add (cT 16) (cI 1),(vt 37)),(.bin .eql (cT 34) (cT 37),(vt 38))]|>.m 36 true (decide_eq_true h21);H.e [] h) (fun _ h=>nomatch h)))))))))) (fun h12 h=>have H:=H.t 24 [.bool (decide ((wE (Td.mk x.n0 x.n1 x.n2 x.t x.bt (x.m++[(Mov.mk m.kind m.n)]) false))=0)),.bool (!((decide ((wE (Td.mk x.n0 x.n1 x.n2 x.t x.bt (x.m++[(Mov.mk m.kind m.n)]) false))=0)) == false))]|>.r [(.bin .eql (cT 19) (cI 0),(vt 22)),(.eqb true (cT 22) (.c (.bool false)),(vt 23))]|>.m 21 false (decide_eq_false h12);iteE h (fun _ h=>nomatch h) (fun h13 h=>have H:=H.m 23 false (bF h13);reqE h (fun h14 h=>letE h (fun x15 h15 h=>have H:=H.t 29 [.int .i64 x15.1.n0,.int .i64 x15.1.n1,.int .i64 x15.1.n2,.int .i64 x15.2.1,.int .i64 x15.2.2]|>.f 6 [.im (List.map eR x15.1.t) x15.1.bt,.im (List.map eM x15.1.m) x15.1.bm] (.c (OkF.im kau _ _) <| .c (OkF.im kam _ _) <| .n)|>.s [(vt 18)] (.tup [(.agg [(vt 24),(vt 25),(vt 26),(vf 4),(vf 5)]),(vt 27),(vt 28)]) (kb0 (wS (Td.mk x.n0 x.n1 x.n2 x.t x.bt (x.m++[(Mov.mk m.kind m.n)]) false)) h14 h15);reqE h (fun h16 h=>letE h (fun x17 h17 h=>have H:=H.t 30 [.str x17]|>.c (p:=(.bin .add (cT 11) (.c (.str [112,105,99,107,32,49,48,48,48,48,10])),(vt 29))) (fun _ _ _=>fCat (a:=(wS x)) (b:=[112,105,99,107,32,49,48,48,48,48,10]) (by kernel_rfl) (by kernel_rfl) h16 (by subst h17;kernel_rfl));reqE h (fun h18 h=>letE h (fun x19 h19 h=>have H:=H.t 36 [.int .i64 x19.1.n0,.int .i64 x19.1.n1,.int .i64 x19.1.n2,.int .i64 x19.2.1,.int .i64 x19.2.2,.bool (decide (x19.2.2=1))]|>.f 8 [.im (List.map eR x19.1.t) x19.1.bt,.im (List.map eM x19.1.m) x19.1.bm] (.c (OkF.im kau _ _) <| .c (OkF.im kam _ _) <| .n)|>.r [(.bin .eql (cT 34) (cI 1),(vt 35))]|>.s [(vt 29)] (.tup [(.agg [(vt 30),(vt 31),(vt 32),(vf 6),(vf 7)]),(vt 33),(vt 34)]) (kb0 x17 h18 h19);iteE h (fun h20 h=>have H:=H.t 38 [.int .i64 (w64 (x9.2.1+1)),.bool (decide (x19.2.1=(w64 (x9.2.1+1))))]|>.r [(.bin .add (cT 16) (cI 1),(vt 36)),(.bin .eql (cT 33) (cT 36),(vt 37))]|>.m 35 true (decide_eq_true h20);H.e [] h) (fun _ h=>nomatch h)))))))))) (fun h11 h=>have H:=H.t 23 [.bool (decide ((wE (Td.mk x.n0 x.n1 x.n2 x.t x.bt (x.m++[(Mov.mk m.kind m.n)]) false))=0)),.bool (!((decide ((wE (Td.mk x.n0 x.n1 x.n2 x.t x.bt (x.m++[(Mov.mk m.kind m.n)]) false))=0)) == false))]|>.r [(.bin .eql (cT 19) (cI 0),(vt 21)),(.eqb true (cT 21) (.c (.bool false)),(vt 22))]|>.m 20 false (decide_eq_false h11);iteE h (fun _ h=>nomatch h) (fun h12 h=>have H:=H.m 22 false (bF h12);reqE h (fun h13 h=>letE h (fun x14 h14 h=>have H:=H.t 28 [.int .i64 x14.1.n0,.int .i64 x14.1.n1,.int .i64 x14.1.n2,.int .i64 x14.2.1,.int .i64 x14.2.2]|>.f 6 [.im (List.map eR x14.1.t) x14.1.bt,.im (List.map eM x14.1.m) x14.1.bm] (.c (OkF.im kau _ _) <| .c (OkF.im kam _ _) <| .n)|>.s [(vt 18)] (.tup [(.agg [(vt 23),(vt 24),(vt 25),(vf 4),(vf 5)]),(vt 26),(vt 27)]) (kb0 (wS (Td.mk x.n0 x.n1 x.n2 x.t x.bt (x.m++[(Mov.mk m.kind m.n)]) false)) h13 h14);reqE h (fun h15 h=>letE h (fun x16 h16 h=>have H:=H.t 29 [.str x16]|>.c (p:=(.bin .add (cT 11) (.c (.str [112,105,99,107,32,49,48,48,48,48,10])),(vt 28))) (fun _ _ _=>fCat (a:=(wS x)) (b:=[112,105,99,107,32,49,48,48,48,48,10]) (by kernel_rfl) (by kernel_rfl) h15 (by subst h16;kernel_rfl));reqE h (fun h17 h=>letE h (fun x18 h18 h=>have H:=H.t 35 [.int .i64 x18.1.n0,.int .i64 x18.1.n1,.int .i64 x18.1.n2,.int .i64 x18.2.1,.int .i64 x18.2.2,.bool (decide (x18.2.2=1))]|>.f 8 [.im (List.map eR x18.1.t) x18.1.bt,.im (List.map eM x18.1.m) x18.1.bm] (.c (OkF.im kau _ _) <| .c (OkF.im kam _ _) <| .n)|>.r [(.bin .eql (cT 33) (cI 1),(vt 34))]|>.s [(vt 28)] (.tup [(.agg [(vt 29),(vt 30),(vt 31),(vf 6),(vf 7)]),(vt 32),(vt 33)]) (kb0 x16 h17 h18);iteE h (fun h19 h=>have H:=H.t 37 [.int .i64 (w64 (x9.2.1+1)),.bool (decide (x18.2.1=(w64 (x9.2.1+1))))]|>.r [(.bin .add (cT 16) (cI 1),(vt 35)),(.bin .eql (cT 32) (cT 35),(vt 36))]|>.m 34 true (decide_eq_true h19);H.e [] h) (fun _ h=>nomatch h)))))))))))))))))))))
end Go.Proofs.Hz
open Go Go.Proofs
namespace Go.Proofs.Hz
def mvT (x:Td) (m:Mov) (y:Td):Option AV:=
 if kbx x=true then if List.length (wS x)≤900000 then letB (kat (wS x)) fun x7=>
 if kbx y=true then if m.kind ≥ 0 then
  if m.kind≤2 then
   if m.n ≥ 0 then
    if(!((decide ((wE y)=0)) == (decide (m.n≤9999))))=true then
     none
    else
     if List.length (wS y)≤900000 then letB (kat (wS y)) fun x14=>
     if List.length (wS x)+List.length [112,105,99,107,32,49,48,48,48,48,10]≤140737488355328 then letB (((wS x)++[112,105,99,107,32,49,48,48,48,48,10])) fun x16=>
     if List.length x16≤900000 then letB (kat x16) fun x18=>
     if(!(decide (m.n≤9999)))=true then
      if x18.2.2=1 then
        some (.bool (decide (x18.2.1=(w64 (x7.2.1+1)))))
      else
        none
     else
      if x14.2.2=0 then
       if x14.2.1=(w64 (x7.2.1+1)) then
        if kb2 x14.1=true then if(kbj x14.1 y)=true then
                if 0≤(List.length (wS x):Int)∧(List.length (wS x):Int)≤(List.length (wS y):Int) then if((List.take (Int.toNat (List.length (wS x):Int)) (wS y)) == (wS x))=true then
                 if x18.2.2=1 then
                  some (.bool (decide (x18.2.1=(w64 (x7.2.1+1)))))
                 else
                  none
                else
                 none else none
        else
                none else none
       else
        none
      else
       none else none else none else none
   else
    if(!((decide ((wE y)=0)) == false))=true then
     none
    else
     if List.length (wS y)≤900000 then letB (kat (wS y)) fun _=>
     if List.length (wS x)+List.length [112,105,99,107,32,49,48,48,48,48,10]≤140737488355328 then letB (((wS x)++[112,105,99,107,32,49,48,48,48,48,10])) fun x16=>
     if List.length x16≤900000 then letB (kat x16) fun x18=>
     if x18.2.2=1 then
      some (.bool (decide (x18.2.1=(w64 (x7.2.1+1)))))
     else
      none else none else none else none
  else
   if(!((decide ((wE y)=0)) == false))=true then
    none
   else
    if List.length (wS y)≤900000 then letB (kat (wS y)) fun _=>
    if List.length (wS x)+List.length [112,105,99,107,32,49,48,48,48,48,10]≤140737488355328 then letB (((wS x)++[112,105,99,107,32,49,48,48,48,48,10])) fun x15=>
    if List.length x15≤900000 then letB (kat x15) fun x17=>
    if x17.2.2=1 then
     some (.bool (decide (x17.2.1=(w64 (x7.2.1+1)))))
    else
     none else none else none else none
 else
  if(!((decide ((wE y)=0)) == false))=true then
   none
  else
   if List.length (wS y)≤900000 then letB (kat (wS y)) fun _=>
   if List.length (wS x)+List.length [112,105,99,107,32,49,48,48,48,48,10]≤140737488355328 then letB (((wS x)++[112,105,99,107,32,49,48,48,48,48,10])) fun x14=>
   if List.length x14≤900000 then letB (kat x14) fun x16=>
   if x16.2.2=1 then
    some (.bool (decide (x16.2.1=(w64 (x7.2.1+1)))))
   else
    none else none else none else none else none else none else none
theorem k5p {x y:Td} {m:Mov} (hM:May x.d) (hl:x.m.length≤998) (hy:y.d=⟨x.d.n0,x.d.n1,x.d.n2,x.d.t,x.m++[m]⟩):ka6 y=true↔mvOk m=true:=by
 rw[kdc,hy]
 constructor
 ·intro h
  exact List.all_eq_true.1 h.m m (by simp)
 ·intro h
  refine⟨hM.n0,hM.n1,hM.n2,hM.t,?_,hM.tl,?_⟩
  ·rw[List.all_append,Bool.and_eq_true]
   exact⟨hM.m,by simp[h]⟩
  ·show(x.m++[m]).length≤1000
   rw[List.length_append,List.length_singleton];omega
theorem kuy (x y:Td) (m:Mov) (hM:ka6 x=true) (hl:x.m.length≤998) (hx:kbx x=true) (hfy:kbx y=true) (hy:y.d=⟨x.d.n0,x.d.n1,x.d.n2,x.d.t,x.m++[m]⟩):mvT x m y=some (.bool true):=by
 have h:=kdc.1 hM
 have hw:=kej hM
 have hwl:=khb x
 have hyl:=khb y
 have hN:=kjz h.t
 have htl:=h.tl
 have hr:kat (wS x)=(x.d.td,((4+thrN x.d.t+x.d.m.length:Nat):Int),0):=by rw[hw];exact kh2 h
 have hp:kat (wS x++[112,105,99,107,32,49,48,48,48,48,10])=(noTd,((4+thrN x.d.t+x.d.m.length+1:Nat):Int),1):=by rw[hw];exact kx0 (k7h h)
 have hml:x.d.m.length≤998:=hl
 have hpl:(wS x++[112,105,99,107,32,49,48,48,48,48,10]).length≤900000:=by rw[List.length_append];simp only[List.length_cons,List.length_nil];omega
 have hw1:w64 (((4+thrN x.d.t+x.d.m.length:Nat):Int)+1)=((4+thrN x.d.t+x.d.m.length+1:Nat):Int):=by rw[kdh (by omega)];omega
 have hmm:=k5p h hl hy
 have no: ¬mvOk m=true→wE y=1:=fun hn=>ky9 fun e=>hn (hmm.1 e)
 have hmv:=ko1 (m:=m)
 have hlp:List.length (wS x)+List.length [112,105,99,107,32,49,48,48,48,48,10]≤140737488355328:=by simp only[List.length_cons,List.length_nil];omega
 unfold mvT letB
 dsimp only
 rw[hr,hp]
 dsimp only
 rw[if_pos hx,if_pos (by omega),if_pos hfy]
 by_cases c1:m.kind ≥ 0
 ·rw[if_pos c1]
  by_cases c2:m.kind≤2
  ·rw[if_pos c2]
   by_cases c3:m.n ≥ 0
   ·rw[if_pos c3]
    by_cases c4:m.n≤9999
    ·have ok:mvOk m=true:=hmv.2 (by omega)
     have hmy:=hmm.2 ok
     have hyM:=kdc.1 hmy
     have hyw:wS y=wS x++mvL m:=by
      rw[kej hmy,hw,hy]
      exact qh0 x.d m
     have hyr:kat (wS y)=(y.d.td,((4+thrN x.d.t+x.d.m.length+1:Nat):Int),0):=by
      rw[kej hmy,kh2 hyM,hy]
      simp only[List.length_append,List.length_singleton]
      rfl
     rw[kif hmy,if_neg (by simp[c4]),if_pos (by omega),hyr]
     dsimp only
     rw[if_pos hlp,if_pos hpl,if_neg (by simp[c4]),if_pos rfl,if_pos hw1.symm,if_pos (ke4 (kjy hyM)),if_pos ((kh5 _ _).2 (td_d _)),if_pos (by rw[hyw,List.length_append];omega),if_pos (by rw[hyw,Int.toNat_natCast,List.take_left];simp),if_pos rfl,hw1]
     simp
    ·have hn:=no (fun e=>by have:=hmv.1 e;omega)
     rw[hn,if_neg (by simp[c4]),if_pos (by omega),if_pos hlp,if_pos hpl,if_pos (by simp[c4]),if_pos rfl,hw1]
     simp
   ·have hn:=no (fun e=>by have:=hmv.1 e;omega)
    rw[if_neg c3,hn,if_neg (by decide),if_pos (by omega),if_pos hlp,if_pos hpl,if_pos rfl,hw1]
    simp
  ·have hn:=no (fun e=>by have:=hmv.1 e;omega)
   rw[if_neg c2,hn,if_neg (by decide),if_pos (by omega),if_pos hlp,if_pos hpl,if_pos rfl,hw1]
   simp
 ·have hn:=no (fun e=>by have:=hmv.1 e;omega)
  rw[if_neg c1,hn,if_neg (by decide),if_pos (by omega),if_pos hlp,if_pos hpl,if_pos rfl,hw1]
  simp
theorem k8b (x:Td) (m:Mov) (hv:kcy x=true) (hm:inI m.n=true):kl0 x m=some (.bool true):=by
 unfold kl0
 by_cases hf: ¬fewT x=true
 ·rw[if_pos (by simp[hf])]
 rw[Classical.not_not] at hf
 rw[if_neg (by simp[hf]),if_pos (ke4 hf)]
 by_cases hM: ¬ka6 x=true
 ·rw[if_pos (by simp[hM])]
 rw[Classical.not_not] at hM
 rw[if_neg (by simp[hM])]
 by_cases hl:(x.m.length:Int) > 998
 ·rw[if_pos hl]
 rw[if_neg hl]
 have hx:=kio hf hv
 have fy: ∀ (bm:Bool) (l:List Mov),l=x.m++[m]→kbx (Td.mk x.n0 x.n1 x.n2 x.t x.bt l bm)=true:=fun bm l hl'=>by
  subst hl'
  refine kio ?_ ?_
  ·simp only[fewT,Bool.and_eq_true,decide_eq_true_eq] at hf ⊢
   refine⟨hf.1,?_⟩
   rw[List.length_append,List.length_singleton];omega
  ·simp only[kcy,Bool.and_eq_true,List.all_append,List.all_cons,List.all_nil] at hv ⊢
   exact⟨hv.1,hv.2,hm,trivial⟩
 by_cases he:x.m=[]
 ·rw[if_pos he]
  exact kuy x _ m hM (by omega) hx (fy _ _ (by rw[he];rfl)) (by simp[Td.d,he])
 ·rw[if_neg he,if_pos (by simp only[kah,List.length_nil];omega),if_pos (by simp only[kah,List.length_cons,List.length_nil];omega)]
  exact kuy x _ m hM (by omega) hx (fy _ _ rfl) rfl
theorem k5t (x:Td) (m:Mov) (hv:kcy x=true) (hm:inI m.n=true):Spec FF 6 [x.av,.agg [.int .i64 m.kind,.int .i64 m.n]] (.bool true):=k8c x m (k8b x m hv hm)
end Go.Proofs.Hz
namespace Go.Proofs.YtamikoglpnoicaaGreatDoor
open Go.ChangeShapes Go.WideShapes Go.ChangeAt Go.RowKit Go.Proofs.Hz
set_option maxRecDepth 100000
theorem k52 (os:Os) (started:os.Started) (H:Type) (enc:TypeId×Value→H):
  ReturnsInHanded {} Tryz.checked os 6 .any (fun w args=>(Rows.toolMovesSpec.pre enc Tryz.prog Tryz.f6 Rows.toolMovesRow.domain false w args∧laidMetH Tryz.prog laid w)∧sizedMet enc Tryz.prog Tryz.f6 (OpenSpec.ofChange Rows.toolMovesSpec) false w args)
   (Rows.toolMovesSpec.post enc Tryz.prog Tryz.f6 false true false false):=by
 refine kmk (C:=Tryz.checked) (X:=fun w _=>laidMetH Tryz.prog laid w) (fun _ _ _ hh h=>h.of_heap hh) own started (by kernel_rfl) Tryz.func6
  (ChangeSpec.witness_shaped (enc:=enc) (C:=Tryz.checked) (os:=os) (X:=fun w _=>laidMetH Tryz.prog laid w) false (World.laidAll Tryz.prog os laid) #[klh,.agg #[.int .i64 0,.int .i64 0]] 8 (World.laidAll_os _ _ _)
   (World.shaped_of_ZipB (by kernel_rfl) (by kernel_rfl)) (by kernel_rfl) (by kernel_rfl) (by kernel_rfl) (kld os _)) ?_
 intro W base args ds gs before hval0 hW hL hsh
 have hval: ∀ (j:Nat) t v,Tryz.f6.params[j]? =some t→args[j]? =some v→Value.okWide Tryz.prog W .any base t v:=hval0
 have hW':=hW
 obtain⟨p,q,hA0,hV,rfl,hfz,hnd⟩:=hW
 have hA:DataW.TrodAll enc Tryz.prog W 0 (fun _=>true) true Tryz.f6.params.toList args.toList ds p:=hA0
 have hA1:=hA
 rw[Tryz.params6] at hA hval
 obtain⟨v0,v1,d0,d1,p0,p1,rfl,rfl,rfl,h0,h1⟩:=trodAll_two hA
 obtain⟨rfl,rfl⟩:=trodVars_none hV
 obtain⟨x0,hR0,hv0⟩:=kj9 (hval 0 26 v0 rfl rfl) h0
 obtain⟨m1,hR1,hm1⟩:=kz7 (hval 1 45 v1 rfl rfl) h1
 simp only[List.append_nil] at hW'
 refine(kk1 (pu:=puN) (F:=FF) (fun f af h=>h) hX15 (kks hL hsh) (k5t x0 m1 hv0 hm1) (RL.cons hR0 (RL.cons hR1 RL.nil))).mono fun e W' ⟨he,hw⟩=> ?_
 subst he
 exact⟨_,rfl,kk2 (P:=Tryz.prog) kk0 rfl hW' (by simpa using hA1) rfl (by kernel_rfl) rfl u4 hw⟩
theorem k5u:(Rows.toolMovesRow.inPlace == Tryz.prog.inPlace 6)=true:=by kernel_rfl
theorem k5v:(Rows.toolMovesRow.unfollowed == Tryz.prog.unfollowed 6)=true:=by kernel_rfl
theorem k5w:(Rows.toolMovesRow.recurses == Tryz.prog.recurses 6)=true:=by kernel_rfl
theorem k5x:(Rows.toolMovesRow.named == Tryz.prog.varsNamed 6)=true:=by kernel_rfl
theorem k5y:joinedFacts Tryz.prog 6 Tryz.f6 Rows.toolMovesSpec Rows.toolMovesRow=true:=by
 unfold joinedFacts
 rw[k5u,k5v,k5w,k5x]
 kernel_rfl
theorem kuv:Tryz.prog.funcNamed "hazel/hazellaw20.ToolMoves" =some 6:=by kernel_rfl
theorem k51:Tryz.f6.isInstance Tryz.prog Rows.toolMovesRow.origin Rows.toolMovesRow.targs:=of_decide_eq_true (by kernel_rfl)
theorem k54:Rows.toolMovesRow.wfByText (OpenSpec.ofChange Rows.toolMovesSpec)=true:=by kernel_rfl
theorem k5z:false=Rows.toolMovesRow.goesBy Tryz.prog:=by kernel_rfl
theorem k53:([26,45].all fun u=> !Tryz.prog.wantsStandIn u)=true:=by kernel_rfl
theorem k50:Rows.ToolMovesSaid:=
 OpenClaim.holds_of_wide 6 Tryz.f6 rfl rfl rfl rfl rfl rfl rfl ⟨rfl,rfl,rfl,rfl,rfl⟩ rfl rfl rfl rfl rfl kuv Tryz.func6 k5y
  k51 (by unfold Func.isWrapper;first |(rw[if_pos (by decide+kernel)];kernel_rfl) |(rw[if_neg (by decide+kernel)];exact⟨rfl,rfl⟩))
  (fun os started H enc _=>k52 os started H enc)
theorem moves_card:Rows.ToolMovesCardSaid:=
 Claim7.holds_tied_plain_at .later [] [.data,.data,.data,.data,.sentinel,.sentinel,.pinned] true (true,"fad3822e4c3238e0715d09156ba720034c4347236d647728db356adb10470ef3") true k50 (fun _ h=>by cases h) k54 (fun _ h=>by cases h) toolMoves_row_tie rfl ⟨rfl,rfl⟩ klc rfl
  (fun f fn hf hfn=>by
   obtain rfl:f=6:=Option.some.inj (kuv.symm.trans hf)|>.symm
   obtain rfl:fn=Tryz.f6:=(Option.some.inj (Tryz.func6.symm.trans hfn)).symm
   exact⟨kk9,fun j t ht=>by
    rw[Tryz.params6] at ht
    have hm:t ∈ [26,45]:=by simpa using Array.mem_of_getElem? ht
    exact(show Tryz.prog.wantsStandIn t=false by simpa using List.all_eq_true.1 k53 t hm)⟩)
  k5z
#print axioms moves_card
end Go.Proofs.YtamikoglpnoicaaGreatDoor
