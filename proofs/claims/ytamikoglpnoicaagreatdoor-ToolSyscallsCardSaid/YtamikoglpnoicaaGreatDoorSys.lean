/-
  'hazellaw20.ToolSyscalls' returns true for every input, and its arguments read afterwards as they read before; the card.
  Conditions: none.
-/
import Derived.Test.YtamikoglpnoicaaGreatDoorT41
import Derived.Test.YtamikoglpnoicaaGreatDoorT42
open Go Go.Proofs
namespace Go.Proofs.Hz
theorem kdh {n:Int} (h: -9223372036854775808≤n∧n≤9223372036854775807):w64 n=n:=by
 unfold w64 IntKind.wrap
 simp[IntKind.signed,IntKind.bits]
 omega
end Go.Proofs.Hz
open Go Go.Proofs
namespace Go.Proofs.Hz
def kl1 (x:Td) (c:Cl):Option AV:=
 if List.length [c]≤1000000 then if(!(fewT x))=true then
  some (.bool true)
 else
  if kb2 x=true then if(!(ka6 x))=true then
   some (.bool true)
  else
   if(!(kcg [c]))=true then
    some (.bool true)
   else
    if(List.length x.t:Int) > 15 then
     some (.bool true)
    else
     if x.t=[] then
         if kbx (Td.mk x.n0 x.n1 x.n2 ([(Ro.mk [c] true)]) false x.m x.bm)=true then if kbx (Td.mk x.n0 x.n1 x.n2 ([(Ro.mk ([]:List Cl) true)]) false x.m x.bm)=true then if(wE (Td.mk x.n0 x.n1 x.n2 ([(Ro.mk [c] true)]) false x.m x.bm))=0 then
          if(wE (Td.mk x.n0 x.n1 x.n2 ([(Ro.mk ([]:List Cl) true)]) false x.m x.bm))=0 then
           if List.length (wS (Td.mk x.n0 x.n1 x.n2 ([(Ro.mk [c] true)]) false x.m x.bm))≤900000 then letB (kat (wS (Td.mk x.n0 x.n1 x.n2 ([(Ro.mk [c] true)]) false x.m x.bm))) fun x12=>
           if List.length (wS (Td.mk x.n0 x.n1 x.n2 ([(Ro.mk ([]:List Cl) true)]) false x.m x.bm))≤900000 then letB (kat (wS (Td.mk x.n0 x.n1 x.n2 ([(Ro.mk ([]:List Cl) true)]) false x.m x.bm))) fun x14=>
           if x12.2.2=0 then
             if x14.2.2=0 then
              if x12.2.1=(w64 (x14.2.1+1)) then
                 if kb2 x12.1=true then if(kbj x12.1 (Td.mk x.n0 x.n1 x.n2 ([(Ro.mk [c] true)]) false x.m x.bm))=true then
                  if kb2 x14.1=true then if(kbj x14.1 (Td.mk x.n0 x.n1 x.n2 ([(Ro.mk ([]:List Cl) true)]) false x.m x.bm))=true then
                   letB ((w64 ((List.length (wS (Td.mk x.n0 x.n1 x.n2 ([(Ro.mk [c] true)]) false x.m x.bm)):Int) - (List.length (wS (Td.mk x.n0 x.n1 x.n2 ([(Ro.mk ([]:List Cl) true)]) false x.m x.bm)):Int)))) fun x22=>
                   if okP [c]=true then some (.bool (decide (x22=(List.length (ka1 [c]):Int)))) else none
                  else
                   none else none
                 else
                  none else none
              else
                 none
             else
              none
           else
             none else none else none
          else
           none
         else
          none else none else none
     else
         if(List.length ([]:List Ro)+List.length x.t)*24≤kah∧List.length ([]:List Ro)+List.length x.t≤kah then if(List.length x.t+List.length [(Ro.mk [c] true)])*24≤kah∧List.length x.t+List.length [(Ro.mk [c] true)]≤kah then if(List.length x.t+List.length [(Ro.mk ([]:List Cl) true)])*24≤kah∧List.length x.t+List.length [(Ro.mk ([]:List Cl) true)]≤kah then if kbx (Td.mk x.n0 x.n1 x.n2 (x.t++[(Ro.mk [c] true)]) false x.m x.bm)=true then if kbx (Td.mk x.n0 x.n1 x.n2 (x.t++[(Ro.mk ([]:List Cl) true)]) false x.m x.bm)=true then if(wE (Td.mk x.n0 x.n1 x.n2 (x.t++[(Ro.mk [c] true)]) false x.m x.bm))=0 then
          if(wE (Td.mk x.n0 x.n1 x.n2 (x.t++[(Ro.mk ([]:List Cl) true)]) false x.m x.bm))=0 then
            if List.length (wS (Td.mk x.n0 x.n1 x.n2 (x.t++[(Ro.mk [c] true)]) false x.m x.bm))≤900000 then letB (kat (wS (Td.mk x.n0 x.n1 x.n2 (x.t++[(Ro.mk [c] true)]) false x.m x.bm))) fun x15=>
            if List.length (wS (Td.mk x.n0 x.n1 x.n2 (x.t++[(Ro.mk ([]:List Cl) true)]) false x.m x.bm))≤900000 then letB (kat (wS (Td.mk x.n0 x.n1 x.n2 (x.t++[(Ro.mk ([]:List Cl) true)]) false x.m x.bm))) fun x17=>
            if x15.2.2=0 then
             if x17.2.2=0 then
              if x15.2.1=(w64 (x17.2.1+1)) then
                 if kb2 x15.1=true then if(kbj x15.1 (Td.mk x.n0 x.n1 x.n2 (x.t++[(Ro.mk [c] true)]) false x.m x.bm))=true then
                  if kb2 x17.1=true then if(kbj x17.1 (Td.mk x.n0 x.n1 x.n2 (x.t++[(Ro.mk ([]:List Cl) true)]) false x.m x.bm))=true then
                   letB ((w64 ((List.length (wS (Td.mk x.n0 x.n1 x.n2 (x.t++[(Ro.mk [c] true)]) false x.m x.bm)):Int) - (List.length (wS (Td.mk x.n0 x.n1 x.n2 (x.t++[(Ro.mk ([]:List Cl) true)]) false x.m x.bm)):Int)))) fun x25=>
                   if okP [c]=true then some (.bool (decide (x25=(List.length (ka1 [c]):Int)))) else none
                  else
                   none else none
                 else
                  none else none
              else
                 none
             else
              none
            else
             none else none else none
          else
            none
         else
          none else none else none else none else none else none else none else none
def kv4:List AV:=[(.agg [(vt 0),(vt 1),(vt 2),(vf 0),(vf 1)]),(.agg [(vt 3),(vt 4),(vt 5)])]
def kpk (x:Td) (c:Cl) (σ:Nat→Nat):Val:=(valL ([.int .i64 x.n0,.int .i64 x.n1,.int .i64 x.n2,.int .i64 c.no,.int .i64 c.a,.int .i64 c.b]) ([.im (List.map eR x.t) x.bt,.im (List.map eM x.m) x.bm]) [] σ 0)
def k8f (x:Td) (c:Cl) (_σ:Nat→Nat):List AV:=[(.agg [(.int .i64 x.n0),(.int .i64 x.n1),(.int .i64 x.n2),(.im (List.map eR x.t) x.bt),(.im (List.map eM x.m) x.bm)]),(.agg [(.int .i64 c.no),(.int .i64 c.a),(.int .i64 c.b)])]
def k8g (_x:Td) (_c:Cl) (_σ:Nat→Nat):List Blk:=[]
theorem k8d (x:Td) (c:Cl) (σ:Nat→Nat):kv4.map (gm (kpk x c σ))=k8f x c σ:=by kernel_rfl
theorem k8e (x:Td) (c:Cl) (σ:Nat→Nat):([]:List Blk).map (gB (kpk x c σ))=k8g x c σ:=by kernel_rfl
theorem k8i (x:Td) (c:Cl) {r0:AV} (h:kl1 x c=some r0):Spec FF 7 [(.agg [(.int .i64 x.n0),(.int .i64 x.n1),(.int .i64 x.n2),(.im (List.map eR x.t) x.bt),(.im (List.map eM x.m) x.bm)]),(.agg [(.int .i64 c.no),(.int .i64 c.a),(.int .i64 c.b)])] r0:=by
 unfold kl1 at h
 have hσ: ∀ i j:Nat,(fun i:Nat=>i) i=(fun i:Nat=>i) j→i=j:=fun _ _ e=>e
 exact kbk (ρ:=kpk x c (fun i=>i)) (xs:=kv4) (by kernel_rfl) rfl rfl (by kernel_rfl) (fun z0 S=>have H:=Tok.start hσ S 0 6 2 0 ([.int .i64 x.n0,.int .i64 x.n1,.int .i64 x.n2,.int .i64 c.no,.int .i64 c.a,.int .i64 c.b]) ([.im (List.map eR x.t) x.bt,.im (List.map eM x.m) x.bm]) [] (.c (OkF.im kau _ _) <| .c (OkF.im kam _ _) <| .n) .n (k8d x c _) (k8e x c _);have H:=H.s [] (.bool true) kmo;reqE h (fun h0 h=>have H:=H.t 9 [.bool (kcg [c]),.bool (fewT x),.bool (!(fewT x))]|>.r [(.un .not (cT 7),(vt 8))]|>.s [(.im [[(vt 3),(vt 4),(vt 5)]] true)] (vt 6) (kzh [c] true h0)|>.s [(.agg [(vt 0),(vt 1),(vt 2),(vf 0),(vf 1)])] (vt 7) (kkm x);iteE h (fun h1 h=>have H:=H.m 8 true h1;H.e [] h) (fun h1 h=>have H:=H.m 8 false (bF h1);reqE h (fun h2 h=>have H:=H.t 11 [.bool (ka6 x),.bool (!(ka6 x))]|>.r [(.un .not (cT 9),(vt 10))]|>.s [(.agg [(vt 0),(vt 1),(vt 2),(vf 0),(vf 1)])] (vt 9) (khu x h2);iteE h (fun h3 h=>have H:=H.m 10 true h3;H.e [] h) (fun h3 h=>have H:=H.t 12 [.bool (!(kcg [c]))]|>.r [(.un .not (cT 6),(vt 11))]|>.m 10 false (bF h3);iteE h (fun h4 h=>have H:=H.m 11 true h4;H.e [] h) (fun h4 h=>have H:=H.t 14 [.int .i64 (List.length x.t:Int),.bool (decide ((List.length x.t:Int) > 15))]|>.r [(.bin .gtr (cT 12) (cI 15),(vt 13))]|>.m 11 false (bF h4)|>.c (p:=(.len 0 (cF 0),(vt 12))) (fun _ _ _=>fLen (e:=eR) (l:=x.t) (b:=x.bt) (by kernel_rfl) (by kernel_rfl));iteE h (fun h5 h=>have H:=H.m 13 true (decide_eq_true h5);H.e [] h) (fun h5 h=>have H:=H.m 13 false (decide_eq_false h5);iteE h (fun h6 h=>have H:=H.c (p:=(.app 42 1 24 (.c (.sl 4 0 0 1 (some 0))) (cF 0),(.sl 4 0 0 1 (some 0)))) (fun _ _ _=>kn9 (x:=(vf 0)) (c:=x.bt) (show gm _ _=_ from(show gm _ _= .im (List.map eR x.t) x.bt from(by kernel_rfl)).trans (by rw[h6];rfl)) (by decide))|>.c (p:=(.app 42 1 24 (.c (.sl 16 0 0 1 (some 0))) (cF 0),(.sl 16 0 0 1 (some 0)))) (fun _ _ _=>kn9 (x:=(vf 0)) (c:=x.bt) (show gm _ _=_ from(show gm _ _= .im (List.map eR x.t) x.bt from(by kernel_rfl)).trans (by rw[h6];rfl)) (by decide));reqE h (fun h7 h=>have H:=H.t 16 [.str (wS (Td.mk x.n0 x.n1 x.n2 ([(Ro.mk [c] true)]) false x.m x.bm)),.int .i64 (wE (Td.mk x.n0 x.n1 x.n2 ([(Ro.mk [c] true)]) false x.m x.bm))]|>.s [(.agg [(vt 0),(vt 1),(vt 2),(.im [[(.im [[(vt 3),(vt 4),(vt 5)]] true)]] false),(vf 1)])] (.tup [(vt 14),(vt 15)]) (kea (Td.mk x.n0 x.n1 x.n2 ([(Ro.mk [c] true)]) false x.m x.bm) h7);reqE h (fun h8 h=>have H:=H.t 19 [.str (wS (Td.mk x.n0 x.n1 x.n2 ([(Ro.mk ([]:List Cl) true)]) false x.m x.bm)),.int .i64 (wE (Td.mk x.n0 x.n1 x.n2 ([(Ro.mk ([]:List Cl) true)]) false x.m x.bm)),.bool (!decide ((wE (Td.mk x.n0 x.n1 x.n2 ([(Ro.mk [c] true)]) false x.m x.bm))=0))]|>.r [(.bin .neq (cT 15) (cI 0),(vt 18))]|>.s [(.agg [(vt 0),(vt 1),(vt 2),(.im [[(.im [] true)]] false),(vf 1)])] (.tup [(vt 16),(vt 17)]) (kea (Td.mk x.n0 x.n1 x.n2 ([(Ro.mk ([]:List Cl) true)]) false x.m x.bm) h8);iteE h (fun h9 h=>have H:=H.t 20 [.bool (!decide ((wE (Td.mk x.n0 x.n1 x.n2 ([(Ro.mk ([]:List Cl) true)]) false x.m x.bm))=0))]|>.r [(.bin .neq (cT 17) (cI 0),(vt 19))]|>.m 18 false (nT h9);iteE h (fun h10 h=>have H:=H.m 19 false (nT h10);reqE h (fun h11 h=>letE h (fun x12 h12 h=>have H:=H.t 25 [.int .i64 x12.1.n0,.int .i64 x12.1.n1,.int .i64 x12.1.n2,.int .i64 x12.2.1,.int .i64 x12.2.2]|>.f 4 [.im (List.map eR x12.1.t) x12.1.bt,.im (List.map eM x12.1.m) x12.1.bm] (.c (OkF.im kau _ _) <| .c (OkF.im kam _ _) <| .n)|>.s [(vt 14)] (.tup [(.agg [(vt 20),(vt 21),(vt 22),(vf 2),(vf 3)]),(vt 23),(vt 24)]) (kb0 (wS (Td.mk x.n0 x.n1 x.n2 ([(Ro.mk [c] true)]) false x.m x.bm)) h11 h12);reqE h (fun h13 h=>letE h (fun x14 h14 h=>have H:=H.t 31 [.int .i64 x14.1.n0,.int .i64 x14.1.n1,.int .i64 x14.1.n2,.int .i64 x14.2.1,.int .i64 x14.2.2,.bool (decide (x12.2.2=0))]|>.f 6 [.im (List.map eR x14.1.t) x14.1.bt,.im (List.map eM x14.1.m) x14.1.bm] (.c (OkF.im kau _ _) <| .c (OkF.im kam _ _) <| .n)|>.r [(.bin .eql (cT 24) (cI 0),(vt 30))]|>.s [(vt 16)] (.tup [(.agg [(vt 25),(vt 26),(vt 27),(vf 4),(vf 5)]),(vt 28),(vt 29)]) (kb0 (wS (Td.mk x.n0 x.n1 x.n2 ([(Ro.mk ([]:List Cl) true)]) false x.m x.bm)) h13 h14);iteE h (fun h15 h=>have H:=H.t 32 [.bool (decide (x14.2.2=0))]|>.r [(.bin .eql (cT 29) (cI 0),(vt 31))]|>.m 30 true (decide_eq_true h15);iteE h (fun h16 h=>have H:=H.t 34 [.int .i64 (w64 (x14.2.1+1)),.bool (decide (x12.2.1=(w64 (x14.2.1+1))))]|>.r [(.bin .add (cT 28) (cI 1),(vt 32)),(.bin .eql (cT 23) (cT 32),(vt 33))]|>.m 31 true (decide_eq_true h16);iteE h (fun h17 h=>have H:=H.m 33 true (decide_eq_true h17);reqE h (fun h18 h=>have H:=H.t 35 [.bool (kbj x12.1 (Td.mk x.n0 x.n1 x.n2 ([(Ro.mk [c] true)]) false x.m x.bm))]|>.s [(.agg [(vt 20),(vt 21),(vt 22),(vf 2),(vf 3)]),(.agg [(vt 0),(vt 1),(vt 2),(.im [[(.im [[(vt 3),(vt 4),(vt 5)]] true)]] false),(vf 1)])] (vt 34) (kgb x12.1 (Td.mk x.n0 x.n1 x.n2 ([(Ro.mk [c] true)]) false x.m x.bm) h18);iteE h (fun h19 h=>have H:=H.m 34 true h19;reqE h (fun h20 h=>have H:=H.t 36 [.bool (kbj x14.1 (Td.mk x.n0 x.n1 x.n2 ([(Ro.mk ([]:List Cl) true)]) false x.m x.bm))]|>.s [(.agg [(vt 25),(vt 26),(vt 27),(vf 4),(vf 5)]),(.agg [(vt 0),(vt 1),(vt 2),(.im [[(.im [] true)]] false),(vf 1)])] (vt 35) (kgb x14.1 (Td.mk x.n0 x.n1 x.n2 ([(Ro.mk ([]:List Cl) true)]) false x.m x.bm) h20);iteE h (fun h21 h=>have H:=H.t 38 [.int .i64 (List.length (wS (Td.mk x.n0 x.n1 x.n2 ([(Ro.mk [c] true)]) false x.m x.bm)):Int),.int .i64 (List.length (wS (Td.mk x.n0 x.n1 x.n2 ([(Ro.mk ([]:List Cl) true)]) false x.m x.bm)):Int)]|>.r [(.len 1 (cT 14),(vt 36)),(.len 1 (cT 16),(vt 37))]|>.m 35 true h21;letE h (fun x22 h22 h=>have H:=H.t 39 [.int .i64 x22]|>.c (p:=(.bin .sub (cT 36) (cT 37),(vt 38))) (fun _ _ _=>fun _=>by subst h22;kernel_rfl);reqE h (fun h23 h=>have H:=H.t 42 [.str (ka1 [c]),.int .i64 (List.length (ka1 [c]):Int),.bool (decide (x22=(List.length (ka1 [c]):Int)))]|>.r [(.len 1 (cT 39),(vt 40)),(.bin .eql (cT 38) (cT 40),(vt 41))]|>.s [(.im [[(vt 3),(vt 4),(vt 5)]] true)] (vt 39) (kvt [c] true h23);H.e [] h))) (fun _ h=>nomatch h))) (fun _ h=>nomatch h))) (fun _ h=>nomatch h)) (fun _ h=>nomatch h)) (fun _ h=>nomatch h)))))) (fun _ h=>nomatch h)) (fun _ h=>nomatch h)))) (fun h6 h=>reqE h (fun h7 h=>have H:=H.o 0 (1,List.map eR x.t) (.own kau _)|>.a ⟨false,1,24,(.im [] true),(vf 0),1000001⟩ (fun _ _ _=>fApp (e:=eR) (l:=([]:List Ro)) (m:=x.t) (cb:=true) (cx:=x.bt) (by kernel_rfl) (by kernel_rfl) (by kernel_rfl) h7 (.inr ⟨rfl,h6⟩) (by decide) (by decide) (by decide));reqE h (fun h8 h=>have H:=H.o 1 (1,List.map eR (x.t++[(Ro.mk [c] true)])) (.own kau _)|>.a ⟨true,1,24,(vf 1000001),(.im [[(.im [[(vt 3),(vt 4),(vt 5)]] true)]] true),1001001⟩ (fun _ _ _=>fApp (e:=eR) (l:=x.t) (m:=[(Ro.mk [c] true)]) (cb:=false) (cx:=true) (by kernel_rfl) (by kernel_rfl) (by kernel_rfl) h8 (.inl rfl) (by decide) (by decide) (by decide));reqE h (fun h9 h=>have H:=H.o 2 (1,List.map eR (x.t++[(Ro.mk ([]:List Cl) true)])) (.own kau _)|>.a ⟨true,1,24,(vf 1000001),(.im [[(.im [] true)]] true),1002001⟩ (fun _ _ _=>fApp (e:=eR) (l:=x.t) (m:=[(Ro.mk ([]:List Cl) true)]) (cb:=false) (cx:=true) (by kernel_rfl) (by kernel_rfl) (by kernel_rfl) h9 (.inl rfl) (by decide) (by decide) (by decide));reqE h (fun h10 h=>have H:=H.t 16 [.str (wS (Td.mk x.n0 x.n1 x.n2 (x.t++[(Ro.mk [c] true)]) false x.m x.bm)),.int .i64 (wE (Td.mk x.n0 x.n1 x.n2 (x.t++[(Ro.mk [c] true)]) false x.m x.bm))]|>.s [(.agg [(vt 0),(vt 1),(vt 2),(vf 1001001),(vf 1)])] (.tup [(vt 14),(vt 15)]) (kea (Td.mk x.n0 x.n1 x.n2 (x.t++[(Ro.mk [c] true)]) false x.m x.bm) h10);reqE h (fun h11 h=>have H:=H.t 19 [.str (wS (Td.mk x.n0 x.n1 x.n2 (x.t++[(Ro.mk ([]:List Cl) true)]) false x.m x.bm)),.int .i64 (wE (Td.mk x.n0 x.n1 x.n2 (x.t++[(Ro.mk ([]:List Cl) true)]) false x.m x.bm)),.bool (!decide ((wE (Td.mk x.n0 x.n1 x.n2 (x.t++[(Ro.mk [c] true)]) false x.m x.bm))=0))]|>.r [(.bin .neq (cT 15) (cI 0),(vt 18))]|>.s [(.agg [(vt 0),(vt 1),(vt 2),(vf 1002001),(vf 1)])] (.tup [(vt 16),(vt 17)]) (kea (Td.mk x.n0 x.n1 x.n2 (x.t++[(Ro.mk ([]:List Cl) true)]) false x.m x.bm) h11);iteE h (fun h12 h=>have H:=H.t 20 [.bool (!decide ((wE (Td.mk x.n0 x.n1 x.n2 (x.t++[(Ro.mk ([]:List Cl) true)]) false x.m x.bm))=0))]|>.r [(.bin .neq (cT 17) (cI 0),(vt 19))]|>.m 18 false (nT h12);iteE h (fun h13 h=>have H:=H.m 19 false (nT h13);reqE h (fun h14 h=>letE h (fun x15 h15 h=>have H:=H.t 25 [.int .i64 x15.1.n0,.int .i64 x15.1.n1,.int .i64 x15.1.n2,.int .i64 x15.2.1,.int .i64 x15.2.2]|>.f 4 [.im (List.map eR x15.1.t) x15.1.bt,.im (List.map eM x15.1.m) x15.1.bm] (.c (OkF.im kau _ _) <| .c (OkF.im kam _ _) <| .n)|>.s [(vt 14)] (.tup [(.agg [(vt 20),(vt 21),(vt 22),(vf 2),(vf 3)]),(vt 23),(vt 24)]) (kb0 (wS (Td.mk x.n0 x.n1 x.n2 (x.t++[(Ro.mk [c] true)]) false x.m x.bm)) h14 h15);reqE h (fun h16 h=>letE h (fun x17 h17 h=>have H:=H.t 31 [.int .i64 x17.1.n0,.int .i64 x17.1.n1,.int .i64 x17.1.n2,.int .i64 x17.2.1,.int .i64 x17.2.2,.bool (decide (x15.2.2=0))]|>.f 6 [.im (List.map eR x17.1.t) x17.1.bt,.im (List.map eM x17.1.m) x17.1.bm] (.c (OkF.im kau _ _) <| .c (OkF.im kam _ _) <| .n)|>.r [(.bin .eql (cT 24) (cI 0),(vt 30))]|>.s [(vt 16)] (.tup [(.agg [(vt 25),(vt 26),(vt 27),(vf 4),(vf 5)]),(vt 28),(vt 29)]) (kb0 (wS (Td.mk x.n0 x.n1 x.n2 (x.t++[(Ro.mk ([]:List Cl) true)]) false x.m x.bm)) h16 h17);iteE h (fun h18 h=>have H:=H.t 32 [.bool (decide (x17.2.2=0))]|>.r [(.bin .eql (cT 29) (cI 0),(vt 31))]|>.m 30 true (decide_eq_true h18);iteE h (fun h19 h=>have H:=H.t 34 [.int .i64 (w64 (x17.2.1+1)),.bool (decide (x15.2.1=(w64 (x17.2.1+1))))]|>.r [(.bin .add (cT 28) (cI 1),(vt 32)),(.bin .eql (cT 23) (cT 32),(vt 33))]|>.m 31 true (decide_eq_true h19);iteE h (fun h20 h=>have H:=H.m 33 true (decide_eq_true h20);reqE h (fun h21 h=>have H:=H.t 35 [.bool (kbj x15.1 (Td.mk x.n0 x.n1 x.n2 (x.t++[(Ro.mk [c] true)]) false x.m x.bm))]|>.s [(.agg [(vt 20),(vt 21),(vt 22),(vf 2),(vf 3)]),(.agg [(vt 0),(vt 1),(vt 2),(vf 1001001),(vf 1)])] (vt 34) (kgb x15.1 (Td.mk x.n0 x.n1 x.n2 (x.t++[(Ro.mk [c] true)]) false x.m x.bm) h21);iteE h (fun h22 h=>have H:=H.m 34 true h22;reqE h (fun h23 h=>have H:=H.t 36 [.bool (kbj x17.1 (Td.mk x.n0 x.n1 x.n2 (x.t++[(Ro.mk ([]:List Cl) true)]) false x.m x.bm))]|>.s [(.agg [(vt 25),(vt 26),(vt 27),(vf 4),(vf 5)]),(.agg [(vt 0),(vt 1),(vt 2),(vf 1002001),(vf 1)])] (vt 35) (kgb x17.1 (Td.mk x.n0 x.n1 x.n2 (x.t++[(Ro.mk ([]:List Cl) true)]) false x.m x.bm) h23);iteE h (fun h24 h=>have H:=H.t 38 [.int .i64 (List.length (wS (Td.mk x.n0 x.n1 x.n2 (x.t++[(Ro.mk [c] true)]) false x.m x.bm)):Int),.int .i64 (List.length (wS (Td.mk x.n0 x.n1 x.n2 (x.t++[(Ro.mk ([]:List Cl) true)]) false x.m x.bm)):Int)]|>.r [(.len 1 (cT 14),(vt 36)),(.len 1 (cT 16),(vt 37))]|>.m 35 true h24;letE h (fun x25 h25 h=>have H:=H.t 39 [.int .i64 x25]|>.c (p:=(.bin .sub (cT 36) (cT 37),(vt 38))) (fun _ _ _=>fun _=>by subst h25;kernel_rfl);reqE h (fun h26 h=>have H:=H.t 42 [.str (ka1 [c]),.int .i64 (List.length (ka1 [c]):Int),.bool (decide (x25=(List.length (ka1 [c]):Int)))]|>.r [(.len 1 (cT 39),(vt 40)),(.bin .eql (cT 38) (cT 40),(vt 41))]|>.s [(.im [[(vt 3),(vt 4),(vt 5)]] true)] (vt 39) (kvt [c] true h26);H.e [] h))) (fun _ h=>nomatch h))) (fun _ h=>nomatch h))) (fun _ h=>nomatch h)) (fun _ h=>nomatch h)) (fun _ h=>nomatch h)))))) (fun _ h=>nomatch h)) (fun _ h=>nomatch h))))))))))))))
end Go.Proofs.Hz
open Go Go.Proofs
namespace Go.Proofs.Hz
def sysT (y z:Td) (c:Cl):Option AV:=
 if kbx y=true then if kbx z=true then if(wE y)=0 then
  if(wE z)=0 then
   if List.length (wS y)≤900000 then letB (kat (wS y)) fun x12=>
   if List.length (wS z)≤900000 then letB (kat (wS z)) fun x14=>
   if x12.2.2=0 then
     if x14.2.2=0 then
          if x12.2.1=(w64 (x14.2.1+1)) then
           if kb2 x12.1=true then if(kbj x12.1 y)=true then
            if kb2 x14.1=true then if(kbj x14.1 z)=true then
             letB ((w64 ((List.length (wS y):Int) - (List.length (wS z):Int)))) fun x22=>
             if okP [c]=true then some (.bool (decide (x22=(List.length (ka1 [c]):Int)))) else none
            else
             none else none
           else
            none else none
          else
           none
     else
          none
   else
     none else none else none
  else
   none
 else
  none else none else none
theorem kyu (T:List (List Cl)) (c:List Cl):thrN (T++[c])=thrN T+(c.length+1):=by
 simp[thrN]
theorem kyy {x y:Td} {r:List Cl} (hM:May x.d) (hl:x.t.length≤15) (hr:kbb r=true) (hy:y.d=⟨x.d.n0,x.d.n1,x.d.n2,x.d.t++[r],x.d.m⟩):ka6 y=true:=by
 rw[kdc,hy]
 refine⟨hM.n0,hM.n1,hM.n2,?_,hM.m,?_,hM.ml⟩
 ·show(x.d.t++[r]).all kbb=true
  rw[List.all_append,hM.t]
  simp[hr]
 ·show(x.d.t++[r]).length≤16
  have:x.d.t.length=x.t.length:=by simp[Td.d]
  rw[List.length_append,List.length_singleton];omega
theorem kyp (x y z:Td) (c:Cl) (hM:ka6 x=true) (hl:x.t.length≤15) (hw:kc7 c=true) (hfy:kbx y=true) (hfz:kbx z=true)
  (hy:y.d=⟨x.d.n0,x.d.n1,x.d.n2,x.d.t++[[c]],x.d.m⟩) (hz:z.d=⟨x.d.n0,x.d.n1,x.d.n2,x.d.t++[[]],x.d.m⟩):sysT y z c=some (.bool true):=by
 have h:=kdc.1 hM
 have hmy:=kyy (r:=[c]) h hl (by simp[kbb,kcg,hw]) hy
 have hmz:=kyy (r:=[]) h hl (by simp[kbb,kcg]) hz
 have hyM:=kdc.1 hmy
 have hzM:=kdc.1 hmz
 have hyl:=khb y
 have hzl:=khb z
 have hN:=kjz h.t
 have htl:=h.tl
 have hml:=h.ml
 have ey:kat (wS y)=(y.d.td,((4+thrN x.d.t+x.d.m.length+2:Nat):Int),0):=by
  rw[kej hmy,kh2 hyM,hy]
  simp only[kyu,List.length_singleton]
  rw[show 4+(thrN x.d.t+(1+1))+x.d.m.length=4+thrN x.d.t+x.d.m.length+2 by omega]
 have ez:kat (wS z)=(z.d.td,((4+thrN x.d.t+x.d.m.length+1:Nat):Int),0):=by
  rw[kej hmz,kh2 hzM,hz]
  simp only[kyu,List.length_nil]
  rw[show 4+(thrN x.d.t+(0+1))+x.d.m.length=4+thrN x.d.t+x.d.m.length+1 by omega]
 have hw1:((4+thrN x.d.t+x.d.m.length+2:Nat):Int)=w64 (((4+thrN x.d.t+x.d.m.length+1:Nat):Int)+1):=by rw[kdh (by omega)];omega
 have hd:(wS y).length=(wS z).length+(ka1 [c]).length:=by
  rw[kej hmy,kej hmz,hy,hz,kzg,kzg]
  simp only[ka1,List.map_nil,List.flatten_nil,List.length_nil]
  omega
 have hok:okP [c]=true:=by simp[okP,kr7 hw]
 unfold sysT letB
 dsimp only
 rw[if_pos hfy,if_pos hfz,if_pos (kif hmy),if_pos (kif hmz),if_pos (by omega),if_pos (by omega),ey,ez]
 dsimp only
 rw[if_pos rfl,if_pos rfl,if_pos hw1,if_pos (ke4 (kjy hyM)),if_pos ((kh5 _ _).2 (td_d _)),if_pos (ke4 (kjy hzM)),if_pos ((kh5 _ _).2 (td_d _)),if_pos hok,kdh (by omega)]
 rw[decide_eq_true (by omega)]
theorem k8h (x:Td) (c:Cl) (hv:kcy x=true) (hc:valC c=true):kl1 x c=some (.bool true):=by
 unfold kl1
 rw[if_pos (by simp)]
 by_cases hf: ¬fewT x=true
 ·rw[if_pos (by simp[hf])]
 rw[Classical.not_not] at hf
 rw[if_neg (by simp[hf]),if_pos (ke4 hf)]
 by_cases hM: ¬ka6 x=true
 ·rw[if_pos (by simp[hM])]
 rw[Classical.not_not] at hM
 rw[if_neg (by simp[hM])]
 by_cases hw: ¬kcg [c]=true
 ·rw[if_pos (by simp[hw])]
 rw[Classical.not_not] at hw
 rw[if_neg (by simp[hw])]
 have hwc:kc7 c=true:=by simpa[kcg] using hw
 by_cases hl:(x.t.length:Int) > 15
 ·rw[if_pos hl]
 rw[if_neg hl]
 have fy: ∀ (bt:Bool) (r:Ro) (t:List Ro),t=x.t++[r]→r.c.length≤1→r.c.all valC=true→kbx (Td.mk x.n0 x.n1 x.n2 t bt x.m x.bm)=true:=fun bt r t ht hrl hrv=>by
  subst ht
  refine kio ?_ ?_
  ·simp only[fewT,fewF,Bool.and_eq_true,decide_eq_true_eq,List.all_append,List.all_cons,List.all_nil] at hf ⊢
   refine⟨⟨?_,hf.1.2,?_,trivial⟩,hf.2⟩
   ·rw[List.length_append,List.length_singleton];omega
   ·omega
  ·simp only[kcy,Bool.and_eq_true,List.all_append,List.all_cons,List.all_nil] at hv ⊢
   exact⟨⟨hv.1.1,hv.1.2,hrv,trivial⟩,hv.2⟩
 have h1:([c]:List Cl).all valC=true:=by simp[hc]
 by_cases he:x.t=[]
 ·rw[if_pos he]
  exact kyp x _ _ c hM (by omega) hwc (fy _ ⟨[c],true⟩ _ (by rw[he];rfl) (by simp) h1) (fy _ ⟨[],true⟩ _ (by rw[he];rfl) (by simp) (by simp)) (by simp[Td.d,he]) (by simp[Td.d,he])
 ·rw[if_neg he,if_pos (by simp only[kah,List.length_nil];omega),if_pos (by simp only[kah,List.length_cons,List.length_nil];omega),if_pos (by simp only[kah,List.length_cons,List.length_nil];omega)]
  exact kyp x _ _ c hM (by omega) hwc (fy _ ⟨[c],true⟩ _ rfl (by simp) h1) (fy _ ⟨[],true⟩ _ rfl (by simp) (by simp)) (by simp[Td.d]) (by simp[Td.d])
theorem qf3 (x:Td) (c:Cl) (hv:kcy x=true) (hc:valC c=true):Spec FF 7 [x.av,c.av] (.bool true):=k8i x c (k8h x c hv hc)
end Go.Proofs.Hz
namespace Go.Proofs.YtamikoglpnoicaaGreatDoor
open Go.ChangeShapes Go.WideShapes Go.ChangeAt Go.RowKit Go.Proofs.Hz
set_option maxRecDepth 100000
theorem qgc (os:Os) (started:os.Started) (H:Type) (enc:TypeId×Value→H):
  ReturnsInHanded {} Tryz.checked os 7 .any (fun w args=>(Rows.toolSyscallsSpec.pre enc Tryz.prog Tryz.f7 Rows.toolSyscallsRow.domain false w args∧laidMetH Tryz.prog laid w)∧sizedMet enc Tryz.prog Tryz.f7 (OpenSpec.ofChange Rows.toolSyscallsSpec) false w args)
   (Rows.toolSyscallsSpec.post enc Tryz.prog Tryz.f7 false true false false):=by
 refine kmk (C:=Tryz.checked) (X:=fun w _=>laidMetH Tryz.prog laid w) (fun _ _ _ hh h=>h.of_heap hh) own started (by kernel_rfl) Tryz.func7
  (ChangeSpec.witness_shaped (enc:=enc) (C:=Tryz.checked) (os:=os) (X:=fun w _=>laidMetH Tryz.prog laid w) false (World.laidAll Tryz.prog os laid) #[klh,.agg #[.int .i64 0,.int .i64 0,.int .i64 0]] 8 (World.laidAll_os _ _ _)
   (World.shaped_of_ZipB (by kernel_rfl) (by kernel_rfl)) (by kernel_rfl) (by kernel_rfl) (by kernel_rfl) (kld os _)) ?_
 intro W base args ds gs before hval0 hW hL hsh
 have hval: ∀ (j:Nat) t v,Tryz.f7.params[j]? =some t→args[j]? =some v→Value.okWide Tryz.prog W .any base t v:=hval0
 have hW':=hW
 obtain⟨p,q,hA0,hV,rfl,hfz,hnd⟩:=hW
 have hA:DataW.TrodAll enc Tryz.prog W 0 (fun _=>true) true Tryz.f7.params.toList args.toList ds p:=hA0
 have hA1:=hA
 rw[Tryz.params7] at hA hval
 obtain⟨v0,v1,d0,d1,p0,p1,rfl,rfl,rfl,h0,h1⟩:=trodAll_two hA
 obtain⟨rfl,rfl⟩:=trodVars_none hV
 obtain⟨x0,hR0,hv0⟩:=kj9 (hval 0 26 v0 rfl rfl) h0
 obtain⟨c1,hR1,hc1⟩:=kz6 (hval 1 48 v1 rfl rfl) h1
 simp only[List.append_nil] at hW'
 refine(kk1 (pu:=puN) (F:=FF) (fun f af h=>h) hX15 (kks hL hsh) (qf3 x0 c1 hv0 hc1) (RL.cons hR0 (RL.cons hR1 RL.nil))).mono fun e W' ⟨he,hw⟩=> ?_
 subst he
 exact⟨_,rfl,kk2 (P:=Tryz.prog) kk0 rfl hW' (by simpa using hA1) rfl (by kernel_rfl) rfl u4 hw⟩
theorem qf4:(Rows.toolSyscallsRow.inPlace == Tryz.prog.inPlace 7)=true:=by kernel_rfl
theorem qf5:(Rows.toolSyscallsRow.unfollowed == Tryz.prog.unfollowed 7)=true:=by kernel_rfl
theorem qf6:(Rows.toolSyscallsRow.recurses == Tryz.prog.recurses 7)=true:=by kernel_rfl
theorem qf7:(Rows.toolSyscallsRow.named == Tryz.prog.varsNamed 7)=true:=by kernel_rfl
theorem qf8:joinedFacts Tryz.prog 7 Tryz.f7 Rows.toolSyscallsSpec Rows.toolSyscallsRow=true:=by
 unfold joinedFacts
 rw[qf4,qf5,qf6,qf7]
 kernel_rfl
theorem kyq:Tryz.prog.funcNamed "hazel/hazellaw20.ToolSyscalls" =some 7:=by kernel_rfl
theorem qgb:Tryz.f7.isInstance Tryz.prog Rows.toolSyscallsRow.origin Rows.toolSyscallsRow.targs:=of_decide_eq_true (by kernel_rfl)
theorem qge:Rows.toolSyscallsRow.wfByText (OpenSpec.ofChange Rows.toolSyscallsSpec)=true:=by kernel_rfl
theorem qf9:false=Rows.toolSyscallsRow.goesBy Tryz.prog:=by kernel_rfl
theorem qgd:([26,48].all fun u=> !Tryz.prog.wantsStandIn u)=true:=by kernel_rfl
theorem qga:Rows.ToolSyscallsSaid:=
 OpenClaim.holds_of_wide 7 Tryz.f7 rfl rfl rfl rfl rfl rfl rfl ⟨rfl,rfl,rfl,rfl,rfl⟩ rfl rfl rfl rfl rfl kyq Tryz.func7 qf8
  qgb (by unfold Func.isWrapper;first |(rw[if_pos (by decide+kernel)];kernel_rfl) |(rw[if_neg (by decide+kernel)];exact⟨rfl,rfl⟩))
  (fun os started H enc _=>qgc os started H enc)
theorem sys_card:Rows.ToolSyscallsCardSaid:=
 Claim7.holds_tied_plain_at .later [] [.data,.data,.data,.data,.sentinel,.sentinel,.pinned] true (true,"fad3822e4c3238e0715d09156ba720034c4347236d647728db356adb10470ef3") true qga (fun _ h=>by cases h) qge (fun _ h=>by cases h) toolSyscalls_row_tie rfl ⟨rfl,rfl⟩ klc rfl
  (fun f fn hf hfn=>by
   obtain rfl:f=7:=Option.some.inj (kyq.symm.trans hf)|>.symm
   obtain rfl:fn=Tryz.f7:=(Option.some.inj (Tryz.func7.symm.trans hfn)).symm
   exact⟨kk9,fun j t ht=>by
    rw[Tryz.params7] at ht
    have hm:t ∈ [26,48]:=by simpa using Array.mem_of_getElem? ht
    exact(show Tryz.prog.wantsStandIn t=false by simpa using List.all_eq_true.1 qgd t hm)⟩)
  qf9
#print axioms sys_card
end Go.Proofs.YtamikoglpnoicaaGreatDoor
