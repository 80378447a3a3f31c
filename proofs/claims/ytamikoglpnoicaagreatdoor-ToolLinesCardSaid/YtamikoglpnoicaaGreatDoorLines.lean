/-
  'hazellaw20.ToolLines' returns true for every input, and its arguments read afterwards as they read before; the card.
  Conditions: none.
-/
import Derived.Test.YtamikoglpnoicaaGreatDoorT41
import Derived.Test.YtamikoglpnoicaaGreatDoorT42
open Go Go.Proofs
namespace Go.Proofs.Hz
def kd4:Nat→Td→Int→Td×Int×Int→Int→Int→Option AV
 |0,_,_,_,_,_=>none
 |fu+1,x,cut,x8,p1_0,p1_1=>
  if p1_1<(Int.tmod (IntKind.wrap .i64 cut) (List.length (wS x):Int)) then
   if 0≤p1_1 then Option.bind ((wS x)[Int.toNat p1_1]?) fun x2=>
   if(UInt8.toNat x2:Int)=10 then
    kd4 fu x cut x8 (w64 (p1_0+1)) (w64 (p1_1+1))
   else
    kd4 fu x cut x8 p1_0 (w64 (p1_1+1)) else none
  else
   if(Int.tmod (IntKind.wrap .i64 cut) (List.length (wS x):Int))=0 then
    if x8.2.2=0 then
      some (.bool (decide (p1_0 ≥ (w64 (4+(List.length x.t:Int))))))
    else
      some (.bool (decide (x8.2.1=(w64 (p1_0+1)))))
   else
    if 0≤(w64 ((Int.tmod (IntKind.wrap .i64 cut) (List.length (wS x):Int)) - 1)) then Option.bind ((wS x)[Int.toNat (w64 ((Int.tmod (IntKind.wrap .i64 cut) (List.length (wS x):Int)) - 1))]?) fun x3=>
    if x8.2.2=0 then
     if(UInt8.toNat x3:Int)=10 then
      some (.bool (decide (p1_0 ≥ (w64 (4+(List.length x.t:Int))))))
     else
      none
    else
     some (.bool (decide (x8.2.1=(w64 (p1_0+1))))) else none
def kv2:List AV:=([(.ptr 0 0),(.bool true)]++vT 0 6)
def kv1:List Blk:=[.cells [(vt 6),(vt 7),(vt 8),(vf 0),(vf 1)] false 26]
def khy (x:Td) (cut:Int) (x8:Td×Int×Int) (p1_0:Int) (p1_1:Int) (σ:Nat→Nat):Val:=(valL ([.str (wS x),.int .i64 (Int.tmod (IntKind.wrap .i64 cut) (List.length (wS x):Int)),.int .i64 x8.2.1,.int .i64 x8.2.2,.int .i64 p1_0,.int .i64 p1_1,.int .i64 x.n0,.int .i64 x.n1,.int .i64 x.n2]) ([.im (List.map eR x.t) x.bt,.im (List.map eM x.m) x.bm]) [] σ 1)
def k72 (x:Td) (cut:Int) (x8:Td×Int×Int) (p1_0:Int) (p1_1:Int) (σ:Nat→Nat):List AV:=[(.ptr (σ 0) 0),(.bool true),(.str (wS x)),(.int .i64 (Int.tmod (IntKind.wrap .i64 cut) (List.length (wS x):Int))),(.int .i64 x8.2.1),(.int .i64 x8.2.2),(.int .i64 p1_0),(.int .i64 p1_1)]
def k73 (x:Td) (_cut:Int) (_x8:Td×Int×Int) (_p1_0:Int) (_p1_1:Int) (_σ:Nat→Nat):List Blk:=[.cells [(.int .i64 x.n0),(.int .i64 x.n1),(.int .i64 x.n2),(.im (List.map eR x.t) x.bt),(.im (List.map eM x.m) x.bm)] false 26]
theorem kly (x:Td) (cut:Int) (x8:Td×Int×Int) (p1_0:Int) (p1_1:Int) (σ:Nat→Nat):kv2.map (gm (khy x cut x8 p1_0 p1_1 σ))=k72 x cut x8 p1_0 p1_1 σ:=by kernel_rfl
theorem klz (x:Td) (cut:Int) (x8:Td×Int×Int) (p1_0:Int) (p1_1:Int) (σ:Nat→Nat):kv1.map (gB (khy x cut x8 p1_0 p1_1 σ))=k73 x cut x8 p1_0 p1_1 σ:=by kernel_rfl
theorem k74: ∀ (fu:Nat),∀ (x:Td) (cut:Int) (x8:Td×Int×Int) (p1_0:Int) (p1_1:Int) {r0:AV} {z0:St} {σ:Nat→Nat},(∀ i j,σ i=σ j→i=j)→kd4 fu x cut x8 p1_0 p1_1=some r0→Sim (khy x cut x8 p1_0 p1_1 σ) (tmpl [2,5,6,13,15,16,17,18] kv2 kv1) z0→J FF (fnOf FF 5) (cutK (fnOf FF 5) 2) (.code (.loop (cutB (fnOf FF 5) 2))) z0 r0:=by
 intro fu
 induction fu with
 |zero=>
  intro _ _ _ _ _ _ _ _ _ h _
  unfold kd4 at h
  cases h
 |succ fu ih=>
  intro x cut x8 p1_0 p1_1 r0 z0 σ hσ h S
  unfold kd4 at h
  exact kcq (have H:=Tok.start hσ S 1 9 2 0 ([.str (wS x),.int .i64 (Int.tmod (IntKind.wrap .i64 cut) (List.length (wS x):Int)),.int .i64 x8.2.1,.int .i64 x8.2.2,.int .i64 p1_0,.int .i64 p1_1,.int .i64 x.n0,.int .i64 x.n1,.int .i64 x.n2]) ([.im (List.map eR x.t) x.bt,.im (List.map eM x.m) x.bm]) [] (.c (OkF.im kau _ _) <| .c (OkF.im kam _ _) <| .n) (.n) (kly x cut x8 p1_0 p1_1 _) (klz x cut x8 p1_0 p1_1 _);have H:=H.t 10 [.bool (decide (p1_1<(Int.tmod (IntKind.wrap .i64 cut) (List.length (wS x):Int))))]|>.r [(.bin .lss (cT 5) (cT 1),(vt 9))];iteE h (fun h0 h=>have H:=H.m 9 true (decide_eq_true h0);reqE h (fun h1 h=>ka3 h (fun x2 h2 h=>have H:=H.t 12 [.int .u8 (UInt8.toNat x2:Int),.bool (decide ((UInt8.toNat x2:Int)=10))]|>.r [(.bin .eql (cT 10) (.c (.int .u8 10)),(vt 11))]|>.c (p:=(.ixS (cT 0) (cT 5),(vt 10))) (fun _ _ _=>fIxS (b:=(wS x)) (k:= .i64) (n:=p1_1) (y:=x2) (by kernel_rfl) (by kernel_rfl) h1 h2 (by kernel_rfl));iteE h (fun h3 h=>have H:=H.t 14 [.int .i64 (w64 (p1_0+1)),.int .i64 (w64 (p1_1+1))]|>.r [(.bin .add (cT 4) (cI 1),(vt 12)),(.bin .add (cT 5) (cI 1),(vt 13))]|>.m 11 true (decide_eq_true h3);H.k [0,2] [2,5,6,13,15,16,17,18] [0] ([(.ptr 0 0),(.bool true)]++vT 0 4++[(vt 12),(vt 13)]) [.cells [(vt 6),(vt 7),(vt 8),(vf 0),(vf 1)] false 26] 1 (khy x cut x8 (w64 (p1_0+1)) (w64 (p1_1+1)) _) (kly x cut x8 (w64 (p1_0+1)) (w64 (p1_1+1)) _) (klz x cut x8 (w64 (p1_0+1)) (w64 (p1_1+1)) _) (fun _ hi S=>ih _ _ _ _ _ hi h S)) (fun h3 h=>have H:=H.t 13 [.int .i64 (w64 (p1_1+1))]|>.r [(.bin .add (cT 5) (cI 1),(vt 12))]|>.m 11 false (decide_eq_false h3);H.k [0,2] [2,5,6,13,15,16,17,18] [0] ([(.ptr 0 0),(.bool true)]++vT 0 5++[(vt 12)]) [.cells [(vt 6),(vt 7),(vt 8),(vf 0),(vf 1)] false 26] 1 (khy x cut x8 p1_0 (w64 (p1_1+1)) _) (kly x cut x8 p1_0 (w64 (p1_1+1)) _) (klz x cut x8 p1_0 (w64 (p1_1+1)) _) (fun _ hi S=>ih _ _ _ _ _ hi h S))))) (fun h0 h=>have H:=H.t 11 [.bool (decide ((Int.tmod (IntKind.wrap .i64 cut) (List.length (wS x):Int))=0))]|>.r [(.bin .eql (cT 1) (cI 0),(vt 10))]|>.m 9 false (decide_eq_false h0);iteE h (fun h1 h=>have H:=H.t 12 [.bool (decide (x8.2.2=0))]|>.r [(.bin .eql (cT 3) (cI 0),(vt 11))]|>.m 10 true (decide_eq_true h1);iteE h (fun h2 h=>have H:=H.t 15 [.int .i64 (List.length x.t:Int),.int .i64 (w64 (4+(List.length x.t:Int))),.bool (decide (p1_0 ≥ (w64 (4+(List.length x.t:Int)))))]|>.r [(.bin .add (cI 4) (cT 12),(vt 13)),(.bin .geq (cT 4) (cT 13),(vt 14))]|>.m 11 true (decide_eq_true h2)|>.c (p:=(.len 0 (cF 0),(vt 12))) (fun _ _ _=>fLen (e:=eR) (l:=x.t) (b:=x.bt) (by kernel_rfl) (by kernel_rfl));H.e [0,2] h) (fun h2 h=>have H:=H.t 14 [.int .i64 (w64 (p1_0+1)),.bool (decide (x8.2.1=(w64 (p1_0+1))))]|>.r [(.bin .add (cT 4) (cI 1),(vt 12)),(.bin .eql (cT 2) (cT 12),(vt 13))]|>.m 11 false (decide_eq_false h2);H.e [0,2] h)) (fun h1 h=>have H:=H.t 12 [.int .i64 (w64 ((Int.tmod (IntKind.wrap .i64 cut) (List.length (wS x):Int)) - 1))]|>.r [(.bin .sub (cT 1) (cI 1),(vt 11))]|>.m 10 false (decide_eq_false h1);reqE h (fun h2 h=>ka3 h (fun x3 h3 h=>have H:=H.t 15 [.int .u8 (UInt8.toNat x3:Int),.bool (decide ((UInt8.toNat x3:Int)=10)),.bool (decide (x8.2.2=0))]|>.r [(.bin .eql (cT 12) (.c (.int .u8 10)),(vt 13)),(.bin .eql (cT 3) (cI 0),(vt 14))]|>.c (p:=(.ixS (cT 0) (cT 11),(vt 12))) (fun _ _ _=>fIxS (b:=(wS x)) (k:= .i64) (n:=(w64 ((Int.tmod (IntKind.wrap .i64 cut) (List.length (wS x):Int)) - 1))) (y:=x3) (by kernel_rfl) (by kernel_rfl) h2 h3 (by kernel_rfl));iteE h (fun h4 h=>have H:=H.m 14 true (decide_eq_true h4);iteE h (fun h5 h=>have H:=H.t 18 [.int .i64 (List.length x.t:Int),.int .i64 (w64 (4+(List.length x.t:Int))),.bool (decide (p1_0 ≥ (w64 (4+(List.length x.t:Int)))))]|>.r [(.bin .add (cI 4) (cT 15),(vt 16)),(.bin .geq (cT 4) (cT 16),(vt 17))]|>.m 13 true (decide_eq_true h5)|>.c (p:=(.len 0 (cF 0),(vt 15))) (fun _ _ _=>fLen (e:=eR) (l:=x.t) (b:=x.bt) (by kernel_rfl) (by kernel_rfl));H.e [0,2] h) (fun _ h=>nomatch h)) (fun h4 h=>have H:=H.t 17 [.int .i64 (w64 (p1_0+1)),.bool (decide (x8.2.1=(w64 (p1_0+1))))]|>.r [(.bin .add (cT 4) (cI 1),(vt 15)),(.bin .eql (cT 2) (cT 15),(vt 16))]|>.m 14 false (decide_eq_false h4);H.e [0,2] h))))))
def ke8:Nat→Td→Int→Td×Int×Int→Int→Int→Option AV
 |0,_,_,_,_,_=>none
 |fu+1,x,cut,x5,p0,p1=>
  if p1<(List.length x.t:Int) then
   if 0≤p1 then Option.bind (x.t[Int.toNat p1]?) fun x2=>
   ke8 fu x cut x5 (w64 (p0+(List.length x2.c:Int))) (w64 (p1+1)) else none
  else
   if(wE x)=0 then
    if x5.2.2=0 then
      if x5.2.1=p0 then
       if(List.length (wS x):Int)=0 then
        none
       else
        if(List.length (wS x):Int)≠0 then if 0≤(Int.tmod (IntKind.wrap .i64 cut) (List.length (wS x):Int))∧(Int.tmod (IntKind.wrap .i64 cut) (List.length (wS x):Int))≤(List.length (wS x):Int) then if List.length (List.take (Int.toNat (Int.tmod (IntKind.wrap .i64 cut) (List.length (wS x):Int))) (wS x))≤900000 then letB (kat (List.take (Int.toNat (Int.tmod (IntKind.wrap .i64 cut) (List.length (wS x):Int))) (wS x))) fun x8=>
        kd4 fu x cut x8 0 0 else none else none else none
      else
       none
    else
      none
   else
    none
def kv0:List AV:=([(vt 0),(.ptr 0 0),(.bool true)]++vT 1 6)
def kvz:List Blk:=[.cells [(vt 7),(vt 8),(vt 9),(vf 0),(vf 1)] false 26]
def kjb (x:Td) (cut:Int) (x5:Td×Int×Int) (p0:Int) (p1:Int) (σ:Nat→Nat):Val:=(valL ([.int .u16 cut,.str (wS x),.int .i64 (wE x),.int .i64 x5.2.1,.int .i64 x5.2.2,.int .i64 p0,.int .i64 p1,.int .i64 x.n0,.int .i64 x.n1,.int .i64 x.n2]) ([.im (List.map eR x.t) x.bt,.im (List.map eM x.m) x.bm]) [] σ 1)
def k7z (x:Td) (cut:Int) (x5:Td×Int×Int) (p0:Int) (p1:Int) (σ:Nat→Nat):List AV:=[(.int .u16 cut),(.ptr (σ 0) 0),(.bool true),(.str (wS x)),(.int .i64 (wE x)),(.int .i64 x5.2.1),(.int .i64 x5.2.2),(.int .i64 p0),(.int .i64 p1)]
def k70 (x:Td) (_cut:Int) (_x5:Td×Int×Int) (_p0:Int) (_p1:Int) (_σ:Nat→Nat):List Blk:=[.cells [(.int .i64 x.n0),(.int .i64 x.n1),(.int .i64 x.n2),(.im (List.map eR x.t) x.bt),(.im (List.map eM x.m) x.bm)] false 26]
theorem kph (x:Td) (cut:Int) (x5:Td×Int×Int) (p0:Int) (p1:Int) (σ:Nat→Nat):kv0.map (gm (kjb x cut x5 p0 p1 σ))=k7z x cut x5 p0 p1 σ:=by kernel_rfl
theorem kpi (x:Td) (cut:Int) (x5:Td×Int×Int) (p0:Int) (p1:Int) (σ:Nat→Nat):kvz.map (gB (kjb x cut x5 p0 p1 σ))=k70 x cut x5 p0 p1 σ:=by kernel_rfl
theorem k71: ∀ (fu:Nat),∀ (x:Td) (cut:Int) (x5:Td×Int×Int) (p0:Int) (p1:Int) {r0:AV} {z0:St} {σ:Nat→Nat},(∀ i j,σ i=σ j→i=j)→ke8 fu x cut x5 p0 p1=some r0→Sim (kjb x cut x5 p0 p1 σ) (tmpl [1,2,5,6,7,9,10,11,12] kv0 kvz) z0→J FF (fnOf FF 5) (cutK (fnOf FF 5) 0) (.code (.loop (cutB (fnOf FF 5) 0))) z0 r0:=by
 intro fu
 induction fu with
 |zero=>
  intro _ _ _ _ _ _ _ _ _ h _
  unfold ke8 at h
  cases h
 |succ fu ih=>
  intro x cut x5 p0 p1 r0 z0 σ hσ h S
  unfold ke8 at h
  exact kcq (have H:=Tok.start hσ S 1 10 2 0 ([.int .u16 cut,.str (wS x),.int .i64 (wE x),.int .i64 x5.2.1,.int .i64 x5.2.2,.int .i64 p0,.int .i64 p1,.int .i64 x.n0,.int .i64 x.n1,.int .i64 x.n2]) ([.im (List.map eR x.t) x.bt,.im (List.map eM x.m) x.bm]) [] (.c (OkF.im kau _ _) <| .c (OkF.im kam _ _) <| .n) (.n) (kph x cut x5 p0 p1 _) (kpi x cut x5 p0 p1 _);have H:=H.t 12 [.int .i64 (List.length x.t:Int),.bool (decide (p1<(List.length x.t:Int)))]|>.r [(.bin .lss (cT 6) (cT 10),(vt 11))]|>.c (p:=(.len 0 (cF 0),(vt 10))) (fun _ _ _=>fLen (e:=eR) (l:=x.t) (b:=x.bt) (by kernel_rfl) (by kernel_rfl));iteE h (fun h0 h=>have H:=H.m 11 true (decide_eq_true h0);reqE h (fun h1 h=>ka3 h (fun x2 h2 h=>have H:=H.t 15 [.int .i64 (List.length x2.c:Int),.int .i64 (w64 (p0+(List.length x2.c:Int))),.int .i64 (w64 (p1+1))]|>.f 3 [.im (List.map eC x2.c) x2.b] (.c (OkF.im ka0 _ _) <| .n)|>.r [(.bin .add (cT 5) (cT 12),(vt 13)),(.bin .add (cT 6) (cI 1),(vt 14))]|>.c (p:=(.iaS 1 (cF 0) (cT 6),(.ip [(vf 2)] 0))) (fun _ _ _=>fIa (sz:=1) (e:=eR) (l:=x.t) (b:=x.bt) (k:= .i64) (n:=p1) (y:=x2) kau (by kernel_rfl) (by kernel_rfl) h1 h2 (by kernel_rfl))|>.c (p:=(.len 0 (cF 2),(vt 12))) (fun _ _ _=>fLen (e:=eC) (l:=x2.c) (b:=x2.b) (by kernel_rfl) (by kernel_rfl));H.k [0,2] [1,2,5,6,7,9,10,11,12] [0] ([(vt 0),(.ptr 0 0),(.bool true)]++vT 1 4++[(vt 13),(vt 14)]) [.cells [(vt 7),(vt 8),(vt 9),(vf 0),(vf 1)] false 26] 1 (kjb x cut x5 (w64 (p0+(List.length x2.c:Int))) (w64 (p1+1)) _) (kph x cut x5 (w64 (p0+(List.length x2.c:Int))) (w64 (p1+1)) _) (kpi x cut x5 (w64 (p0+(List.length x2.c:Int))) (w64 (p1+1)) _) (fun _ hi S=>ih _ _ _ _ _ hi h S)))) (fun h0 h=>have H:=H.t 13 [.bool (!decide ((wE x)=0))]|>.r [(.bin .neq (cT 2) (cI 0),(vt 12))]|>.m 11 false (decide_eq_false h0);iteE h (fun h1 h=>have H:=H.t 14 [.bool (!decide (x5.2.2=0))]|>.r [(.bin .neq (cT 4) (cI 0),(vt 13))]|>.m 12 false (nT h1);iteE h (fun h2 h=>have H:=H.t 15 [.bool (!decide (x5.2.1=p0))]|>.r [(.bin .neq (cT 3) (cT 5),(vt 14))]|>.m 13 false (nT h2);iteE h (fun h3 h=>have H:=H.t 17 [.int .i64 (List.length (wS x):Int),.bool (decide ((List.length (wS x):Int)=0))]|>.r [(.len 1 (cT 1),(vt 15)),(.bin .eql (cT 15) (cI 0),(vt 16))]|>.m 14 false (nT h3);iteE h (fun _ h=>nomatch h) (fun h4 h=>have H:=H.t 18 [.int .i64 (IntKind.wrap .i64 cut)]|>.r [(.conv .i64 (cT 0),(vt 17))]|>.m 16 false (decide_eq_false h4);reqE h (fun h5 h=>have H:=H.t 19 [.int .i64 (Int.tmod (IntKind.wrap .i64 cut) (List.length (wS x):Int))]|>.c (p:=(.bin .rem (cT 17) (cT 15),(vt 18))) (fun _ _ _=>fRem (k:= .i64) (a:=(IntKind.wrap .i64 cut)) (b:=(List.length (wS x):Int)) (by kernel_rfl) (by kernel_rfl) h5 (by kernel_rfl));reqE h (fun _ h=>have H:=H.t 20 [.str (List.take (Int.toNat (Int.tmod (IntKind.wrap .i64 cut) (List.length (wS x):Int))) (wS x))]|>.c (p:=(.slT (cT 1) none (some (cT 18)),(vt 19))) (fun _ _ _=>fSlT (l:=(wS x)) (l':=(List.take (Int.toNat (Int.tmod (IntKind.wrap .i64 cut) (List.length (wS x):Int))) (wS x))) (lo:=none) (hi:=(some ((vt 18),((Int.tmod (IntKind.wrap .i64 cut) (List.length (wS x):Int)):Int)))) (by kernel_rfl) trivial ⟨.i64,by kernel_rfl⟩ (by simp only[optN];omega) (by simp[optN]) (by kernel_rfl));reqE h (fun h7 h=>letE h (fun x8 h8 h=>have H:=H.t 25 [.int .i64 x8.1.n0,.int .i64 x8.1.n1,.int .i64 x8.1.n2,.int .i64 x8.2.1,.int .i64 x8.2.2]|>.f 4 [.im (List.map eR x8.1.t) x8.1.bt,.im (List.map eM x8.1.m) x8.1.bm] (.c (OkF.im kau _ _) <| .c (OkF.im kam _ _) <| .n)|>.s [(vt 19)] (.tup [(.agg [(vt 20),(vt 21),(vt 22),(vf 2),(vf 3)]),(vt 23),(vt 24)]) (kb0 (List.take (Int.toNat (Int.tmod (IntKind.wrap .i64 cut) (List.length (wS x):Int))) (wS x)) h7 h8);H.k [0,2] [2,5,6,13,15,16,17,18] [0] [(.ptr 0 0),(.bool true),(vt 1),(vt 18),(vt 23),(vt 24),(.int .i64 0),(.int .i64 0)] [.cells [(vt 7),(vt 8),(vt 9),(vf 0),(vf 1)] false 26] 2 (khy x cut x8 0 0 _) (kly x cut x8 0 0 _) (klz x cut x8 0 0 _) (fun _ hi S=>k74 _ _ _ _ _ _ hi h S))))))) (fun _ h=>nomatch h)) (fun _ h=>nomatch h)) (fun _ h=>nomatch h)))
def klx (fu:Nat) (x:Td) (cut:Int):Option AV:=
 if(!(fewT x))=true then
  some (.bool true)
 else
  if kb2 x=true then if(!(ka6 x))=true then
   some (.bool true)
  else
   if kbx x=true then if List.length (wS x)≤900000 then letB (kat (wS x)) fun x5=>
   ke8 fu x cut x5 (w64 ((w64 (4+(List.length x.t:Int)))+(List.length x.m:Int))) 0 else none else none else none
def kvy:List AV:=[(.agg [(vt 0),(vt 1),(vt 2),(vf 0),(vf 1)]),(vt 3)]
def kpg (x:Td) (cut:Int) (σ:Nat→Nat):Val:=(valL ([.int .i64 x.n0,.int .i64 x.n1,.int .i64 x.n2,.int .u16 cut]) ([.im (List.map eR x.t) x.bt,.im (List.map eM x.m) x.bm]) [] σ 0)
def k7x (x:Td) (cut:Int) (_σ:Nat→Nat):List AV:=[(.agg [(.int .i64 x.n0),(.int .i64 x.n1),(.int .i64 x.n2),(.im (List.map eR x.t) x.bt),(.im (List.map eM x.m) x.bm)]),(.int .u16 cut)]
def k7y (_x:Td) (_cut:Int) (_σ:Nat→Nat):List Blk:=[]
theorem k7v (x:Td) (cut:Int) (σ:Nat→Nat):kvy.map (gm (kpg x cut σ))=k7x x cut σ:=by kernel_rfl
theorem k7w (x:Td) (cut:Int) (σ:Nat→Nat):([]:List Blk).map (gB (kpg x cut σ))=k7y x cut σ:=by kernel_rfl
theorem k76 {fu:Nat} (x:Td) (cut:Int) {r0:AV} (h:klx fu x cut=some r0):Spec FF 5 [(.agg [(.int .i64 x.n0),(.int .i64 x.n1),(.int .i64 x.n2),(.im (List.map eR x.t) x.bt),(.im (List.map eM x.m) x.bm)]),(.int .u16 cut)] r0:=by
 unfold klx at h
 have hσ: ∀ i j:Nat,(fun i:Nat=>i) i=(fun i:Nat=>i) j→i=j:=fun _ _ e=>e
 exact kbk (ρ:=kpg x cut (fun i=>i)) (xs:=kvy) (by kernel_rfl) rfl rfl (by kernel_rfl) (fun z0 S=>have H:=Tok.start hσ S 0 4 2 0 ([.int .i64 x.n0,.int .i64 x.n1,.int .i64 x.n2,.int .u16 cut]) ([.im (List.map eR x.t) x.bt,.im (List.map eM x.m) x.bm]) [] (.c (OkF.im kau _ _) <| .c (OkF.im kam _ _) <| .n) .n (k7v x cut _) (k7w x cut _);have H:=H.t 6 [.bool (fewT x),.bool (!(fewT x))]|>.r [(.un .not (cT 4),(vt 5))]|>.s [] (.bool true) kmo|>.s [(.agg [(vt 0),(vt 1),(vt 2),(vf 0),(vf 1)])] (vt 4) (kkm x);iteE h (fun h0 h=>have H:=H.m 5 true h0;H.e [0,2] h) (fun h0 h=>have H:=H.m 5 false (bF h0);reqE h (fun h1 h=>have H:=H.t 8 [.bool (ka6 x),.bool (!(ka6 x))]|>.r [(.un .not (cT 6),(vt 7))]|>.s [(.agg [(vt 0),(vt 1),(vt 2),(vf 0),(vf 1)])] (vt 6) (khu x h1);iteE h (fun h2 h=>have H:=H.m 7 true h2;H.e [0,2] h) (fun h2 h=>have H:=H.m 7 false (bF h2);reqE h (fun h3 h=>have H:=H.t 10 [.str (wS x),.int .i64 (wE x)]|>.s [(.agg [(vt 0),(vt 1),(vt 2),(vf 0),(vf 1)])] (.tup [(vt 8),(vt 9)]) (kea x h3);reqE h (fun h4 h=>letE h (fun x5 h5 h=>have H:=H.t 19 [.int .i64 x5.1.n0,.int .i64 x5.1.n1,.int .i64 x5.1.n2,.int .i64 x5.2.1,.int .i64 x5.2.2,.int .i64 (List.length x.t:Int),.int .i64 (w64 (4+(List.length x.t:Int))),.int .i64 (List.length x.m:Int),.int .i64 (w64 ((w64 (4+(List.length x.t:Int)))+(List.length x.m:Int)))]|>.f 4 [.im (List.map eR x5.1.t) x5.1.bt,.im (List.map eM x5.1.m) x5.1.bm] (.c (OkF.im kau _ _) <| .c (OkF.im kam _ _) <| .n)|>.r [(.bin .add (cI 4) (cT 15),(vt 16)),(.bin .add (cT 16) (cT 17),(vt 18))]|>.s [(vt 8)] (.tup [(.agg [(vt 10),(vt 11),(vt 12),(vf 2),(vf 3)]),(vt 13),(vt 14)]) (kb0 (wS x) h4 h5)|>.c (p:=(.len 0 (cF 0),(vt 15))) (fun _ _ _=>fLen (e:=eR) (l:=x.t) (b:=x.bt) (by kernel_rfl) (by kernel_rfl))|>.c (p:=(.len 0 (cF 1),(vt 17))) (fun _ _ _=>fLen (e:=eM) (l:=x.m) (b:=x.bm) (by kernel_rfl) (by kernel_rfl));H.k [0,2] [1,2,5,6,7,9,10,11,12] [0] [(vt 3),(.ptr 0 0),(.bool true),(vt 8),(vt 9),(vt 13),(vt 14),(vt 18),(.int .i64 0)] [.cells [(vt 0),(vt 1),(vt 2),(vf 0),(vf 1)] false 26] 2 (kjb x cut x5 (w64 ((w64 (4+(List.length x.t:Int)))+(List.length x.m:Int))) 0 _) (kph x cut x5 (w64 ((w64 (4+(List.length x.t:Int)))+(List.length x.m:Int))) 0 _) (kpi x cut x5 (w64 ((w64 (4+(List.length x.t:Int)))+(List.length x.m:Int))) 0 _) (fun _ hi S=>k71 _ _ _ _ _ _ hi h S))))))))
end Go.Proofs.Hz
open Go Go.Proofs
namespace Go.Proofs.Hz
theorem kdh {n:Int} (h: -9223372036854775808≤n∧n≤9223372036854775807):w64 n=n:=by
 unfold w64 IntKind.wrap
 simp[IntKind.signed,IntKind.bits]
 omega
theorem ky6 {x:UInt8}:((UInt8.toNat x:Nat):Int)=10↔x=10:=
 ⟨fun h=>UInt8.toNat_inj.1 (by show x.toNat=10;omega),fun h=>by rw[h];rfl⟩
theorem k1h (x:Td) (cut:Int) (x8:Td×Int×Int) {k:Nat} (hk:Int.tmod (IntKind.wrap .i64 cut) (List.length (wS x):Int)=(k:Int)) (hkl:k≤(wS x).length):
  ∀ (j i e fu:Nat),i+j=k→j<fu→e=((wS x).take i).count 10→kd4 fu x cut x8 e i=kd4 1 x cut x8 (((wS x).take k).count 10:Nat) k:=by
 intro j
 have hle:=khb x
 induction j with
 |zero=>
  intro i e fu hi hf he
  obtain⟨fu,rfl⟩: ∃ g,fu=g+1:=⟨fu - 1,by omega⟩
  rw[Nat.add_zero] at hi
  subst hi
  rw[he]
  unfold kd4
  rw[hk,if_neg (Int.lt_irrefl _),if_neg (Int.lt_irrefl _)]
 |succ j ih=>
  intro i e fu hi hf he
  obtain⟨fu,rfl⟩: ∃ g,fu=g+1:=⟨fu - 1,by omega⟩
  have h1:i<(wS x).length:=by omega
  have hce:e≤i:=by
   rw[he]
   have:=List.count_le_length (a:=(10:UInt8)) (l:=(wS x).take i)
   rw[List.length_take] at this
   omega
  have ht:((wS x).take (i+1)).count 10=((wS x).take i).count 10+(if(wS x)[i]=10 then 1 else 0):=by
   rw[List.take_succ_eq_append_getElem h1,List.count_append,List.count_singleton]
   simp
  rw[kd4,hk,if_pos (by omega),if_pos (by omega)]
  simp only[Int.toNat_natCast,List.getElem?_eq_getElem h1,Option.bind_some]
  rw[kdh (n:=(i:Int)+1) (by omega),show(i:Int)+1=((i+1:Nat):Int) by omega]
  by_cases h10:(wS x)[i]=10
  ·rw[if_pos h10] at ht
   rw[if_pos (ky6.2 h10),kdh (n:=(e:Int)+1) (by omega),show(e:Int)+1=((e+1:Nat):Int) by omega]
   exact ih (i+1) (e+1) fu (by omega) (by omega) (by omega)
  ·rw[if_neg h10] at ht
   rw[if_neg fun h=>h10 (ky6.1 h)]
   exact ih (i+1) e fu (by omega) (by omega) (by omega)
def sumR (R:List Ro):Nat:=(R.map fun r=>r.c.length).sum
theorem qf2 (x:Td) (cut:Int) (x5:Td×Int×Int) (hn:x.t.length≤20) {q:Nat} (hq:q≤1000000) {r:Option AV}
  (hend: ∀ fu,(wS x).length+1<fu→ke8 fu x cut x5 q x.t.length=r): ∀ (j i p fu:Nat),i+j=x.t.length→j+(wS x).length+1<fu→p+sumR (x.t.drop i)=q→ke8 fu x cut x5 p i=r:=by
 intro j
 induction j with
 |zero=>
  intro i p fu hi hf he
  rw[List.drop_of_length_le (by omega)] at he
  have e1:p=q:=by simpa[sumR] using he
  rw[Nat.add_zero] at hi
  rw[e1,hi]
  exact hend fu (by omega)
 |succ j ih=>
  intro i p fu hi hf he
  obtain⟨fu,rfl⟩: ∃ g,fu=g+1:=⟨fu - 1,by omega⟩
  have h1:i<x.t.length:=by omega
  rw[List.drop_eq_getElem_cons h1] at he
  simp only[sumR,List.map_cons,List.sum_cons] at he
  rw[ke8,if_pos (by omega),if_pos (by omega)]
  simp only[Int.toNat_natCast,List.getElem?_eq_getElem h1,Option.bind_some]
  rw[kdh (by omega),kdh (by omega),show(i:Int)+1=((i+1:Nat):Int) by omega,show(p:Int)+(x.t[i].c.length:Int)=((p+x.t[i].c.length:Nat):Int) by omega]
  exact ih (i+1) _ fu (by omega) (by omega) (by simp only[sumR];omega)
theorem kmt: ∀ R:List Ro,thrN (R.map Ro.c)=R.length+sumR R
 | []=>rfl
 |r::R=>by
  have:=kmt R
  simp only[thrN,sumR,List.map_cons,List.sum_cons,List.length_cons] at this ⊢
  omega
theorem k75 (x:Td) (cut:Int) (hv:kcy x=true) (h0:0≤cut∧cut≤65535):klx (x.t.length+(wS x).length+3) x cut=some (.bool true):=by
 unfold klx letB
 by_cases hf: ¬fewT x=true
 ·rw[if_pos (by simp[hf])]
 rw[Classical.not_not] at hf
 rw[if_neg (by simp[hf]),if_pos (ke4 hf)]
 by_cases hm: ¬ka6 x=true
 ·rw[if_pos (by simp[hm])]
 rw[Classical.not_not] at hm
 rw[if_neg (by simp[hm]),if_pos (kio hf hv)]
 have hwl:=khb x
 rw[if_pos (by omega)]
 have hM:=kdc.1 hm
 have ht:=hM.tl
 have hml:=hM.ml
 have hN:=kjz hM.t
 simp only[Td.d,List.length_map] at ht hml hN
 rw[kmt] at hN
 have hw:=kej hm
 rw[kdh (n:=(4:Int)+(x.t.length:Int)) (by omega),kdh (n:=(4:Int)+(x.t.length:Int)+(x.m.length:Int)) (by omega),show(4:Int)+(x.t.length:Int)+(x.m.length:Int)=((4+x.t.length+x.m.length:Nat):Int) by omega]
 refine qf2 x cut _ (by omega) (q:=4+thrN x.d.t+x.d.m.length) (by simp only[Td.d];rw[kmt];omega) (fun fu hfu=> ?_) x.t.length 0 _ _ (by omega) (by omega) (by simp only[Td.d,List.drop_zero];rw[kmt];omega)
 obtain⟨fu,rfl⟩: ∃ g,fu=g+1:=⟨fu - 1,by omega⟩
 have hpos:0<(wS x).length:=by rw[hw];exact List.length_pos_iff.2 (qh1 _)
 have hk:Int.tmod (IntKind.wrap .i64 cut) (List.length (wS x):Int)=((cut.toNat % (wS x).length:Nat):Int):=by
  rw[show IntKind.wrap .i64 cut=cut from kdh (by omega)]
  conv=>lhs;rw[←Int.toNat_of_nonneg h0.1]
  exact(Int.ofNat_tmod _ _).symm
 have hkl:=Nat.mod_lt cut.toNat hpos
 generalize hkk:cut.toNat % (wS x).length=k at hk hkl
 rw[ke8,if_neg (by omega),kif hm,if_pos rfl]
 have hr:kat (wS x)=(x.d.td,((4+thrN x.d.t+x.d.m.length:Nat):Int),0):=by rw[hw];exact kh2 hM
 rw[hr]
 dsimp only
 rw[if_pos rfl,if_pos rfl,if_neg (by omega),if_pos (by omega),hk,if_pos (by omega),Int.toNat_natCast,if_pos (by rw[List.length_take];omega)]
 unfold letB
 show kd4 fu x cut _ ((0:Nat):Int) ((0:Nat):Int)=_
 rw[k1h x cut _ hk (by omega) k 0 0 fu (by omega) (by omega) (by simp)]
 have hce:((wS x).take k).count 10≤k:=by
  have:=List.count_le_length (a:=(10:UInt8)) (l:=(wS x).take k)
  rw[List.length_take] at this
  omega
 have hcut:=k1n hM (k:=k) (by rw[←hw];exact hkl)
 rw[←hw] at hcut
 rw[kd4,hk,if_neg (by omega),kdh (n:=(((wS x).take k).count 10:Nat)+1) (by omega),kdh (n:=(4:Int)+x.t.length) (by omega)]
 rcases hcut with⟨d',n,e1,e2,e3,e4⟩ |e1
 ·have hrd:kat ((wS x).take k)=(d'.td,(n:Int),0):=by unfold kat;rw[e1]
  simp only[Td.d,List.length_map] at e4
  rw[hrd,if_neg (by omega),kdh (by omega),if_pos (by omega),show((k:Int) - 1).toNat=k - 1 by omega,e3,Option.bind_some]
  dsimp only
  rw[if_pos rfl,if_pos (show((UInt8.toNat 10:Nat):Int)=10 from rfl)]
  simp only[Option.some.injEq,AV.bool.injEq,decide_eq_true_eq]
  omega
 ·rw[kx0 e1]
  dsimp only
  by_cases hz:k=0
  ·subst hz
   rw[if_pos (by omega),if_neg (by omega)]
   simp
  ·rw[if_neg (by omega),kdh (by omega),if_pos (by omega),show((k:Int) - 1).toNat=k - 1 by omega,List.getElem?_eq_getElem (by omega),Option.bind_some,if_neg (by omega)]
   simp
theorem k37 (x:Td) {cut:Int} (hv:kcy x=true) (h:0≤cut∧cut≤65535):Spec FF 5 [x.av,.int .u16 cut] (.bool true):=k76 x cut (k75 x cut hv h)
end Go.Proofs.Hz
namespace Go.Proofs.YtamikoglpnoicaaGreatDoor
open Go.ChangeShapes Go.WideShapes Go.ChangeAt Go.RowKit Go.Proofs.Hz
set_option maxRecDepth 100000
theorem k4k (os:Os) (started:os.Started) (H:Type) (enc:TypeId×Value→H):
  ReturnsInHanded {} Tryz.checked os 5 .any (fun w args=>(Rows.toolLinesSpec.pre enc Tryz.prog Tryz.f5 Rows.toolLinesRow.domain false w args∧laidMetH Tryz.prog laid w)∧sizedMet enc Tryz.prog Tryz.f5 (OpenSpec.ofChange Rows.toolLinesSpec) false w args)
   (Rows.toolLinesSpec.post enc Tryz.prog Tryz.f5 false true false false):=by
 refine kmk (C:=Tryz.checked) (X:=fun w _=>laidMetH Tryz.prog laid w) (fun _ _ _ hh h=>h.of_heap hh) own started (by kernel_rfl) Tryz.func5
  (ChangeSpec.witness_shaped (enc:=enc) (C:=Tryz.checked) (os:=os) (X:=fun w _=>laidMetH Tryz.prog laid w) false (World.laidAll Tryz.prog os laid) #[klh,.int .u16 0] 8 (World.laidAll_os _ _ _)
   (World.shaped_of_ZipB (by kernel_rfl) (by kernel_rfl)) (by kernel_rfl) (by kernel_rfl) (by kernel_rfl) (kld os _)) ?_
 intro W base args ds gs before hval0 hW hL hsh
 have hval: ∀ (j:Nat) t v,Tryz.f5.params[j]? =some t→args[j]? =some v→Value.okWide Tryz.prog W .any base t v:=hval0
 have hW':=hW
 obtain⟨p,q,hA0,hV,rfl,hfz,hnd⟩:=hW
 have hA:DataW.TrodAll enc Tryz.prog W 0 (fun _=>true) true Tryz.f5.params.toList args.toList ds p:=hA0
 have hA1:=hA
 rw[Tryz.params5] at hA hval
 obtain⟨v0,v1,d0,d1,p0,p1,rfl,rfl,rfl,h0,h1⟩:=trodAll_two hA
 obtain⟨rfl,rfl⟩:=trodVars_none hV
 obtain⟨x0,hR0,hv0⟩:=kj9 (hval 0 26 v0 rfl rfl) h0
 obtain⟨e1,rfl,rfl,rfl,w1⟩:=open_int u41 (hval 1 41 v1 rfl rfl) h1
 simp only[List.append_nil] at hW'
 refine(kk1 (pu:=puN) (F:=FF) (fun f af h=>h) hX15 (kks hL hsh) (k37 x0 hv0 (bounds_u16 w1)) (RL.cons hR0 (RL.cons (.int _ _) RL.nil))).mono fun e W' ⟨he,hw⟩=> ?_
 subst he
 exact⟨_,rfl,kk2 (P:=Tryz.prog) kk0 rfl hW' (by simpa using hA1) rfl (by kernel_rfl) rfl u4 hw⟩
theorem k4b:(Rows.toolLinesRow.inPlace == Tryz.prog.inPlace 5)=true:=by kernel_rfl
theorem k4c:(Rows.toolLinesRow.unfollowed == Tryz.prog.unfollowed 5)=true:=by kernel_rfl
theorem k4d:(Rows.toolLinesRow.recurses == Tryz.prog.recurses 5)=true:=by kernel_rfl
theorem k4e:(Rows.toolLinesRow.named == Tryz.prog.varsNamed 5)=true:=by kernel_rfl
theorem k4f:joinedFacts Tryz.prog 5 Tryz.f5 Rows.toolLinesSpec Rows.toolLinesRow=true:=by
 unfold joinedFacts
 rw[k4b,k4c,k4d,k4e]
 kernel_rfl
theorem kuh:Tryz.prog.funcNamed "hazel/hazellaw20.ToolLines" =some 5:=by kernel_rfl
theorem k4j:Tryz.f5.isInstance Tryz.prog Rows.toolLinesRow.origin Rows.toolLinesRow.targs:=of_decide_eq_true (by kernel_rfl)
theorem k4m:Rows.toolLinesRow.wfByText (OpenSpec.ofChange Rows.toolLinesSpec)=true:=by kernel_rfl
theorem k4h:false=Rows.toolLinesRow.goesBy Tryz.prog:=by kernel_rfl
theorem k4l:([26,41].all fun u=> !Tryz.prog.wantsStandIn u)=true:=by kernel_rfl
theorem k4i:Rows.ToolLinesSaid:=
 OpenClaim.holds_of_wide 5 Tryz.f5 rfl rfl rfl rfl rfl rfl rfl ⟨rfl,rfl,rfl,rfl,rfl⟩ rfl rfl rfl rfl rfl kuh Tryz.func5 k4f
  k4j (by unfold Func.isWrapper;first |(rw[if_pos (by decide+kernel)];kernel_rfl) |(rw[if_neg (by decide+kernel)];exact⟨rfl,rfl⟩))
  (fun os started H enc _=>k4k os started H enc)
theorem lines_card:Rows.ToolLinesCardSaid:=
 Claim7.holds_tied_plain_at .later [] [.data,.data,.data,.data,.sentinel,.sentinel,.pinned] true (true,"fad3822e4c3238e0715d09156ba720034c4347236d647728db356adb10470ef3") true k4i (fun _ h=>by cases h) k4m (fun _ h=>by cases h) toolLines_row_tie rfl ⟨rfl,rfl⟩ klc rfl
  (fun f fn hf hfn=>by
   obtain rfl:f=5:=Option.some.inj (kuh.symm.trans hf)|>.symm
   obtain rfl:fn=Tryz.f5:=(Option.some.inj (Tryz.func5.symm.trans hfn)).symm
   exact⟨kk9,fun j t ht=>by
    rw[Tryz.params5] at ht
    have hm:t ∈ [26,41]:=by simpa using Array.mem_of_getElem? ht
    exact(show Tryz.prog.wantsStandIn t=false by simpa using List.all_eq_true.1 k4l t hm)⟩)
  k4h
#print axioms lines_card
end Go.Proofs.YtamikoglpnoicaaGreatDoor
