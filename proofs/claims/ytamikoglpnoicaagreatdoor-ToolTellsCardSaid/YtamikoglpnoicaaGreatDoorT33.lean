/-
  Chapter 20: walks through functions (part b), written by a program of our own (wip/tools).
  Conditions: none.
-/
import Derived.Test.YtamikoglpnoicaaGreatDoorT32
open Go Go.Proofs
namespace Go.Proofs.Hz
open Int renaming toNat->yag,toNat_natCast->yam
open Go.IntKind renaming wrap->yaf,signed->yak,bits->yao
open Go.Lib renaming decDigits->yal
open List renaming map->yaa,length->yab,length_singleton->yac,length_append->yah,isPrefixOf_iff_prefix->yaj,append_assoc->yan,take->yap
open OkF renaming im->yad
open Option renaming bind->yai
open UInt8 renaming toNat->yae
def kh9:Nat->List UInt8->List UInt8->Int->Int->Int->Option AV
 |0,_,_,_,_,_=>none
 |fu+1,s,w,most,p0,p1=>
  if p1<(s.length:Int) then
   if 0<=p1 then yai (s[yag p1]?) fun x2=>
   if(yae x2:Int) ≥ 48 then
    if(yae x2:Int)<=57 then
      if p0<=most then
       kh9 fu s w most (w64 ((w64 ((w64 (10*p0))+(yaf .i64 (yae x2:Int)))) - 48)) (w64 (p1+1))
      else
       if p0 > most then
        some (.int .i64 (-1))
       else
        if w.length+yab [32]<=140737488355328 then if 0<=p0/\p0<=9223372036854775807 then if yab (w++[32])+yab (kab p0)<=140737488355328 then if yab ((w++[32])++(kab p0))+yab [10]<=140737488355328 then if(!(s == (((w++[32])++(kab p0))++[10])))=true then
         some (.int .i64 (-1))
        else
         some (.int .i64 p0) else none else none else none else none
    else
      if p0 > most then
       some (.int .i64 (-1))
      else
       if w.length+yab [32]<=140737488355328 then if 0<=p0/\p0<=9223372036854775807 then if yab (w++[32])+yab (kab p0)<=140737488355328 then if yab ((w++[32])++(kab p0))+yab [10]<=140737488355328 then if(!(s == (((w++[32])++(kab p0))++[10])))=true then
        some (.int .i64 (-1))
       else
        some (.int .i64 p0) else none else none else none else none
   else
    if p0 > most then
     some (.int .i64 (-1))
    else
     if w.length+yab [32]<=140737488355328 then if 0<=p0/\p0<=9223372036854775807 then if yab (w++[32])+yab (kab p0)<=140737488355328 then if yab ((w++[32])++(kab p0))+yab [10]<=140737488355328 then if(!(s == (((w++[32])++(kab p0))++[10])))=true then
      some (.int .i64 (-1))
     else
      some (.int .i64 p0) else none else none else none else none else none
  else
   if p0 > most then
    some (.int .i64 (-1))
   else
    if w.length+yab [32]<=140737488355328 then if 0<=p0/\p0<=9223372036854775807 then if yab (w++[32])+yab (kab p0)<=140737488355328 then if yab ((w++[32])++(kab p0))+yab [10]<=140737488355328 then if(!(s == (((w++[32])++(kab p0))++[10])))=true then
     some (.int .i64 (-1))
    else
     some (.int .i64 p0) else none else none else none else none
def k27:List AV:=(vT 0 5)
def k26:List Blk:=[]
def ku0 (s:List UInt8) (w:List UInt8) (most:Int) (p0:Int) (p1:Int) (σ:Nat->Nat):Val:=(kal ([.str s,.str w,.int .i64 most,.int .i64 p0,.int .i64 p1]) ([]) [] σ 0)
def qlj (s:List UInt8) (w:List UInt8) (most:Int) (p0:Int) (p1:Int) (_σ:Nat->Nat):List AV:=[(.str s),(.str w),(.int .i64 most),(.int .i64 p0),(.int .i64 p1)]
def qlk (_s:List UInt8) (_w:List UInt8) (_most:Int) (_p0:Int) (_p1:Int) (_σ:Nat->Nat):List Blk:=[]
theorem kuy (s:List UInt8) (w:List UInt8) (most:Int) (p0:Int) (p1:Int) (σ:Nat->Nat):k27.map (gm (ku0 s w most p0 p1 σ))=qlj s w most p0 p1 σ:=by kernel_rfl
theorem kuz (s:List UInt8) (w:List UInt8) (most:Int) (p0:Int) (p1:Int) (σ:Nat->Nat):k26.map (gB (ku0 s w most p0 p1 σ))=qlk s w most p0 p1 σ:=by kernel_rfl
set_option maxHeartbeats 10000000 in
theorem qll: ∀ (fu:Nat),∀ (s:List UInt8) (w:List UInt8) (most:Int) (p0:Int) (p1:Int) {r0:AV} {z0:St} {σ:Nat->Nat},(∀ i j,σ i=σ j->i=j)->kh9 fu s w most p0 p1=some r0->Sim (ku0 s w most p0 p1 σ) (kaa [0,1,2,7,8] k27 k26) z0->J FF (kai FF 25) (kcm (kai FF 25) 0) (.code (.loop (kcl (kai FF 25) 0))) z0 r0:=by
 intro fu
 induction fu with
 |zero=>
  intro _ _ _ _ _ _ _ _ _ h _;unfold kh9 at h;cases h
 |succ fu ih=>
  intro s w most p0 p1 r0 z0 σ hσ h S;unfold kh9 at h;exact kcr (have H:=Tok.start hσ S 0 5 0 0 ([.str s,.str w,.int .i64 most,.int .i64 p0,.int .i64 p1]) ([]) [] (.n) (.n) (kuy _ _ _ _ _ _) (kuz _ _ _ _ _ _);have H:=H.t 7 [.int .i64 s.length,.bool (decide (p1<(s.length:Int)))]|>.q 5 (.len 1 (cT 0))|>.q 6 (.bin .lss (cT 4) (cT 5));kaf h (fun h0 h=>have H:=H.y 6 h0;kac h (fun h1 h=>kbb h (fun x2 h2 h=>have H:=H.t 9 [.int .u8 (yae x2:Int),.bool (decide ((yae x2:Int) ≥ 48))]|>.q 8 (.bin .geq (cT 7) (.c (.int .u8 48)))|>.c (p:=(.ixS (cT 0) (cT 4),(vt 7))) (fun _ _ _=>kix rfl rfl h1 h2 rfl);kaf h (fun h3 h=>have H:=H.t 10 [.bool (decide ((yae x2:Int)<=57))]|>.q 9 (.bin .leq (cT 7) (.c (.int .u8 57)))|>.y 8 h3;kaf h (fun h4 h=>have H:=H.t 11 [.bool (decide (p0<=most))]|>.q 10 (.bin .leq (cT 3) (cT 2))|>.y 9 h4;kaf h (fun h5 h=>have H:=H.t 16 [.int .i64 (w64 (10*p0)),.int .i64 (yaf .i64 (yae x2:Int)),.int .i64 (w64 ((w64 (10*p0))+(yaf .i64 (yae x2:Int)))),.int .i64 (w64 ((w64 ((w64 (10*p0))+(yaf .i64 (yae x2:Int)))) - 48)),.int .i64 (w64 (p1+1))]|>.r [(.bin .mul (cI 10) (cT 3),(vt 11)),(.conv .i64 (cT 7),(vt 12)),(.bin .add (cT 11) (cT 12),(vt 13)),(.bin .sub (cT 13) (cI 48),(vt 14)),(.bin .add (cT 4) (cI 1),(vt 15))]|>.y 10 h5;H.k [0] [0,1,2,7,8] [] [(vt 0),(vt 1),(vt 2),(vt 14),(vt 15)] [] 0 _ (kuy _ _ _ _ _ _) (kuz _ _ _ _ _ _) (fun _ hi S=>ih _ _ _ _ _ hi h S)) (fun h5 h=>have H:=H.t 12 [.bool (decide (p0 > most))]|>.q 11 (.bin .gtr (cT 3) (cT 2))|>.w 10 h5;kaf h (fun h6 h=>have H:=H.y 11 h6;H.e [0] h) (fun h6 h=>have H:=H.w 11 h6;kac h (fun h7 h=>have H:=H.jj (vt 1) (.str [32]) 12 (b:=[32]) h7;kac h (fun h8 h=>have H:=H.t 14 [.str (kab p0)]|>.s [(vt 3)] (vt 13) (kht p0 h8);kac h (fun h9 h=>have H:=H.jj (vt 12) (vt 13) 14 h9;kac h (fun h10 h=>have H:=H.t 17 [.str (((w++[32])++(kab p0))++[10]),.bool (!(s == (((w++[32])++(kab p0))++[10])))]|>.q 16 (.bin .neq (cT 0) (cT 15))|>.K (vt 14) (.str [10]) 15 (b:=[10]) h10;kaf h (fun h11 h=>have H:=H.m 16 true h11;H.e [0] h) (fun h11 h=>have H:=H.m 16 false (bF h11);H.e [0] h)))))))) (fun h4 h=>have H:=H.t 11 [.bool (decide (p0 > most))]|>.q 10 (.bin .gtr (cT 3) (cT 2))|>.w 9 h4;kaf h (fun h5 h=>have H:=H.y 10 h5;H.e [0] h) (fun h5 h=>have H:=H.w 10 h5;kac h (fun h6 h=>have H:=H.jj (vt 1) (.str [32]) 11 (b:=[32]) h6;kac h (fun h7 h=>have H:=H.t 13 [.str (kab p0)]|>.s [(vt 3)] (vt 12) (kht p0 h7);kac h (fun h8 h=>have H:=H.jj (vt 11) (vt 12) 13 h8;kac h (fun h9 h=>have H:=H.t 16 [.str (((w++[32])++(kab p0))++[10]),.bool (!(s == (((w++[32])++(kab p0))++[10])))]|>.q 15 (.bin .neq (cT 0) (cT 14))|>.K (vt 13) (.str [10]) 14 (b:=[10]) h9;kaf h (fun h10 h=>have H:=H.m 15 true h10;H.e [0] h) (fun h10 h=>have H:=H.m 15 false (bF h10);H.e [0] h)))))))) (fun h3 h=>have H:=H.t 10 [.bool (decide (p0 > most))]|>.q 9 (.bin .gtr (cT 3) (cT 2))|>.w 8 h3;kaf h (fun h4 h=>have H:=H.y 9 h4;H.e [0] h) (fun h4 h=>have H:=H.w 9 h4;kac h (fun h5 h=>have H:=H.jj (vt 1) (.str [32]) 10 (b:=[32]) h5;kac h (fun h6 h=>have H:=H.t 12 [.str (kab p0)]|>.s [(vt 3)] (vt 11) (kht p0 h6);kac h (fun h7 h=>have H:=H.jj (vt 10) (vt 11) 12 h7;kac h (fun h8 h=>have H:=H.t 15 [.str (((w++[32])++(kab p0))++[10]),.bool (!(s == (((w++[32])++(kab p0))++[10])))]|>.q 14 (.bin .neq (cT 0) (cT 13))|>.K (vt 12) (.str [10]) 13 (b:=[10]) h8;kaf h (fun h9 h=>have H:=H.m 14 true h9;H.e [0] h) (fun h9 h=>have H:=H.m 14 false (bF h9);H.e [0] h)))))))))) (fun h0 h=>have H:=H.t 8 [.bool (decide (p0 > most))]|>.q 7 (.bin .gtr (cT 3) (cT 2))|>.w 6 h0;kaf h (fun h1 h=>have H:=H.y 7 h1;H.e [0] h) (fun h1 h=>have H:=H.w 7 h1;kac h (fun h2 h=>have H:=H.jj (vt 1) (.str [32]) 8 (b:=[32]) h2;kac h (fun h3 h=>have H:=H.t 10 [.str (kab p0)]|>.s [(vt 3)] (vt 9) (kht p0 h3);kac h (fun h4 h=>have H:=H.jj (vt 8) (vt 9) 10 h4;kac h (fun h5 h=>have H:=H.t 13 [.str (((w++[32])++(kab p0))++[10]),.bool (!(s == (((w++[32])++(kab p0))++[10])))]|>.q 12 (.bin .neq (cT 0) (cT 11))|>.K (vt 10) (.str [10]) 11 (b:=[10]) h5;kaf h (fun h6 h=>have H:=H.m 12 true h6;H.e [0] h) (fun h6 h=>have H:=H.m 12 false (bF h6);H.e [0] h))))))))
def kuw (fu:Nat) (s:List UInt8) (w:List UInt8) (most:Int):Option AV:=
 if(s.length:Int)<=(w64 ((w.length:Int)+1)) then
  some (.int .i64 (-1))
 else
  if 0<=(w64 ((w.length:Int)+1))/\(w64 ((w.length:Int)+1))<=(s.length:Int) then if w.length+yab [32]<=140737488355328 then if(!((yap (yag (w64 ((w.length:Int)+1))) s) == (w++[32])))=true then
   some (.int .i64 (-1))
  else
   kh9 fu s w most 0 (w64 ((w.length:Int)+1)) else none else none
def k25:List AV:=[(vt 0),(vt 1),(vt 2)]
def kux (s:List UInt8) (w:List UInt8) (most:Int) (σ:Nat->Nat):Val:=(kal ([.str s,.str w,.int .i64 most]) ([]) [] σ 0)
def qlh (s:List UInt8) (w:List UInt8) (most:Int) (_σ:Nat->Nat):List AV:=[(.str s),(.str w),(.int .i64 most)]
def qli (_s:List UInt8) (_w:List UInt8) (_most:Int) (_σ:Nat->Nat):List Blk:=[]
theorem qlf (s:List UInt8) (w:List UInt8) (most:Int) (σ:Nat->Nat):k25.map (gm (kux s w most σ))=qlh s w most σ:=by kernel_rfl
theorem qlg (s:List UInt8) (w:List UInt8) (most:Int) (σ:Nat->Nat):([]:List Blk).map (gB (kux s w most σ))=qli s w most σ:=by kernel_rfl
theorem qlm {fu:Nat} (s:List UInt8) (w:List UInt8) (most:Int) {r0:AV} (h:kuw fu s w most=some r0):kak FF 25 [(.str s),(.str w),(.int .i64 most)] r0:=by
 unfold kuw at h;have hσ: ∀ i j:Nat,(fun i:Nat=>i) i=(fun i:Nat=>i) j->i=j:=fun _ _ e=>e
 exact kbq (ρ:=kux s w most (fun i=>i)) (xs:=k25) (by kernel_rfl) rfl rfl (by kernel_rfl) (fun z0 S=>have H:=Tok.start hσ S 0 3 0 0 ([.str s,.str w,.int .i64 most]) ([]) [] (.n) .n (qlf _ _ _ _) (qlg _ _ _ _);have H:=H.t 7 [.int .i64 w.length,.int .i64 (w64 ((w.length:Int)+1)),.int .i64 s.length,.bool (decide ((s.length:Int)<=(w64 ((w.length:Int)+1))))]|>.r [(.len 1 (cT 1),(vt 3)),(.bin .add (cT 3) (cI 1),(vt 4)),(.len 1 (cT 0),(vt 5)),(.bin .leq (cT 5) (cT 4),(vt 6))];kaf h (fun h0 h=>have H:=H.y 6 h0;H.e [0] h) (fun h0 h=>have H:=H.w 6 h0;kac h (fun _ h=>have H:=H.t 8 [.str (yap (yag (w64 ((w.length:Int)+1))) s)]|>.c (p:=(.slT (cT 0) none (some (cT 4)),(vt 7))) (fun _ _ _=>kcu (l:=s) (l':=(yap (yag (w64 ((w.length:Int)+1))) s)) (lo:=none) (hi:=(some ((vt 4),((w64 ((w.length:Int)+1)):Int)))) (by kernel_rfl) trivial ⟨.i64,by kernel_rfl⟩ (by simp only[ka3];omega) (by simp[ka3]) (by kernel_rfl));kac h (fun h2 h=>have H:=H.t 10 [.str (w++[32]),.bool (!((yap (yag (w64 ((w.length:Int)+1))) s) == (w++[32])))]|>.q 9 (.bin .neq (cT 7) (cT 8))|>.K (vt 1) (.str [32]) 8 (b:=[32]) h2;kaf h (fun h3 h=>have H:=H.m 9 true h3;H.e [0] h) (fun h3 h=>have H:=H.m 9 false (bF h3);H.k [0] [0,1,2,7,8] [] [(vt 0),(vt 1),(vt 2),(.int .i64 0),(vt 4)] [] 0 _ (kuy _ _ _ _ _ _) (kuz _ _ _ _ _ _) (fun _ hi S=>qll _ _ _ _ _ _ hi h S))))))
def ks1 (x:Td):Option AV:=
 if(kgv x.t 18 102)=true then
  some (.bool (decide ((x.m.length:Int)<=1002)))
 else
  some (.bool false)
def k1e:List AV:=[(.agg [(vt 0),(vt 1),(vt 2),(vf 0),(vf 1)])]
def ks2 (x:Td) (σ:Nat->Nat):Val:=(kal ([.int .i64 x.n0,.int .i64 x.n1,.int .i64 x.n2]) ([.im (yaa eR x.t) x.bt,.im (yaa eM x.m) x.bm]) [] σ 0)
def qgr (x:Td) (_σ:Nat->Nat):List AV:=[(.agg [(.int .i64 x.n0),(.int .i64 x.n1),(.int .i64 x.n2),(.im (yaa eR x.t) x.bt),(.im (yaa eM x.m) x.bm)])]
def qgs (_x:Td) (_σ:Nat->Nat):List Blk:=[]
theorem qgp (x:Td) (σ:Nat->Nat):k1e.map (gm (ks2 x σ))=qgr x σ:=by kernel_rfl
theorem qgq (x:Td) (σ:Nat->Nat):([]:List Blk).map (gB (ks2 x σ))=qgs x σ:=by kernel_rfl
theorem qgt (x:Td) {r0:AV} (h:ks1 x=some r0):kak FF 9 [(.agg [(.int .i64 x.n0),(.int .i64 x.n1),(.int .i64 x.n2),(.im (yaa eR x.t) x.bt),(.im (yaa eM x.m) x.bm)])] r0:=by
 unfold ks1 at h;have hσ: ∀ i j:Nat,(fun i:Nat=>i) i=(fun i:Nat=>i) j->i=j:=fun _ _ e=>e
 exact kbq (ρ:=ks2 x (fun i=>i)) (xs:=k1e) (by kernel_rfl) rfl rfl (by kernel_rfl) (fun z0 S=>have H:=Tok.start hσ S 0 3 2 0 ([.int .i64 x.n0,.int .i64 x.n1,.int .i64 x.n2]) ([.im (yaa eR x.t) x.bt,.im (yaa eM x.m) x.bm]) [] (.c (yad kbt _ _) <| .c (yad kax _ _) <| .n) .n (qgp _ _) (qgq _ _);have H:=H.t 4 [.bool (kgv x.t 18 102)]|>.s [(vf 0),(.int .i64 18),(.int .i64 102)] (vt 3) (k8l x.t x.bt 18 102);kaf h (fun h0 h=>have H:=H.t 6 [.int .i64 x.m.length,.bool (decide ((x.m.length:Int)<=1002))]|>.q 5 (.bin .leq (cT 4) (cI 1002))|>.m 3 true h0|>.L (vf 1) 4;H.e [] h) (fun h0 h=>have H:=H.m 3 false (bF h0);H.e [] h))
def kh3:Nat->Td->Int->Option AV
 |0,_,_=>none
 |fu+1,x,p1_0=>
  if p1_0<(x.m.length:Int) then
   if 0<=p1_0 then yai (x.m[yag p1_0]?) fun x2=>
   if x2.kind<0 then
    some (.bool false)
   else
    if x2.kind > 2 then
     some (.bool false)
    else
     if x2.n<0 then
      some (.bool false)
     else
      if x2.n > 9999 then
       some (.bool false)
      else
       kh3 fu x (w64 (p1_0+1)) else none
  else
   if(x.t.length:Int)<=16 then
    some (.bool (decide ((x.m.length:Int)<=1000)))
   else
    some (.bool false)
def k1w:List AV:=[(.ptr 0 0),(vt 0)]
def k1v:List Blk:=[.cells [(vt 1),(vt 2),(vt 3),(vf 0),(vf 1)] false 26]
def ktn (x:Td) (p1_0:Int) (σ:Nat->Nat):Val:=(kal ([.int .i64 p1_0,.int .i64 x.n0,.int .i64 x.n1,.int .i64 x.n2]) ([.im (yaa eR x.t) x.bt,.im (yaa eM x.m) x.bm]) [] σ 1)
def qh0 (_x:Td) (p1_0:Int) (σ:Nat->Nat):List AV:=[(.ptr (σ 0) 0),(.int .i64 p1_0)]
def qh1 (x:Td) (_p1_0:Int) (_σ:Nat->Nat):List Blk:=[.cells [(.int .i64 x.n0),(.int .i64 x.n1),(.int .i64 x.n2),(.im (yaa eR x.t) x.bt),(.im (yaa eM x.m) x.bm)] false 26]
theorem ktl (x:Td) (p1_0:Int) (σ:Nat->Nat):k1w.map (gm (ktn x p1_0 σ))=qh0 x p1_0 σ:=by kernel_rfl
theorem ktm (x:Td) (p1_0:Int) (σ:Nat->Nat):k1v.map (gB (ktn x p1_0 σ))=qh1 x p1_0 σ:=by kernel_rfl
theorem qh2: ∀ (fu:Nat),∀ (x:Td) (p1_0:Int) {r0:AV} {z0:St} {σ:Nat->Nat},(∀ i j,σ i=σ j->i=j)->kh3 fu x p1_0=some r0->Sim (ktn x p1_0 σ) (kaa [1,6] k1w k1v) z0->J FF (kai FF 16) (kcm (kai FF 16) 4) (.code (.loop (kcl (kai FF 16) 4))) z0 r0:=by
 intro fu
 induction fu with
 |zero=>
  intro _ _ _ _ _ _ h _;unfold kh3 at h;cases h
 |succ fu ih=>
  intro x p1_0 r0 z0 σ hσ h S;unfold kh3 at h;exact kcr (have H:=Tok.start hσ S 1 4 2 0 ([.int .i64 p1_0,.int .i64 x.n0,.int .i64 x.n1,.int .i64 x.n2]) ([.im (yaa eR x.t) x.bt,.im (yaa eM x.m) x.bm]) [] (.c (yad kbt _ _) <| .c (yad kax _ _) <| .n) (.n) (ktl _ _ _) (ktm _ _ _);have H:=H.t 6 [.int .i64 x.m.length,.bool (decide (p1_0<(x.m.length:Int)))]|>.q 5 (.bin .lss (cT 0) (cT 4))|>.L (vf 1) 4;kaf h (fun h0 h=>have H:=H.y 5 h0;kac h (fun h1 h=>kbb h (fun x2 h2 h=>have H:=H.t 9 [.int .i64 x2.kind,.int .i64 x2.n,.bool (decide (x2.kind<0))]|>.q 8 (.bin .lss (cT 6) (cI 0))|>.I (vf 1) (vt 0) [(vt 6),(vt 7)] kax h1 h2;kaf h (fun h3 h=>have H:=H.y 8 h3;H.e [2,4] h) (fun h3 h=>have H:=H.t 10 [.bool (decide (x2.kind > 2))]|>.q 9 (.bin .gtr (cT 6) (cI 2))|>.w 8 h3;kaf h (fun h4 h=>have H:=H.y 9 h4;H.e [2,4] h) (fun h4 h=>have H:=H.t 11 [.bool (decide (x2.n<0))]|>.q 10 (.bin .lss (cT 7) (cI 0))|>.w 9 h4;kaf h (fun h5 h=>have H:=H.y 10 h5;H.e [2,4] h) (fun h5 h=>have H:=H.t 12 [.bool (decide (x2.n > 9999))]|>.q 11 (.bin .gtr (cT 7) (cI 9999))|>.w 10 h5;kaf h (fun h6 h=>have H:=H.y 11 h6;H.e [2,4] h) (fun h6 h=>have H:=H.t 13 [.int .i64 (w64 (p1_0+1))]|>.q 12 (.bin .add (cT 0) (cI 1))|>.w 11 h6;H.k [2,4] [1,6] [0] [(.ptr 0 0),(vt 12)] [.cells [(vt 1),(vt 2),(vt 3),(vf 0),(vf 1)] false 26] 1 _ (ktl _ _ _) (ktm _ _ _) (fun _ hi S=>ih _ _ hi h S)))))))) (fun h0 h=>have H:=H.t 8 [.int .i64 x.t.length,.bool (decide ((x.t.length:Int)<=16))]|>.q 7 (.bin .leq (cT 6) (cI 16))|>.w 5 h0|>.L (vf 0) 6;kaf h (fun h1 h=>have H:=H.t 9 [.bool (decide ((x.m.length:Int)<=1000))]|>.q 8 (.bin .leq (cT 4) (cI 1000))|>.y 7 h1;H.e [2,4] h) (fun h1 h=>have H:=H.w 7 h1;H.e [2,4] h)))
def kh2:Nat->Td->Int->Option AV
 |0,_,_=>none
 |fu+1,x,p0=>
  if p0<(x.t.length:Int) then
   if 0<=p0 then yai (x.t[yag p0]?) fun x2=>
   if x2.c.length<=1000000 then if(!(kd9 x2.c))=true then
    some (.bool false)
   else
    if(x2.c.length:Int) > 100 then
     some (.bool false)
    else
     kh2 fu x (w64 (p0+1)) else none else none
  else
   kh3 fu x 0
def k1u:List AV:=[(.ptr 0 0),(vt 0)]
def k1t:List Blk:=[.cells [(vt 1),(vt 2),(vt 3),(vf 0),(vf 1)] false 26]
def ktk (x:Td) (p0:Int) (σ:Nat->Nat):Val:=(kal ([.int .i64 p0,.int .i64 x.n0,.int .i64 x.n1,.int .i64 x.n2]) ([.im (yaa eR x.t) x.bt,.im (yaa eM x.m) x.bm]) [] σ 1)
def qhx (_x:Td) (p0:Int) (σ:Nat->Nat):List AV:=[(.ptr (σ 0) 0),(.int .i64 p0)]
def qhy (x:Td) (_p0:Int) (_σ:Nat->Nat):List Blk:=[.cells [(.int .i64 x.n0),(.int .i64 x.n1),(.int .i64 x.n2),(.im (yaa eR x.t) x.bt),(.im (yaa eM x.m) x.bm)] false 26]
theorem kti (x:Td) (p0:Int) (σ:Nat->Nat):k1u.map (gm (ktk x p0 σ))=qhx x p0 σ:=by kernel_rfl
theorem ktj (x:Td) (p0:Int) (σ:Nat->Nat):k1t.map (gB (ktk x p0 σ))=qhy x p0 σ:=by kernel_rfl
theorem qhz: ∀ (fu:Nat),∀ (x:Td) (p0:Int) {r0:AV} {z0:St} {σ:Nat->Nat},(∀ i j,σ i=σ j->i=j)->kh2 fu x p0=some r0->Sim (ktk x p0 σ) (kaa [1,4] k1u k1t) z0->J FF (kai FF 16) (kcm (kai FF 16) 2) (.code (.loop (kcl (kai FF 16) 2))) z0 r0:=by
 intro fu
 induction fu with
 |zero=>
  intro _ _ _ _ _ _ h _;unfold kh2 at h;cases h
 |succ fu ih=>
  intro x p0 r0 z0 σ hσ h S;unfold kh2 at h;exact kcr (have H:=Tok.start hσ S 1 4 2 0 ([.int .i64 p0,.int .i64 x.n0,.int .i64 x.n1,.int .i64 x.n2]) ([.im (yaa eR x.t) x.bt,.im (yaa eM x.m) x.bm]) [] (.c (yad kbt _ _) <| .c (yad kax _ _) <| .n) (.n) (kti _ _ _) (ktj _ _ _);have H:=H.t 6 [.int .i64 x.t.length,.bool (decide (p0<(x.t.length:Int)))]|>.q 5 (.bin .lss (cT 0) (cT 4))|>.L (vf 0) 4;kaf h (fun h0 h=>have H:=H.y 5 h0;kac h (fun h1 h=>kbb h (fun x2 h2 h=>have H:=H.f 3 [.im (yaa eC x2.c) x2.b] (.c (yad ka5 _ _) <| .n)|>.I (vf 0) (vt 0) [(vf 2)] kbt h1 h2;kac h (fun h3 h=>have H:=H.t 8 [.bool (kd9 x2.c),.bool (!(kd9 x2.c))]|>.q 7 (.un .not (cT 6))|>.s [(vf 2)] (vt 6) (qrn x2.c x2.b h3);kaf h (fun h4 h=>have H:=H.m 7 true h4;H.e [2,4] h) (fun h4 h=>have H:=H.t 10 [.int .i64 x2.c.length,.bool (decide ((x2.c.length:Int) > 100))]|>.q 9 (.bin .gtr (cT 8) (cI 100))|>.m 7 false (bF h4)|>.L (vf 2) 8;kaf h (fun h5 h=>have H:=H.y 9 h5;H.e [2,4] h) (fun h5 h=>have H:=H.t 11 [.int .i64 (w64 (p0+1))]|>.q 10 (.bin .add (cT 0) (cI 1))|>.w 9 h5;H.k [2,4] [1,4] [0] [(.ptr 0 0),(vt 10)] [.cells [(vt 1),(vt 2),(vt 3),(vf 0),(vf 1)] false 26] 1 _ (kti _ _ _) (ktj _ _ _) (fun _ hi S=>ih _ _ hi h S))))))) (fun h0 h=>have H:=H.w 5 h0;H.k [2,4] [1,6] [0] [(.ptr 0 0),(.int .i64 0)] [.cells [(vt 1),(vt 2),(vt 3),(vf 0),(vf 1)] false 26] 1 _ (ktl _ _ _) (ktm _ _ _) (fun _ hi S=>qh2 _ _ _ hi h S)))
def ktg (fu:Nat) (x:Td):Option AV:=
 if x.n0<0 then
  some (.bool false)
 else
  if x.n0 > 999 then
   some (.bool false)
  else
   if x.n1<0 then
    some (.bool false)
   else
    if x.n1 > 999 then
     some (.bool false)
    else
     if x.n2<0 then
      some (.bool false)
     else
      if x.n2 > 999 then
       some (.bool false)
      else
       kh2 fu x 0
def k1s:List AV:=[(.agg [(vt 0),(vt 1),(vt 2),(vf 0),(vf 1)])]
def kth (x:Td) (σ:Nat->Nat):Val:=(kal ([.int .i64 x.n0,.int .i64 x.n1,.int .i64 x.n2]) ([.im (yaa eR x.t) x.bt,.im (yaa eM x.m) x.bm]) [] σ 0)
def qhv (x:Td) (_σ:Nat->Nat):List AV:=[(.agg [(.int .i64 x.n0),(.int .i64 x.n1),(.int .i64 x.n2),(.im (yaa eR x.t) x.bt),(.im (yaa eM x.m) x.bm)])]
def qhw (_x:Td) (_σ:Nat->Nat):List Blk:=[]
theorem qht (x:Td) (σ:Nat->Nat):k1s.map (gm (kth x σ))=qhv x σ:=by kernel_rfl
theorem qhu (x:Td) (σ:Nat->Nat):([]:List Blk).map (gB (kth x σ))=qhw x σ:=by kernel_rfl
theorem qh3 {fu:Nat} (x:Td) {r0:AV} (h:ktg fu x=some r0):kak FF 16 [(.agg [(.int .i64 x.n0),(.int .i64 x.n1),(.int .i64 x.n2),(.im (yaa eR x.t) x.bt),(.im (yaa eM x.m) x.bm)])] r0:=by
 unfold ktg at h;have hσ: ∀ i j:Nat,(fun i:Nat=>i) i=(fun i:Nat=>i) j->i=j:=fun _ _ e=>e
 exact kbq (ρ:=kth x (fun i=>i)) (xs:=k1s) (by kernel_rfl) rfl rfl (by kernel_rfl) (fun z0 S=>have H:=Tok.start hσ S 0 3 2 0 ([.int .i64 x.n0,.int .i64 x.n1,.int .i64 x.n2]) ([.im (yaa eR x.t) x.bt,.im (yaa eM x.m) x.bm]) [] (.c (yad kbt _ _) <| .c (yad kax _ _) <| .n) .n (qht _ _) (qhu _ _);have H:=H.t 4 [.bool (decide (x.n0<0))]|>.q 3 (.bin .lss (cT 0) (cI 0));kaf h (fun h0 h=>have H:=H.y 3 h0;H.e [2,4] h) (fun h0 h=>have H:=H.t 5 [.bool (decide (x.n0 > 999))]|>.q 4 (.bin .gtr (cT 0) (cI 999))|>.w 3 h0;kaf h (fun h1 h=>have H:=H.y 4 h1;H.e [2,4] h) (fun h1 h=>have H:=H.t 6 [.bool (decide (x.n1<0))]|>.q 5 (.bin .lss (cT 1) (cI 0))|>.w 4 h1;kaf h (fun h2 h=>have H:=H.y 5 h2;H.e [2,4] h) (fun h2 h=>have H:=H.t 7 [.bool (decide (x.n1 > 999))]|>.q 6 (.bin .gtr (cT 1) (cI 999))|>.w 5 h2;kaf h (fun h3 h=>have H:=H.y 6 h3;H.e [2,4] h) (fun h3 h=>have H:=H.t 8 [.bool (decide (x.n2<0))]|>.q 7 (.bin .lss (cT 2) (cI 0))|>.w 6 h3;kaf h (fun h4 h=>have H:=H.y 7 h4;H.e [2,4] h) (fun h4 h=>have H:=H.t 9 [.bool (decide (x.n2 > 999))]|>.q 8 (.bin .gtr (cT 2) (cI 999))|>.w 7 h4;kaf h (fun h5 h=>have H:=H.y 8 h5;H.e [2,4] h) (fun h5 h=>have H:=H.w 8 h5;H.k [2,4] [1,4] [0] [(.ptr 0 0),(.int .i64 0)] [.cells [(vt 0),(vt 1),(vt 2),(vf 0),(vf 1)] false 26] 1 _ (kti _ _ _) (ktj _ _ _) (fun _ hi S=>qhz _ _ _ hi h S))))))))
def kh7:Nat->Td->Td->Int->Option AV
 |0,_,_,_=>none
 |fu+1,x,y,p1_0=>
  if p1_0<(x.t.length:Int) then
   if 0<=p1_0 then yai (x.t[yag p1_0]?) fun x2=>
   yai (y.t[yag p1_0]?) fun x3=>
   if x2.c.length<=1000000 then if(!(eqC x2.c x3.c))=true then
    some (.bool false)
   else
    kh7 fu x y (w64 (p1_0+1)) else none else none
  else
   some (.bool true)
def k2z:List AV:=[(.ptr 0 0),(.ptr 1 0),(vt 0)]
def k2y:List Blk:=[.cells [(vt 1),(vt 2),(vt 3),(vf 0),(vf 1)] false 26,.cells [(vt 4),(vt 5),(vt 6),(vf 2),(vf 3)] false 26]
def kuq (x:Td) (y:Td) (p1_0:Int) (σ:Nat->Nat):Val:=(kal ([.int .i64 p1_0,.int .i64 x.n0,.int .i64 x.n1,.int .i64 x.n2,.int .i64 y.n0,.int .i64 y.n1,.int .i64 y.n2]) ([.im (yaa eR x.t) x.bt,.im (yaa eM x.m) x.bm,.im (yaa eR y.t) y.bt,.im (yaa eM y.m) y.bm]) [] σ 2)
def qkx (_x:Td) (_y:Td) (p1_0:Int) (σ:Nat->Nat):List AV:=[(.ptr (σ 0) 0),(.ptr (σ 1) 0),(.int .i64 p1_0)]
def qky (x:Td) (y:Td) (_p1_0:Int) (_σ:Nat->Nat):List Blk:=[.cells [(.int .i64 x.n0),(.int .i64 x.n1),(.int .i64 x.n2),(.im (yaa eR x.t) x.bt),(.im (yaa eM x.m) x.bm)] false 26,.cells [(.int .i64 y.n0),(.int .i64 y.n1),(.int .i64 y.n2),(.im (yaa eR y.t) y.bt),(.im (yaa eM y.m) y.bm)] false 26]
theorem kuo (x:Td) (y:Td) (p1_0:Int) (σ:Nat->Nat):k2z.map (gm (kuq x y p1_0 σ))=qkx x y p1_0 σ:=by kernel_rfl
theorem kup (x:Td) (y:Td) (p1_0:Int) (σ:Nat->Nat):k2y.map (gB (kuq x y p1_0 σ))=qky x y p1_0 σ:=by kernel_rfl
theorem qkz: ∀ (fu:Nat),∀ (x:Td) (y:Td) (p1_0:Int) {r0:AV} {z0:St} {σ:Nat->Nat},(∀ i j,σ i=σ j->i=j)->kh7 fu x y p1_0=some r0->Sim (kuq x y p1_0 σ) (kaa [2,3,6] k2z k2y) z0->J FF (kai FF 14) (kcm (kai FF 14) 2) (.code (.loop (kcl (kai FF 14) 2))) z0 r0:=by
 intro fu
 induction fu with
 |zero=>
  intro _ _ _ _ _ _ _ h _;unfold kh7 at h;cases h
 |succ fu ih=>
  intro x y p1_0 r0 z0 σ hσ h S;unfold kh7 at h;exact kcr (have H:=Tok.start hσ S 2 7 4 0 ([.int .i64 p1_0,.int .i64 x.n0,.int .i64 x.n1,.int .i64 x.n2,.int .i64 y.n0,.int .i64 y.n1,.int .i64 y.n2]) ([.im (yaa eR x.t) x.bt,.im (yaa eM x.m) x.bm,.im (yaa eR y.t) y.bt,.im (yaa eM y.m) y.bm]) [] (.c (yad kbt _ _) <| .c (yad kax _ _) <| .c (yad kbt _ _) <| .c (yad kax _ _) <| .n) (.n) (kuo _ _ _ _) (kup _ _ _ _);have H:=H.t 9 [.int .i64 x.t.length,.bool (decide (p1_0<(x.t.length:Int)))]|>.q 8 (.bin .lss (cT 0) (cT 7))|>.L (vf 0) 7;kaf h (fun h0 h=>have H:=H.y 8 h0;kac h (fun h1 h=>kbb h (fun x2 h2 h=>have H:=H.f 5 [.im (yaa eC x2.c) x2.b] (.c (yad ka5 _ _) <| .n)|>.I (vf 0) (vt 0) [(vf 4)] kbt h1 h2;kbb h (fun x3 h3 h=>have H:=H.f 6 [.im (yaa eC x3.c) x3.b] (.c (yad ka5 _ _) <| .n)|>.I (vf 2) (vt 0) [(vf 5)] kbt h1 h3;kac h (fun h4 h=>have H:=H.t 11 [.bool (eqC x2.c x3.c),.bool (!(eqC x2.c x3.c))]|>.q 10 (.un .not (cT 9))|>.s [(vf 4),(vf 5)] (vt 9) (qoc x2.c x3.c x2.b x3.b h4);kaf h (fun h5 h=>have H:=H.m 10 true h5;H.e [0,2] h) (fun h5 h=>have H:=H.t 12 [.int .i64 (w64 (p1_0+1))]|>.q 11 (.bin .add (cT 0) (cI 1))|>.m 10 false (bF h5);H.k [0,2] [2,3,6] [0,1] [(.ptr 0 0),(.ptr 1 0),(vt 11)] [.cells [(vt 1),(vt 2),(vt 3),(vf 0),(vf 1)] false 26,.cells [(vt 4),(vt 5),(vt 6),(vf 2),(vf 3)] false 26] 14 _ (kuo _ _ _ _) (kup _ _ _ _) (fun _ hi S=>ih _ _ _ hi h S))))))) (fun h0 h=>have H:=H.w 8 h0;H.e [0,2] h))
def kh6:Nat->Td->Td->Int->Option AV
 |0,_,_,_=>none
 |fu+1,x,y,p0=>
  if p0<(x.m.length:Int) then
   if 0<=p0 then yai (x.m[yag p0]?) fun x2=>
   yai (y.m[yag p0]?) fun x3=>
   if(!((x2.kind:Int) == x3.kind && ((x2.n:Int) == x3.n && true)))=true then
    some (.bool false)
   else
    kh6 fu x y (w64 (p0+1)) else none
  else
   kh7 fu x y 0
def k2x:List AV:=[(.ptr 0 0),(.ptr 1 0),(vt 0)]
def k2w:List Blk:=[.cells [(vt 1),(vt 2),(vt 3),(vf 0),(vf 1)] false 26,.cells [(vt 4),(vt 5),(vt 6),(vf 2),(vf 3)] false 26]
def kun (x:Td) (y:Td) (p0:Int) (σ:Nat->Nat):Val:=(kal ([.int .i64 p0,.int .i64 x.n0,.int .i64 x.n1,.int .i64 x.n2,.int .i64 y.n0,.int .i64 y.n1,.int .i64 y.n2]) ([.im (yaa eR x.t) x.bt,.im (yaa eM x.m) x.bm,.im (yaa eR y.t) y.bt,.im (yaa eM y.m) y.bm]) [] σ 2)
def qku (_x:Td) (_y:Td) (p0:Int) (σ:Nat->Nat):List AV:=[(.ptr (σ 0) 0),(.ptr (σ 1) 0),(.int .i64 p0)]
def qkv (x:Td) (y:Td) (_p0:Int) (_σ:Nat->Nat):List Blk:=[.cells [(.int .i64 x.n0),(.int .i64 x.n1),(.int .i64 x.n2),(.im (yaa eR x.t) x.bt),(.im (yaa eM x.m) x.bm)] false 26,.cells [(.int .i64 y.n0),(.int .i64 y.n1),(.int .i64 y.n2),(.im (yaa eR y.t) y.bt),(.im (yaa eM y.m) y.bm)] false 26]
theorem kul (x:Td) (y:Td) (p0:Int) (σ:Nat->Nat):k2x.map (gm (kun x y p0 σ))=qku x y p0 σ:=by kernel_rfl
theorem kum (x:Td) (y:Td) (p0:Int) (σ:Nat->Nat):k2w.map (gB (kun x y p0 σ))=qkv x y p0 σ:=by kernel_rfl
theorem qkw: ∀ (fu:Nat),∀ (x:Td) (y:Td) (p0:Int) {r0:AV} {z0:St} {σ:Nat->Nat},(∀ i j,σ i=σ j->i=j)->kh6 fu x y p0=some r0->Sim (kun x y p0 σ) (kaa [2,3,5] k2x k2w) z0->J FF (kai FF 14) (kcm (kai FF 14) 0) (.code (.loop (kcl (kai FF 14) 0))) z0 r0:=by
 intro fu
 induction fu with
 |zero=>
  intro _ _ _ _ _ _ _ h _;unfold kh6 at h;cases h
 |succ fu ih=>
  intro x y p0 r0 z0 σ hσ h S;unfold kh6 at h;exact kcr (have H:=Tok.start hσ S 2 7 4 0 ([.int .i64 p0,.int .i64 x.n0,.int .i64 x.n1,.int .i64 x.n2,.int .i64 y.n0,.int .i64 y.n1,.int .i64 y.n2]) ([.im (yaa eR x.t) x.bt,.im (yaa eM x.m) x.bm,.im (yaa eR y.t) y.bt,.im (yaa eM y.m) y.bm]) [] (.c (yad kbt _ _) <| .c (yad kax _ _) <| .c (yad kbt _ _) <| .c (yad kax _ _) <| .n) (.n) (kul _ _ _ _) (kum _ _ _ _);have H:=H.t 9 [.int .i64 x.m.length,.bool (decide (p0<(x.m.length:Int)))]|>.q 8 (.bin .lss (cT 0) (cT 7))|>.L (vf 1) 7;kaf h (fun h0 h=>have H:=H.y 8 h0;kac h (fun h1 h=>kbb h (fun x2 h2 h=>have H:=H.t 11 [.int .i64 x2.kind,.int .i64 x2.n]|>.I (vf 1) (vt 0) [(vt 9),(vt 10)] kax h1 h2;kbb h (fun x3 h3 h=>have H:=H.t 14 [.int .i64 x3.kind,.int .i64 x3.n,.bool (!((x2.kind:Int) == x3.kind && ((x2.n:Int) == x3.n && true)))]|>.q 13 (.eqa true [0,0] (.c (.agg [(vt 9),(vt 10)])) (.c (.agg [(vt 11),(vt 12)])))|>.I (vf 3) (vt 0) [(vt 11),(vt 12)] kax h1 h3;kaf h (fun h4 h=>have H:=H.m 13 true h4;H.e [0,2] h) (fun h4 h=>have H:=H.t 15 [.int .i64 (w64 (p0+1))]|>.q 14 (.bin .add (cT 0) (cI 1))|>.m 13 false (bF h4);H.k [0,2] [2,3,5] [0,1] [(.ptr 0 0),(.ptr 1 0),(vt 14)] [.cells [(vt 1),(vt 2),(vt 3),(vf 0),(vf 1)] false 26,.cells [(vt 4),(vt 5),(vt 6),(vf 2),(vf 3)] false 26] 13 _ (kul _ _ _ _) (kum _ _ _ _) (fun _ hi S=>ih _ _ _ hi h S)))))) (fun h0 h=>have H:=H.w 8 h0;H.k [0,2] [2,3,6] [0,1] [(.ptr 0 0),(.ptr 1 0),(.int .i64 0)] [.cells [(vt 1),(vt 2),(vt 3),(vf 0),(vf 1)] false 26,.cells [(vt 4),(vt 5),(vt 6),(vf 2),(vf 3)] false 26] 2 _ (kuo _ _ _ _) (kup _ _ _ _) (fun _ hi S=>qkz _ _ _ _ hi h S)))
def kuj (fu:Nat) (x:Td) (y:Td):Option AV:=
 if(!((x.n0:Int) == y.n0 && ((x.n1:Int) == y.n1 && ((x.n2:Int) == y.n2 && true))))=true then
  some (.bool false)
 else
  if(x.m.length:Int)=(y.m.length:Int) then
   if(x.t.length:Int)=(y.t.length:Int) then
     kh6 fu x y 0
   else
     some (.bool false)
  else
   some (.bool false)
def k2v:List AV:=[(.agg [(vt 0),(vt 1),(vt 2),(vf 0),(vf 1)]),(.agg [(vt 3),(vt 4),(vt 5),(vf 2),(vf 3)])]
def kuk (x:Td) (y:Td) (σ:Nat->Nat):Val:=(kal ([.int .i64 x.n0,.int .i64 x.n1,.int .i64 x.n2,.int .i64 y.n0,.int .i64 y.n1,.int .i64 y.n2]) ([.im (yaa eR x.t) x.bt,.im (yaa eM x.m) x.bm,.im (yaa eR y.t) y.bt,.im (yaa eM y.m) y.bm]) [] σ 0)
def qks (x:Td) (y:Td) (_σ:Nat->Nat):List AV:=[(.agg [(.int .i64 x.n0),(.int .i64 x.n1),(.int .i64 x.n2),(.im (yaa eR x.t) x.bt),(.im (yaa eM x.m) x.bm)]),(.agg [(.int .i64 y.n0),(.int .i64 y.n1),(.int .i64 y.n2),(.im (yaa eR y.t) y.bt),(.im (yaa eM y.m) y.bm)])]
def qkt (_x:Td) (_y:Td) (_σ:Nat->Nat):List Blk:=[]
theorem qkq (x:Td) (y:Td) (σ:Nat->Nat):k2v.map (gm (kuk x y σ))=qks x y σ:=by kernel_rfl
theorem qkr (x:Td) (y:Td) (σ:Nat->Nat):([]:List Blk).map (gB (kuk x y σ))=qkt x y σ:=by kernel_rfl
theorem qk0 {fu:Nat} (x:Td) (y:Td) {r0:AV} (h:kuj fu x y=some r0):kak FF 14 [(.agg [(.int .i64 x.n0),(.int .i64 x.n1),(.int .i64 x.n2),(.im (yaa eR x.t) x.bt),(.im (yaa eM x.m) x.bm)]),(.agg [(.int .i64 y.n0),(.int .i64 y.n1),(.int .i64 y.n2),(.im (yaa eR y.t) y.bt),(.im (yaa eM y.m) y.bm)])] r0:=by
 unfold kuj at h;have hσ: ∀ i j:Nat,(fun i:Nat=>i) i=(fun i:Nat=>i) j->i=j:=fun _ _ e=>e
 exact kbq (ρ:=kuk x y (fun i=>i)) (xs:=k2v) (by kernel_rfl) rfl rfl (by kernel_rfl) (fun z0 S=>have H:=Tok.start hσ S 0 6 4 0 ([.int .i64 x.n0,.int .i64 x.n1,.int .i64 x.n2,.int .i64 y.n0,.int .i64 y.n1,.int .i64 y.n2]) ([.im (yaa eR x.t) x.bt,.im (yaa eM x.m) x.bm,.im (yaa eR y.t) y.bt,.im (yaa eM y.m) y.bm]) [] (.c (yad kbt _ _) <| .c (yad kax _ _) <| .c (yad kbt _ _) <| .c (yad kax _ _) <| .n) .n (qkq _ _ _) (qkr _ _ _);have H:=H.t 7 [.bool (!((x.n0:Int) == y.n0 && ((x.n1:Int) == y.n1 && ((x.n2:Int) == y.n2 && true))))]|>.q 6 (.eqa true [0,0,0] (.c (.agg [(vt 0),(vt 1),(vt 2)])) (.c (.agg [(vt 3),(vt 4),(vt 5)])));kaf h (fun h0 h=>have H:=H.m 6 true h0;H.e [0,2] h) (fun h0 h=>have H:=H.t 10 [.int .i64 x.m.length,.int .i64 y.m.length,.bool (!decide ((x.m.length:Int)=(y.m.length:Int)))]|>.q 9 (.bin .neq (cT 7) (cT 8))|>.m 6 false (bF h0)|>.L (vf 1) 7|>.L (vf 3) 8;kaf h (fun h1 h=>have H:=H.t 13 [.int .i64 x.t.length,.int .i64 y.t.length,.bool (!decide ((x.t.length:Int)=(y.t.length:Int)))]|>.q 12 (.bin .neq (cT 10) (cT 11))|>.m 9 false (nT h1)|>.L (vf 0) 10|>.L (vf 2) 11;kaf h (fun h2 h=>have H:=H.m 12 false (nT h2);H.k [0,2] [2,3,5] [0,1] [(.ptr 0 0),(.ptr 1 0),(.int .i64 0)] [.cells [(vt 0),(vt 1),(vt 2),(vf 0),(vf 1)] false 26,.cells [(vt 3),(vt 4),(vt 5),(vf 2),(vf 3)] false 26] 2 _ (kul _ _ _ _) (kum _ _ _ _) (fun _ hi S=>qkw _ _ _ _ hi h S)) (fun h2 h=>have H:=H.m 12 true (nF h2);H.e [0,2] h)) (fun h1 h=>have H:=H.m 9 true (nF h1);H.e [0,2] h)))
def kug (x:Td) (y:Td):Option AV:=
 if((x.n0:Int) == y.n0 && ((x.n1:Int) == y.n1 && ((x.n2:Int) == y.n2 && true)))=true then
  if x.m.length<=1000000 then if(kgu x.m y.m)=true then
    if kie x.t=true then some (.bool (khk x.t y.t)) else none
  else
    some (.bool false) else none
 else
  some (.bool false)
def k2t:List AV:=[(.agg [(vt 0),(vt 1),(vt 2),(vf 0),(vf 1)]),(.agg [(vt 3),(vt 4),(vt 5),(vf 2),(vf 3)])]
def kuh (x:Td) (y:Td) (σ:Nat->Nat):Val:=(kal ([.int .i64 x.n0,.int .i64 x.n1,.int .i64 x.n2,.int .i64 y.n0,.int .i64 y.n1,.int .i64 y.n2]) ([.im (yaa eR x.t) x.bt,.im (yaa eM x.m) x.bm,.im (yaa eR y.t) y.bt,.im (yaa eM y.m) y.bm]) [] σ 0)
def qki (x:Td) (y:Td) (_σ:Nat->Nat):List AV:=[(.agg [(.int .i64 x.n0),(.int .i64 x.n1),(.int .i64 x.n2),(.im (yaa eR x.t) x.bt),(.im (yaa eM x.m) x.bm)]),(.agg [(.int .i64 y.n0),(.int .i64 y.n1),(.int .i64 y.n2),(.im (yaa eR y.t) y.bt),(.im (yaa eM y.m) y.bm)])]
def qkj (_x:Td) (_y:Td) (_σ:Nat->Nat):List Blk:=[]
theorem qkg (x:Td) (y:Td) (σ:Nat->Nat):k2t.map (gm (kuh x y σ))=qki x y σ:=by kernel_rfl
theorem qkh (x:Td) (y:Td) (σ:Nat->Nat):([]:List Blk).map (gB (kuh x y σ))=qkj x y σ:=by kernel_rfl
theorem qkk (x:Td) (y:Td) {r0:AV} (h:kug x y=some r0):kak FF 15 [(.agg [(.int .i64 x.n0),(.int .i64 x.n1),(.int .i64 x.n2),(.im (yaa eR x.t) x.bt),(.im (yaa eM x.m) x.bm)]),(.agg [(.int .i64 y.n0),(.int .i64 y.n1),(.int .i64 y.n2),(.im (yaa eR y.t) y.bt),(.im (yaa eM y.m) y.bm)])] r0:=by
 unfold kug at h;have hσ: ∀ i j:Nat,(fun i:Nat=>i) i=(fun i:Nat=>i) j->i=j:=fun _ _ e=>e
 exact kbq (ρ:=kuh x y (fun i=>i)) (xs:=k2t) (by kernel_rfl) rfl rfl (by kernel_rfl) (fun z0 S=>have H:=Tok.start hσ S 0 6 4 0 ([.int .i64 x.n0,.int .i64 x.n1,.int .i64 x.n2,.int .i64 y.n0,.int .i64 y.n1,.int .i64 y.n2]) ([.im (yaa eR x.t) x.bt,.im (yaa eM x.m) x.bm,.im (yaa eR y.t) y.bt,.im (yaa eM y.m) y.bm]) [] (.c (yad kbt _ _) <| .c (yad kax _ _) <| .c (yad kbt _ _) <| .c (yad kax _ _) <| .n) .n (qkg _ _ _) (qkh _ _ _);have H:=H.t 7 [.bool ((x.n0:Int) == y.n0 && ((x.n1:Int) == y.n1 && ((x.n2:Int) == y.n2 && true)))]|>.q 6 (.eqa false [0,0,0] (.c (.agg [(vt 0),(vt 1),(vt 2)])) (.c (.agg [(vt 3),(vt 4),(vt 5)])));kaf h (fun h0 h=>have H:=H.m 6 true h0;kac h (fun h1 h=>have H:=H.t 8 [.bool (kgu x.m y.m)]|>.s [(vf 1),(vf 3)] (vt 7) (k7t x.m y.m x.bm y.bm h1);kaf h (fun h2 h=>have H:=H.m 7 true h2;kac h (fun h3 h=>have H:=H.t 9 [.bool (khk x.t y.t)]|>.s [(vf 0),(vf 2),(.fn 40 [] [])] (vt 8) (k7w x.t y.t x.bt y.bt h3);H.e [] h)) (fun h2 h=>have H:=H.m 7 false (bF h2);H.e [] h))) (fun h0 h=>have H:=H.m 6 false (bF h0);H.e [] h))
def kkz (s w:Bs) (most n:Int):Int:=if n > most then -1 else if s=hdL w n then n else -1
theorem kpe {s w:Bs} {most n:Int} (h0:0<=n) (hn:n<=9999999) (hw:w.length<=1000):
  (if n > most then some (AV.int .i64 (-1)) else
   if yab w+yab [(32:UInt8)]<=140737488355328 then if 0<=n/\n<=9223372036854775807 then if yab (w++[32])+yab (kab n)<=140737488355328 then if yab ((w++[32])++(kab n))+yab [(10:UInt8)]<=140737488355328 then if(!(s == (((w++[32])++(kab n))++[10])))=true then
    some (.int .i64 (-1))
   else
    some (.int .i64 n) else none else none else none else none)=some (.int .i64 (kkz s w most n)):=by
 have hl:=kdn (n:=n) (by omega);have e:((w++[32])++kab n)++[10]=hdL w n:=by unfold hdL;simp
 unfold kkz;by_cases h1:n > most
 ·rw[iq h1,iq h1]
 ·rw[ir h1,ir h1,iq (by rw[yac];omega),iq (by omega),iq (by rw[yah,yac];omega),iq (by rw[yah,yah,yac,yac];omega),e];by_cases h2:s=hdL w n
  ·rw[iq h2,ir (by simp[h2])]
  ·rw[ir h2,iq (by simp[h2])]
def kft (most:Int):Bs->Nat->Nat
 | [],n=>n
 |c::l,n=>if(48<=c.toNat/\c.toNat<=57)/\(n:Int)<=most then kft most l (10*n+(c.toNat - 48)) else n
theorem kxi {most:Int}: ∀ (l:Bs) (n:Nat),(∀ c ∈ l,kdm c)->(l.foldl (fun a d=>10*a+(d.toNat - 48)) n:Nat)<=most->kft most (l++[10]) n=l.foldl (fun a d=>10*a+(d.toNat - 48)) n
 | [],n,_,_=>by
   show kft most [10] n=n;unfold kft;rw[ir (by rintro⟨⟨h,_⟩,_⟩;revert h;decide)]
 |c::l,n,h,hl=>by
  have hc:=h c (by simp);unfold kdm at hc;rw[List.foldl_cons] at hl ⊢;have hg:=km4 l (10*n+(c.toNat - 48));rw[List.cons_append];unfold kft;rw[iq ⟨hc,by omega⟩];exact kxi l _ (fun c hc=>h c (by simp[hc])) hl
theorem k7g {n:Nat} {c:UInt8} (hn:n<=99999) (h:48<=c.toNat/\c.toNat<=57):w64 ((w64 ((w64 (10*(n:Int)))+(yaf .i64 (yae c:Int)))) - 48)=((10*n+(c.toNat - 48):Nat):Int):=by
 have e1:w64 (10*(n:Int))=((10*n:Nat):Int):=by
  unfold w64 yaf;simp[yak,yao];omega
 rw[e1,k5g (by omega)];have e2:w64 (((10*n:Nat):Int)+(c.toNat:Int))=((10*n+c.toNat:Nat):Int):=by
  unfold w64 yaf;simp[yak,yao];omega
 rw[e2];unfold w64 yaf;simp[yak,yao];omega
theorem qqb (s w:Bs) (most:Int) (hm:0<=most) (hb:most<=9999) (hs:s.length<=1000000) (hw:w.length<=1000): ∀ (k i n:Nat),i+k=s.length->n<=99999->kh9 (k+1) s w most n i=some (.int .i64 (kkz s w most (kft most (s.drop i) n:Nat))):=by
 intro k
 induction k with
 |zero=>
  intro i n hi hn;unfold kh9;rw[ir (by omega),List.drop_of_length_le (by omega)];exact kpe (by omega) (by omega) hw
 |succ k ih=>
  intro i n hi hn;have h1:i<s.length:=by omega
  have hd:s.drop i=s[i]::s.drop (i+1):=List.drop_eq_getElem_cons h1;have stop: ¬((48<=s[i].toNat/\s[i].toNat<=57)/\(n:Int)<=most)->kft most (s.drop i) n=n:=fun h=>by
   rw[hd];unfold kft;rw[ir h]
  unfold kh9;rw[iq (by omega),iq (by omega)];simp only[yam,List.getElem?_eq_getElem h1,Option.bind_some];by_cases c1:(s[i].toNat:Int) ≥ 48
  ·rw[iq c1];by_cases c2:(s[i].toNat:Int)<=57
   ·rw[iq c2];by_cases c3:(n:Int)<=most
    ·have hc:48<=s[i].toNat/\s[i].toNat<=57:=by omega
     rw[iq c3,k7g hn hc,kbv h1 hs,ih (i+1) _ (by omega) (by omega),hd];congr 4
     conv=>rhs;unfold kft
     rw[iq ⟨hc,c3⟩]
    ·rw[ir c3,stop (by omega)];exact kpe (by omega) (by omega) hw
   ·rw[ir c2,stop (by omega)];exact kpe (by omega) (by omega) hw
  ·rw[ir c1,stop (by omega)];exact kpe (by omega) (by omega) hw
theorem qqa {s w:Bs} {most:Int} (hm:0<=most) (hb:most<=9999):kkz s w most (kft most (s.drop (w.length+1)) 0:Nat)=kah w s most:=by
 by_cases h:0<=kah w s most
 ·obtain⟨h1,h2⟩:=kf1 h;generalize kah w s most=m at h h1 h2;obtain⟨u,rfl⟩:=Int.eq_ofNat_of_zero_le h;have e:s.drop (w.length+1)=yal u++[10]:=by
   conv=>lhs;rw[h1]
   unfold hdL;rw[klp (by omega),←yan,List.drop_left' (by simp)]
  have hv:(yal u).foldl (fun a d=>10*a+(d.toNat - 48)) 0=u:=kqe u;have hr:=kxi (most:=most) (yal u) 0 (kis u) (by rw[hv];exact h2);rw[hv] at hr;rw[e,hr];unfold kkz;rw[ir (by omega),iq h1]
 ·have hn:=kpd h;rw[hn];unfold kkz;split
  ·rfl
  ·rename_i h1;split
   ·rename_i h2;have h3:=kih (w:=w) (n:=(kft most (s.drop (w.length+1)) 0:Nat)) (most:=most) (by omega) (by omega) hb;rw[←h2,hn] at h3;omega
   ·rfl
theorem kha (s w:Bs) (most:Int) (h:kg9 s w most=true):kak FF 25 [.str s,.str w,.int .i64 most] (.int .i64 (kah w s most)):=by
 simp only[kg9,decide_eq_true_eq] at h;obtain⟨⟨hs,hw⟩,hm,hb⟩:=h;refine qlm (fu:=s.length - (w.length+1)+1) s w most ?_;unfold kuw;have e:w64 ((w.length:Int)+1)=((w.length+1:Nat):Int):=kbv (n:=w.length+1) (by omega) (by omega);rw[e];have bad: ¬(w++[32]).isPrefixOf s=true->kah w s most= -1:=fun h=>kpd fun h0=>h (by
  obtain⟨h1,_⟩:=kf1 h0;generalize kah w s most=m at h1;rw[h1];unfold hdL;rw[←yan];exact yaj.2 ⟨_,rfl⟩)
 by_cases h1:(s.length:Int)<=((w.length+1:Nat):Int)
 ·rw[iq h1];have:kah w s most= -1:=kpd fun h0=>by
   have h2:=congrArg yab (kf1 h0).1;unfold hdL at h2;simp only[yah,yac] at h2;omega
  rw[this]
 ·rw[ir h1,iq (by omega),iq (by rw[yac];omega),yam];by_cases h2:s.take (w.length+1)=w++[32]
  ·rw[ir (by simp[h2])];have:=qqb s w most hm hb hs hw (s.length - (w.length+1)) (w.length+1) 0 (by omega) (by omega);rw[qqa hm hb] at this;exact this
  ·rw[iq (by simp[h2])];rw[bad fun hp=>h2 ?_];obtain⟨r,hr⟩:=yaj.1 hp;rw[←hr,List.take_left' (by simp)]
end Go.Proofs.Hz
