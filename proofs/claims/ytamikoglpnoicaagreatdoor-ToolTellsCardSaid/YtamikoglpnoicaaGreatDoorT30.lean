/-
  Chapter 20: walks through functions (part a), written by a program of our own (wip/tools).
  Conditions: none.
-/
import Derived.Test.YtamikoglpnoicaaGreatDoorT29
import Derived.Test.YtamikoglpnoicaaGreatDoorT28
open Go Go.Proofs
namespace Go.Proofs.Hz
open Int renaming toNat->yaa,toNat_natCast->yak
open List renaming map->yab,getElem?_eq_getElem->yac,take_succ_eq_append_getElem->yad,drop->yae,take_of_length_le->yaf,take->yah,length->yaj,all_eq_true->yam,map_singleton->yao,map_cons->yap,getElem?_map->yaq,map_nil->yar,getElem_mem->yas,map_append->yat
open Nat renaming ble->yav
open OkF renaming im->yal
open Option renaming bind->yag,bind_some->yan,map_some->yau
open UInt8 renaming toNat->yai
def k0z (s:List UInt8) (p:List UInt8):Option AV:=
 some (.tup [(.str (kbc s p)),(.bool (kbg s p))])
def k01:List AV:=[(vt 0),(vt 1)]
def ksi (s:List UInt8) (p:List UInt8) (σ:Nat->Nat):Val:=(kal ([.str s,.str p]) ([]) [] σ 0)
def qfi (s:List UInt8) (p:List UInt8) (_σ:Nat->Nat):List AV:=[(.str s),(.str p)]
def qfj (_s:List UInt8) (_p:List UInt8) (_σ:Nat->Nat):List Blk:=[]
theorem qfb (s:List UInt8) (p:List UInt8) (σ:Nat->Nat):k01.map (gm (ksi s p σ))=qfi s p σ:=by kernel_rfl
theorem qfc (s:List UInt8) (p:List UInt8) (σ:Nat->Nat):([]:List Blk).map (gB (ksi s p σ))=qfj s p σ:=by kernel_rfl
theorem qfk (s:List UInt8) (p:List UInt8) {r0:AV} (h:k0z s p=some r0):kak FF 74 [(.str s),(.str p)] r0:=by
 unfold k0z at h;have hσ: ∀ i j:Nat,(fun i:Nat=>i) i=(fun i:Nat=>i) j->i=j:=fun _ _ e=>e
 exact kbq (ρ:=ksi s p (fun i=>i)) (xs:=k01) (by kernel_rfl) rfl rfl (by kernel_rfl) (fun z0 S=>have H:=Tok.start hσ S 0 2 0 0 ([.str s,.str p]) ([]) [] (.n) .n (qfb _ _ _) (qfc _ _ _);have H:=H.t 4 [.str (kbc s p),.bool (kbg s p)]|>.s [(vt 0),(vt 1)] (.tup [(vt 2),(vt 3)]) (k7c s p);H.e [] h)
def ktq (s:List UInt8) (most:Int):Option AV:=
 if s.length<=1000000 then if kes s=true then
  if(kam s) ≥ 0 then
   if(kam s)<=most then
     if -9223372036854775808<=(kam s)/\(kam s)<=9223372036854775807 then some (.tup [(.int .i64 (kam s)),(.bool ((kab (kam s)) == s))]) else none
   else
     some (.tup [(.int .i64 (kam s)),(.bool false)])
  else
   some (.tup [(.int .i64 (kam s)),(.bool false)])
 else
  some (.tup [(.int .i64 (kam s)),(.bool false)]) else none
def k1y:List AV:=[(vt 0),(vt 1)]
def ktr (s:List UInt8) (most:Int) (σ:Nat->Nat):Val:=(kal ([.str s,.int .i64 most]) ([]) [] σ 0)
def qib (s:List UInt8) (most:Int) (_σ:Nat->Nat):List AV:=[(.str s),(.int .i64 most)]
def qic (_s:List UInt8) (_most:Int) (_σ:Nat->Nat):List Blk:=[]
theorem qh9 (s:List UInt8) (most:Int) (σ:Nat->Nat):k1y.map (gm (ktr s most σ))=qib s most σ:=by kernel_rfl
theorem qia (s:List UInt8) (most:Int) (σ:Nat->Nat):([]:List Blk).map (gB (ktr s most σ))=qic s most σ:=by kernel_rfl
theorem qid (s:List UInt8) (most:Int) {r0:AV} (h:ktq s most=some r0):kak FF 76 [(.str s),(.int .i64 most)] r0:=by
 unfold ktq at h;have hσ: ∀ i j:Nat,(fun i:Nat=>i) i=(fun i:Nat=>i) j->i=j:=fun _ _ e=>e
 exact kbq (ρ:=ktr s most (fun i=>i)) (xs:=k1y) (by kernel_rfl) rfl rfl (by kernel_rfl) (fun z0 S=>have H:=Tok.start hσ S 0 2 0 0 ([.str s,.int .i64 most]) ([]) [] (.n) .n (qh9 _ _ _) (qia _ _ _);kac h (fun h0 h=>kaf h (fun h1 h=>have H:=H.t 4 [.int .i64 (kam s),.bool (decide ((kam s) ≥ 0))]|>.q 3 (.bin .geq (cT 2) (cI 0))|>.s [(vt 0)] (.tup [(vt 2),.nili]) (kw0 s h0 h1);kaf h (fun h2 h=>have H:=H.t 5 [.bool (decide ((kam s)<=most))]|>.q 4 (.bin .leq (cT 2) (cT 1))|>.y 3 h2;kaf h (fun h3 h=>have H:=H.y 4 h3;kac h (fun h4 h=>have H:=H.t 7 [.str (kab (kam s)),.bool ((kab (kam s)) == s)]|>.q 6 (.bin .eql (cT 5) (cT 0))|>.s [(vt 2)] (vt 5) (kbk (kam s) h4);H.e [] h)) (fun h3 h=>have H:=H.w 4 h3;H.e [] h)) (fun h2 h=>have H:=H.w 3 h2;H.e [] h)) (fun h1 h=>have H:=H.t 3 [.int .i64 (kam s)]|>.s [(vt 0)] (.tup [(vt 2),.ifv]) (kwz s h0 h1);H.e [] h)))
def kg1:Nat->List UInt8->List Bs->Int->Int->Option AV
 |0,_,_,_,_=>none
 |fu+1,s,p1_0,p1_1,p1_2=>
  if p1_2<(s.length:Int) then
   if 0<=p1_2 then yag (s[yaa p1_2]?) fun x2=>
   if(yai x2:Int)=10 then
    if 0<=p1_1/\p1_1<=(w64 (p1_2+1))/\(w64 (p1_2+1))<=(s.length:Int) then if(p1_0.length+yaj [(yah (yaa (w64 (p1_2+1)) - yaa p1_1) (yae (yaa p1_1) s))])*16<=kaq/\p1_0.length+yaj [(yah (yaa (w64 (p1_2+1)) - yaa p1_1) (yae (yaa p1_1) s))]<=kaq then kg1 fu s (p1_0++[(yah (yaa (w64 (p1_2+1)) - yaa p1_1) (yae (yaa p1_1) s))]) (w64 (p1_2+1)) (w64 (p1_2+1)) else none else none
   else
    kg1 fu s p1_0 p1_1 (w64 (p1_2+1)) else none
  else
   if p1_1<(s.length:Int) then
    if 0<=p1_1/\p1_1<=(s.length:Int) then if(p1_0.length+yaj [(yae (yaa p1_1) s)])*16<=kaq/\p1_0.length+yaj [(yae (yaa p1_1) s)]<=kaq then some (.im (yab eT (p1_0++[(yae (yaa p1_1) s)])) false) else none else none
   else
    some (.im (yab eT p1_0) false)
def k1r:List AV:=[(vt 0),(.sl 0 0 1000001 1 none),(vt 1),(vt 2)]
def k1q:List Blk:=[.own 1000001 false 9]
def ktf (s:List UInt8) (p1_0:List Bs) (p1_1:Int) (p1_2:Int) (σ:Nat->Nat):Val:=(kal ([.str s,.int .i64 p1_1,.int .i64 p1_2]) ([]) [(1,yab eT p1_0)] σ 1)
def qhp (s:List UInt8) (p1_0:List Bs) (p1_1:Int) (p1_2:Int) (σ:Nat->Nat):List AV:=[(.str s),(.sl (σ 0) 0 (yaj (yab eT p1_0)) 1 none),(.int .i64 p1_1),(.int .i64 p1_2)]
def qhq (_s:List UInt8) (p1_0:List Bs) (_p1_1:Int) (_p1_2:Int) (_σ:Nat->Nat):List Blk:=[.cells (List.flatten (yab eT p1_0)) false 9]
theorem kon (s:List UInt8) (p1_0:List Bs) (p1_1:Int) (p1_2:Int) (σ:Nat->Nat):k1r.map (gm (ktf s p1_0 p1_1 p1_2 σ))=qhp s p1_0 p1_1 p1_2 σ:=by kernel_rfl
theorem koo (s:List UInt8) (p1_0:List Bs) (p1_1:Int) (p1_2:Int) (σ:Nat->Nat):k1q.map (gB (ktf s p1_0 p1_1 p1_2 σ))=qhq s p1_0 p1_1 p1_2 σ:=by kernel_rfl
theorem qhr: ∀ (fu:Nat),∀ (s:List UInt8) (p1_0:List Bs) (p1_1:Int) (p1_2:Int) {r0:AV} {z0:St} {σ:Nat->Nat},(∀ i j,σ i=σ j->i=j)->kg1 fu s p1_0 p1_1 p1_2=some r0->Sim (ktf s p1_0 p1_1 p1_2 σ) (kaa [0,3,4,5] k1r k1q) z0->J FF (kai FF 24) (kcm (kai FF 24) 0) (.code (.loop (kcl (kai FF 24) 0))) z0 r0:=by
 intro fu
 induction fu with
 |zero=>
  intro _ _ _ _ _ _ _ _ h _;unfold kg1 at h;cases h
 |succ fu ih=>
  intro s p1_0 p1_1 p1_2 r0 z0 σ hσ h S;unfold kg1 at h;exact kcr (have H:=Tok.start hσ S 1 3 0 1 ([.str s,.int .i64 p1_1,.int .i64 p1_2]) ([]) [(0,1,yab eT p1_0)] (.n) (.c (OkO.own kae _) <| .n) (kon _ _ _ _ _) (koo _ _ _ _ _);have H:=H.t 5 [.int .i64 s.length,.bool (decide (p1_2<(s.length:Int)))]|>.q 3 (.len 1 (cT 0))|>.q 4 (.bin .lss (cT 2) (cT 3));kaf h (fun h0 h=>have H:=H.y 4 h0;kac h (fun h1 h=>kbb h (fun x2 h2 h=>have H:=H.t 7 [.int .u8 (yai x2:Int),.bool (decide ((yai x2:Int)=10))]|>.q 6 (.bin .eql (cT 5) (.c (.int .u8 10)))|>.c (p:=(.ixS (cT 0) (cT 2),(vt 5))) (fun _ _ _=>kix rfl rfl h1 h2 rfl);kaf h (fun h3 h=>have H:=H.t 8 [.int .i64 (w64 (p1_2+1))]|>.q 7 (.bin .add (cT 2) (cI 1))|>.y 6 h3;kac h (fun _ h=>have H:=H.t 9 [.str (yah (yaa (w64 (p1_2+1)) - yaa p1_1) (yae (yaa p1_1) s))]|>.c (p:=(.slT (cT 0) (some (cT 1)) (some (cT 7)),(vt 8))) (fun _ _ _=>kcu (l:=s) (l':=(yah (yaa (w64 (p1_2+1)) - yaa p1_1) (yae (yaa p1_1) s))) (lo:=(some ((vt 1),(p1_1:Int)))) (hi:=(some ((vt 7),((w64 (p1_2+1)):Int)))) (by kernel_rfl) ⟨.i64,by kernel_rfl⟩ ⟨.i64,by kernel_rfl⟩ (by simp only[ka3];omega) (by simp[ka3]) (by kernel_rfl));kac h (fun h5 h=>have H:=H.o 1 (1,yab eT (p1_0++[(yah (yaa (w64 (p1_2+1)) - yaa p1_1) (yae (yaa p1_1) s))])) (.own kae _)|>.a ⟨true,1,16,(vf 1000001),(.im [[(vt 8)]] true),1001001⟩ (fun _ _ _=>keh rfl rfl rfl h5 (.inl rfl) (by decide) (by decide) (by decide));H.k [0] [0,3,4,5] [2] [(vt 0),(.sl 2 0 1001001 1 none),(vt 7),(vt 7)] [.own 1001001 false 9] 3 _ (kon _ _ _ _ _) (koo _ _ _ _ _) (fun _ hi S=>ih _ _ _ _ hi h S)))) (fun h3 h=>have H:=H.t 8 [.int .i64 (w64 (p1_2+1))]|>.q 7 (.bin .add (cT 2) (cI 1))|>.w 6 h3;H.k [0] [0,3,4,5] [0] [(vt 0),(.sl 0 0 1000001 1 none),(vt 1),(vt 7)] [.own 1000001 false 9] 1 _ (kon _ _ _ _ _) (koo _ _ _ _ _) (fun _ hi S=>ih _ _ _ _ hi h S))))) (fun h0 h=>have H:=H.t 6 [.bool (decide (p1_1<(s.length:Int)))]|>.q 5 (.bin .lss (cT 1) (cT 3))|>.w 4 h0;kaf h (fun h1 h=>have H:=H.y 5 h1;kac h (fun _ h=>have H:=H.t 7 [.str (yae (yaa p1_1) s)]|>.c (p:=(.slT (cT 0) (some (cT 1)) none,(vt 6))) (fun _ _ _=>kcu (l:=s) (l':=(yae (yaa p1_1) s)) (lo:=(some ((vt 1),(p1_1:Int)))) (hi:=none) (by kernel_rfl) ⟨.i64,by kernel_rfl⟩ trivial (by simp only[ka3];omega) (by simp only[ka3];exact khi _ _) (by kernel_rfl));kac h (fun h3 h=>have H:=H.o 1 (1,yab eT (p1_0++[(yae (yaa p1_1) s)])) (.own kae _)|>.a ⟨true,1,16,(vf 1000001),(.im [[(vt 6)]] true),1001001⟩ (fun _ _ _=>keh rfl rfl rfl h3 (.inl rfl) (by decide) (by decide) (by decide));H.e [0] h))) (fun h1 h=>have H:=H.w 5 h1;H.e [0] h)))
def kh1:Nat->List UInt8->Int->Int->Option AV
 |0,_,_,_=>none
 |fu+1,s,p0,p1=>
  if p1<(s.length:Int) then
   if 0<=p1 then yag (s[yaa p1]?) fun x2=>
   if(yai x2:Int)=10 then
    if 0<=p0/\p0<=(w64 (p1+1))/\(w64 (p1+1))<=(s.length:Int) then kg1 fu s ([(yah (yaa (w64 (p1+1)) - yaa p0) (yae (yaa p0) s))]) (w64 (p1+1)) (w64 (p1+1)) else none
   else
    kh1 fu s p0 (w64 (p1+1)) else none
  else
   if p0<(s.length:Int) then
    if 0<=p0/\p0<=(s.length:Int) then some (.im [[(.str (yae (yaa p0) s))]] false) else none
   else
    some (.im [] true)
def k1p:List AV:=[(vt 0),(.im [] true),(vt 1),(vt 2)]
def k1o:List Blk:=[]
def kte (s:List UInt8) (p0:Int) (p1:Int) (σ:Nat->Nat):Val:=(kal ([.str s,.int .i64 p0,.int .i64 p1]) ([]) [] σ 0)
def qhm (s:List UInt8) (p0:Int) (p1:Int) (_σ:Nat->Nat):List AV:=[(.str s),(.im [] true),(.int .i64 p0),(.int .i64 p1)]
def qhn (_s:List UInt8) (_p0:Int) (_p1:Int) (_σ:Nat->Nat):List Blk:=[]
theorem ktc (s:List UInt8) (p0:Int) (p1:Int) (σ:Nat->Nat):k1p.map (gm (kte s p0 p1 σ))=qhm s p0 p1 σ:=by kernel_rfl
theorem ktd (s:List UInt8) (p0:Int) (p1:Int) (σ:Nat->Nat):k1o.map (gB (kte s p0 p1 σ))=qhn s p0 p1 σ:=by kernel_rfl
theorem qho: ∀ (fu:Nat),∀ (s:List UInt8) (p0:Int) (p1:Int) {r0:AV} {z0:St} {σ:Nat->Nat},(∀ i j,σ i=σ j->i=j)->kh1 fu s p0 p1=some r0->Sim (kte s p0 p1 σ) (kaa [0,3,4,5] k1p k1o) z0->J FF (kai FF 24) (kcm (kai FF 24) 0) (.code (.loop (kcl (kai FF 24) 0))) z0 r0:=by
 intro fu
 induction fu with
 |zero=>
  intro _ _ _ _ _ _ _ h _;unfold kh1 at h;cases h
 |succ fu ih=>
  intro s p0 p1 r0 z0 σ hσ h S;unfold kh1 at h;exact kcr (have H:=Tok.start hσ S 0 3 0 0 ([.str s,.int .i64 p0,.int .i64 p1]) ([]) [] (.n) (.n) (ktc _ _ _ _) (ktd _ _ _ _);have H:=H.t 5 [.int .i64 s.length,.bool (decide (p1<(s.length:Int)))]|>.q 3 (.len 1 (cT 0))|>.q 4 (.bin .lss (cT 2) (cT 3));kaf h (fun h0 h=>have H:=H.y 4 h0;kac h (fun h1 h=>kbb h (fun x2 h2 h=>have H:=H.t 7 [.int .u8 (yai x2:Int),.bool (decide ((yai x2:Int)=10))]|>.q 6 (.bin .eql (cT 5) (.c (.int .u8 10)))|>.c (p:=(.ixS (cT 0) (cT 2),(vt 5))) (fun _ _ _=>kix rfl rfl h1 h2 rfl);kaf h (fun h3 h=>have H:=H.t 8 [.int .i64 (w64 (p1+1))]|>.q 7 (.bin .add (cT 2) (cI 1))|>.y 6 h3;kac h (fun _ h=>have H:=H.t 9 [.str (yah (yaa (w64 (p1+1)) - yaa p0) (yae (yaa p0) s))]|>.c (p:=(.slT (cT 0) (some (cT 1)) (some (cT 7)),(vt 8))) (fun _ _ _=>kcu (l:=s) (l':=(yah (yaa (w64 (p1+1)) - yaa p0) (yae (yaa p0) s))) (lo:=(some ((vt 1),(p0:Int)))) (hi:=(some ((vt 7),((w64 (p1+1)):Int)))) (by kernel_rfl) ⟨.i64,by kernel_rfl⟩ ⟨.i64,by kernel_rfl⟩ (by simp only[ka3];omega) (by simp[ka3]) (by kernel_rfl));H.k [0] [0,3,4,5] [1] [(vt 0),(.sl 1 0 1 1 none),(vt 7),(vt 7)] [.cells [(vt 8)] false 9] 2 _ (kon _ _ _ _ _) (koo _ _ _ _ _) (fun _ hi S=>qhr _ _ _ _ _ hi h S))) (fun h3 h=>have H:=H.t 8 [.int .i64 (w64 (p1+1))]|>.q 7 (.bin .add (cT 2) (cI 1))|>.w 6 h3;H.k [0] [0,3,4,5] [] [(vt 0),(.im [] true),(vt 1),(vt 7)] [] 0 _ (ktc _ _ _ _) (ktd _ _ _ _) (fun _ hi S=>ih _ _ _ hi h S))))) (fun h0 h=>have H:=H.t 6 [.bool (decide (p0<(s.length:Int)))]|>.q 5 (.bin .lss (cT 1) (cT 3))|>.w 4 h0;kaf h (fun h1 h=>have H:=H.y 5 h1;kac h (fun _ h=>have H:=H.t 7 [.str (yae (yaa p0) s)]|>.c (p:=(.slT (cT 0) (some (cT 1)) none,(vt 6))) (fun _ _ _=>kcu (l:=s) (l':=(yae (yaa p0) s)) (lo:=(some ((vt 1),(p0:Int)))) (hi:=none) (by kernel_rfl) ⟨.i64,by kernel_rfl⟩ trivial (by simp only[ka3];omega) (by simp only[ka3];exact khi _ _) (by kernel_rfl));H.e [0] h)) (fun h1 h=>have H:=H.w 5 h1;H.e [0] h)))
def k1m (fu:Nat) (s:List UInt8):Option AV:=
 kh1 fu s 0 0
def k1n:List AV:=[(vt 0)]
def ktb (s:List UInt8) (σ:Nat->Nat):Val:=(kal ([.str s]) ([]) [] σ 0)
def qhk (s:List UInt8) (_σ:Nat->Nat):List AV:=[(.str s)]
def qhl (_s:List UInt8) (_σ:Nat->Nat):List Blk:=[]
theorem qhi (s:List UInt8) (σ:Nat->Nat):k1n.map (gm (ktb s σ))=qhk s σ:=by kernel_rfl
theorem qhj (s:List UInt8) (σ:Nat->Nat):([]:List Blk).map (gB (ktb s σ))=qhl s σ:=by kernel_rfl
theorem qhs {fu:Nat} (s:List UInt8) {r0:AV} (h:k1m fu s=some r0):kak FF 24 [(.str s)] r0:=by
 unfold k1m at h;have hσ: ∀ i j:Nat,(fun i:Nat=>i) i=(fun i:Nat=>i) j->i=j:=fun _ _ e=>e
 exact kbq (ρ:=ktb s (fun i=>i)) (xs:=k1n) (by kernel_rfl) rfl rfl (by kernel_rfl) (fun z0 S=>have H:=Tok.start hσ S 0 1 0 0 ([.str s]) ([]) [] (.n) .n (qhi _ _) (qhj _ _);H.k [0] [0,3,4,5] [] [(vt 0),(.im [] true),(.int .i64 0),(.int .i64 0)] [] 0 _ (ktc _ _ _ _) (ktd _ _ _ _) (fun _ hi S=>qho _ _ _ _ hi h S))
def kh0:Nat->List Ro->Bool->Int->Int->Option AV
 |0,_,_,_,_=>none
 |fu+1,t,bt,m,p0=>
  if p0<(t.length:Int) then
   if 0<=p0 then yag (t[yaa p0]?) fun x2=>
   if(x2.c.length:Int) > m then
    some (.bool false)
   else
    kh0 fu t bt m (w64 (p0+1)) else none
  else
   some (.bool true)
def k1h:List AV:=[(vf 0),(vt 0),(vt 1)]
def k1g:List Blk:=[]
def ks6 (t:List Ro) (bt:Bool) (m:Int) (p0:Int) (σ:Nat->Nat):Val:=(kal ([.int .i64 m,.int .i64 p0]) ([.im (yab eR t) bt]) [] σ 0)
def qgy (t:List Ro) (bt:Bool) (m:Int) (p0:Int) (_σ:Nat->Nat):List AV:=[(.im (yab eR t) bt),(.int .i64 m),(.int .i64 p0)]
def qgz (_t:List Ro) (_bt:Bool) (_m:Int) (_p0:Int) (_σ:Nat->Nat):List Blk:=[]
theorem ks4 (t:List Ro) (bt:Bool) (m:Int) (p0:Int) (σ:Nat->Nat):k1h.map (gm (ks6 t bt m p0 σ))=qgy t bt m p0 σ:=by kernel_rfl
theorem ks5 (t:List Ro) (bt:Bool) (m:Int) (p0:Int) (σ:Nat->Nat):k1g.map (gB (ks6 t bt m p0 σ))=qgz t bt m p0 σ:=by kernel_rfl
theorem qg0: ∀ (fu:Nat),∀ (t:List Ro) (bt:Bool) (m:Int) (p0:Int) {r0:AV} {z0:St} {σ:Nat->Nat},(∀ i j,σ i=σ j->i=j)->kh0 fu t bt m p0=some r0->Sim (ks6 t bt m p0 σ) (kaa [0,2,7] k1h k1g) z0->J FF (kai FF 20) (kcm (kai FF 20) 0) (.code (.loop (kcl (kai FF 20) 0))) z0 r0:=by
 intro fu
 induction fu with
 |zero=>
  intro _ _ _ _ _ _ _ _ h _;unfold kh0 at h;cases h
 |succ fu ih=>
  intro t bt m p0 r0 z0 σ hσ h S;unfold kh0 at h;exact kcr (have H:=Tok.start hσ S 0 2 1 0 ([.int .i64 m,.int .i64 p0]) ([.im (yab eR t) bt]) [] (.c (yal kbt _ _) <| .n) (.n) (ks4 _ _ _ _ _) (ks5 _ _ _ _ _);have H:=H.t 4 [.int .i64 t.length,.bool (decide (p0<(t.length:Int)))]|>.q 3 (.bin .lss (cT 1) (cT 2))|>.L (vf 0) 2;kaf h (fun h0 h=>have H:=H.y 3 h0;kac h (fun h1 h=>kbb h (fun x2 h2 h=>have H:=H.t 6 [.int .i64 x2.c.length,.bool (decide ((x2.c.length:Int) > m))]|>.f 2 [.im (yab eC x2.c) x2.b] (.c (yal ka5 _ _) <| .n)|>.q 5 (.bin .gtr (cT 4) (cT 0))|>.I (vf 0) (vt 1) [(vf 1)] kbt h1 h2|>.L (vf 1) 4;kaf h (fun h3 h=>have H:=H.y 5 h3;H.e [0] h) (fun h3 h=>have H:=H.t 7 [.int .i64 (w64 (p0+1))]|>.q 6 (.bin .add (cT 1) (cI 1))|>.w 5 h3;H.k [0] [0,2,7] [] [(vf 0),(vt 0),(vt 6)] [] 0 _ (ks4 _ _ _ _ _) (ks5 _ _ _ _ _) (fun _ hi S=>ih _ _ _ _ hi h S))))) (fun h0 h=>have H:=H.w 3 h0;H.e [0] h))
def ks0 (fu:Nat) (t:List Ro) (bt:Bool) (k:Int) (m:Int):Option AV:=
 if(t.length:Int) > k then
  some (.bool false)
 else
  kh0 fu t bt m 0
def k1f:List AV:=[(vf 0),(vt 0),(vt 1)]
def ks3 (t:List Ro) (bt:Bool) (k:Int) (m:Int) (σ:Nat->Nat):Val:=(kal ([.int .i64 k,.int .i64 m]) ([.im (yab eR t) bt]) [] σ 0)
def qgw (t:List Ro) (bt:Bool) (k:Int) (m:Int) (_σ:Nat->Nat):List AV:=[(.im (yab eR t) bt),(.int .i64 k),(.int .i64 m)]
def qgx (_t:List Ro) (_bt:Bool) (_k:Int) (_m:Int) (_σ:Nat->Nat):List Blk:=[]
theorem qgu (t:List Ro) (bt:Bool) (k:Int) (m:Int) (σ:Nat->Nat):k1f.map (gm (ks3 t bt k m σ))=qgw t bt k m σ:=by kernel_rfl
theorem qgv (t:List Ro) (bt:Bool) (k:Int) (m:Int) (σ:Nat->Nat):([]:List Blk).map (gB (ks3 t bt k m σ))=qgx t bt k m σ:=by kernel_rfl
theorem qg1 {fu:Nat} (t:List Ro) (bt:Bool) (k:Int) (m:Int) {r0:AV} (h:ks0 fu t bt k m=some r0):kak FF 20 [(.im (yab eR t) bt),(.int .i64 k),(.int .i64 m)] r0:=by
 unfold ks0 at h;have hσ: ∀ i j:Nat,(fun i:Nat=>i) i=(fun i:Nat=>i) j->i=j:=fun _ _ e=>e
 exact kbq (ρ:=ks3 t bt k m (fun i=>i)) (xs:=k1f) (by kernel_rfl) rfl rfl (by kernel_rfl) (fun z0 S=>have H:=Tok.start hσ S 0 2 1 0 ([.int .i64 k,.int .i64 m]) ([.im (yab eR t) bt]) [] (.c (yal kbt _ _) <| .n) .n (qgu _ _ _ _ _) (qgv _ _ _ _ _);have H:=H.t 4 [.int .i64 t.length,.bool (decide ((t.length:Int) > k))]|>.q 3 (.bin .gtr (cT 2) (cT 0))|>.L (vf 0) 2;kaf h (fun h0 h=>have H:=H.y 3 h0;H.e [0] h) (fun h0 h=>have H:=H.w 3 h0;H.k [0] [0,2,7] [] [(vf 0),(vt 1),(.int .i64 0)] [] 0 _ (ks4 _ _ _ _ _) (ks5 _ _ _ _ _) (fun _ hi S=>qg0 _ _ _ _ _ hi h S)))
def khx:Nat->List Mov->Bool->List Mov->Bool->Int->Option AV
 |0,_,_,_,_,_=>none
 |fu+1,l,bl,m,bm,p0=>
  if p0<(l.length:Int) then
   if 0<=p0 then yag (l[yaa p0]?) fun x2=>
   yag (m[yaa p0]?) fun x3=>
   if(!((x2.kind:Int) == x3.kind && ((x2.n:Int) == x3.n && true)))=true then
    some (.bool false)
   else
    khx fu l bl m bm (w64 (p0+1)) else none
  else
   some (.bool true)
def k07:List AV:=[(vf 0),(vf 1),(vt 0),(vt 1)]
def k06:List Blk:=[]
def ksq (l:List Mov) (bl:Bool) (m:List Mov) (bm:Bool) (p0:Int) (σ:Nat->Nat):Val:=(kal ([.int .i64 l.length,.int .i64 p0]) ([.im (yab eM l) bl,.im (yab eM m) bm]) [] σ 0)
def qf3 (l:List Mov) (bl:Bool) (m:List Mov) (bm:Bool) (p0:Int) (_σ:Nat->Nat):List AV:=[(.im (yab eM l) bl),(.im (yab eM m) bm),(.int .i64 l.length),(.int .i64 p0)]
def qf4 (_l:List Mov) (_bl:Bool) (_m:List Mov) (_bm:Bool) (_p0:Int) (_σ:Nat->Nat):List Blk:=[]
theorem kso (l:List Mov) (bl:Bool) (m:List Mov) (bm:Bool) (p0:Int) (σ:Nat->Nat):k07.map (gm (ksq l bl m bm p0 σ))=qf3 l bl m bm p0 σ:=by kernel_rfl
theorem ksp (l:List Mov) (bl:Bool) (m:List Mov) (bm:Bool) (p0:Int) (σ:Nat->Nat):k06.map (gB (ksq l bl m bm p0 σ))=qf4 l bl m bm p0 σ:=by kernel_rfl
theorem qf5: ∀ (fu:Nat),∀ (l:List Mov) (bl:Bool) (m:List Mov) (bm:Bool) (p0:Int) {r0:AV} {z0:St} {σ:Nat->Nat},(∀ i j,σ i=σ j->i=j)->khx fu l bl m bm p0=some r0->Sim (ksq l bl m bm p0 σ) (kaa [0,1,12,13] k07 k06) z0->J FF (kai FF 38) (kcm (kai FF 38) 0) (.code (.loop (kcl (kai FF 38) 0))) z0 r0:=by
 intro fu
 induction fu with
 |zero=>
  intro _ _ _ _ _ _ _ _ _ h _;unfold khx at h;cases h
 |succ fu ih=>
  intro l bl m bm p0 r0 z0 σ hσ h S;unfold khx at h;exact kcr (have H:=Tok.start hσ S 0 2 2 0 ([.int .i64 l.length,.int .i64 p0]) ([.im (yab eM l) bl,.im (yab eM m) bm]) [] (.c (yal kax _ _) <| .c (yal kax _ _) <| .n) (.n) (kso _ _ _ _ _ _) (ksp _ _ _ _ _ _);have H:=H.t 3 [.bool (decide (p0<(l.length:Int)))]|>.q 2 (.bin .lss (cT 1) (cT 0));kaf h (fun h0 h=>have H:=H.y 2 h0;kac h (fun h1 h=>kbb h (fun x2 h2 h=>have H:=H.t 5 [.int .i64 x2.kind,.int .i64 x2.n]|>.I (vf 0) (vt 1) [(vt 3),(vt 4)] kax h1 h2;kbb h (fun x3 h3 h=>have H:=H.t 8 [.int .i64 x3.kind,.int .i64 x3.n,.bool (!((x2.kind:Int) == x3.kind && ((x2.n:Int) == x3.n && true)))]|>.q 7 (.eqa true [0,0] (.c (.agg [(vt 3),(vt 4)])) (.c (.agg [(vt 5),(vt 6)])))|>.I (vf 1) (vt 1) [(vt 5),(vt 6)] kax h1 h3;kaf h (fun h4 h=>have H:=H.m 7 true h4;H.e [0] h) (fun h4 h=>have H:=H.t 9 [.int .i64 (w64 (p0+1))]|>.q 8 (.bin .add (cT 1) (cI 1))|>.m 7 false (bF h4);H.k [0] [0,1,12,13] [] [(vf 0),(vf 1),(vt 0),(vt 8)] [] 9 _ (kso _ _ _ _ _ _) (ksp _ _ _ _ _ _) (fun _ hi S=>ih _ _ _ _ _ hi h S)))))) (fun h0 h=>have H:=H.w 2 h0;H.e [0] h))
def ksm (fu:Nat) (l:List Mov) (bl:Bool) (m:List Mov) (bm:Bool):Option AV:=
 if(l.length:Int)=(m.length:Int) then
  khx fu l bl m bm 0
 else
  some (.bool false)
def k05:List AV:=[(vf 0),(vf 1)]
def ksn (l:List Mov) (bl:Bool) (m:List Mov) (bm:Bool) (σ:Nat->Nat):Val:=(kal ([]) ([.im (yab eM l) bl,.im (yab eM m) bm]) [] σ 0)
def qf1 (l:List Mov) (bl:Bool) (m:List Mov) (bm:Bool) (_σ:Nat->Nat):List AV:=[(.im (yab eM l) bl),(.im (yab eM m) bm)]
def qf2 (_l:List Mov) (_bl:Bool) (_m:List Mov) (_bm:Bool) (_σ:Nat->Nat):List Blk:=[]
theorem qfz (l:List Mov) (bl:Bool) (m:List Mov) (bm:Bool) (σ:Nat->Nat):k05.map (gm (ksn l bl m bm σ))=qf1 l bl m bm σ:=by kernel_rfl
theorem qf0 (l:List Mov) (bl:Bool) (m:List Mov) (bm:Bool) (σ:Nat->Nat):([]:List Blk).map (gB (ksn l bl m bm σ))=qf2 l bl m bm σ:=by kernel_rfl
theorem qf6 {fu:Nat} (l:List Mov) (bl:Bool) (m:List Mov) (bm:Bool) {r0:AV} (h:ksm fu l bl m bm=some r0):kak FF 38 [(.im (yab eM l) bl),(.im (yab eM m) bm)] r0:=by
 unfold ksm at h;have hσ: ∀ i j:Nat,(fun i:Nat=>i) i=(fun i:Nat=>i) j->i=j:=fun _ _ e=>e
 exact kbq (ρ:=ksn l bl m bm (fun i=>i)) (xs:=k05) (by kernel_rfl) rfl rfl (by kernel_rfl) (fun z0 S=>have H:=Tok.start hσ S 0 0 2 0 ([]) ([.im (yab eM l) bl,.im (yab eM m) bm]) [] (.c (yal kax _ _) <| .c (yal kax _ _) <| .n) .n (qfz _ _ _ _ _) (qf0 _ _ _ _ _);have H:=H.t 3 [.int .i64 l.length,.int .i64 m.length,.bool (!decide ((l.length:Int)=(m.length:Int)))]|>.q 2 (.bin .neq (cT 0) (cT 1))|>.L (vf 0) 0|>.L (vf 1) 1;kaf h (fun h0 h=>have H:=H.m 2 false (nT h0);H.k [0] [0,1,12,13] [] [(vf 0),(vf 1),(vt 0),(.int .i64 0)] [] 0 _ (kso _ _ _ _ _ _) (ksp _ _ _ _ _ _) (fun _ hi S=>qf5 _ _ _ _ _ _ hi h S)) (fun h0 h=>have H:=H.m 2 true (nF h0);H.e [0] h))
def khy:Nat->List Ro->Bool->List Ro->Bool->Int->Option AV
 |0,_,_,_,_,_=>none
 |fu+1,l,bl,m,bm,p0=>
  if p0<(l.length:Int) then
   if 0<=p0 then yag (l[yaa p0]?) fun x2=>
   yag (m[yaa p0]?) fun x3=>
   if x2.c.length<=1000000 then if(!(eqC x2.c x3.c))=true then
    some (.bool false)
   else
    khy fu l bl m bm (w64 (p0+1)) else none else none
  else
   some (.bool true)
def k1a:List AV:=[(vf 0),(.fn 40 [] []),(vf 1),(vt 0),(vt 1)]
def k09:List Blk:=[]
def ksv (l:List Ro) (bl:Bool) (m:List Ro) (bm:Bool) (p0:Int) (σ:Nat->Nat):Val:=(kal ([.int .i64 l.length,.int .i64 p0]) ([.im (yab eR m) bm,.im (yab eR l) bl]) [] σ 0)
def qgb (l:List Ro) (bl:Bool) (m:List Ro) (bm:Bool) (p0:Int) (_σ:Nat->Nat):List AV:=[(.im (yab eR m) bm),(.fn 40 [] []),(.im (yab eR l) bl),(.int .i64 l.length),(.int .i64 p0)]
def qgc (_l:List Ro) (_bl:Bool) (_m:List Ro) (_bm:Bool) (_p0:Int) (_σ:Nat->Nat):List Blk:=[]
theorem kst (l:List Ro) (bl:Bool) (m:List Ro) (bm:Bool) (p0:Int) (σ:Nat->Nat):k1a.map (gm (ksv l bl m bm p0 σ))=qgb l bl m bm p0 σ:=by kernel_rfl
theorem ksu (l:List Ro) (bl:Bool) (m:List Ro) (bm:Bool) (p0:Int) (σ:Nat->Nat):k09.map (gB (ksv l bl m bm p0 σ))=qgc l bl m bm p0 σ:=by kernel_rfl
theorem qgd: ∀ (fu:Nat),∀ (l:List Ro) (bl:Bool) (m:List Ro) (bm:Bool) (p0:Int) {r0:AV} {z0:St} {σ:Nat->Nat},(∀ i j,σ i=σ j->i=j)->khy fu l bl m bm p0=some r0->Sim (ksv l bl m bm p0 σ) (kaa [1,2,15,16,17] k1a k09) z0->J FF (kai FF 39) (kcm (kai FF 39) 0) (.code (.loop (kcl (kai FF 39) 0))) z0 r0:=by
 intro fu
 induction fu with
 |zero=>
  intro _ _ _ _ _ _ _ _ _ h _;unfold khy at h;cases h
 |succ fu ih=>
  intro l bl m bm p0 r0 z0 σ hσ h S;unfold khy at h;exact kcr (have H:=Tok.start hσ S 0 2 2 0 ([.int .i64 l.length,.int .i64 p0]) ([.im (yab eR m) bm,.im (yab eR l) bl]) [] (.c (yal kbt _ _) <| .c (yal kbt _ _) <| .n) (.n) (kst _ _ _ _ _ _) (ksu _ _ _ _ _ _);have H:=H.t 3 [.bool (decide (p0<(l.length:Int)))]|>.q 2 (.bin .lss (cT 1) (cT 0));kaf h (fun h0 h=>have H:=H.y 2 h0;kac h (fun h1 h=>kbb h (fun x2 h2 h=>have H:=H.f 3 [.im (yab eC x2.c) x2.b] (.c (yal ka5 _ _) <| .n)|>.I (vf 1) (vt 1) [(vf 2)] kbt h1 h2;kbb h (fun x3 h3 h=>have H:=H.f 4 [.im (yab eC x3.c) x3.b] (.c (yal ka5 _ _) <| .n)|>.I (vf 0) (vt 1) [(vf 3)] kbt h1 h3;kac h (fun h4 h=>have H:=H.t 5 [.bool (eqC x2.c x3.c),.bool (!(eqC x2.c x3.c))]|>.q 4 (.un .not (cT 3))|>.s [(vf 2),(vf 3)] (vt 3) (qob x2.c x3.c x2.b x3.b h4);kaf h (fun h5 h=>have H:=H.m 4 true h5;H.e [0] h) (fun h5 h=>have H:=H.t 6 [.int .i64 (w64 (p0+1))]|>.q 5 (.bin .add (cT 1) (cI 1))|>.m 4 false (bF h5);H.k [0] [1,2,15,16,17] [] [(vf 0),(.fn 40 [] []),(vf 1),(vt 0),(vt 5)] [] 0 _ (kst _ _ _ _ _ _) (ksu _ _ _ _ _ _) (fun _ hi S=>ih _ _ _ _ _ hi h S))))))) (fun h0 h=>have H:=H.w 2 h0;H.e [0] h))
def ksr (fu:Nat) (l:List Ro) (bl:Bool) (m:List Ro) (bm:Bool):Option AV:=
 if(l.length:Int)=(m.length:Int) then
  khy fu l bl m bm 0
 else
  some (.bool false)
def k08:List AV:=[(vf 0),(vf 1),(.fn 40 [] [])]
def kss (l:List Ro) (bl:Bool) (m:List Ro) (bm:Bool) (σ:Nat->Nat):Val:=(kal ([]) ([.im (yab eR l) bl,.im (yab eR m) bm]) [] σ 0)
def qf9 (l:List Ro) (bl:Bool) (m:List Ro) (bm:Bool) (_σ:Nat->Nat):List AV:=[(.im (yab eR l) bl),(.im (yab eR m) bm),(.fn 40 [] [])]
def qga (_l:List Ro) (_bl:Bool) (_m:List Ro) (_bm:Bool) (_σ:Nat->Nat):List Blk:=[]
theorem qf7 (l:List Ro) (bl:Bool) (m:List Ro) (bm:Bool) (σ:Nat->Nat):k08.map (gm (kss l bl m bm σ))=qf9 l bl m bm σ:=by kernel_rfl
theorem qf8 (l:List Ro) (bl:Bool) (m:List Ro) (bm:Bool) (σ:Nat->Nat):([]:List Blk).map (gB (kss l bl m bm σ))=qga l bl m bm σ:=by kernel_rfl
theorem qge {fu:Nat} (l:List Ro) (bl:Bool) (m:List Ro) (bm:Bool) {r0:AV} (h:ksr fu l bl m bm=some r0):kak FF 39 [(.im (yab eR l) bl),(.im (yab eR m) bm),(.fn 40 [] [])] r0:=by
 unfold ksr at h;have hσ: ∀ i j:Nat,(fun i:Nat=>i) i=(fun i:Nat=>i) j->i=j:=fun _ _ e=>e
 exact kbq (ρ:=kss l bl m bm (fun i=>i)) (xs:=k08) (by kernel_rfl) rfl rfl (by kernel_rfl) (fun z0 S=>have H:=Tok.start hσ S 0 0 2 0 ([]) ([.im (yab eR l) bl,.im (yab eR m) bm]) [] (.c (yal kbt _ _) <| .c (yal kbt _ _) <| .n) .n (qf7 _ _ _ _ _) (qf8 _ _ _ _ _);have H:=H.t 3 [.int .i64 l.length,.int .i64 m.length,.bool (!decide ((l.length:Int)=(m.length:Int)))]|>.q 2 (.bin .neq (cT 0) (cT 1))|>.L (vf 0) 0|>.L (vf 1) 1;kaf h (fun h0 h=>have H:=H.m 2 false (nT h0);H.k [0] [1,2,15,16,17] [] [(vf 1),(.fn 40 [] []),(vf 0),(vt 0),(.int .i64 0)] [] 0 _ (kst _ _ _ _ _ _) (ksu _ _ _ _ _ _) (fun _ hi S=>qgd _ _ _ _ _ _ hi h S)) (fun h0 h=>have H:=H.m 2 true (nF h0);H.e [0] h))
theorem k7d (s p:Bs):kak FF 74 [.str s,.str p] (.tup [.str (kbc s p),.bool (kbg s p)]):=qfk s p rfl
def kce (s:Bs) (most:Int):Bool:=kes s && (decide (0<=kam s) && (decide (kam s<=most) && kab (kam s) == s))
theorem qdy (s:Bs) (most:Int) (hl:s.length<=1000000) (hm:most<=9999):kak FF 76 [.str s,.int .i64 most] (.tup [.int .i64 (kam s),.bool (kce s most)]):=qid s most (by
 unfold ktq kce;rw[iq hl];by_cases h1:kes s=true
 ·rw[iq h1];by_cases h2:kam s ≥ 0
  ·have h2':0<=kam s:=h2;rw[iq h2];by_cases h3:kam s<=most
   ·rw[iq h3,iq (by omega)];simp[h1,h2',h3]
   ·rw[ir h3];simp[h3]
  ·have h2': ¬0<=kam s:=h2;rw[ir h2];simp[h2']
 ·rw[ir h1];simp[h1])
theorem k8l (t:List Ro) (bt:Bool) (k m:Int) (hk:k<=1000000:=by omega):kak FF 20 [.im (t.map eR) bt,.int .i64 k,.int .i64 m] (.bool (kgv t k m)):=by
 have key:t.length<=1000000-> ∀ (n i:Nat),i+n=t.length->(∀ r ∈ t.take i,(r.c.length:Int)<=m)->kh0 (n+1) t bt m i=some (.bool (t.all fun r=>decide ((r.c.length:Int)<=m))):=by
  intro hl n
  induction n with
  |zero=>
   intro i hi ht;unfold kh0;rw[ir (by omega)];rw[yaf (by omega)] at ht;congr 2;symm;exact yam.2 fun r hr=>decide_eq_true (ht r hr)
  |succ n ih=>
   intro i hi ht;have h1:i<t.length:=by omega
   unfold kh0;rw[iq (by omega),iq (by omega)];simp only[yak,yac h1,yan];by_cases hc:(t[i].c.length:Int) > m
   ·rw[iq hc];congr 2;symm;exact Bool.eq_false_iff.2 fun h=>by
     have:=yam.1 h t[i] (yas h1);simp only[decide_eq_true_eq] at this;omega
   ·rw[ir hc,kbv h1 hl];refine ih (i+1) (by omega) fun r hr=> ?_
    rw[yad h1,List.mem_append,List.mem_singleton] at hr;rcases hr with hr |rfl
    ·exact ht r hr
    ·omega
 refine qg1 (fu:=t.length+1) t bt k m ?_;unfold ks0 kgv;by_cases h:(t.length:Int) > k
 ·rw[iq h,decide_eq_false (by omega)];rfl
 ·rw[ir h,decide_eq_true (by omega),Bool.true_and];exact key (by omega) t.length 0 (by omega) (by simp)
theorem knv (x y:Mov):(!((x.kind:Int) == y.kind && ((x.n:Int) == y.n && true)))=true↔x≠y:=by
 constructor
 ·intro h e;subst e;simp at h
 ·intro h;simp only[Bool.and_true,Bool.not_eq_true',Bool.and_eq_false_iff,beq_eq_false_iff_ne];by_cases h1:x.kind=y.kind
  ·by_cases h2:x.n=y.n
   ·exact absurd (Mov.ext' h1 h2) h
   ·exact .inr h2
  ·exact .inl h1
theorem k7t (l m:List Mov) (bl bm:Bool) (hn:l.length<=1000000):kak FF 38 [.im (l.map eM) bl,.im (m.map eM) bm] (.bool (kgu l m)):=by
 have key:l.length=m.length-> ∀ (k i:Nat),i+k=l.length->l.take i=m.take i->khx (k+1) l bl m bm i=some (.bool (kgu l m)):=by
  intro hl k
  induction k with
  |zero=>
   intro i hi ht;unfold khx;rw[ir (by omega)];have:l=m:=by
    have h1:l.take i=l:=yaf (by omega);have h2:m.take i=m:=yaf (by omega);rw[←h1,←h2];exact ht
   simp[kgu,this]
  |succ k ih=>
   intro i hi ht;have h1:i<l.length:=by omega
   have h2:i<m.length:=by omega
   unfold khx;rw[iq (by omega),iq (by omega)];simp only[yak,yac h1,yac h2,yan];by_cases hc:l[i]=m[i]
   ·rw[ir (fun h=>(knv _ _).1 h hc),kbv h1 hn];refine ih (i+1) (by omega) ?_;rw[yad h1,yad h2,ht,hc]
   ·rw[iq ((knv _ _).2 hc)];have:l≠m:=fun e=>by subst e;exact hc rfl
    simp[kgu,this]
 refine qf6 (fu:=l.length+1) l bl m bm ?_;unfold ksm;by_cases h:l.length=m.length
 ·rw[iq (by omega)];exact key h l.length 0 (by omega) (by simp)
 ·rw[ir (by omega)];have:l≠m:=fun e=>h (e ▸ rfl)
  simp[kgu,this]
theorem kv4 {l:List Ro} (h:kie l=true):l.length<=1000000/\ ∀ r ∈ l,r.c.length<=1000000:=by
 simp only[kie,Bool.and_eq_true,decide_eq_true_eq,yam] at h;exact h
theorem k7w (l m:List Ro) (bl bm:Bool) (hs:kie l=true):kak FF 39 [.im (l.map eR) bl,.im (m.map eR) bm,.fn 40 [] []] (.bool (khk l m)):=by
 obtain⟨hn,hr⟩:=kv4 hs;have key:l.length=m.length-> ∀ (k i:Nat),i+k=l.length->(l.take i).map Ro.c=(m.take i).map Ro.c->khy (k+1) l bl m bm i=some (.bool (khk l m)):=by
  intro hl k
  induction k with
  |zero=>
   intro i hi ht;unfold khy;rw[ir (by omega)];rw[yaf (by omega),yaf (by omega)] at ht;simp[khk,ht]
  |succ k ih=>
   intro i hi ht;have h1:i<l.length:=by omega
   have h2:i<m.length:=by omega
   unfold khy;rw[iq (by omega),iq (by omega)];simp only[yak,yac h1,yac h2,yan];rw[iq (hr _ (yas h1))];by_cases hc:l[i].c=m[i].c
   ·rw[ir (by simp[eqC,hc]),kbv h1 hn];refine ih (i+1) (by omega) ?_;rw[yad h1,yad h2,yat,yat,ht,yao,yao,hc]
   ·rw[iq (by simp[eqC,hc])];have:l.map Ro.c≠m.map Ro.c:=fun e=>by
     have e1:=congrArg (·[i]?) e;simp only[yaq,yac h1,yac h2,yau,Option.some.injEq] at e1;exact hc e1
    simp[khk,this]
 refine qge (fu:=l.length+1) l bl m bm ?_;unfold ksr;by_cases h:l.length=m.length
 ·rw[iq (by omega)];exact key h l.length 0 (by omega) (by simp)
 ·rw[ir (by omega)];have:l.map Ro.c≠m.map Ro.c:=fun e=>h (by have:=congrArg yaj e;simpa using this)
  simp[khk,this]
theorem k8i {ρ:Val} {x y r:AV} {m n:Int} (hx:gm ρ x= .int .i64 m) (hy:gm ρ y= .int .i64 n) (hr:gm ρ r= .bool (decide (m<n))):FOp ρ (.bin .lss (.c x) (.c y),r):=fun s=>by
 simp only[AOp.gmO,AOp.mapO,AO.gmO,opA,AO.ev,hx,hy,hr,kd0,ke1,kei];simp
theorem km3 {ρ:Val} {x r:AV} {b:Bool} (hx:gm ρ x= .bool b) (hr:gm ρ r= .bool (!b)):FOp ρ (.un .not (.c x),r):=fun s=>by
 simp only[AOp.gmO,AOp.mapO,AO.gmO,opA,AO.ev,hx,hr,unA,yau]
theorem k8g {ρ:Val} {x r:AV} {m n:Int} (hx:gm ρ x= .int .i64 m) (hr:gm ρ r= .int .i64 n) (hw:w64 (m+1)=n):FOp ρ (.bin .add (.c x) (cI 1),r):=fun s=>by
 have hw':IntKind.wrap .i64 (m+1)=n:=hw;simp only[AOp.gmO,AOp.mapO,AO.gmO,cI,opA,AO.ev,hx,hr,gm,kd0,ke1,kei];simp[hw']
theorem neF {b:Bool} (h:b=true):(!b)=false:=by rw[h];rfl
theorem neT {b:Bool} (h:b=false):(!b)=true:=by rw[h];rfl
theorem neN {b:Bool} (h: ¬b=true):(!b)=true:=by simpa using h
def moV (a:Nat) (L:List Bs):List AV:=[.int .i64 L.length,.bool (decide ((a:Int)<L.length))]
def lnV (a:Nat) (L:List Bs) (l:Bs):List AV:=[.bool (!(decide ((a:Int)<L.length))),.str l,.str (kad l),.bool (kao l),.bool (!(kao l))]
def tkV (u w:Bs) (m:Int):List AV:=[.str (kbc u w),.bool (kbg u w),.int .i64 (kam (kbc u w)),.bool (kce (kbc u w) m),.bool (!(kbg u w)),.bool (!(kce (kbc u w) m))]
section
variable {σ:Nat->Nat} {lo:Nat} {s0 z:St} {A:As} {Φ:Facts} {a:Nat} {L:List Bs} {l:Bs}
theorem kb6 {f:AV->AV} {xs ys:List AV} (h:xs.map f=ys) {i:Nat} {x y:AV} (hx:xs[i]? =some x) (hy:ys[i]? =some y):f x=y:=by
 subst h;rw[yaq,hx] at hy;exact Option.some.inj hy
theorem Tok.mc (H:Tok FF σ lo s0 z A Φ) (i:Nat) (c:Bool) (h0:decide ((a:Int)<L.length)=c) (hn:yav A.nt (i+2)=true)
  (k: ∀ ft ff fo,[.var false 1000001,vt i,vt 0,vt (i+1)].map (gm ((A.t (i+2) (moV a L)).val ft ff fo σ lo))=[.im (L.map eT) false,.int .i64 L.length,.int .i64 a,.bool (decide ((a:Int)<L.length))]):
  Tok FF σ lo s0 z (A.t (i+2) (moV a L)) (((Φ.op [(.len 0 (.c (.sl 1 0 1000001 1 none)),vt i)]).op [(.bin .lss (cT 0) (cT i),vt (i+1))]).op [(.mov (cT (i+1)),.bool c)]):=by
 have H1:=H.t (i+2) (moV a L) (by kernel_rfl) hn;have H2:=H1.c (p:=(.len 0 (.c (.sl 1 0 1000001 1 none)),vt i)) fun ft ff fo=>kga (e:=eT) (l:=L) (by decide) (kb6 (i:=0) (k ft ff fo) rfl rfl) (kb6 (i:=1) (k ft ff fo) rfl rfl)
 have H3:=H2.c (p:=(.bin .lss (cT 0) (cT i),vt (i+1))) fun ft ff fo=>k8i (kb6 (i:=2) (k ft ff fo) rfl rfl) (kb6 (i:=1) (k ft ff fo) rfl rfl) (kb6 (i:=3) (k ft ff fo) rfl rfl)
 exact H3.c (p:=(.mov (cT (i+1)),.bool c)) fun ft ff fo=>fT (kb6 (i:=3) (k ft ff fo) rfl rfl) h0
theorem Tok.mo (H:Tok FF σ lo s0 z A Φ) (i:Nat) (h0:(a:Int)<L.length) (hn:yav A.nt (i+2)=true:=by kernel_rfl)
 (k: ∀ ft ff fo,[.var false 1000001,vt i,vt 0,vt (i+1)].map (gm ((A.t (i+2) (moV a L)).val ft ff fo σ lo))=[.im (L.map eT) false,.int .i64 L.length,.int .i64 a,.bool (decide ((a:Int)<L.length))]:=by intros;kernel_rfl):
 Tok FF σ lo s0 z (A.t (i+2) (moV a L)) (((Φ.op [(.len 0 (.c (.sl 1 0 1000001 1 none)),vt i)]).op [(.bin .lss (cT 0) (cT i),vt (i+1))]).op [(.mov (cT (i+1)),.bool true)]):=H.mc i true (decide_eq_true h0) hn k
theorem Tok.mn (H:Tok FF σ lo s0 z A Φ) (i:Nat) (h0: ¬(a:Int)<L.length) (hn:yav A.nt (i+2)=true:=by kernel_rfl)
 (k: ∀ ft ff fo,[.var false 1000001,vt i,vt 0,vt (i+1)].map (gm ((A.t (i+2) (moV a L)).val ft ff fo σ lo))=[.im (L.map eT) false,.int .i64 L.length,.int .i64 a,.bool (decide ((a:Int)<L.length))]:=by intros;kernel_rfl):
 Tok FF σ lo s0 z (A.t (i+2) (moV a L)) (((Φ.op [(.len 0 (.c (.sl 1 0 1000001 1 none)),vt i)]).op [(.bin .lss (cT 0) (cT i),vt (i+1))]).op [(.mov (cT (i+1)),.bool false)]):=H.mc i false (decide_eq_false h0) hn k
theorem Tok.ln (H:Tok FF σ lo s0 z A Φ) (j:Nat) (c:Bool) (h0:(a:Int)<L.length) (hl:L[yaa (a:Int)]? =some l) (hlen:l.length<=1000000) (he:(!(kao l))=c) (hn:yav A.nt (j+6)=true:=by kernel_rfl)
  (k: ∀ ft ff fo,[vt j,vt (j+1),.var false 1000001,vt 0,vt (j+2),vt (j+3),vt (j+4),vt (j+5)].map (gm ((A.t (j+6) (lnV a L l)).val ft ff fo σ lo))=[.bool (decide ((a:Int)<L.length)),.bool (!(decide ((a:Int)<L.length))),.im (L.map eT) false,.int .i64 a,.str l,.str (kad l),.bool (kao l),.bool (!(kao l))]:=by intros;kernel_rfl):
  Tok FF σ lo s0 z (A.t (j+6) (lnV a L l)) ((((((Φ.op [(.un .not (cT j),vt (j+1))]).op [(.mov (cT (j+1)),.bool false)]).op [(.iaS 1 (.c (.var false 1000001)) (cT 0),.ip [vt (j+2)] 0)]).call (111,[vt (j+2),.str [10]],.tup [vt (j+3),vt (j+4)])).op [(.un .not (cT (j+4)),vt (j+5))]).op [(.mov (cT (j+5)),.bool c)]):=by
 have H1:=H.t (j+6) (lnV a L l) (by kernel_rfl) hn;have H2:=H1.c (p:=(.un .not (cT j),vt (j+1))) fun ft ff fo=>km3 (kb6 (i:=0) (k ft ff fo) rfl rfl) (kb6 (i:=1) (k ft ff fo) rfl rfl)
 have H3:=H2.c (p:=(.mov (cT (j+1)),.bool false)) fun ft ff fo=>fT (kb6 (i:=1) (k ft ff fo) rfl rfl) (by simp[h0])
 have H4:=H3.c (p:=(.iaS 1 (.c (.var false 1000001)) (cT 0),.ip [vt (j+2)] 0)) fun ft ff fo=>fIa (e:=eT) kae (kb6 (i:=2) (k ft ff fo) rfl rfl) (kb6 (i:=3) (k ft ff fo) rfl rfl) (by omega) hl (by
  have:=kb6 (i:=4) (k ft ff fo) rfl rfl;simp only[gm,gmL,eT];rw[this])
 have H5:=H4.s [vt (j+2),.str [10]] (.tup [vt (j+3),vt (j+4)]) (kdg l hlen) (fun ft ff fo=>by
  have:=kb6 (i:=4) (k ft ff fo) rfl rfl;simp only[yap,yar,this,gm]) (fun ft ff fo=>by
  have e1:=kb6 (i:=5) (k ft ff fo) rfl rfl;have e2:=kb6 (i:=6) (k ft ff fo) rfl rfl;simp only[gm,gmL,e1,e2])
 have H6:=H5.c (p:=(.un .not (cT (j+4)),vt (j+5))) fun ft ff fo=>km3 (kb6 (i:=6) (k ft ff fo) rfl rfl) (kb6 (i:=7) (k ft ff fo) rfl rfl)
 exact H6.c (p:=(.mov (cT (j+5)),.bool c)) fun ft ff fo=>fT (kb6 (i:=7) (k ft ff fo) rfl rfl) he
theorem Tok.tk (H:Tok FF σ lo s0 z A Φ) (i:Nat) (X W:AV) (u w:Bs) (m:Int) (hu:(kbc u w).length<=1000000) (hm:m<=9999:=by omega) (hn:yav A.nt (i+6)=true:=by kernel_rfl)
  (k: ∀ ft ff fo,[X,W,vt i,vt (i+1),vt (i+2),vt (i+3),vt (i+4),vt (i+5)].map (gm ((A.t (i+6) (tkV u w m)).val ft ff fo σ lo))=[.str u,.str w,.str (kbc u w),.bool (kbg u w),.int .i64 (kam (kbc u w)),.bool (kce (kbc u w) m),.bool (!(kbg u w)),.bool (!(kce (kbc u w) m))]:=by intros;kernel_rfl):
  Tok FF σ lo s0 z (A.t (i+6) (tkV u w m)) ((((Φ.call (74,[X,W],.tup [vt i,vt (i+1)])).call (76,[vt i,.int .i64 m],.tup [vt (i+2),vt (i+3)])).op [(.un .not (cT (i+1)),vt (i+4))]).op [(.un .not (cT (i+3)),vt (i+5))]):=by
 have H1:=H.t (i+6) (tkV u w m) (by kernel_rfl) hn;have H2:=H1.s [X,W] (.tup [vt i,vt (i+1)]) (k7d u w) (fun ft ff fo=>by
  have e1:=kb6 (i:=0) (k ft ff fo) rfl rfl;have e2:=kb6 (i:=1) (k ft ff fo) rfl rfl;simp only[yap,yar,e1,e2]) (fun ft ff fo=>by
  have e1:=kb6 (i:=2) (k ft ff fo) rfl rfl;have e2:=kb6 (i:=3) (k ft ff fo) rfl rfl;simp only[gm,gmL,e1,e2])
 have H3:=H2.s [vt i,.int .i64 m] (.tup [vt (i+2),vt (i+3)]) (qdy (kbc u w) m hu hm) (fun ft ff fo=>by
  have e1:=kb6 (i:=2) (k ft ff fo) rfl rfl;simp only[yap,yar,e1,gm]) (fun ft ff fo=>by
  have e1:=kb6 (i:=4) (k ft ff fo) rfl rfl;have e2:=kb6 (i:=5) (k ft ff fo) rfl rfl;simp only[gm,gmL,e1,e2])
 have H4:=H3.c (p:=(.un .not (cT (i+1)),vt (i+4))) fun ft ff fo=>km3 (kb6 (i:=3) (k ft ff fo) rfl rfl) (kb6 (i:=6) (k ft ff fo) rfl rfl)
 exact H4.c (p:=(.un .not (cT (i+3)),vt (i+5))) fun ft ff fo=>km3 (kb6 (i:=5) (k ft ff fo) rfl rfl) (kb6 (i:=7) (k ft ff fo) rfl rfl)
theorem Tok.p1 (H:Tok FF σ lo s0 z A Φ) (i:Nat) (hw:w64 ((a:Int)+1)=((a+1:Nat):Int)) (hn:yav A.nt (i+1)=true:=by kernel_rfl)
  (k: ∀ ft ff fo,[vt 0,vt i].map (gm ((A.t (i+1) [.int .i64 ((a+1:Nat):Int)]).val ft ff fo σ lo))=[.int .i64 a,.int .i64 ((a+1:Nat):Int)]:=by intros;kernel_rfl):
  Tok FF σ lo s0 z (A.t (i+1) [.int .i64 ((a+1:Nat):Int)]) (Φ.op [(.bin .add (cT 0) (cI 1),vt i)]):=
 (H.t (i+1) [.int .i64 ((a+1:Nat):Int)] (by kernel_rfl) hn).c (p:=(.bin .add (cT 0) (cI 1),vt i)) fun ft ff fo=>k8g (kb6 (i:=0) (k ft ff fo) rfl rfl) (kb6 (i:=1) (k ft ff fo) rfl rfl) hw
end
end Go.Proofs.Hz
