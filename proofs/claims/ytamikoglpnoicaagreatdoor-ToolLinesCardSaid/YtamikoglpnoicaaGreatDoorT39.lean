/-
  Chapter 15: syscalls' texts. And: Chapter 20: walks through functions (part d), written by a program of our own (wip/tools).
  Conditions: none.
-/
import Derived.Test.YtamikoglpnoicaaGreatDoorT38
import Derived.Test.YtamikoglpnoicaaGreatDoorT24
import Derived.Test.YtamikoglpnoicaaGreatDoorT37
open Go Go.Proofs
namespace Go.Proofs.Hz
theorem qb8 {l:List Cl} {bl:Bool} {p:List UInt8} {i:Nat} {c:Cl} (hi:l[i]? =some c) (hlt:i<l.length) (hc:okC c=true) (hp:p.length≤5000000) (k:Nat):
  kby (k+1) l bl p i=kby k l bl (p++kbp c) (w64 ((i:Int)+1)):=by
 obtain⟨c1,c2,c3⟩:=(kll _).1 hc
 have la:=kdq c2
 have lb:=kdq c3
 rw[kby,if_pos (by omega),if_pos (by omega)]
 simp only[Int.toNat_natCast,hi,Option.bind_some,letB,kbp,kdf]
 obtain⟨no,a,b⟩:=c
 simp only at c1 c2 c3 la lb ⊢
 rcases kiz no with rfl |rfl |rfl |rfl |rfl |rfl |rfl |rfl |rfl |rfl |hh
 case inr.inr.inr.inr.inr.inr.inr.inr.inr.inr=>omega
 all_goals
  simp only[Int.reduceEq,if_true,if_false]
  repeat rw[if_pos (by first |omega |(simp only[kah,List.length_append,List.length_cons,List.length_nil];omega) |simp)]
  try simp[kdOf]
theorem qb7 {l:List Cl} {bl:Bool} {i:Nat} {c:Cl} (hi:l[i]? =some c) (hlt:i<l.length) (hc:okC c=true) (k:Nat):
  kf3 (k+1) l bl i=kby k l bl (kbp c) (w64 ((i:Int)+1)):=by
 obtain⟨c1,c2,c3⟩:=(kll _).1 hc
 have la:=kdq c2
 have lb:=kdq c3
 rw[kf3,if_pos (by omega),if_pos (by omega)]
 simp only[Int.toNat_natCast,hi,Option.bind_some,letB,kbp,kdf]
 obtain⟨no,a,b⟩:=c
 simp only at c1 c2 c3 la lb ⊢
 rcases kiz no with rfl |rfl |rfl |rfl |rfl |rfl |rfl |rfl |rfl |rfl |hh
 case inr.inr.inr.inr.inr.inr.inr.inr.inr.inr=>omega
 all_goals
  simp only[Int.reduceEq,if_true,if_false]
  repeat rw[if_pos (by first |omega |(simp only[kah,List.length_append,List.length_cons,List.length_nil];omega) |simp)]
  try rfl
theorem qb4 (l:List Cl) (bl:Bool) (h:okP l=true): ∀ (k i:Nat),i+k=l.length→ka1 (l.take i)≠[]→kby (k+1) l bl (ka1 (l.take i)) i=some (.str (ka1 l)):=by
 obtain⟨hn,hok⟩:=(kln l).1 h
 have hp: ∀ i,(ka1 (l.take i)).length≤5000000:=fun i=>by
  have:=kja (l:=l.take i) fun c hc=>hok c (List.mem_of_mem_take hc)
  simp only[List.length_take] at this
  omega
 intro k
 induction k with
 |zero=>
  intro i hi hne
  have hlen:0<(ka1 (l.take i)).length:=List.length_pos_iff.2 hne
  have hpi:=hp i
  rw[List.take_of_length_le (by omega)] at hne hlen hpi ⊢
  rw[kby,if_neg (by omega)]
  repeat rw[if_pos (by first |exact hne |omega |(simp only[kah,List.length_nil];omega))]
 |succ k ih=>
  intro i hi hne
  have h1:i<l.length:=by omega
  have hc:=hok _ (List.getElem_mem h1)
  rw[qb8 (List.getElem?_eq_getElem h1) h1 hc (hp i),kce h1 (by omega),←kpe h1]
  exact ih (i+1) (by omega) (by rw[kpe h1];simp[hne])
theorem qb5 (l:List Cl) (bl:Bool) (h:okP l=true):kma (l.length+1) l bl=some (.str (ka1 l)):=by
 obtain⟨hn,hok⟩:=(kln l).1 h
 unfold kma
 cases l with
 |nil=>
  show kf3 (0+1) [] bl 0=_
  rw[kf3,if_neg (by simp)]
  rfl
 |cons c l=>
  have hc:=hok c (by simp)
  have h0:(c::l)[0]? =some c:=rfl
  have:=qb7 (bl:=bl) h0 (by simp) hc (c::l).length
  rw[show((0:Nat):Int)=0 from rfl] at this
  rw[this,show w64 (0+1)=((1:Nat):Int) by decide]
  have e:=qb4 (c::l) bl h l.length 1 (by simp;omega) (by simp[ka1,kbp])
  have h1:ka1 ((c::l).take 1)=kbp c:=by simp[ka1]
  rw[h1] at e
  exact e
theorem k7n (l:List Cl) (bl:Bool) (h:okP l=true):Spec FF 32 [.im (l.map eC) bl] (.str (ka1 l)):=qb6 l bl (qb5 l bl h)
end Go.Proofs.Hz
open Go Go.Proofs
namespace Go.Proofs.Hz
def kee:Nat→Td→List UInt8→Int→Option AV
 |0,_,_,_=>none
 |fu+1,x,p2_0,p2_1=>
  if p2_1<(List.length x.m:Int) then
   if 0≤p2_1 then Option.bind (x.m[Int.toNat p2_1]?) fun x2=>
   if x2.kind<0 then
    some (.tup [(.str []),(.int .i64 1)])
   else
    if x2.kind > 2 then
     some (.tup [(.str []),(.int .i64 1)])
    else
     if x2.kind=0 then
      if -9223372036854775808≤x2.n∧x2.n≤9223372036854775807 then if List.length [112,105,99,107,32]+List.length (kaa x2.n)≤140737488355328 then letB (([112,105,99,107,32]++(kaa x2.n))) fun x8=>
      if List.length x8+List.length [10]≤140737488355328 then if(List.length p2_0+List.length (x8++[10]))*1≤kah∧List.length p2_0+List.length (x8++[10])≤kah then kee fu x (p2_0++(x8++[10])) (w64 (p2_1+1)) else none else none else none else none
     else
      if x2.kind=1 then
       if -9223372036854775808≤x2.n∧x2.n≤9223372036854775807 then if List.length [116,105,99,107,32]+List.length (kaa x2.n)≤140737488355328 then letB (([116,105,99,107,32]++(kaa x2.n))) fun x9=>
       if List.length x9+List.length [10]≤140737488355328 then if(List.length p2_0+List.length (x9++[10]))*1≤kah∧List.length p2_0+List.length (x9++[10])≤kah then kee fu x (p2_0++(x9++[10])) (w64 (p2_1+1)) else none else none else none else none
      else
       if x2.kind=2 then if -9223372036854775808≤x2.n∧x2.n≤9223372036854775807 then if List.length [114,101,115,116,32]+List.length (kaa x2.n)≤140737488355328 then letB (([114,101,115,116,32]++(kaa x2.n))) fun x10=>
       if List.length x10+List.length [10]≤140737488355328 then if(List.length p2_0+List.length (x10++[10]))*1≤kah∧List.length p2_0+List.length (x10++[10])≤kah then kee fu x (p2_0++(x10++[10])) (w64 (p2_1+1)) else none else none else none else none else none else none
  else
   if p2_0≠[] then if(List.length ([]:List UInt8)+List.length p2_0)*1≤kah∧List.length ([]:List UInt8)+List.length p2_0≤kah then if 0<(List.length p2_0:Int) then if List.length p2_0≤900000 then letB (kat p2_0) fun x5=>
   if x5.2.2=0 then
    if kb2 x=true then if(!(kbj x x5.1))=true then
     some (.tup [(.str []),(.int .i64 1)])
    else
     some (.tup [(.str p2_0),(.int .i64 0)]) else none
   else
    some (.tup [(.str []),(.int .i64 1)]) else none else none else none else none
def kxs:List AV:=[(.ptr 0 0),(.ptr 1 0),(.ptr 3 0),(vf 0),(vt 0),(vt 1)]
def kxr:List Blk:=[.cells [(vt 2),(vt 3),(vt 4),(vf 1),(vf 0)] false 26,.cells [(.ptr 1 0),(.sl 2 0 1000001 1 none)] false 74,.own 1000001 false 5,.cells [(.str [112,105,99,107]),(.str [116,105,99,107]),(.str [114,101,115,116])] false 75]
def kg5 (x:Td) (p2_0:List UInt8) (p2_1:Int) (σ:Nat→Nat):Val:=(valL ([.int .i64 (List.length x.m:Int),.int .i64 p2_1,.int .i64 x.n0,.int .i64 x.n1,.int .i64 x.n2]) ([.im (List.map eM x.m) x.bm,.im (List.map eR x.t) x.bt]) [(1,List.map eB p2_0)] σ 4)
def qdk (x:Td) (_p2_0:List UInt8) (p2_1:Int) (σ:Nat→Nat):List AV:=[(.ptr (σ 0) 0),(.ptr (σ 1) 0),(.ptr (σ 3) 0),(.im (List.map eM x.m) x.bm),(.int .i64 (List.length x.m:Int)),(.int .i64 p2_1)]
def qdl (x:Td) (p2_0:List UInt8) (_p2_1:Int) (σ:Nat→Nat):List Blk:=[.cells [(.int .i64 x.n0),(.int .i64 x.n1),(.int .i64 x.n2),(.im (List.map eR x.t) x.bt),(.im (List.map eM x.m) x.bm)] false 26,.cells [(.ptr (σ 1) 0),(.sl (σ 2) 0 (List.length (List.map eB p2_0)) 1 none)] false 74,.cells (List.flatten (List.map eB p2_0)) false 5,.cells [(.str [112,105,99,107]),(.str [116,105,99,107]),(.str [114,101,115,116])] false 75]
theorem kjn (x:Td) (p2_0:List UInt8) (p2_1:Int) (σ:Nat→Nat):kxs.map (gm (kg5 x p2_0 p2_1 σ))=qdk x p2_0 p2_1 σ:=by kernel_rfl
theorem kjo (x:Td) (p2_0:List UInt8) (p2_1:Int) (σ:Nat→Nat):kxr.map (gB (kg5 x p2_0 p2_1 σ))=qdl x p2_0 p2_1 σ:=by kernel_rfl
set_option maxHeartbeats 10000000 in
theorem qdm: ∀ (fu:Nat),∀ (x:Td) (p2_0:List UInt8) (p2_1:Int) {r0:AV} {z0:St} {σ:Nat→Nat},(∀ i j,σ i=σ j→i=j)→kee fu x p2_0 p2_1=some r0→Sim (kg5 x p2_0 p2_1 σ) (tmpl [1,4,11,63,64,65] kxs kxr) z0→J FF (fnOf FF 12) (cutK (fnOf FF 12) 6) (.code (.loop (cutB (fnOf FF 12) 6))) z0 r0:=by
 intro fu
 induction fu with
 |zero=>
  intro _ _ _ _ _ _ _ h _
  unfold kee at h
  cases h
 |succ fu ih=>
  intro x p2_0 p2_1 r0 z0 σ hσ h S
  unfold kee at h
  exact kcq (have H:=Tok.start hσ S 4 5 2 1 ([.int .i64 (List.length x.m:Int),.int .i64 p2_1,.int .i64 x.n0,.int .i64 x.n1,.int .i64 x.n2]) ([.im (List.map eM x.m) x.bm,.im (List.map eR x.t) x.bt]) [(0,1,List.map eB p2_0)] (.c (OkF.im kam _ _) <| .c (OkF.im kau _ _) <| .n) (.c (OkO.own kbn _) <| .n) (kjn x p2_0 p2_1 _) (kjo x p2_0 p2_1 _);have H:=H.t 6 [.bool (decide (p2_1<(List.length x.m:Int)))]|>.r [(.bin .lss (cT 1) (cT 0),(vt 5))];iteE h (fun h0 h=>have H:=H.m 5 true (decide_eq_true h0);reqE h (fun h1 h=>ka3 h (fun x2 h2 h=>have H:=H.t 9 [.int .i64 x2.kind,.int .i64 x2.n,.bool (decide (x2.kind<0))]|>.r [(.bin .lss (cT 6) (cI 0),(vt 8))]|>.c (p:=(.iaS 2 (cF 0) (cT 1),(.ip [(vt 6),(vt 7)] 0))) (fun _ _ _=>fIa (sz:=2) (e:=eM) (l:=x.m) (b:=x.bm) (k:= .i64) (n:=p2_1) (y:=x2) kam (by kernel_rfl) (by kernel_rfl) h1 h2 (by kernel_rfl));iteE h (fun h3 h=>have H:=H.m 8 true (decide_eq_true h3);H.e [2,4,6] h) (fun h3 h=>have H:=H.t 10 [.bool (decide (x2.kind > 2))]|>.r [(.bin .gtr (cT 6) (cI 2),(vt 9))]|>.m 8 false (decide_eq_false h3);iteE h (fun h4 h=>have H:=H.m 9 true (decide_eq_true h4);H.e [2,4,6] h) (fun h4 h=>have H:=H.m 9 false (decide_eq_false h4);iteE h (fun h5 h=>have H:=H.c (p:=(.iaA 3 1 (.c (.ptr 3 0)) (cT 6),(.ptr 3 0))) (fun _ _ _=>fIaP (j:=0) (k:= .i64) (n:=x2.kind) (by kernel_rfl) h5 (by decide));reqE h (fun h6 h=>have H:=H.t 11 [.str (kaa x2.n)]|>.s [(vt 7)] (vt 10) (ka5 x2.n h6);reqE h (fun h7 h=>letE h (fun x8 h8 h=>have H:=H.t 12 [.str x8]|>.c (p:=(.bin .add (.c (.str [112,105,99,107,32])) (cT 10),(vt 11))) (fun _ _ _=>fCat (a:=[112,105,99,107,32]) (b:=(kaa x2.n)) (by kernel_rfl) (by kernel_rfl) h7 (by subst h8;kernel_rfl));reqE h (fun h9 h=>have H:=H.t 13 [.str (x8++[10])]|>.c (p:=(.bin .add (cT 11) (.c (.str [10])),(vt 12))) (fun _ _ _=>fCat (a:=x8) (b:=[10]) (by kernel_rfl) (by kernel_rfl) h9 (by kernel_rfl));reqE h (fun h10 h=>have H:=H.t 15 [.int .i64 (List.length (x8++[10]):Int),.int .i64 (w64 (p2_1+1))]|>.o 1 (1,List.map eB (p2_0++(x8++[10]))) (.own kbn _)|>.r [(.len 1 (cT 12),(vt 13)),(.bin .add (cT 1) (cI 1),(vt 14))]|>.a ⟨true,1,1,(vf 1000001),(vt 12),1001001⟩ (fun _ _ _=>kbr (l:=p2_0) (t:=(x8++[10])) (cb:=false) (by kernel_rfl) (by kernel_rfl) (by kernel_rfl) h10 (.inl rfl) (by decide) (by decide));H.k [2,4,6] [1,4,11,63,64,65] [0,1,16,3] [(.ptr 0 0),(.ptr 1 0),(.ptr 3 0),(vf 0),(vt 0),(vt 14)] [.cells [(vt 2),(vt 3),(vt 4),(vf 1),(vf 0)] false 26,.cells [(.ptr 1 0),(.sl 16 0 1001001 1 none)] false 74,.own 1001001 false 5,.cells [(.str [112,105,99,107]),(.str [116,105,99,107]),(.str [114,101,115,116])] false 75] 17 (kg5 x (p2_0++(x8++[10])) (w64 (p2_1+1)) _) (kjn x (p2_0++(x8++[10])) (w64 (p2_1+1)) _) (kjo x (p2_0++(x8++[10])) (w64 (p2_1+1)) _) (fun _ hi S=>ih _ _ _ hi h S))))))) (fun _ h=>iteE h (fun h6 h=>have H:=H.c (p:=(.iaA 3 1 (.c (.ptr 3 0)) (cT 6),(.ptr 3 1))) (fun _ _ _=>fIaP (j:=1) (k:= .i64) (n:=x2.kind) (by kernel_rfl) h6 (by decide));reqE h (fun h7 h=>have H:=H.t 11 [.str (kaa x2.n)]|>.s [(vt 7)] (vt 10) (ka5 x2.n h7);reqE h (fun h8 h=>letE h (fun x9 h9 h=>have H:=H.t 12 [.str x9]|>.c (p:=(.bin .add (.c (.str [116,105,99,107,32])) (cT 10),(vt 11))) (fun _ _ _=>fCat (a:=[116,105,99,107,32]) (b:=(kaa x2.n)) (by kernel_rfl) (by kernel_rfl) h8 (by subst h9;kernel_rfl));reqE h (fun h10 h=>have H:=H.t 13 [.str (x9++[10])]|>.c (p:=(.bin .add (cT 11) (.c (.str [10])),(vt 12))) (fun _ _ _=>fCat (a:=x9) (b:=[10]) (by kernel_rfl) (by kernel_rfl) h10 (by kernel_rfl));reqE h (fun h11 h=>have H:=H.t 15 [.int .i64 (List.length (x9++[10]):Int),.int .i64 (w64 (p2_1+1))]|>.o 1 (1,List.map eB (p2_0++(x9++[10]))) (.own kbn _)|>.r [(.len 1 (cT 12),(vt 13)),(.bin .add (cT 1) (cI 1),(vt 14))]|>.a ⟨true,1,1,(vf 1000001),(vt 12),1001001⟩ (fun _ _ _=>kbr (l:=p2_0) (t:=(x9++[10])) (cb:=false) (by kernel_rfl) (by kernel_rfl) (by kernel_rfl) h11 (.inl rfl) (by decide) (by decide));H.k [2,4,6] [1,4,11,63,64,65] [0,1,16,3] [(.ptr 0 0),(.ptr 1 0),(.ptr 3 0),(vf 0),(vt 0),(vt 14)] [.cells [(vt 2),(vt 3),(vt 4),(vf 1),(vf 0)] false 26,.cells [(.ptr 1 0),(.sl 16 0 1001001 1 none)] false 74,.own 1001001 false 5,.cells [(.str [112,105,99,107]),(.str [116,105,99,107]),(.str [114,101,115,116])] false 75] 17 (kg5 x (p2_0++(x9++[10])) (w64 (p2_1+1)) _) (kjn x (p2_0++(x9++[10])) (w64 (p2_1+1)) _) (kjo x (p2_0++(x9++[10])) (w64 (p2_1+1)) _) (fun _ hi S=>ih _ _ _ hi h S))))))) (fun _ h=>reqE h (fun h7 h=>have H:=H.c (p:=(.iaA 3 1 (.c (.ptr 3 0)) (cT 6),(.ptr 3 2))) (fun _ _ _=>fIaP (j:=2) (k:= .i64) (n:=x2.kind) (by kernel_rfl) h7 (by decide));reqE h (fun h8 h=>have H:=H.t 11 [.str (kaa x2.n)]|>.s [(vt 7)] (vt 10) (ka5 x2.n h8);reqE h (fun h9 h=>letE h (fun x10 h10 h=>have H:=H.t 12 [.str x10]|>.c (p:=(.bin .add (.c (.str [114,101,115,116,32])) (cT 10),(vt 11))) (fun _ _ _=>fCat (a:=[114,101,115,116,32]) (b:=(kaa x2.n)) (by kernel_rfl) (by kernel_rfl) h9 (by subst h10;kernel_rfl));reqE h (fun h11 h=>have H:=H.t 13 [.str (x10++[10])]|>.c (p:=(.bin .add (cT 11) (.c (.str [10])),(vt 12))) (fun _ _ _=>fCat (a:=x10) (b:=[10]) (by kernel_rfl) (by kernel_rfl) h11 (by kernel_rfl));reqE h (fun h12 h=>have H:=H.t 15 [.int .i64 (List.length (x10++[10]):Int),.int .i64 (w64 (p2_1+1))]|>.o 1 (1,List.map eB (p2_0++(x10++[10]))) (.own kbn _)|>.r [(.len 1 (cT 12),(vt 13)),(.bin .add (cT 1) (cI 1),(vt 14))]|>.a ⟨true,1,1,(vf 1000001),(vt 12),1001001⟩ (fun _ _ _=>kbr (l:=p2_0) (t:=(x10++[10])) (cb:=false) (by kernel_rfl) (by kernel_rfl) (by kernel_rfl) h12 (.inl rfl) (by decide) (by decide));H.k [2,4,6] [1,4,11,63,64,65] [0,1,16,3] [(.ptr 0 0),(.ptr 1 0),(.ptr 3 0),(vf 0),(vt 0),(vt 14)] [.cells [(vt 2),(vt 3),(vt 4),(vf 1),(vf 0)] false 26,.cells [(.ptr 1 0),(.sl 16 0 1001001 1 none)] false 74,.own 1001001 false 5,.cells [(.str [112,105,99,107]),(.str [116,105,99,107]),(.str [114,101,115,116])] false 75] 17 (kg5 x (p2_0++(x10++[10])) (w64 (p2_1+1)) _) (kjn x (p2_0++(x10++[10])) (w64 (p2_1+1)) _) (kjo x (p2_0++(x10++[10])) (w64 (p2_1+1)) _) (fun _ hi S=>ih _ _ _ hi h S)))))))))))))) (fun h0 h=>have H:=H.m 5 false (decide_eq_false h0);reqE h (fun h1 h=>have H:=H.t 8 [.int .i64 (List.length p2_0:Int),.str p2_0]|>.c (p:=(.usd (.c (.sl 2 0 1000001 1 none)),(.ptr 2 0))) (fun _ _ _=>fUsd (e:=eB) (l:=p2_0) (by decide) (by kernel_rfl) h1)|>.c (p:=(.len 0 (.c (.sl 2 0 1000001 1 none)),(vt 6))) (fun _ _ _=>kan (e:=eB) (l:=p2_0) (by decide) (by kernel_rfl) (by kernel_rfl));reqE h (fun h2 h=>have H:=H.r [(.len 1 (cT 7),(vt 6))]|>.a ⟨true,1,1,(.im [] true),(vt 7),1000001⟩ (fun _ _ _=>kbr (l:=[]) (t:=p2_0) (cb:=true) (by kernel_rfl) (by kernel_rfl) (by kernel_rfl) h2 (.inl rfl) (by decide) (by decide));reqE h (fun h3 h=>have H:=H.c (p:=(.bin .gtr (cT 6) (cI 0),(.bool true))) (fun _ _ _=>fPos (n:=(List.length p2_0:Int)) (by kernel_rfl) h3);reqE h (fun h4 h=>letE h (fun x5 h5 h=>have H:=H.t 14 [.int .i64 x5.1.n0,.int .i64 x5.1.n1,.int .i64 x5.1.n2,.int .i64 x5.2.1,.int .i64 x5.2.2,.bool (!decide (x5.2.2=0))]|>.f 4 [.im (List.map eR x5.1.t) x5.1.bt,.im (List.map eM x5.1.m) x5.1.bm] (.c (OkF.im kau _ _) <| .c (OkF.im kam _ _) <| .n)|>.r [(.bin .neq (cT 12) (cI 0),(vt 13))]|>.s [(vt 7)] (.tup [(.agg [(vt 8),(vt 9),(vt 10),(vf 2),(vf 3)]),(vt 11),(vt 12)]) (kb0 p2_0 h4 h5);iteE h (fun h6 h=>have H:=H.m 13 false (nT h6);reqE h (fun h7 h=>have H:=H.t 16 [.bool (kbj x x5.1),.bool (!(kbj x x5.1))]|>.r [(.un .not (cT 14),(vt 15))]|>.s [(.agg [(vt 2),(vt 3),(vt 4),(vf 1),(vf 0)]),(.agg [(vt 8),(vt 9),(vt 10),(vf 2),(vf 3)])] (vt 14) (qe8 x x5.1 h7);iteE h (fun h8 h=>have H:=H.m 15 true h8;H.e [2,4,6] h) (fun h8 h=>have H:=H.m 15 false (bF h8);H.e [2,4,6] h))) (fun h6 h=>have H:=H.m 13 true (nF h6);H.e [2,4,6] h))))))))
mutual
def kew:Nat→Td→List UInt8→Int→Option AV
 |0,_,_,_=>none
 |fu+1,x,p0,p1=>
  if p1<(List.length x.t:Int) then
   if 0≤p1 then Option.bind (x.t[Int.toNat p1]?) fun x2=>
   if(List.length p0+List.length [116,104,114,101,97,100,10])*1≤kah∧List.length p0+List.length [116,104,114,101,97,100,10]≤kah then kf7 fu x p1 x2 (p0++[116,104,114,101,97,100,10]) 0 else none else none
  else
   if(List.length p0+List.length [103,111,10])*1≤kah∧List.length p0+List.length [103,111,10]≤kah then kee fu x (p0++[103,111,10]) 0 else none
def kf7:Nat→Td→Int→Ro→List UInt8→Int→Option AV
 |0,_,_,_,_,_=>none
 |fu+1,x,p1,x2,p1_0,p1_1=>
  if p1_1<(List.length x2.c:Int) then
   if 0≤p1_1 then Option.bind (x2.c[Int.toNat p1_1]?) fun x3=>
   if x3.no<0 then
    some (.tup [(.str []),(.int .i64 1)])
   else
    if x3.no > 9 then
     some (.tup [(.str []),(.int .i64 1)])
    else
     kf7 fu x p1 x2 p1_0 (w64 (p1_1+1)) else none
  else
   if okP x2.c=true then if(List.length p1_0+List.length (ka1 x2.c))*1≤kah∧List.length p1_0+List.length (ka1 x2.c)≤kah then kew fu x (p1_0++(ka1 x2.c)) (w64 (p1+1)) else none else none
end
def kq6:List AV:=[(.ptr 0 0),(.ptr 1 0),(vf 0),(vt 0),(vt 1)]
def kq3:List Blk:=[.cells [(vt 2),(vt 3),(vt 4),(vf 0),(vf 1)] false 26,.cells [(.ptr 1 0),(.sl 2 0 1000001 1 none)] false 74,.own 1000001 false 5]
def kh0 (x:Td) (p0:List UInt8) (p1:Int) (σ:Nat→Nat):Val:=(valL ([.int .i64 (List.length x.t:Int),.int .i64 p1,.int .i64 x.n0,.int .i64 x.n1,.int .i64 x.n2]) ([.im (List.map eR x.t) x.bt,.im (List.map eM x.m) x.bm]) [(1,List.map eB p0)] σ 3)
def qdf (x:Td) (_p0:List UInt8) (p1:Int) (σ:Nat→Nat):List AV:=[(.ptr (σ 0) 0),(.ptr (σ 1) 0),(.im (List.map eR x.t) x.bt),(.int .i64 (List.length x.t:Int)),(.int .i64 p1)]
def qdg (x:Td) (p0:List UInt8) (_p1:Int) (σ:Nat→Nat):List Blk:=[.cells [(.int .i64 x.n0),(.int .i64 x.n1),(.int .i64 x.n2),(.im (List.map eR x.t) x.bt),(.im (List.map eM x.m) x.bm)] false 26,.cells [(.ptr (σ 1) 0),(.sl (σ 2) 0 (List.length (List.map eB p0)) 1 none)] false 74,.cells (List.flatten (List.map eB p0)) false 5]
theorem kq4 (x:Td) (p0:List UInt8) (p1:Int) (σ:Nat→Nat):kq6.map (gm (kh0 x p0 p1 σ))=qdf x p0 p1 σ:=by kernel_rfl
theorem kq5 (x:Td) (p0:List UInt8) (p1:Int) (σ:Nat→Nat):kq3.map (gB (kh0 x p0 p1 σ))=qdg x p0 p1 σ:=by kernel_rfl
def kxq:List AV:=[(.ptr 0 0),(.ptr 1 0),(vf 0),(vf 1),(vt 0),(vt 1),(vf 0),(vt 2),(vt 3)]
def kxp:List Blk:=[.cells [(vt 4),(vt 5),(vt 6),(vf 1),(vf 2)] false 26,.cells [(.ptr 1 0),(.sl 2 0 1000001 1 none)] false 74,.own 1000001 false 5]
def kjm (x:Td) (p1:Int) (x2:Ro) (p1_0:List UInt8) (p1_1:Int) (σ:Nat→Nat):Val:=(valL ([.int .i64 (List.length x.t:Int),.int .i64 p1,.int .i64 (List.length x2.c:Int),.int .i64 p1_1,.int .i64 x.n0,.int .i64 x.n1,.int .i64 x.n2]) ([.im (List.map eC x2.c) x2.b,.im (List.map eR x.t) x.bt,.im (List.map eM x.m) x.bm]) [(1,List.map eB p1_0)] σ 3)
def qdi (x:Td) (p1:Int) (x2:Ro) (_p1_0:List UInt8) (p1_1:Int) (σ:Nat→Nat):List AV:=[(.ptr (σ 0) 0),(.ptr (σ 1) 0),(.im (List.map eC x2.c) x2.b),(.im (List.map eR x.t) x.bt),(.int .i64 (List.length x.t:Int)),(.int .i64 p1),(.im (List.map eC x2.c) x2.b),(.int .i64 (List.length x2.c:Int)),(.int .i64 p1_1)]
def qdj (x:Td) (_p1:Int) (_x2:Ro) (p1_0:List UInt8) (_p1_1:Int) (σ:Nat→Nat):List Blk:=[.cells [(.int .i64 x.n0),(.int .i64 x.n1),(.int .i64 x.n2),(.im (List.map eR x.t) x.bt),(.im (List.map eM x.m) x.bm)] false 26,.cells [(.ptr (σ 1) 0),(.sl (σ 2) 0 (List.length (List.map eB p1_0)) 1 none)] false 74,.cells (List.flatten (List.map eB p1_0)) false 5]
theorem kq7 (x:Td) (p1:Int) (x2:Ro) (p1_0:List UInt8) (p1_1:Int) (σ:Nat→Nat):kxq.map (gm (kjm x p1 x2 p1_0 p1_1 σ))=qdi x p1 x2 p1_0 p1_1 σ:=by kernel_rfl
theorem kq8 (x:Td) (p1:Int) (x2:Ro) (p1_0:List UInt8) (p1_1:Int) (σ:Nat→Nat):kxp.map (gB (kjm x p1 x2 p1_0 p1_1 σ))=qdj x p1 x2 p1_0 p1_1 σ:=by kernel_rfl
set_option maxHeartbeats 10000000 in
theorem qdn: ∀ (fu:Nat),(∀ (x:Td) (p0:List UInt8) (p1:Int) {r0:AV} {z0:St} {σ:Nat→Nat},(∀ i j,σ i=σ j→i=j)→kew fu x p0 p1=some r0→Sim (kh0 x p0 p1 σ) (tmpl [1,4,34,35,36] kq6 kq3) z0→J FF (fnOf FF 12) (cutK (fnOf FF 12) 2) (.code (.loop (cutB (fnOf FF 12) 2))) z0 r0)∧(∀ (x:Td) (p1:Int) (x2:Ro) (p1_0:List UInt8) (p1_1:Int) {r0:AV} {z0:St} {σ:Nat→Nat},(∀ i j,σ i=σ j→i=j)→kf7 fu x p1 x2 p1_0 p1_1=some r0→Sim (kjm x p1 x2 p1_0 p1_1 σ) (tmpl [1,4,8,34,35,36,41,42,43] kxq kxp) z0→J FF (fnOf FF 12) (cutK (fnOf FF 12) 4) (.code (.loop (cutB (fnOf FF 12) 4))) z0 r0):=by
 intro fu
 induction fu with
 |zero=>
  refine⟨?_,?_⟩
  ·intro _ _ _ _ _ _ _ h _
   unfold kew at h
   cases h
  ·intro _ _ _ _ _ _ _ _ _ h _
   unfold kf7 at h
   cases h
 |succ fu ih=>
  obtain⟨ih0,ih1⟩:=ih
  refine⟨?_,?_⟩
  ·intro x p0 p1 r0 z0 σ hσ h S
   unfold kew at h
   exact kcq (have H:=Tok.start hσ S 3 5 2 1 ([.int .i64 (List.length x.t:Int),.int .i64 p1,.int .i64 x.n0,.int .i64 x.n1,.int .i64 x.n2]) ([.im (List.map eR x.t) x.bt,.im (List.map eM x.m) x.bm]) [(0,1,List.map eB p0)] (.c (OkF.im kau _ _) <| .c (OkF.im kam _ _) <| .n) (.c (OkO.own kbn _) <| .n) (kq4 x p0 p1 _) (kq5 x p0 p1 _);have H:=H.t 6 [.bool (decide (p1<(List.length x.t:Int)))]|>.r [(.bin .lss (cT 1) (cT 0),(vt 5))];iteE h (fun h0 h=>have H:=H.m 5 true (decide_eq_true h0);reqE h (fun h1 h=>ka3 h (fun x2 h2 h=>have H:=H.f 3 [.im (List.map eC x2.c) x2.b] (.c (OkF.im ka0 _ _) <| .n)|>.c (p:=(.iaS 1 (cF 0) (cT 1),(.ip [(vf 2)] 0))) (fun _ _ _=>fIa (sz:=1) (e:=eR) (l:=x.t) (b:=x.bt) (k:= .i64) (n:=p1) (y:=x2) kau (by kernel_rfl) (by kernel_rfl) h1 h2 (by kernel_rfl));reqE h (fun h3 h=>have H:=H.t 7 [.int .i64 (List.length x2.c:Int)]|>.o 1 (1,List.map eB (p0++[116,104,114,101,97,100,10])) (.own kbn _)|>.a ⟨true,1,1,(vf 1000001),(.str [116,104,114,101,97,100,10]),1001001⟩ (fun _ _ _=>kbr (l:=p0) (t:=[116,104,114,101,97,100,10]) (cb:=false) (by kernel_rfl) (by kernel_rfl) (by kernel_rfl) h3 (.inl rfl) (by decide) (by decide))|>.c (p:=(.len 0 (cF 2),(vt 6))) (fun _ _ _=>fLen (e:=eC) (l:=x2.c) (b:=x2.b) (by kernel_rfl) (by kernel_rfl));H.k [2,4,6] [1,4,8,34,35,36,41,42,43] [0,1,3] [(.ptr 0 0),(.ptr 1 0),(vf 2),(vf 0),(vt 0),(vt 1),(vf 2),(vt 6),(.int .i64 0)] [.cells [(vt 2),(vt 3),(vt 4),(vf 0),(vf 1)] false 26,.cells [(.ptr 1 0),(.sl 3 0 1001001 1 none)] false 74,.own 1001001 false 5] 4 (kjm x p1 x2 (p0++[116,104,114,101,97,100,10]) 0 _) (kq7 x p1 x2 (p0++[116,104,114,101,97,100,10]) 0 _) (kq8 x p1 x2 (p0++[116,104,114,101,97,100,10]) 0 _) (fun _ hi S=>ih1 _ _ _ _ _ hi h S))))) (fun h0 h=>have H:=H.m 5 false (decide_eq_false h0);reqE h (fun h1 h=>have H:=H.t 7 [.int .i64 (List.length x.m:Int)]|>.o 1 (1,List.map eB (p0++[103,111,10])) (.own kbn _)|>.a ⟨true,1,1,(vf 1000001),(.str [103,111,10]),1001001⟩ (fun _ _ _=>kbr (l:=p0) (t:=[103,111,10]) (cb:=false) (by kernel_rfl) (by kernel_rfl) (by kernel_rfl) h1 (.inl rfl) (by decide) (by decide))|>.s [] (.agg [(.str [112,105,99,107]),(.str [116,105,99,107]),(.str [114,101,115,116])]) kj2|>.c (p:=(.len 0 (cF 1),(vt 6))) (fun _ _ _=>fLen (e:=eM) (l:=x.m) (b:=x.bm) (by kernel_rfl) (by kernel_rfl));H.k [2,4,6] [1,4,11,63,64,65] [0,1,3,4] [(.ptr 0 0),(.ptr 1 0),(.ptr 4 0),(vf 1),(vt 6),(.int .i64 0)] [.cells [(vt 2),(vt 3),(vt 4),(vf 0),(vf 1)] false 26,.cells [(.ptr 1 0),(.sl 3 0 1001001 1 none)] false 74,.own 1001001 false 5,.cells [(.str [112,105,99,107]),(.str [116,105,99,107]),(.str [114,101,115,116])] false 75] 5 (kg5 x (p0++[103,111,10]) 0 _) (kjn x (p0++[103,111,10]) 0 _) (kjo x (p0++[103,111,10]) 0 _) (fun _ hi S=>qdm _ _ _ _ hi h S))))
  ·intro x p1 x2 p1_0 p1_1 r0 z0 σ hσ h S
   unfold kf7 at h
   exact kcq (have H:=Tok.start hσ S 3 7 3 1 ([.int .i64 (List.length x.t:Int),.int .i64 p1,.int .i64 (List.length x2.c:Int),.int .i64 p1_1,.int .i64 x.n0,.int .i64 x.n1,.int .i64 x.n2]) ([.im (List.map eC x2.c) x2.b,.im (List.map eR x.t) x.bt,.im (List.map eM x.m) x.bm]) [(0,1,List.map eB p1_0)] (.c (OkF.im ka0 _ _) <| .c (OkF.im kau _ _) <| .c (OkF.im kam _ _) <| .n) (.c (OkO.own kbn _) <| .n) (kq7 x p1 x2 p1_0 p1_1 _) (kq8 x p1 x2 p1_0 p1_1 _);have H:=H.t 8 [.bool (decide (p1_1<(List.length x2.c:Int)))]|>.r [(.bin .lss (cT 3) (cT 2),(vt 7))];iteE h (fun h0 h=>have H:=H.m 7 true (decide_eq_true h0);reqE h (fun h1 h=>ka3 h (fun x3 h2 h=>have H:=H.t 12 [.int .i64 x3.no,.int .i64 x3.a,.int .i64 x3.b,.bool (decide (x3.no<0))]|>.r [(.bin .lss (cT 8) (cI 0),(vt 11))]|>.c (p:=(.iaS 3 (cF 0) (cT 3),(.ip [(vt 8),(vt 9),(vt 10)] 0))) (fun _ _ _=>fIa (sz:=3) (e:=eC) (l:=x2.c) (b:=x2.b) (k:= .i64) (n:=p1_1) (y:=x3) ka0 (by kernel_rfl) (by kernel_rfl) h1 h2 (by kernel_rfl));iteE h (fun h3 h=>have H:=H.m 11 true (decide_eq_true h3);H.e [2,4,6] h) (fun h3 h=>have H:=H.t 13 [.bool (decide (x3.no > 9))]|>.r [(.bin .gtr (cT 8) (cI 9),(vt 12))]|>.m 11 false (decide_eq_false h3);iteE h (fun h4 h=>have H:=H.m 12 true (decide_eq_true h4);H.e [2,4,6] h) (fun h4 h=>have H:=H.t 14 [.int .i64 (w64 (p1_1+1))]|>.r [(.bin .add (cT 3) (cI 1),(vt 13))]|>.m 12 false (decide_eq_false h4);H.k [2,4,6] [1,4,8,34,35,36,41,42,43] [0,1,2] [(.ptr 0 0),(.ptr 1 0),(vf 0),(vf 1),(vt 0),(vt 1),(vf 0),(vt 2),(vt 13)] [.cells [(vt 4),(vt 5),(vt 6),(vf 1),(vf 2)] false 26,.cells [(.ptr 1 0),(.sl 2 0 1000001 1 none)] false 74,.own 1000001 false 5] 4 (kjm x p1 x2 p1_0 (w64 (p1_1+1)) _) (kq7 x p1 x2 p1_0 (w64 (p1_1+1)) _) (kq8 x p1 x2 p1_0 (w64 (p1_1+1)) _) (fun _ hi S=>ih1 _ _ _ _ _ hi h S)))))) (fun h0 h=>have H:=H.m 7 false (decide_eq_false h0);reqE h (fun h1 h=>have H:=H.t 9 [.str (ka1 x2.c)]|>.s [(vf 0)] (vt 8) (k7n x2.c x2.b h1);reqE h (fun h2 h=>have H:=H.t 11 [.int .i64 (List.length (ka1 x2.c):Int),.int .i64 (w64 (p1+1))]|>.o 1 (1,List.map eB (p1_0++(ka1 x2.c))) (.own kbn _)|>.r [(.len 1 (cT 8),(vt 9)),(.bin .add (cT 1) (cI 1),(vt 10))]|>.a ⟨true,1,1,(vf 1000001),(vt 8),1001001⟩ (fun _ _ _=>kbr (l:=p1_0) (t:=(ka1 x2.c)) (cb:=false) (by kernel_rfl) (by kernel_rfl) (by kernel_rfl) h2 (.inl rfl) (by decide) (by decide));H.k [2,4,6] [1,4,34,35,36] [0,1,3] [(.ptr 0 0),(.ptr 1 0),(vf 1),(vt 0),(vt 10)] [.cells [(vt 4),(vt 5),(vt 6),(vf 1),(vf 2)] false 26,.cells [(.ptr 1 0),(.sl 3 0 1001001 1 none)] false 74,.own 1001001 false 5] 4 (kh0 x (p1_0++(ka1 x2.c)) (w64 (p1+1)) _) (kq4 x (p1_0++(ka1 x2.c)) (w64 (p1+1)) _) (kq5 x (p1_0++(ka1 x2.c)) (w64 (p1+1)) _) (fun _ hi S=>ih0 _ _ _ hi h S)))))
theorem qdh: ∀ (fu:Nat),∀ (x:Td) (p0:List UInt8) (p1:Int) {r0:AV} {z0:St} {σ:Nat→Nat},(∀ i j,σ i=σ j→i=j)→kew fu x p0 p1=some r0→Sim (kh0 x p0 p1 σ) (tmpl [1,4,34,35,36] kq6 kq3) z0→J FF (fnOf FF 12) (cutK (fnOf FF 12) 2) (.code (.loop (cutB (fnOf FF 12) 2))) z0 r0:=fun fu=>(qdn fu).1
def kq1 (fu:Nat) (x:Td):Option AV:=
 if -9223372036854775808≤x.n0∧x.n0≤9223372036854775807 then if List.length [99,111,114,101,115,32]+List.length (kaa x.n0)≤140737488355328 then letB (([99,111,114,101,115,32]++(kaa x.n0))) fun x2=>
 if List.length x2+List.length [10]≤140737488355328 then if(x2++[10])≠[] then if(List.length ([]:List UInt8)+List.length (x2++[10]))*1≤kah∧List.length ([]:List UInt8)+List.length (x2++[10])≤kah then if -9223372036854775808≤x.n1∧x.n1≤9223372036854775807 then if List.length [110,111,100,101,115,32]+List.length (kaa x.n1)≤140737488355328 then letB (([110,111,100,101,115,32]++(kaa x.n1))) fun x8=>
 if List.length x8+List.length [10]≤140737488355328 then if(List.length (x2++[10])+List.length (x8++[10]))*1≤kah∧List.length (x2++[10])+List.length (x8++[10])≤kah then if -9223372036854775808≤x.n2∧x.n2≤9223372036854775807 then if List.length [112,111,114,116,115,32]+List.length (kaa x.n2)≤140737488355328 then letB (([112,111,114,116,115,32]++(kaa x.n2))) fun x13=>
 if List.length x13+List.length [10]≤140737488355328 then if(List.length ((x2++[10])++(x8++[10]))+List.length (x13++[10]))*1≤kah∧List.length ((x2++[10])++(x8++[10]))+List.length (x13++[10])≤kah then kew fu x (((x2++[10])++(x8++[10]))++(x13++[10])) 0 else none else none else none else none else none else none else none else none else none else none else none else none else none
def kxo:List AV:=[(.agg [(vt 0),(vt 1),(vt 2),(vf 0),(vf 1)])]
def kq2 (x:Td) (σ:Nat→Nat):Val:=(valL ([.int .i64 x.n0,.int .i64 x.n1,.int .i64 x.n2]) ([.im (List.map eR x.t) x.bt,.im (List.map eM x.m) x.bm]) [] σ 0)
def qdd (x:Td) (_σ:Nat→Nat):List AV:=[(.agg [(.int .i64 x.n0),(.int .i64 x.n1),(.int .i64 x.n2),(.im (List.map eR x.t) x.bt),(.im (List.map eM x.m) x.bm)])]
def qde (_x:Td) (_σ:Nat→Nat):List Blk:=[]
theorem qdb (x:Td) (σ:Nat→Nat):kxo.map (gm (kq2 x σ))=qdd x σ:=by kernel_rfl
theorem qdc (x:Td) (σ:Nat→Nat):([]:List Blk).map (gB (kq2 x σ))=qde x σ:=by kernel_rfl
theorem qdp {fu:Nat} (x:Td) {r0:AV} (h:kq1 fu x=some r0):Spec FF 12 [(.agg [(.int .i64 x.n0),(.int .i64 x.n1),(.int .i64 x.n2),(.im (List.map eR x.t) x.bt),(.im (List.map eM x.m) x.bm)])] r0:=by
 unfold kq1 at h
 have hσ: ∀ i j:Nat,(fun i:Nat=>i) i=(fun i:Nat=>i) j→i=j:=fun _ _ e=>e
 exact kbk (ρ:=kq2 x (fun i=>i)) (xs:=kxo) (by kernel_rfl) rfl rfl (by kernel_rfl) (fun z0 S=>have H:=Tok.start hσ S 0 3 2 0 ([.int .i64 x.n0,.int .i64 x.n1,.int .i64 x.n2]) ([.im (List.map eR x.t) x.bt,.im (List.map eM x.m) x.bm]) [] (.c (OkF.im kau _ _) <| .c (OkF.im kam _ _) <| .n) .n (qdb x _) (qdc x _);have H:=H.s [] (.agg [(.str [99,111,114,101,115]),(.str [110,111,100,101,115]),(.str [112,111,114,116,115])]) ktv;reqE h (fun h0 h=>have H:=H.t 4 [.str (kaa x.n0)]|>.s [(vt 0)] (vt 3) (ka5 x.n0 h0);reqE h (fun h1 h=>letE h (fun x2 h2 h=>have H:=H.t 5 [.str x2]|>.c (p:=(.bin .add (.c (.str [99,111,114,101,115,32])) (cT 3),(vt 4))) (fun _ _ _=>fCat (a:=[99,111,114,101,115,32]) (b:=(kaa x.n0)) (by kernel_rfl) (by kernel_rfl) h1 (by subst h2;kernel_rfl));reqE h (fun h3 h=>have H:=H.t 6 [.str (x2++[10])]|>.c (p:=(.bin .add (cT 4) (.c (.str [10])),(vt 5))) (fun _ _ _=>fCat (a:=x2) (b:=[10]) (by kernel_rfl) (by kernel_rfl) h3 (by kernel_rfl));reqE h (fun h4 h=>reqE h (fun h5 h=>have H:=H.t 7 [.int .i64 (List.length (x2++[10]):Int)]|>.o 0 (1,List.map eB (x2++[10])) (.own kbn _)|>.r [(.len 1 (cT 5),(vt 6))]|>.a ⟨false,1,1,(.im [] true),(vt 5),1000001⟩ (fun _ _ _=>kbr (l:=([]:List UInt8)) (t:=(x2++[10])) (cb:=true) (by kernel_rfl) (by kernel_rfl) (by kernel_rfl) h5 (.inr ⟨rfl,h4⟩) (by decide) (by decide));reqE h (fun h6 h=>have H:=H.t 8 [.str (kaa x.n1)]|>.s [(vt 1)] (vt 7) (ka5 x.n1 h6);reqE h (fun h7 h=>letE h (fun x8 h8 h=>have H:=H.t 9 [.str x8]|>.c (p:=(.bin .add (.c (.str [110,111,100,101,115,32])) (cT 7),(vt 8))) (fun _ _ _=>fCat (a:=[110,111,100,101,115,32]) (b:=(kaa x.n1)) (by kernel_rfl) (by kernel_rfl) h7 (by subst h8;kernel_rfl));reqE h (fun h9 h=>have H:=H.t 10 [.str (x8++[10])]|>.c (p:=(.bin .add (cT 8) (.c (.str [10])),(vt 9))) (fun _ _ _=>fCat (a:=x8) (b:=[10]) (by kernel_rfl) (by kernel_rfl) h9 (by kernel_rfl));reqE h (fun h10 h=>have H:=H.t 11 [.int .i64 (List.length (x8++[10]):Int)]|>.o 1 (1,List.map eB ((x2++[10])++(x8++[10]))) (.own kbn _)|>.r [(.len 1 (cT 9),(vt 10))]|>.a ⟨true,1,1,(vf 1000001),(vt 9),1001001⟩ (fun _ _ _=>kbr (l:=(x2++[10])) (t:=(x8++[10])) (cb:=false) (by kernel_rfl) (by kernel_rfl) (by kernel_rfl) h10 (.inl rfl) (by decide) (by decide));reqE h (fun h11 h=>have H:=H.t 12 [.str (kaa x.n2)]|>.s [(vt 2)] (vt 11) (ka5 x.n2 h11);reqE h (fun h12 h=>letE h (fun x13 h13 h=>have H:=H.t 13 [.str x13]|>.c (p:=(.bin .add (.c (.str [112,111,114,116,115,32])) (cT 11),(vt 12))) (fun _ _ _=>fCat (a:=[112,111,114,116,115,32]) (b:=(kaa x.n2)) (by kernel_rfl) (by kernel_rfl) h12 (by subst h13;kernel_rfl));reqE h (fun h14 h=>have H:=H.t 14 [.str (x13++[10])]|>.c (p:=(.bin .add (cT 12) (.c (.str [10])),(vt 13))) (fun _ _ _=>fCat (a:=x13) (b:=[10]) (by kernel_rfl) (by kernel_rfl) h14 (by kernel_rfl));reqE h (fun h15 h=>have H:=H.t 16 [.int .i64 (List.length (x13++[10]):Int),.int .i64 (List.length x.t:Int)]|>.o 2 (1,List.map eB (((x2++[10])++(x8++[10]))++(x13++[10]))) (.own kbn _)|>.r [(.len 1 (cT 13),(vt 14))]|>.a ⟨true,1,1,(vf 1001001),(vt 13),1002001⟩ (fun _ _ _=>kbr (l:=((x2++[10])++(x8++[10]))) (t:=(x13++[10])) (cb:=false) (by kernel_rfl) (by kernel_rfl) (by kernel_rfl) h15 (.inl rfl) (by decide) (by decide))|>.c (p:=(.len 0 (cF 0),(vt 15))) (fun _ _ _=>fLen (e:=eR) (l:=x.t) (b:=x.bt) (by kernel_rfl) (by kernel_rfl));H.k [2,4,6] [1,4,34,35,36] [0,1,4] [(.ptr 0 0),(.ptr 1 0),(vf 0),(vt 15),(.int .i64 0)] [.cells [(vt 0),(vt 1),(vt 2),(vf 0),(vf 1)] false 26,.cells [(.ptr 1 0),(.sl 4 0 1002001 1 none)] false 74,.own 1002001 false 5] 5 (kh0 x (((x2++[10])++(x8++[10]))++(x13++[10])) 0 _) (kq4 x (((x2++[10])++(x8++[10]))++(x13++[10])) 0 _) (kq5 x (((x2++[10])++(x8++[10]))++(x13++[10])) 0 _) (fun _ hi S=>qdh _ _ _ _ hi h S))))))))))))))))))
end Go.Proofs.Hz
