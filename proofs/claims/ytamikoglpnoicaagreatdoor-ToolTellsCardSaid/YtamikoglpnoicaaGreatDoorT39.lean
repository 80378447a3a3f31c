/-
  Chapter 15: syscalls' texts.
  Conditions: none.
-/
import Derived.Test.YtamikoglpnoicaaGreatDoorT38
import Derived.Test.YtamikoglpnoicaaGreatDoorT23
import Derived.Test.YtamikoglpnoicaaGreatDoorT37
import Derived.Test.YtamikoglpnoicaaGreatDoorT34
import Derived.Test.YtamikoglpnoicaaGreatDoorT29
open Go Go.Proofs
namespace Go.Proofs.Hz
open Bool renaming and_eq_true->yaf
open Function renaming comp_def->yat
open Int renaming toNat_natCast->yaj,reduceEq->ya0,toNat->ya1
open List renaming length->yaa,map->yab,length_nil->yac,length_append->yad,length_cons->yae,all_eq_true->yag,getElem_mem->yah,getElem?_eq_getElem->yai,append_assoc->yal,drop_eq_getElem_cons->yam,take_of_length_le->yan,drop_of_length_le->yao,drop_zero->yaq,length_pos_iff->yar,map_cons->yas,flatten_cons->yau,flatten->yav,map_nil->yaw,flatten_nil->yax,nil_append->yaz
open OkF renaming im->yap
open Option renaming bind_some->yak,bind->yay
theorem qka {l:List Cl} {bl:Bool} {p:List UInt8} {i:Nat} {c:Cl} (hi:l[i]? =some c) (hlt:i<l.length) (hc:okC c=true) (hp:p.length<=5000000) (k:Nat):
  kcf (k+1) l bl p i=kcf k l bl (p++kbo c) (w64 ((i:Int)+1)):=by
 obtain⟨c1,c2,c3⟩:=(klx _).1 hc;have la:=kdn c2;have lb:=kdn c3;rw[kcf,iq (by omega),iq (by omega)];simp only[yaj,hi,yak,kay,kbo,ka9];obtain⟨no,a,b⟩:=c;simp only at c1 c2 c3 la lb ⊢;rcases klq no with rfl |rfl |rfl |rfl |rfl |rfl |rfl |rfl |rfl |rfl |hh
 case inr.inr.inr.inr.inr.inr.inr.inr.inr.inr=>omega
 all_goals
  simp only[ya0,if_true,if_false]
  repeat rw[iq (by first |omega |(simp only[kaq,yad,yae,yac];omega) |simp)]
  try simp[knk]
theorem qj9 {l:List Cl} {bl:Bool} {i:Nat} {c:Cl} (hi:l[i]? =some c) (hlt:i<l.length) (hc:okC c=true) (k:Nat):
  kh5 (k+1) l bl i=kcf k l bl (kbo c) (w64 ((i:Int)+1)):=by
 obtain⟨c1,c2,c3⟩:=(klx _).1 hc;have la:=kdn c2;have lb:=kdn c3;rw[kh5,iq (by omega),iq (by omega)];simp only[yaj,hi,yak,kay,kbo,ka9];obtain⟨no,a,b⟩:=c;simp only at c1 c2 c3 la lb ⊢;rcases klq no with rfl |rfl |rfl |rfl |rfl |rfl |rfl |rfl |rfl |rfl |hh
 case inr.inr.inr.inr.inr.inr.inr.inr.inr.inr=>omega
 all_goals
  simp only[ya0,if_true,if_false]
  repeat rw[iq (by first |omega |(simp only[kaq,yad,yae,yac];omega) |simp)]
  try rfl
theorem qj6 (l:List Cl) (bl:Bool) (h:okP l=true): ∀ (k i:Nat),i+k=l.length->kbr (l.take i)≠[]->kcf (k+1) l bl (kbr (l.take i)) i=some (.str (kbr l)):=by
 obtain⟨hn,hok⟩:=(kly l).1 h;have hp: ∀ i,(kbr (l.take i)).length<=5000000:=fun i=>by
  have:=kkn (l:=l.take i) fun c hc=>hok c (List.mem_of_mem_take hc)
  simp only[List.length_take] at this;omega
 intro k
 induction k with
 |zero=>
  intro i hi hne;have hlen:0<(kbr (l.take i)).length:=yar.2 hne;have hpi:=hp i;rw[yan (by omega)] at hne hlen hpi ⊢;rw[kcf,ir (by omega)]
  repeat rw[iq (by first |exact hne |omega |(simp only[kaq,yac];omega))]
 |succ k ih=>
  intro i hi hne;have h1:i<l.length:=by omega
  have hc:=hok _ (yah h1);rw[qka (yai h1) h1 hc (hp i),kbv h1 (by omega),←ksc h1];exact ih (i+1) (by omega) (by rw[ksc h1];simp[hne])
theorem qj7 (l:List Cl) (bl:Bool) (h:okP l=true):kov (l.length+1) l bl=some (.str (kbr l)):=by
 obtain⟨hn,hok⟩:=(kly l).1 h;unfold kov;cases l with
 |nil=>
  show kh5 (0+1) [] bl 0=_;rw[kh5,ir (by simp)];rfl
 |cons c l=>
  have hc:=hok c (by simp);have h0:(c::l)[0]? =some c:=rfl;have:=qj9 (bl:=bl) h0 (by simp) hc (c::l).length;rw[show((0:Nat):Int)=0 from rfl] at this;rw[this,show w64 (0+1)=((1:Nat):Int) by decide];have e:=qj6 (c::l) bl h l.length 1 (by simp;omega) (by simp[kbr,kbo]);have h1:kbr ((c::l).take 1)=kbo c:=by simp[kbr]
  rw[h1] at e;exact e
theorem qeu (l:List Cl) (bl:Bool) (h:okP l=true):kak FF 32 [.im (l.map eC) bl] (.str (kbr l)):=qj8 l bl (qj7 l bl h)
def kfx:Nat->Td->List UInt8->Int->Option AV
 |0,_,_,_=>none
 |fu+1,x,p2_0,p2_1=>
  if p2_1<(x.m.length:Int) then
   if 0<=p2_1 then yay (x.m[ya1 p2_1]?) fun x2=>
   if x2.kind<0 then
    some (.tup [(.str []),(.int .i64 1)])
   else
    if x2.kind > 2 then
     some (.tup [(.str []),(.int .i64 1)])
    else
     if x2.kind=0 then
      if -9223372036854775808<=x2.n/\x2.n<=9223372036854775807 then if yaa [112,105,99,107,32]+yaa (kab x2.n)<=140737488355328 then kay (([112,105,99,107,32]++(kab x2.n))) fun x8=>
      if x8.length+yaa [10]<=140737488355328 then if(p2_0.length+yaa (x8++[10]))*1<=kaq/\p2_0.length+yaa (x8++[10])<=kaq then kfx fu x (p2_0++(x8++[10])) (w64 (p2_1+1)) else none else none else none else none
     else
      if x2.kind=1 then
       if -9223372036854775808<=x2.n/\x2.n<=9223372036854775807 then if yaa [116,105,99,107,32]+yaa (kab x2.n)<=140737488355328 then kay (([116,105,99,107,32]++(kab x2.n))) fun x9=>
       if x9.length+yaa [10]<=140737488355328 then if(p2_0.length+yaa (x9++[10]))*1<=kaq/\p2_0.length+yaa (x9++[10])<=kaq then kfx fu x (p2_0++(x9++[10])) (w64 (p2_1+1)) else none else none else none else none
      else
       if x2.kind=2 then if -9223372036854775808<=x2.n/\x2.n<=9223372036854775807 then if yaa [114,101,115,116,32]+yaa (kab x2.n)<=140737488355328 then kay (([114,101,115,116,32]++(kab x2.n))) fun x10=>
       if x10.length+yaa [10]<=140737488355328 then if(p2_0.length+yaa (x10++[10]))*1<=kaq/\p2_0.length+yaa (x10++[10])<=kaq then kfx fu x (p2_0++(x10++[10])) (w64 (p2_1+1)) else none else none else none else none else none else none
  else
   if p2_0≠[] then if(yaa ([]:List UInt8)+p2_0.length)*1<=kaq/\yaa ([]:List UInt8)+p2_0.length<=kaq then if 0<(p2_0.length:Int) then if p2_0.length<=900000 then kay (kcn p2_0) fun x5=>
   if x5.2.2=0 then
    if kdq x=true then if(!(kdd x x5.1))=true then
     some (.tup [(.str []),(.int .i64 1)])
    else
     some (.tup [(.str p2_0),(.int .i64 0)]) else none
   else
    some (.tup [(.str []),(.int .i64 1)]) else none else none else none else none
def k3g:List AV:=[(.ptr 0 0),(.ptr 1 0),(.ptr 3 0),(vf 0),(vt 0),(vt 1)]
def k3f:List Blk:=[.cells [(vt 2),(vt 3),(vt 4),(vf 1),(vf 0)] false 26,.cells [(.ptr 1 0),(.sl 2 0 1000001 1 none)] false 74,.own 1000001 false 5,.cells [(.str [112,105,99,107]),(.str [116,105,99,107]),(.str [114,101,115,116])] false 75]
def kvb (x:Td) (p2_0:List UInt8) (p2_1:Int) (σ:Nat->Nat):Val:=(kal ([.int .i64 x.m.length,.int .i64 p2_1,.int .i64 x.n0,.int .i64 x.n1,.int .i64 x.n2]) ([.im (yab eM x.m) x.bm,.im (yab eR x.t) x.bt]) [(1,yab eB p2_0)] σ 4)
def ql6 (x:Td) (_p2_0:List UInt8) (p2_1:Int) (σ:Nat->Nat):List AV:=[(.ptr (σ 0) 0),(.ptr (σ 1) 0),(.ptr (σ 3) 0),(.im (yab eM x.m) x.bm),(.int .i64 x.m.length),(.int .i64 p2_1)]
def ql7 (x:Td) (p2_0:List UInt8) (_p2_1:Int) (σ:Nat->Nat):List Blk:=[.cells [(.int .i64 x.n0),(.int .i64 x.n1),(.int .i64 x.n2),(.im (yab eR x.t) x.bt),(.im (yab eM x.m) x.bm)] false 26,.cells [(.ptr (σ 1) 0),(.sl (σ 2) 0 (yaa (yab eB p2_0)) 1 none)] false 74,.cells (yav (yab eB p2_0)) false 5,.cells [(.str [112,105,99,107]),(.str [116,105,99,107]),(.str [114,101,115,116])] false 75]
theorem kl4 (x:Td) (p2_0:List UInt8) (p2_1:Int) (σ:Nat->Nat):k3g.map (gm (kvb x p2_0 p2_1 σ))=ql6 x p2_0 p2_1 σ:=by kernel_rfl
theorem kl5 (x:Td) (p2_0:List UInt8) (p2_1:Int) (σ:Nat->Nat):k3f.map (gB (kvb x p2_0 p2_1 σ))=ql7 x p2_0 p2_1 σ:=by kernel_rfl
set_option maxHeartbeats 10000000 in
theorem ql8: ∀ (fu:Nat),∀ (x:Td) (p2_0:List UInt8) (p2_1:Int) {r0:AV} {z0:St} {σ:Nat->Nat},(∀ i j,σ i=σ j->i=j)->kfx fu x p2_0 p2_1=some r0->Sim (kvb x p2_0 p2_1 σ) (kaa [1,4,11,63,64,65] k3g k3f) z0->J FF (kai FF 12) (kcm (kai FF 12) 6) (.code (.loop (kcl (kai FF 12) 6))) z0 r0:=by
 intro fu
 induction fu with
 |zero=>
  intro _ _ _ _ _ _ _ h _;unfold kfx at h;cases h
 |succ fu ih=>
  intro x p2_0 p2_1 r0 z0 σ hσ h S;unfold kfx at h;exact kcr (have H:=Tok.start hσ S 4 5 2 1 ([.int .i64 x.m.length,.int .i64 p2_1,.int .i64 x.n0,.int .i64 x.n1,.int .i64 x.n2]) ([.im (yab eM x.m) x.bm,.im (yab eR x.t) x.bt]) [(0,1,yab eB p2_0)] (.c (yap kax _ _) <| .c (yap kbt _ _) <| .n) (.c (OkO.own kb3 _) <| .n) (kl4 _ _ _ _) (kl5 _ _ _ _);have H:=H.t 6 [.bool (decide (p2_1<(x.m.length:Int)))]|>.q 5 (.bin .lss (cT 1) (cT 0));kaf h (fun h0 h=>have H:=H.y 5 h0;kac h (fun h1 h=>kbb h (fun x2 h2 h=>have H:=H.t 9 [.int .i64 x2.kind,.int .i64 x2.n,.bool (decide (x2.kind<0))]|>.q 8 (.bin .lss (cT 6) (cI 0))|>.I (vf 0) (vt 1) [(vt 6),(vt 7)] kax h1 h2;kaf h (fun h3 h=>have H:=H.y 8 h3;H.e [2,4,6] h) (fun h3 h=>have H:=H.t 10 [.bool (decide (x2.kind > 2))]|>.q 9 (.bin .gtr (cT 6) (cI 2))|>.w 8 h3;kaf h (fun h4 h=>have H:=H.y 9 h4;H.e [2,4,6] h) (fun h4 h=>have H:=H.w 9 h4;kaf h (fun h5 h=>have H:=H.c (p:=(.iaA 3 1 (.c (.ptr 3 0)) (cT 6),(.ptr 3 0))) (fun _ _ _=>kc2 (j:=0) (k:= .i64) (n:=x2.kind) (by kernel_rfl) h5 (by decide));kac h (fun h6 h=>have H:=H.t 11 [.str (kab x2.n)]|>.s [(vt 7)] (vt 10) (kbk x2.n h6);kac h (fun h7 h=>kbh h (fun x8 h8 h=>have H:=H.t 12 [.str x8]|>.c (p:=(.bin .add (.c (.str [112,105,99,107,32])) (cT 10),(vt 11))) (fun _ _ _=>kbm (a:=[112,105,99,107,32]) (b:=(kab x2.n)) (by kernel_rfl) (by kernel_rfl) h7 (by subst h8;kernel_rfl));kac h (fun h9 h=>have H:=H.jj (vt 11) (.str [10]) 12 (b:=[10]) h9;kac h (fun h10 h=>have H:=H.t 15 [.int .i64 (yaa (x8++[10]):Int),.int .i64 (w64 (p2_1+1))]|>.o 1 (1,yab eB (p2_0++(x8++[10]))) (.own kb3 _)|>.q 13 (.len 1 (cT 12))|>.q 14 (.bin .add (cT 1) (cI 1))|>.a ⟨true,1,1,(vf 1000001),(vt 12),1001001⟩ (fun _ _ _=>kb5 rfl rfl rfl h10 (.inl rfl) (by decide) (by decide));H.k [2,4,6] [1,4,11,63,64,65] [0,1,16,3] [(.ptr 0 0),(.ptr 1 0),(.ptr 3 0),(vf 0),(vt 0),(vt 14)] [.cells [(vt 2),(vt 3),(vt 4),(vf 1),(vf 0)] false 26,.cells [(.ptr 1 0),(.sl 16 0 1001001 1 none)] false 74,.own 1001001 false 5,.cells [(.str [112,105,99,107]),(.str [116,105,99,107]),(.str [114,101,115,116])] false 75] 17 _ (kl4 _ _ _ _) (kl5 _ _ _ _) (fun _ hi S=>ih _ _ _ hi h S))))))) (fun _ h=>kaf h (fun h6 h=>have H:=H.c (p:=(.iaA 3 1 (.c (.ptr 3 0)) (cT 6),(.ptr 3 1))) (fun _ _ _=>kc2 (j:=1) (k:= .i64) (n:=x2.kind) (by kernel_rfl) h6 (by decide));kac h (fun h7 h=>have H:=H.t 11 [.str (kab x2.n)]|>.s [(vt 7)] (vt 10) (kbk x2.n h7);kac h (fun h8 h=>kbh h (fun x9 h9 h=>have H:=H.t 12 [.str x9]|>.c (p:=(.bin .add (.c (.str [116,105,99,107,32])) (cT 10),(vt 11))) (fun _ _ _=>kbm (a:=[116,105,99,107,32]) (b:=(kab x2.n)) (by kernel_rfl) (by kernel_rfl) h8 (by subst h9;kernel_rfl));kac h (fun h10 h=>have H:=H.jj (vt 11) (.str [10]) 12 (b:=[10]) h10;kac h (fun h11 h=>have H:=H.t 15 [.int .i64 (yaa (x9++[10]):Int),.int .i64 (w64 (p2_1+1))]|>.o 1 (1,yab eB (p2_0++(x9++[10]))) (.own kb3 _)|>.q 13 (.len 1 (cT 12))|>.q 14 (.bin .add (cT 1) (cI 1))|>.a ⟨true,1,1,(vf 1000001),(vt 12),1001001⟩ (fun _ _ _=>kb5 rfl rfl rfl h11 (.inl rfl) (by decide) (by decide));H.k [2,4,6] [1,4,11,63,64,65] [0,1,16,3] [(.ptr 0 0),(.ptr 1 0),(.ptr 3 0),(vf 0),(vt 0),(vt 14)] [.cells [(vt 2),(vt 3),(vt 4),(vf 1),(vf 0)] false 26,.cells [(.ptr 1 0),(.sl 16 0 1001001 1 none)] false 74,.own 1001001 false 5,.cells [(.str [112,105,99,107]),(.str [116,105,99,107]),(.str [114,101,115,116])] false 75] 17 _ (kl4 _ _ _ _) (kl5 _ _ _ _) (fun _ hi S=>ih _ _ _ hi h S))))))) (fun _ h=>kac h (fun h7 h=>have H:=H.c (p:=(.iaA 3 1 (.c (.ptr 3 0)) (cT 6),(.ptr 3 2))) (fun _ _ _=>kc2 (j:=2) (k:= .i64) (n:=x2.kind) (by kernel_rfl) h7 (by decide));kac h (fun h8 h=>have H:=H.t 11 [.str (kab x2.n)]|>.s [(vt 7)] (vt 10) (kbk x2.n h8);kac h (fun h9 h=>kbh h (fun x10 h10 h=>have H:=H.t 12 [.str x10]|>.c (p:=(.bin .add (.c (.str [114,101,115,116,32])) (cT 10),(vt 11))) (fun _ _ _=>kbm (a:=[114,101,115,116,32]) (b:=(kab x2.n)) (by kernel_rfl) (by kernel_rfl) h9 (by subst h10;kernel_rfl));kac h (fun h11 h=>have H:=H.jj (vt 11) (.str [10]) 12 (b:=[10]) h11;kac h (fun h12 h=>have H:=H.t 15 [.int .i64 (yaa (x10++[10]):Int),.int .i64 (w64 (p2_1+1))]|>.o 1 (1,yab eB (p2_0++(x10++[10]))) (.own kb3 _)|>.q 13 (.len 1 (cT 12))|>.q 14 (.bin .add (cT 1) (cI 1))|>.a ⟨true,1,1,(vf 1000001),(vt 12),1001001⟩ (fun _ _ _=>kb5 rfl rfl rfl h12 (.inl rfl) (by decide) (by decide));H.k [2,4,6] [1,4,11,63,64,65] [0,1,16,3] [(.ptr 0 0),(.ptr 1 0),(.ptr 3 0),(vf 0),(vt 0),(vt 14)] [.cells [(vt 2),(vt 3),(vt 4),(vf 1),(vf 0)] false 26,.cells [(.ptr 1 0),(.sl 16 0 1001001 1 none)] false 74,.own 1001001 false 5,.cells [(.str [112,105,99,107]),(.str [116,105,99,107]),(.str [114,101,115,116])] false 75] 17 _ (kl4 _ _ _ _) (kl5 _ _ _ _) (fun _ hi S=>ih _ _ _ hi h S)))))))))))))) (fun h0 h=>have H:=H.w 5 h0;kac h (fun h1 h=>have H:=H.t 8 [.int .i64 p2_0.length,.str p2_0]|>.c (p:=(.usd (.c (.sl 2 0 1000001 1 none)),(.ptr 2 0))) (fun _ _ _=>kxv (e:=eB) (l:=p2_0) (by decide) (by kernel_rfl) h1)|>.O 2 1000001 1 6;kac h (fun h2 h=>have H:=H.q 6 (.len 1 (cT 7))|>.a ⟨true,1,1,(.im [] true),(vt 7),1000001⟩ (fun _ _ _=>kb5 rfl rfl rfl h2 (.inl rfl) (by decide) (by decide));kac h (fun h3 h=>have H:=H.c (p:=(.bin .gtr (cT 6) (cI 0),(.bool true))) (fun _ _ _=>ke9 rfl h3);kac h (fun h4 h=>kbh h (fun x5 h5 h=>have H:=H.t 14 [.int .i64 x5.1.n0,.int .i64 x5.1.n1,.int .i64 x5.1.n2,.int .i64 x5.2.1,.int .i64 x5.2.2,.bool (!decide (x5.2.2=0))]|>.f 4 [.im (yab eR x5.1.t) x5.1.bt,.im (yab eM x5.1.m) x5.1.bm] (.c (yap kbt _ _) <| .c (yap kax _ _) <| .n)|>.q 13 (.bin .neq (cT 12) (cI 0))|>.s [(vt 7)] (.tup [(.agg [(vt 8),(vt 9),(vt 10),(vf 2),(vf 3)]),(vt 11),(vt 12)]) (k3s p2_0 h4 h5);kaf h (fun h6 h=>have H:=H.m 13 false (nT h6);kac h (fun h7 h=>have H:=H.t 16 [.bool (kdd x x5.1),.bool (!(kdd x x5.1))]|>.q 15 (.un .not (cT 14))|>.s [(.agg [(vt 2),(vt 3),(vt 4),(vf 1),(vf 0)]),(.agg [(vt 8),(vt 9),(vt 10),(vf 2),(vf 3)])] (vt 14) (k4e x x5.1 h7);kaf h (fun h8 h=>have H:=H.m 15 true h8;H.e [2,4,6] h) (fun h8 h=>have H:=H.m 15 false (bF h8);H.e [2,4,6] h))) (fun h6 h=>have H:=H.m 13 true (nF h6);H.e [2,4,6] h))))))))
mutual
def kgl:Nat->Td->List UInt8->Int->Option AV
 |0,_,_,_=>none
 |fu+1,x,p0,p1=>
  if p1<(x.t.length:Int) then
   if 0<=p1 then yay (x.t[ya1 p1]?) fun x2=>
   if(p0.length+yaa [116,104,114,101,97,100,10])*1<=kaq/\p0.length+yaa [116,104,114,101,97,100,10]<=kaq then kia fu x p1 x2 (p0++[116,104,114,101,97,100,10]) 0 else none else none
  else
   if(p0.length+yaa [103,111,10])*1<=kaq/\p0.length+yaa [103,111,10]<=kaq then kfx fu x (p0++[103,111,10]) 0 else none
def kia:Nat->Td->Int->Ro->List UInt8->Int->Option AV
 |0,_,_,_,_,_=>none
 |fu+1,x,p1,x2,p1_0,p1_1=>
  if p1_1<(x2.c.length:Int) then
   if 0<=p1_1 then yay (x2.c[ya1 p1_1]?) fun x3=>
   if x3.no<0 then
    some (.tup [(.str []),(.int .i64 1)])
   else
    if x3.no > 9 then
     some (.tup [(.str []),(.int .i64 1)])
    else
     kia fu x p1 x2 p1_0 (w64 (p1_1+1)) else none
  else
   if okP x2.c=true then if(p1_0.length+yaa (kbr x2.c))*1<=kaq/\p1_0.length+yaa (kbr x2.c)<=kaq then kgl fu x (p1_0++(kbr x2.c)) (w64 (p1+1)) else none else none
end
def ku7:List AV:=[(.ptr 0 0),(.ptr 1 0),(vf 0),(vt 0),(vt 1)]
def ku4:List Blk:=[.cells [(vt 2),(vt 3),(vt 4),(vf 0),(vf 1)] false 26,.cells [(.ptr 1 0),(.sl 2 0 1000001 1 none)] false 74,.own 1000001 false 5]
def koz (x:Td) (p0:List UInt8) (p1:Int) (σ:Nat->Nat):Val:=(kal ([.int .i64 x.t.length,.int .i64 p1,.int .i64 x.n0,.int .i64 x.n1,.int .i64 x.n2]) ([.im (yab eR x.t) x.bt,.im (yab eM x.m) x.bm]) [(1,yab eB p0)] σ 3)
def ql1 (x:Td) (_p0:List UInt8) (p1:Int) (σ:Nat->Nat):List AV:=[(.ptr (σ 0) 0),(.ptr (σ 1) 0),(.im (yab eR x.t) x.bt),(.int .i64 x.t.length),(.int .i64 p1)]
def ql2 (x:Td) (p0:List UInt8) (_p1:Int) (σ:Nat->Nat):List Blk:=[.cells [(.int .i64 x.n0),(.int .i64 x.n1),(.int .i64 x.n2),(.im (yab eR x.t) x.bt),(.im (yab eM x.m) x.bm)] false 26,.cells [(.ptr (σ 1) 0),(.sl (σ 2) 0 (yaa (yab eB p0)) 1 none)] false 74,.cells (yav (yab eB p0)) false 5]
theorem ku5 (x:Td) (p0:List UInt8) (p1:Int) (σ:Nat->Nat):ku7.map (gm (koz x p0 p1 σ))=ql1 x p0 p1 σ:=by kernel_rfl
theorem ku6 (x:Td) (p0:List UInt8) (p1:Int) (σ:Nat->Nat):ku4.map (gB (koz x p0 p1 σ))=ql2 x p0 p1 σ:=by kernel_rfl
def k3e:List AV:=[(.ptr 0 0),(.ptr 1 0),(vf 0),(vf 1),(vt 0),(vt 1),(vf 0),(vt 2),(vt 3)]
def k3d:List Blk:=[.cells [(vt 4),(vt 5),(vt 6),(vf 1),(vf 2)] false 26,.cells [(.ptr 1 0),(.sl 2 0 1000001 1 none)] false 74,.own 1000001 false 5]
def kva (x:Td) (p1:Int) (x2:Ro) (p1_0:List UInt8) (p1_1:Int) (σ:Nat->Nat):Val:=(kal ([.int .i64 x.t.length,.int .i64 p1,.int .i64 x2.c.length,.int .i64 p1_1,.int .i64 x.n0,.int .i64 x.n1,.int .i64 x.n2]) ([.im (yab eC x2.c) x2.b,.im (yab eR x.t) x.bt,.im (yab eM x.m) x.bm]) [(1,yab eB p1_0)] σ 3)
def ql4 (x:Td) (p1:Int) (x2:Ro) (_p1_0:List UInt8) (p1_1:Int) (σ:Nat->Nat):List AV:=[(.ptr (σ 0) 0),(.ptr (σ 1) 0),(.im (yab eC x2.c) x2.b),(.im (yab eR x.t) x.bt),(.int .i64 x.t.length),(.int .i64 p1),(.im (yab eC x2.c) x2.b),(.int .i64 x2.c.length),(.int .i64 p1_1)]
def ql5 (x:Td) (_p1:Int) (_x2:Ro) (p1_0:List UInt8) (_p1_1:Int) (σ:Nat->Nat):List Blk:=[.cells [(.int .i64 x.n0),(.int .i64 x.n1),(.int .i64 x.n2),(.im (yab eR x.t) x.bt),(.im (yab eM x.m) x.bm)] false 26,.cells [(.ptr (σ 1) 0),(.sl (σ 2) 0 (yaa (yab eB p1_0)) 1 none)] false 74,.cells (yav (yab eB p1_0)) false 5]
theorem ku8 (x:Td) (p1:Int) (x2:Ro) (p1_0:List UInt8) (p1_1:Int) (σ:Nat->Nat):k3e.map (gm (kva x p1 x2 p1_0 p1_1 σ))=ql4 x p1 x2 p1_0 p1_1 σ:=by kernel_rfl
theorem ku9 (x:Td) (p1:Int) (x2:Ro) (p1_0:List UInt8) (p1_1:Int) (σ:Nat->Nat):k3d.map (gB (kva x p1 x2 p1_0 p1_1 σ))=ql5 x p1 x2 p1_0 p1_1 σ:=by kernel_rfl
theorem ql9: ∀ (fu:Nat),(∀ (x:Td) (p0:List UInt8) (p1:Int) {r0:AV} {z0:St} {σ:Nat->Nat},(∀ i j,σ i=σ j->i=j)->kgl fu x p0 p1=some r0->Sim (koz x p0 p1 σ) (kaa [1,4,34,35,36] ku7 ku4) z0->J FF (kai FF 12) (kcm (kai FF 12) 2) (.code (.loop (kcl (kai FF 12) 2))) z0 r0)/\(∀ (x:Td) (p1:Int) (x2:Ro) (p1_0:List UInt8) (p1_1:Int) {r0:AV} {z0:St} {σ:Nat->Nat},(∀ i j,σ i=σ j->i=j)->kia fu x p1 x2 p1_0 p1_1=some r0->Sim (kva x p1 x2 p1_0 p1_1 σ) (kaa [1,4,8,34,35,36,41,42,43] k3e k3d) z0->J FF (kai FF 12) (kcm (kai FF 12) 4) (.code (.loop (kcl (kai FF 12) 4))) z0 r0):=by
 intro fu
 induction fu with
 |zero=>
  refine⟨?_,?_⟩
  ·intro _ _ _ _ _ _ _ h _;unfold kgl at h;cases h
  ·intro _ _ _ _ _ _ _ _ _ h _;unfold kia at h;cases h
 |succ fu ih=>
  obtain⟨ih0,ih1⟩:=ih;refine⟨?_,?_⟩
  ·intro x p0 p1 r0 z0 σ hσ h S;unfold kgl at h;exact kcr (have H:=Tok.start hσ S 3 5 2 1 ([.int .i64 x.t.length,.int .i64 p1,.int .i64 x.n0,.int .i64 x.n1,.int .i64 x.n2]) ([.im (yab eR x.t) x.bt,.im (yab eM x.m) x.bm]) [(0,1,yab eB p0)] (.c (yap kbt _ _) <| .c (yap kax _ _) <| .n) (.c (OkO.own kb3 _) <| .n) (ku5 _ _ _ _) (ku6 _ _ _ _);have H:=H.t 6 [.bool (decide (p1<(x.t.length:Int)))]|>.q 5 (.bin .lss (cT 1) (cT 0));kaf h (fun h0 h=>have H:=H.y 5 h0;kac h (fun h1 h=>kbb h (fun x2 h2 h=>have H:=H.f 3 [.im (yab eC x2.c) x2.b] (.c (yap ka5 _ _) <| .n)|>.I (vf 0) (vt 1) [(vf 2)] kbt h1 h2;kac h (fun h3 h=>have H:=H.t 7 [.int .i64 x2.c.length]|>.o 1 (1,yab eB (p0++[116,104,114,101,97,100,10])) (.own kb3 _)|>.a ⟨true,1,1,(vf 1000001),(.str [116,104,114,101,97,100,10]),1001001⟩ (fun _ _ _=>kb5 rfl rfl rfl h3 (.inl rfl) (by decide) (by decide))|>.L (vf 2) 6;H.k [2,4,6] [1,4,8,34,35,36,41,42,43] [0,1,3] [(.ptr 0 0),(.ptr 1 0),(vf 2),(vf 0),(vt 0),(vt 1),(vf 2),(vt 6),(.int .i64 0)] [.cells [(vt 2),(vt 3),(vt 4),(vf 0),(vf 1)] false 26,.cells [(.ptr 1 0),(.sl 3 0 1001001 1 none)] false 74,.own 1001001 false 5] 4 _ (ku8 _ _ _ _ _ _) (ku9 _ _ _ _ _ _) (fun _ hi S=>ih1 _ _ _ _ _ hi h S))))) (fun h0 h=>have H:=H.w 5 h0;kac h (fun h1 h=>have H:=H.t 7 [.int .i64 x.m.length]|>.o 1 (1,yab eB (p0++[103,111,10])) (.own kb3 _)|>.a ⟨true,1,1,(vf 1000001),(.str [103,111,10]),1001001⟩ (fun _ _ _=>kb5 rfl rfl rfl h1 (.inl rfl) (by decide) (by decide))|>.s [] (.agg [(.str [112,105,99,107]),(.str [116,105,99,107]),(.str [114,101,115,116])]) kmf|>.L (vf 1) 6;H.k [2,4,6] [1,4,11,63,64,65] [0,1,3,4] [(.ptr 0 0),(.ptr 1 0),(.ptr 4 0),(vf 1),(vt 6),(.int .i64 0)] [.cells [(vt 2),(vt 3),(vt 4),(vf 0),(vf 1)] false 26,.cells [(.ptr 1 0),(.sl 3 0 1001001 1 none)] false 74,.own 1001001 false 5,.cells [(.str [112,105,99,107]),(.str [116,105,99,107]),(.str [114,101,115,116])] false 75] 5 _ (kl4 _ _ _ _) (kl5 _ _ _ _) (fun _ hi S=>ql8 _ _ _ _ hi h S))))
  ·intro x p1 x2 p1_0 p1_1 r0 z0 σ hσ h S;unfold kia at h;exact kcr (have H:=Tok.start hσ S 3 7 3 1 ([.int .i64 x.t.length,.int .i64 p1,.int .i64 x2.c.length,.int .i64 p1_1,.int .i64 x.n0,.int .i64 x.n1,.int .i64 x.n2]) ([.im (yab eC x2.c) x2.b,.im (yab eR x.t) x.bt,.im (yab eM x.m) x.bm]) [(0,1,yab eB p1_0)] (.c (yap ka5 _ _) <| .c (yap kbt _ _) <| .c (yap kax _ _) <| .n) (.c (OkO.own kb3 _) <| .n) (ku8 _ _ _ _ _ _) (ku9 _ _ _ _ _ _);have H:=H.t 8 [.bool (decide (p1_1<(x2.c.length:Int)))]|>.q 7 (.bin .lss (cT 3) (cT 2));kaf h (fun h0 h=>have H:=H.y 7 h0;kac h (fun h1 h=>kbb h (fun x3 h2 h=>have H:=H.t 12 [.int .i64 x3.no,.int .i64 x3.a,.int .i64 x3.b,.bool (decide (x3.no<0))]|>.q 11 (.bin .lss (cT 8) (cI 0))|>.I (vf 0) (vt 3) [(vt 8),(vt 9),(vt 10)] ka5 h1 h2;kaf h (fun h3 h=>have H:=H.y 11 h3;H.e [2,4,6] h) (fun h3 h=>have H:=H.t 13 [.bool (decide (x3.no > 9))]|>.q 12 (.bin .gtr (cT 8) (cI 9))|>.w 11 h3;kaf h (fun h4 h=>have H:=H.y 12 h4;H.e [2,4,6] h) (fun h4 h=>have H:=H.t 14 [.int .i64 (w64 (p1_1+1))]|>.q 13 (.bin .add (cT 3) (cI 1))|>.w 12 h4;H.k [2,4,6] [1,4,8,34,35,36,41,42,43] [0,1,2] [(.ptr 0 0),(.ptr 1 0),(vf 0),(vf 1),(vt 0),(vt 1),(vf 0),(vt 2),(vt 13)] [.cells [(vt 4),(vt 5),(vt 6),(vf 1),(vf 2)] false 26,.cells [(.ptr 1 0),(.sl 2 0 1000001 1 none)] false 74,.own 1000001 false 5] 4 _ (ku8 _ _ _ _ _ _) (ku9 _ _ _ _ _ _) (fun _ hi S=>ih1 _ _ _ _ _ hi h S)))))) (fun h0 h=>have H:=H.w 7 h0;kac h (fun h1 h=>have H:=H.t 9 [.str (kbr x2.c)]|>.s [(vf 0)] (vt 8) (qeu x2.c x2.b h1);kac h (fun h2 h=>have H:=H.t 11 [.int .i64 (yaa (kbr x2.c):Int),.int .i64 (w64 (p1+1))]|>.o 1 (1,yab eB (p1_0++(kbr x2.c))) (.own kb3 _)|>.q 9 (.len 1 (cT 8))|>.q 10 (.bin .add (cT 1) (cI 1))|>.a ⟨true,1,1,(vf 1000001),(vt 8),1001001⟩ (fun _ _ _=>kb5 rfl rfl rfl h2 (.inl rfl) (by decide) (by decide));H.k [2,4,6] [1,4,34,35,36] [0,1,3] [(.ptr 0 0),(.ptr 1 0),(vf 1),(vt 0),(vt 10)] [.cells [(vt 4),(vt 5),(vt 6),(vf 1),(vf 2)] false 26,.cells [(.ptr 1 0),(.sl 3 0 1001001 1 none)] false 74,.own 1001001 false 5] 4 _ (ku5 _ _ _ _) (ku6 _ _ _ _) (fun _ hi S=>ih0 _ _ _ hi h S)))))
theorem ql3: ∀ (fu:Nat),∀ (x:Td) (p0:List UInt8) (p1:Int) {r0:AV} {z0:St} {σ:Nat->Nat},(∀ i j,σ i=σ j->i=j)->kgl fu x p0 p1=some r0->Sim (koz x p0 p1 σ) (kaa [1,4,34,35,36] ku7 ku4) z0->J FF (kai FF 12) (kcm (kai FF 12) 2) (.code (.loop (kcl (kai FF 12) 2))) z0 r0:=fun fu=>(ql9 fu).1
def ku2 (fu:Nat) (x:Td):Option AV:=
 if -9223372036854775808<=x.n0/\x.n0<=9223372036854775807 then if yaa [99,111,114,101,115,32]+yaa (kab x.n0)<=140737488355328 then kay (([99,111,114,101,115,32]++(kab x.n0))) fun x2=>
 if x2.length+yaa [10]<=140737488355328 then if(x2++[10])≠[] then if(yaa ([]:List UInt8)+yaa (x2++[10]))*1<=kaq/\yaa ([]:List UInt8)+yaa (x2++[10])<=kaq then if -9223372036854775808<=x.n1/\x.n1<=9223372036854775807 then if yaa [110,111,100,101,115,32]+yaa (kab x.n1)<=140737488355328 then kay (([110,111,100,101,115,32]++(kab x.n1))) fun x8=>
 if x8.length+yaa [10]<=140737488355328 then if(yaa (x2++[10])+yaa (x8++[10]))*1<=kaq/\yaa (x2++[10])+yaa (x8++[10])<=kaq then if -9223372036854775808<=x.n2/\x.n2<=9223372036854775807 then if yaa [112,111,114,116,115,32]+yaa (kab x.n2)<=140737488355328 then kay (([112,111,114,116,115,32]++(kab x.n2))) fun x13=>
 if x13.length+yaa [10]<=140737488355328 then if(yaa ((x2++[10])++(x8++[10]))+yaa (x13++[10]))*1<=kaq/\yaa ((x2++[10])++(x8++[10]))+yaa (x13++[10])<=kaq then kgl fu x (((x2++[10])++(x8++[10]))++(x13++[10])) 0 else none else none else none else none else none else none else none else none else none else none else none else none else none
def k3c:List AV:=[(.agg [(vt 0),(vt 1),(vt 2),(vf 0),(vf 1)])]
def ku3 (x:Td) (σ:Nat->Nat):Val:=(kal ([.int .i64 x.n0,.int .i64 x.n1,.int .i64 x.n2]) ([.im (yab eR x.t) x.bt,.im (yab eM x.m) x.bm]) [] σ 0)
def qlz (x:Td) (_σ:Nat->Nat):List AV:=[(.agg [(.int .i64 x.n0),(.int .i64 x.n1),(.int .i64 x.n2),(.im (yab eR x.t) x.bt),(.im (yab eM x.m) x.bm)])]
def ql0 (_x:Td) (_σ:Nat->Nat):List Blk:=[]
theorem qlx (x:Td) (σ:Nat->Nat):k3c.map (gm (ku3 x σ))=qlz x σ:=by kernel_rfl
theorem qly (x:Td) (σ:Nat->Nat):([]:List Blk).map (gB (ku3 x σ))=ql0 x σ:=by kernel_rfl
theorem qma {fu:Nat} (x:Td) {r0:AV} (h:ku2 fu x=some r0):kak FF 12 [(.agg [(.int .i64 x.n0),(.int .i64 x.n1),(.int .i64 x.n2),(.im (yab eR x.t) x.bt),(.im (yab eM x.m) x.bm)])] r0:=by
 unfold ku2 at h;have hσ: ∀ i j:Nat,(fun i:Nat=>i) i=(fun i:Nat=>i) j->i=j:=fun _ _ e=>e
 exact kbq (ρ:=ku3 x (fun i=>i)) (xs:=k3c) (by kernel_rfl) rfl rfl (by kernel_rfl) (fun z0 S=>have H:=Tok.start hσ S 0 3 2 0 ([.int .i64 x.n0,.int .i64 x.n1,.int .i64 x.n2]) ([.im (yab eR x.t) x.bt,.im (yab eM x.m) x.bm]) [] (.c (yap kbt _ _) <| .c (yap kax _ _) <| .n) .n (qlx _ _) (qly _ _);have H:=H.s [] (.agg [(.str [99,111,114,101,115]),(.str [110,111,100,101,115]),(.str [112,111,114,116,115])]) kyi;kac h (fun h0 h=>have H:=H.t 4 [.str (kab x.n0)]|>.s [(vt 0)] (vt 3) (kbk x.n0 h0);kac h (fun h1 h=>kbh h (fun x2 h2 h=>have H:=H.t 5 [.str x2]|>.c (p:=(.bin .add (.c (.str [99,111,114,101,115,32])) (cT 3),(vt 4))) (fun _ _ _=>kbm (a:=[99,111,114,101,115,32]) (b:=(kab x.n0)) (by kernel_rfl) (by kernel_rfl) h1 (by subst h2;kernel_rfl));kac h (fun h3 h=>have H:=H.jj (vt 4) (.str [10]) 5 (b:=[10]) h3;kac h (fun h4 h=>kac h (fun h5 h=>have H:=H.t 7 [.int .i64 (yaa (x2++[10]):Int)]|>.o 0 (1,yab eB (x2++[10])) (.own kb3 _)|>.q 6 (.len 1 (cT 5))|>.a ⟨false,1,1,(.im [] true),(vt 5),1000001⟩ (fun _ _ _=>kb5 rfl rfl rfl h5 (.inr ⟨rfl,h4⟩) (by decide) (by decide));kac h (fun h6 h=>have H:=H.t 8 [.str (kab x.n1)]|>.s [(vt 1)] (vt 7) (kbk x.n1 h6);kac h (fun h7 h=>kbh h (fun x8 h8 h=>have H:=H.t 9 [.str x8]|>.c (p:=(.bin .add (.c (.str [110,111,100,101,115,32])) (cT 7),(vt 8))) (fun _ _ _=>kbm (a:=[110,111,100,101,115,32]) (b:=(kab x.n1)) (by kernel_rfl) (by kernel_rfl) h7 (by subst h8;kernel_rfl));kac h (fun h9 h=>have H:=H.jj (vt 8) (.str [10]) 9 (b:=[10]) h9;kac h (fun h10 h=>have H:=H.t 11 [.int .i64 (yaa (x8++[10]):Int)]|>.o 1 (1,yab eB ((x2++[10])++(x8++[10]))) (.own kb3 _)|>.q 10 (.len 1 (cT 9))|>.a ⟨true,1,1,(vf 1000001),(vt 9),1001001⟩ (fun _ _ _=>kb5 rfl rfl rfl h10 (.inl rfl) (by decide) (by decide));kac h (fun h11 h=>have H:=H.t 12 [.str (kab x.n2)]|>.s [(vt 2)] (vt 11) (kbk x.n2 h11);kac h (fun h12 h=>kbh h (fun x13 h13 h=>have H:=H.t 13 [.str x13]|>.c (p:=(.bin .add (.c (.str [112,111,114,116,115,32])) (cT 11),(vt 12))) (fun _ _ _=>kbm (a:=[112,111,114,116,115,32]) (b:=(kab x.n2)) (by kernel_rfl) (by kernel_rfl) h12 (by subst h13;kernel_rfl));kac h (fun h14 h=>have H:=H.jj (vt 12) (.str [10]) 13 (b:=[10]) h14;kac h (fun h15 h=>have H:=H.t 16 [.int .i64 (yaa (x13++[10]):Int),.int .i64 x.t.length]|>.o 2 (1,yab eB (((x2++[10])++(x8++[10]))++(x13++[10]))) (.own kb3 _)|>.q 14 (.len 1 (cT 13))|>.a ⟨true,1,1,(vf 1001001),(vt 13),1002001⟩ (fun _ _ _=>kb5 rfl rfl rfl h15 (.inl rfl) (by decide) (by decide))|>.L (vf 0) 15;H.k [2,4,6] [1,4,34,35,36] [0,1,4] [(.ptr 0 0),(.ptr 1 0),(vf 0),(vt 15),(.int .i64 0)] [.cells [(vt 0),(vt 1),(vt 2),(vf 0),(vf 1)] false 26,.cells [(.ptr 1 0),(.sl 4 0 1002001 1 none)] false 74,.own 1002001 false 5] 5 _ (ku5 _ _ _ _) (ku6 _ _ _ _) (fun _ hi S=>ql3 _ _ _ _ hi h S))))))))))))))))))
def kjq (c:Cl):Bool:=inI c.a && inI c.b
def khb (x:Td):Bool:=(inI x.n0 && inI x.n1 && inI x.n2) && (x.t.all fun r=>r.c.all kjq) && x.m.all fun m=>inI m.n
def wS (x:Td):Bs:=if kec x=true then ke7 x.d else []
def wE (x:Td):Int:=if kec x=true then 0 else 1
def kf2 (x:Td):AV:= .tup [.str (wS x),.int .i64 (wE x)]
theorem kpj {x:Td} (h: ¬kec x=true):some (AV.tup [.str [],.int .i64 1])=some (kf2 x):=by
 unfold kf2 wS wE;rw[ir h,ir h]
theorem knu {x:Td}:kec x=true↔May x.d:=kzg
theorem k4n (d:Dt):d.td.d=d:=by
 obtain⟨a,b,c,t,m⟩:=d;simp[Dt.td,Td.d,yat]
theorem kvy (x y:Td):kdd x y=true↔x.d=y.d:=by
 unfold kdd Td.d;simp only[decide_eq_true_eq,Dt.mk.injEq];exact⟨fun⟨⟨a,b,c⟩,d,e⟩=>⟨a,b,c,e,d⟩,fun⟨a,b,c,d,e⟩=>⟨⟨a,b,c⟩,e,d⟩⟩
theorem qrm {x:Td} (h:kec x=true):(kcn (ke7 x.d)).2.2=0/\kdd x (kcn (ke7 x.d)).1=true:=by
 unfold kcn;rw[k3w (knu.1 h)];exact⟨rfl,(kvy _ _).2 (k4n _).symm⟩
theorem qaw {x:Td} {s:Bs} (h:(kcn s).2.2=0) (h2:kdd x (kcn s).1=true):kec x=true:=by
 rcases hr:kfj s with⟨_ |d,n⟩
 ·unfold kcn at h;rw[hr] at h;cases h
 ·unfold kcn at h2;rw[hr] at h2;have:=(kvy _ _).1 h2;rw[k4n] at this;rw[knu,this];exact(k3u hr).1
theorem knj {α:Type} {c:Prop} [Decidable c] {a b r:α} (h:c) (e:a=r):(if c then a else b)=r:=by rw[iq h];exact e
theorem qrh (x:Td) (hn:x.m.length<=2000) (hs:kdq x=true) (hv: ∀ m ∈ x.m,inI m.n=true): ∀ (k i fu:Nat) (p:Bs),i+k=x.m.length->k<fu->p≠[]->p.length+k*40<=900000->p++((x.m.drop i).map mvL).flatten=ke7 x.d->
  kfx fu x p i=some (kf2 x):=by
 intro k
 induction k with
 |zero=>
  intro i fu p hi hf hp hl hw;obtain⟨fu,rfl⟩: ∃ g,fu=g+1:=⟨fu - 1,by omega⟩;have hpl:0<p.length:=yar.2 hp;rw[yao (by omega)] at hw;simp only[yaw,yax,List.append_nil] at hw;unfold kfx kay;rw[ir (by omega),iq hp]
  repeat rw[iq (by first |omega |(simp only[kaq,yac];omega))]
  dsimp only;by_cases h:kec x=true
  ·obtain⟨h1,h2⟩:=qrm h;rw[←hw] at h1 h2;rw[iq h1,iq hs,ir (by simp[h2])];unfold kf2 wS wE;rw[iq h,iq h,hw]
  ·by_cases h1:(kcn p).2.2=0
   ·have h2:kdd x (kcn p).1=false:=by
     cases e:kdd x (kcn p).1 with
     |false=>rfl
     |true=>exact absurd (qaw h1 e) h
    rw[iq h1,iq hs,iq (by simp[h2])];exact kpj h
   ·rw[ir h1];exact kpj h
 |succ k ih=>
  intro i fu p hi hf hp hl hw;obtain⟨fu,rfl⟩: ∃ g,fu=g+1:=⟨fu - 1,by omega⟩;have h1:i<x.m.length:=by omega
  have hm:=hv _ (yah h1);have hi':=kdn (n:=x.m[i].n) (by simpa[inI] using hm);simp only[inI,decide_eq_true_eq] at hm;rw[yam h1,yas,yau] at hw;have next: ∀ w:Bs,w.length=4->kan x.m[i].kind=w->kfx fu x (p++(w++[32]++kab x.m[i].n++[10])) (w64 ((i:Int)+1))=some (kf2 x):=fun w h4 e=>by
   rw[kbv h1 (by omega)];refine ih (i+1) fu _ (by omega) (by omega) (by simp) (by simp only[yad,List.length_singleton];omega) ?_;rw[←hw];unfold mvL hdL;rw[e];simp only[yal]
  have bad:x.m[i].kind<0\/x.m[i].kind > 2->some (AV.tup [.str [],.int .i64 1])=some (kf2 x):=fun hb=>kpj fun h=>by
   have:=yag.1 (knu.1 h).m x.m[i] (yah h1);simp only[kcd,decide_eq_true_eq] at this;omega
  unfold kfx kay;rw[iq (by omega),iq (by omega)];simp only[yaj,yai h1,yak];by_cases b1:x.m[i].kind<0
  ·rw[iq b1];exact bad (.inl b1)
  rw[ir b1];by_cases b2:x.m[i].kind > 2
  ·rw[iq b2];exact bad (.inr b2)
  rw[ir b2];by_cases e0:x.m[i].kind=0
  ·rw[iq e0]
   repeat refine knj (by first |omega |(simp only[kaq,yad,yae,yac];omega)) ?_
   exact next kee rfl (by rw[e0];rfl)
  rw[ir e0];by_cases e1:x.m[i].kind=1
  ·rw[iq e1]
   repeat refine knj (by first |omega |(simp only[kaq,yad,yae,yac];omega)) ?_
   exact next keg rfl (by rw[e1];rfl)
  rw[ir e1];have e2:x.m[i].kind=2:=by omega
  rw[iq e2]
  repeat refine knj (by first |omega |(simp only[kaq,yad,yae,yac];omega)) ?_
  exact next kef rfl (by rw[e2];rfl)
def kj0 (R:List Ro):Nat:=(R.map fun r=>r.c.length+2).sum
theorem qrg (x:Td) (i:Nat) (r:Ro) (hr:r ∈ x.t) (hl:r.c.length<=1000) (hv:r.c.all kjq=true) (p:Bs) (hp:p.length<=800000) (K:Nat)
  (hK: ∀ fu,K<fu->(∀ c ∈ r.c,okC c=true)->kgl fu x (p++kbr r.c) (w64 ((i:Int)+1))=some (kf2 x)):
  ∀ (k j fu:Nat),j+k=r.c.length->k+K+1<fu->(∀ c ∈ r.c.take j,okC c=true)->kia fu x i r p j=some (kf2 x):=by
 intro k
 induction k with
 |zero=>
  intro j fu hj hf ho;obtain⟨fu,rfl⟩: ∃ g,fu=g+1:=⟨fu - 1,by omega⟩;rw[yan (by omega)] at ho;have:=kkn ho;unfold kia;rw[ir (by omega),iq ((kly _).2 ⟨by omega,ho⟩),iq (by simp only[kaq];omega)];exact hK fu (by omega) ho
 |succ k ih=>
  intro j fu hj hf ho;obtain⟨fu,rfl⟩: ∃ g,fu=g+1:=⟨fu - 1,by omega⟩;have h1:j<r.c.length:=by omega
  have hc:=yag.1 hv r.c[j] (yah h1);simp only[kjq,yaf] at hc;have bad:r.c[j].no<0\/r.c[j].no > 9->some (AV.tup [.str [],.int .i64 1])=some (kf2 x):=fun hb=>kpj fun h=>by
   have:=(knu.1 h).t;simp only[Td.d,List.all_map] at this;have:=yag.1 this r hr;simp only[yat,kbx,yaf] at this;have:=yag.1 this.1 r.c[j] (yah h1);simp only[kdt,yaf,decide_eq_true_eq] at this;omega
  unfold kia;rw[iq (by omega),iq (by omega)];simp only[yaj,yai h1,yak];by_cases b1:r.c[j].no<0
  ·rw[iq b1];exact bad (.inl b1)
  rw[ir b1];by_cases b2:r.c[j].no > 9
  ·rw[iq b2];exact bad (.inr b2)
  rw[ir b2,kbv h1 (by omega)];refine ih (j+1) fu (by omega) (by omega) fun c hcm=> ?_
  rw[List.take_succ_eq_append_getElem h1,List.mem_append,List.mem_singleton] at hcm;rcases hcm with hcm |rfl
  ·exact ho c hcm
  ·simp only[okC,yaf,decide_eq_true_eq];exact⟨by omega,hc⟩
theorem qrf (x:Td) (hn:x.t.length<=20) (hm:x.m.length<=2000) (hs:kdq x=true) (hr: ∀ r ∈ x.t,r.c.length<=110/\r.c.all kjq=true) (hv: ∀ m ∈ x.m,inI m.n=true):
  ∀ (k i fu:Nat) (p:Bs),i+k=x.t.length->kj0 (x.t.drop i)+x.m.length+2<fu->p≠[]->p.length+k*6000<=200000->
  p++(((x.t.drop i).map fun r=>kky r.c).flatten++(goL++(x.m.map mvL).flatten))=ke7 x.d->kgl fu x p i=some (kf2 x):=by
 intro k
 induction k with
 |zero=>
  intro i fu p hi hf hp hl hw;obtain⟨fu,rfl⟩: ∃ g,fu=g+1:=⟨fu - 1,by omega⟩;rw[yao (by omega)] at hw hf;simp only[yaw,yax,yaz] at hw;unfold kgl;rw[ir (by omega),iq (by simp only[kaq,yae,yac];omega)];exact qrh x hm hs hv x.m.length 0 fu (p++goL) (by omega) (by simp only[kj0,yaw,List.sum_nil] at hf;omega) (by simp[goL]) (by simp only[goL,yad,yae,yac];omega) (by rw[yaq,←hw];simp only[yal])
 |succ k ih=>
  intro i fu p hi hf hp hl hw;obtain⟨fu,rfl⟩: ∃ g,fu=g+1:=⟨fu - 1,by omega⟩;have h1:i<x.t.length:=by omega
  obtain⟨r1,r2⟩:=hr _ (yah h1);rw[yam h1] at hw hf;simp only[kj0,yas,List.sum_cons] at hf;unfold kgl;rw[iq (by omega),iq (by omega)];simp only[yaj,yai h1,yak];rw[iq (by simp only[kaq,yae,yac];omega)];refine qrg x i x.t[i] (yah h1) (by omega) r2 _ (by simp only[yad,yae,yac];omega) (kj0 (x.t.drop (i+1))+x.m.length+2) (fun fu' hf' ho=> ?_) x.t[i].c.length 0 fu (by omega) (by simp only[kj0];omega) (by simp);have:=kkn ho;rw[kbv h1 (by omega)];refine ih (i+1) fu' _ (by omega) hf' (by simp) (by simp only[yad,yae,yac];omega) ?_;rw[←hw,yas,yau];unfold kky thrL;simp only[yal]
theorem kxx {t:List Ro} {a b:Int} (h:kgv t a b=true):(t.length:Int)<=a/\ ∀ r ∈ t,(r.c.length:Int)<=b:=by
 simp only[kgv,yaf,decide_eq_true_eq,yag] at h;exact h
theorem kq3 {x:Td} (h:kdv x=true):kdq x=true:=by
 simp only[kdv,yaf,decide_eq_true_eq] at h;obtain⟨h1,h2⟩:=h;obtain⟨h1,h3⟩:=kxx h1;simp only[kdq,kie,yaf,decide_eq_true_eq,yag];exact⟨⟨by omega,fun r hr=>by have:=h3 r hr;omega⟩,by omega⟩
theorem qri (x:Td) (hf:kdv x=true) (hv:khb x=true):kak FF 12 [x.av] (kf2 x):=by
 have hs:=kq3 hf;simp only[kdv,yaf,decide_eq_true_eq] at hf;obtain⟨hf1,hf2⟩:=hf;obtain⟨hf1,hf3⟩:=kxx hf1;simp only[khb,yaf,yag] at hv;obtain⟨⟨⟨⟨v0,v1⟩,v2⟩,vt⟩,vm⟩:=hv;simp only[inI,decide_eq_true_eq] at v0 v1 v2;refine qma (fu:=kj0 x.t+x.m.length+3) x ?_;unfold ku2 kay;have l0:=kdn v0;have l1:=kdn v1;have l2:=kdn v2
 repeat refine knj (by first |omega |(simp;done) |(simp only[kaq,yad,yae,yac];omega)) ?_
 refine qrf x (by omega) (by omega) hs (fun r hr=>⟨by have:=hf3 r hr;omega,yag.2 (vt r hr)⟩) vm x.t.length 0 _ _ (by omega) (by rw[yaq];omega) (by simp) (by simp only[yad,yae,yac];omega) ?_;rw[k5i,yaq];unfold hdL kaz ka0 ka1;simp only[Td.d,List.map_map,yal,List.cons_append,yaz];rfl
def klf (x:Td):Bool:=kdv x && khb x
theorem qrj (x:Td) (h:klf x=true):kak FF 12 [x.av] (.tup [.str (wS x),.int .i64 (wE x)]):=by
 simp only[klf,yaf] at h;exact qri x h.1 h.2
end Go.Proofs.Hz
