/-
  Chapter 20: few; may it be; are two the same.
  Conditions: none.
-/
import Derived.Test.YtamikoglpnoicaaGreatDoorT33
import Derived.Test.YtamikoglpnoicaaGreatDoorT23
import Derived.Test.YtamikoglpnoicaaGreatDoorT28
open Go Go.Proofs
namespace Go.Proofs.Hz
open Bool renaming and_eq_true->yap,true_and->yar,eq_false_iff->yax
open Int renaming toNat_natCast->yai
open List renaming getElem?_eq_getElem->yaa,length->yab,take_succ_eq_append_getElem->yac,length_append->yad,take_of_length_le->yae,map->yaf,length_cons->yag,length_singleton->yah,length_nil->yaj,all_eq_true->yak,getElem_mem->yam,append_assoc->yan,flatten_cons->yao,drop_eq_getElem_cons->yaq,drop_of_length_le->yas,flatten_append->yat,mem_singleton->yau,map_singleton->yav,map_cons->yaw,mem_append->yaz,length_map->ya0,map_append->ya1,drop_zero->ya2,all_map->ya4
open OkF renaming im->ya3
open Option renaming bind_some->yal,bind->ya5
open Option.some renaming injEq->yay
theorem kxw (x:Td):kak FF 9 [x.av] (.bool (kdv x)):=qgt x (by
 unfold ks1 kdv;by_cases h:kgv x.t 18 102=true
 ·rw[iq h,h,yar]
 ·rw[ir h];simp only[Bool.not_eq_true] at h;rw[h];rfl)
theorem kv5 {x:Td} (h:kdq x=true):kie x.t=true/\x.m.length<=1000000:=by
 simp only[kdq,yap,decide_eq_true_eq] at h;exact h
theorem kr0 {m:Mov}:kcd m=true↔(0<=m.kind/\m.kind<=2)/\0<=m.n/\m.n<=9999:=by
 simp only[kcd,decide_eq_true_eq]
theorem qb0 (x:Td) (hn:x.m.length<=1000000): ∀ (k i fu:Nat),i+k=x.m.length->k<fu->(∀ m ∈ x.m.take i,kcd m=true)->
  kh3 fu x i=some (.bool (x.m.all kcd && decide (x.t.length<=16/\x.m.length<=1000))):=by
 intro k
 induction k with
 |zero=>
  intro i fu hi hf ht;obtain⟨fu,rfl⟩: ∃ g,fu=g+1:=⟨fu - 1,by omega⟩;unfold kh3;rw[ir (by omega)];rw[yae (by omega)] at ht;have:x.m.all kcd=true:=yak.2 ht;rw[this,yar];by_cases h1:x.t.length<=16
  ·rw[iq (by omega)];congr 2;apply decide_eq_decide.2;omega
  ·rw[ir (by omega),decide_eq_false (by omega)]
 |succ k ih=>
  intro i fu hi hf ht;obtain⟨fu,rfl⟩: ∃ g,fu=g+1:=⟨fu - 1,by omega⟩;have h1:i<x.m.length:=by omega
  unfold kh3;rw[iq (by omega),iq (by omega)];simp only[yai,yaa h1,yal];have bad: ¬kcd x.m[i]=true->(x.m.all kcd && decide (x.t.length<=16/\x.m.length<=1000))=false:=fun h=>by
   have:x.m.all kcd=false:=yax.2 fun h2=>h (yak.1 h2 _ (yam h1))
   rw[this];rfl
  rw[kr0] at bad;by_cases c1:x.m[i].kind<0
  ·rw[iq c1,bad (by omega)]
  ·rw[ir c1];by_cases c2:x.m[i].kind > 2
   ·rw[iq c2,bad (by omega)]
   ·rw[ir c2];by_cases c3:x.m[i].n<0
    ·rw[iq c3,bad (by omega)]
    ·rw[ir c3];by_cases c4:x.m[i].n > 9999
     ·rw[iq c4,bad (by omega)]
     ·rw[ir c4,kbv h1 hn];refine ih (i+1) fu (by omega) (by omega) fun m hm=> ?_
      rw[yac h1,yaz,yau] at hm;rcases hm with hm |rfl
      ·exact ht m hm
      ·exact kr0.2 (by omega)
theorem qbz (x:Td) (hs:kdq x=true): ∀ (k i fu:Nat),i+k=x.t.length->k+x.m.length+1<fu->(∀ r ∈ x.t.take i,kbx r.c=true)->
  kh2 fu x i=some (.bool ((x.t.all fun r=>kbx r.c) && (x.m.all kcd && decide (x.t.length<=16/\x.m.length<=1000)))):=by
 obtain⟨hs1,hm⟩:=kv5 hs;obtain⟨hn,hr⟩:=kv4 hs1;intro k
 induction k with
 |zero=>
  intro i fu hi hf ht;obtain⟨fu,rfl⟩: ∃ g,fu=g+1:=⟨fu - 1,by omega⟩;unfold kh2;rw[ir (by omega)];rw[yae (by omega)] at ht;have:(x.t.all fun r=>kbx r.c)=true:=yak.2 ht;rw[this,yar];exact qb0 x hm x.m.length 0 fu (by omega) (by omega) (by simp)
 |succ k ih=>
  intro i fu hi hf ht;obtain⟨fu,rfl⟩: ∃ g,fu=g+1:=⟨fu - 1,by omega⟩;have h1:i<x.t.length:=by omega
  unfold kh2;rw[iq (by omega),iq (by omega)];simp only[yai,yaa h1,yal];have bad: ¬kbx x.t[i].c=true->((x.t.all fun r=>kbx r.c) && (x.m.all kcd && decide (x.t.length<=16/\x.m.length<=1000)))=false:=fun h=>by
   have:(x.t.all fun r=>kbx r.c)=false:=yax.2 fun h2=>h (yak.1 h2 _ (yam h1))
   rw[this];rfl
  simp only[kbx,yap,decide_eq_true_eq] at bad;rw[iq (hr _ (yam h1))];by_cases c1:kd9 x.t[i].c=true
  ·rw[ir (by simp[c1])];by_cases c2:(x.t[i].c.length:Int) > 100
   ·rw[iq c2];have:=bad (by omega);simp only[kbx] at this ⊢;rw[this]
   ·rw[ir c2,kbv h1 hn];refine ih (i+1) fu (by omega) (by omega) fun r hr'=> ?_
    rw[yac h1,yaz,yau] at hr';rcases hr' with hr' |rfl
    ·exact ht r hr'
    ·simp only[kbx,yap,decide_eq_true_eq];exact⟨c1,by omega⟩
  ·rw[iq (by simp[c1])];have:=bad (fun h=>c1 h.1);simp only[kbx] at this ⊢;rw[this]
theorem qb2 (x:Td):kec x=(decide (kd3 x.n0/\kd3 x.n1/\kd3 x.n2) && ((x.t.all fun r=>kbx r.c) && (x.m.all kcd && decide (x.t.length<=16/\x.m.length<=1000)))):=by
 unfold kec knt Td.d;simp only[ya4,ya0,Bool.and_assoc];rfl
theorem qb1 (x:Td) (hs:kdq x=true):kak FF 16 [x.av] (.bool (kec x)):=by
 refine qh3 (fu:=x.t.length+x.m.length+2) x ?_;rw[qb2];unfold ktg;have bad: ¬(kd3 x.n0/\kd3 x.n1/\kd3 x.n2)->(decide (kd3 x.n0/\kd3 x.n1/\kd3 x.n2) && ((x.t.all fun r=>kbx r.c) && (x.m.all kcd && decide (x.t.length<=16/\x.m.length<=1000))))=false:=fun h=>by
  rw[decide_eq_false h];rfl
 unfold kd3 at bad ⊢;by_cases c1:x.n0<0
 ·rw[iq c1,bad (by omega)]
 rw[ir c1];by_cases c2:x.n0 > 999
 ·rw[iq c2,bad (by omega)]
 rw[ir c2];by_cases c3:x.n1<0
 ·rw[iq c3,bad (by omega)]
 rw[ir c3];by_cases c4:x.n1 > 999
 ·rw[iq c4,bad (by omega)]
 rw[ir c4];by_cases c5:x.n2<0
 ·rw[iq c5,bad (by omega)]
 rw[ir c5];by_cases c6:x.n2 > 999
 ·rw[iq c6,bad (by omega)]
 rw[ir c6,decide_eq_true (by omega),yar];exact qbz x hs x.t.length 0 _ (by omega) (by omega) (by simp)
theorem qoa (x y:Td) (hs:kie x.t=true) (hl:x.t.length=y.t.length): ∀ (k i fu:Nat),i+k=x.t.length->k<fu->(x.t.take i).map Ro.c=(y.t.take i).map Ro.c->kh7 fu x y i=some (.bool (decide (x.t.map Ro.c=y.t.map Ro.c))):=by
 obtain⟨hn,hr⟩:=kv4 hs;intro k
 induction k with
 |zero=>
  intro i fu hi hf ht;obtain⟨fu,rfl⟩: ∃ g,fu=g+1:=⟨fu - 1,by omega⟩;unfold kh7;rw[ir (by omega)];rw[yae (by omega),yae (by omega)] at ht;rw[decide_eq_true ht]
 |succ k ih=>
  intro i fu hi hf ht;obtain⟨fu,rfl⟩: ∃ g,fu=g+1:=⟨fu - 1,by omega⟩;have h1:i<x.t.length:=by omega
  have h2:i<y.t.length:=by omega
  unfold kh7;rw[iq (by omega),iq (by omega)];simp only[yai,yaa h1,yaa h2,yal];rw[iq (hr _ (yam h1))];by_cases hc:x.t[i].c=y.t[i].c
  ·rw[ir (by simp[eqC,hc]),kbv h1 hn];refine ih (i+1) fu (by omega) (by omega) ?_;rw[yac h1,yac h2,ya1,ya1,ht,yav,yav,hc]
  ·rw[iq (by simp[eqC,hc])];rw[decide_eq_false fun e=> ?_];have e1:=congrArg (·[i]?) e;simp only[List.getElem?_map,yaa h1,yaa h2,Option.map_some,yay] at e1;exact hc e1
theorem qn9 (x y:Td) (hs:kdq x=true) (hl:x.t.length=y.t.length) (hm:x.m.length=y.m.length): ∀ (k i fu:Nat),i+k=x.m.length->k+x.t.length+1<fu->x.m.take i=y.m.take i->kh6 fu x y i=some (.bool (decide (x.m=y.m/\x.t.map Ro.c=y.t.map Ro.c))):=by
 obtain⟨hs1,hn⟩:=kv5 hs;intro k
 induction k with
 |zero=>
  intro i fu hi hf ht;obtain⟨fu,rfl⟩: ∃ g,fu=g+1:=⟨fu - 1,by omega⟩;unfold kh6;rw[ir (by omega)];rw[yae (by omega),yae (by omega)] at ht;have:=qoa x y hs1 hl x.t.length 0 fu (by omega) (by omega) (by simp);rw[show(0:Int)=((0:Nat):Int) from rfl,this];congr 2;exact decide_eq_decide.2 ⟨fun h=>⟨ht,h⟩,fun h=>h.2⟩
 |succ k ih=>
  intro i fu hi hf ht;obtain⟨fu,rfl⟩: ∃ g,fu=g+1:=⟨fu - 1,by omega⟩;have h1:i<x.m.length:=by omega
  have h2:i<y.m.length:=by omega
  unfold kh6;rw[iq (by omega),iq (by omega)];simp only[yai,yaa h1,yaa h2,yal];by_cases hc:x.m[i]=y.m[i]
  ·rw[ir (fun h=>(knv _ _).1 h hc),kbv h1 hn];refine ih (i+1) fu (by omega) (by omega) ?_;rw[yac h1,yac h2,ht,hc]
  ·rw[iq ((knv _ _).2 hc)];rw[decide_eq_false fun e=> ?_];have e1:=congrArg (·[i]?) e.1;simp only[yaa h1,yaa h2,yay] at e1;exact hc e1
theorem kyh (x y:Td):((x.n0:Int) == y.n0 && ((x.n1:Int) == y.n1 && ((x.n2:Int) == y.n2 && true)))=decide (x.n0=y.n0/\x.n1=y.n1/\x.n2=y.n2):=by
 rw[Bool.and_true,Bool.eq_iff_iff];simp
theorem k4g (x y:Td) (hs:kdq x=true):kak FF 14 [x.av,y.av] (.bool (kdd x y)):=by
 refine qk0 (fu:=x.t.length+x.m.length+2) x y ?_;unfold kuj kdd;rw[kyh];by_cases h1:x.n0=y.n0/\x.n1=y.n1/\x.n2=y.n2
 ·rw[ir (by simp[h1])];by_cases h2:x.m.length=y.m.length
  ·rw[iq (by omega)];by_cases h3:x.t.length=y.t.length
   ·rw[iq (by omega)];have:=qn9 x y hs h3 h2 x.m.length 0 (x.t.length+x.m.length+2) (by omega) (by omega) (by simp);rw[show(0:Int)=((0:Nat):Int) from rfl,this];congr 2;exact decide_eq_decide.2 ⟨fun h=>⟨h1,h⟩,fun h=>h.2⟩
   ·rw[ir (by omega),decide_eq_false fun e=>h3 (by have:=congrArg yab e.2.2;simpa using this)]
  ·rw[ir (by omega),decide_eq_false fun e=>h2 (by rw[e.2.1])]
 ·rw[decide_eq_false h1,iq (by decide),decide_eq_false fun e=>h1 e.1]
theorem k4e (x y:Td) (hs:kdq x=true):kak FF 15 [x.av,y.av] (.bool (kdd x y)):=by
 obtain⟨hs1,hn⟩:=kv5 hs;refine qkk x y ?_;unfold kug kdd;rw[kyh];by_cases h1:x.n0=y.n0/\x.n1=y.n1/\x.n2=y.n2
 ·rw[decide_eq_true h1,iq rfl,iq hn];by_cases h2:x.m=y.m
  ·rw[iq (by simp[kgu,h2]),iq hs1];congr 2;unfold khk;exact decide_eq_decide.2 ⟨fun h=>⟨h1,h2,h⟩,fun h=>h.2.2⟩
  ·rw[ir (by simp[kgu,h2]),decide_eq_false fun e=>h2 e.2.1]
 ·rw[decide_eq_false h1,ir (by decide),decide_eq_false fun e=>h1 e.1]
def kto (s:List UInt8):Option AV:=
 if kg9 s ([112,105,99,107]) 9999=true then if(kah ([112,105,99,107]) s 9999) ≥ 0 then
  some (.agg [(.int .i64 0),(.int .i64 (kah ([112,105,99,107]) s 9999))])
 else
  if kg9 s ([116,105,99,107]) 9999=true then if(kah ([116,105,99,107]) s 9999) ≥ 0 then
   some (.agg [(.int .i64 1),(.int .i64 (kah ([116,105,99,107]) s 9999))])
  else
   if kg9 s ([114,101,115,116]) 9999=true then if(kah ([114,101,115,116]) s 9999) ≥ 0 then
    some (.agg [(.int .i64 2),(.int .i64 (kah ([114,101,115,116]) s 9999))])
   else
    some (.agg [(.int .i64 (-1)),(.int .i64 0)]) else none else none else none
def k1x:List AV:=[(vt 0)]
def ktp (s:List UInt8) (σ:Nat->Nat):Val:=(kal ([.str s]) ([]) [] σ 0)
def qh6 (s:List UInt8) (_σ:Nat->Nat):List AV:=[(.str s)]
def qh7 (_s:List UInt8) (_σ:Nat->Nat):List Blk:=[]
theorem qh4 (s:List UInt8) (σ:Nat->Nat):k1x.map (gm (ktp s σ))=qh6 s σ:=by kernel_rfl
theorem qh5 (s:List UInt8) (σ:Nat->Nat):([]:List Blk).map (gB (ktp s σ))=qh7 s σ:=by kernel_rfl
theorem qh8 (s:List UInt8) {r0:AV} (h:kto s=some r0):kak FF 28 [(.str s)] r0:=by
 unfold kto at h;have hσ: ∀ i j:Nat,(fun i:Nat=>i) i=(fun i:Nat=>i) j->i=j:=fun _ _ e=>e
 exact kbq (ρ:=ktp s (fun i=>i)) (xs:=k1x) (by kernel_rfl) rfl rfl (by kernel_rfl) (fun z0 S=>have H:=Tok.start hσ S 0 1 0 0 ([.str s]) ([]) [] (.n) .n (qh4 _ _) (qh5 _ _);have H:=H.s [(.int .i64 0)] (.str [112,105,99,107]) k5b;kac h (fun h0 h=>have H:=H.t 3 [.int .i64 (kah ([112,105,99,107]) s 9999),.bool (decide ((kah ([112,105,99,107]) s 9999) ≥ 0))]|>.q 2 (.bin .geq (cT 1) (cI 0))|>.s [(vt 0),(.str [112,105,99,107]),(.int .i64 9999)] (vt 1) (kha s ([112,105,99,107]) 9999 h0);kaf h (fun h1 h=>have H:=H.y 2 h1;H.e [] h) (fun h1 h=>have H:=H.w 2 h1|>.s [(.int .i64 1)] (.str [116,105,99,107]) k5c;kac h (fun h2 h=>have H:=H.t 5 [.int .i64 (kah ([116,105,99,107]) s 9999),.bool (decide ((kah ([116,105,99,107]) s 9999) ≥ 0))]|>.q 4 (.bin .geq (cT 3) (cI 0))|>.s [(vt 0),(.str [116,105,99,107]),(.int .i64 9999)] (vt 3) (kha s ([116,105,99,107]) 9999 h2);kaf h (fun h3 h=>have H:=H.y 4 h3;H.e [] h) (fun h3 h=>have H:=H.w 4 h3|>.s [(.int .i64 2)] (.str [114,101,115,116]) k5d;kac h (fun h4 h=>have H:=H.t 7 [.int .i64 (kah ([114,101,115,116]) s 9999),.bool (decide ((kah ([114,101,115,116]) s 9999) ≥ 0))]|>.q 6 (.bin .geq (cT 5) (cI 0))|>.s [(vt 0),(.str [114,101,115,116]),(.int .i64 9999)] (vt 5) (kha s ([114,101,115,116]) 9999 h4);kaf h (fun h5 h=>have H:=H.y 6 h5;H.e [] h) (fun h5 h=>have H:=H.w 6 h5;H.e [] h)))))))
def kg3:Nat->Td->List UInt8->Int->Option AV
 |0,_,_,_=>none
 |fu+1,x,p1_0,p1_1=>
  if p1_1<(x.m.length:Int) then
   if 0<=p1_1 then ya5 (x.m[Int.toNat p1_1]?) fun x2=>
   if 0<=x2.kind/\x2.kind<=2 then if p1_0.length+yab (kan x2.kind)<=140737488355328 then if yab (p1_0++(kan x2.kind))+yab [32]<=140737488355328 then if 0<=x2.n/\x2.n<=9223372036854775807 then if yab ((p1_0++(kan x2.kind))++[32])+yab (kab x2.n)<=140737488355328 then kay ((((p1_0++(kan x2.kind))++[32])++(kab x2.n))) fun x8=>
   if x8.length+yab [10]<=140737488355328 then kg3 fu x (x8++[10]) (w64 (p1_1+1)) else none else none else none else none else none else none else none
  else
   some (.tup [(.str p1_0),(.int .i64 0)])
def k3l:List AV:=[(.ptr 0 0),(vt 0),(vt 1)]
def k3k:List Blk:=[.cells [(vt 2),(vt 3),(vt 4),(vf 0),(vf 1)] false 26]
def kvj (x:Td) (p1_0:List UInt8) (p1_1:Int) (σ:Nat->Nat):Val:=(kal ([.str p1_0,.int .i64 p1_1,.int .i64 x.n0,.int .i64 x.n1,.int .i64 x.n2]) ([.im (yaf eR x.t) x.bt,.im (yaf eM x.m) x.bm]) [] σ 1)
def qmi (_x:Td) (p1_0:List UInt8) (p1_1:Int) (σ:Nat->Nat):List AV:=[(.ptr (σ 0) 0),(.str p1_0),(.int .i64 p1_1)]
def qmj (x:Td) (_p1_0:List UInt8) (_p1_1:Int) (_σ:Nat->Nat):List Blk:=[.cells [(.int .i64 x.n0),(.int .i64 x.n1),(.int .i64 x.n2),(.im (yaf eR x.t) x.bt),(.im (yaf eM x.m) x.bm)] false 26]
theorem kvh (x:Td) (p1_0:List UInt8) (p1_1:Int) (σ:Nat->Nat):k3l.map (gm (kvj x p1_0 p1_1 σ))=qmi x p1_0 p1_1 σ:=by kernel_rfl
theorem kvi (x:Td) (p1_0:List UInt8) (p1_1:Int) (σ:Nat->Nat):k3k.map (gB (kvj x p1_0 p1_1 σ))=qmj x p1_0 p1_1 σ:=by kernel_rfl
theorem qmk: ∀ (fu:Nat),∀ (x:Td) (p1_0:List UInt8) (p1_1:Int) {r0:AV} {z0:St} {σ:Nat->Nat},(∀ i j,σ i=σ j->i=j)->kg3 fu x p1_0 p1_1=some r0->Sim (kvj x p1_0 p1_1 σ) (kaa [1,5,8] k3l k3k) z0->J FF (kai FF 13) (kcm (kai FF 13) 4) (.code (.loop (kcl (kai FF 13) 4))) z0 r0:=by
 intro fu
 induction fu with
 |zero=>
  intro _ _ _ _ _ _ _ h _;unfold kg3 at h;cases h
 |succ fu ih=>
  intro x p1_0 p1_1 r0 z0 σ hσ h S;unfold kg3 at h;exact kcr (have H:=Tok.start hσ S 1 5 2 0 ([.str p1_0,.int .i64 p1_1,.int .i64 x.n0,.int .i64 x.n1,.int .i64 x.n2]) ([.im (yaf eR x.t) x.bt,.im (yaf eM x.m) x.bm]) [] (.c (ya3 kbt _ _) <| .c (ya3 kax _ _) <| .n) (.n) (kvh _ _ _ _) (kvi _ _ _ _);have H:=H.t 7 [.int .i64 x.m.length,.bool (decide (p1_1<(x.m.length:Int)))]|>.q 6 (.bin .lss (cT 1) (cT 5))|>.L (vf 1) 5;kaf h (fun h0 h=>have H:=H.y 6 h0;kac h (fun h1 h=>kbb h (fun x2 h2 h=>have H:=H.t 9 [.int .i64 x2.kind,.int .i64 x2.n]|>.I (vf 1) (vt 1) [(vt 7),(vt 8)] kax h1 h2;kac h (fun h3 h=>have H:=H.t 10 [.str (kan x2.kind)]|>.s [(vt 7)] (vt 9) (qq6 x2.kind h3);kac h (fun h4 h=>have H:=H.jj (vt 0) (vt 9) 10 h4;kac h (fun h5 h=>have H:=H.jj (vt 10) (.str [32]) 11 (b:=[32]) h5;kac h (fun h6 h=>have H:=H.t 13 [.str (kab x2.n)]|>.s [(vt 8)] (vt 12) (kht x2.n h6);kac h (fun h7 h=>kbh h (fun x8 h8 h=>have H:=H.t 14 [.str x8]|>.c (p:=(.bin .add (cT 11) (cT 12),(vt 13))) (fun _ _ _=>kbm (a:=((p1_0++(kan x2.kind))++[32])) (b:=(kab x2.n)) (by kernel_rfl) (by kernel_rfl) h7 (by subst h8;kernel_rfl));kac h (fun h9 h=>have H:=H.t 16 [.str (x8++[10]),.int .i64 (w64 (p1_1+1))]|>.q 15 (.bin .add (cT 1) (cI 1))|>.K (vt 13) (.str [10]) 14 (b:=[10]) h9;H.k [2,4] [1,5,8] [0] [(.ptr 0 0),(vt 14),(vt 15)] [.cells [(vt 2),(vt 3),(vt 4),(vf 0),(vf 1)] false 26] 21 _ (kvh _ _ _ _) (kvi _ _ _ _) (fun _ hi S=>ih _ _ _ hi h S))))))))))) (fun h0 h=>have H:=H.w 6 h0;H.e [2,4] h))
def kg2:Nat->Td->List UInt8->Int->Option AV
 |0,_,_,_=>none
 |fu+1,x,p0,p1=>
  if p1<(x.t.length:Int) then
   if p0.length+yab [116,104,114,101,97,100,10]<=140737488355328 then kay ((p0++[116,104,114,101,97,100,10])) fun x2=>
   if 0<=p1 then ya5 (x.t[Int.toNat p1]?) fun x4=>
   if okP x4.c=true then if x2.length+yab (kbr x4.c)<=140737488355328 then kg2 fu x (x2++(kbr x4.c)) (w64 (p1+1)) else none else none else none else none
  else
   if p0.length+yab [103,111,10]<=140737488355328 then kg3 fu x (p0++[103,111,10]) 0 else none
def k3j:List AV:=[(.ptr 0 0),(vt 0),(vt 1)]
def k3i:List Blk:=[.cells [(vt 2),(vt 3),(vt 4),(vf 0),(vf 1)] false 26]
def kvg (x:Td) (p0:List UInt8) (p1:Int) (σ:Nat->Nat):Val:=(kal ([.str p0,.int .i64 p1,.int .i64 x.n0,.int .i64 x.n1,.int .i64 x.n2]) ([.im (yaf eR x.t) x.bt,.im (yaf eM x.m) x.bm]) [] σ 1)
def qmf (_x:Td) (p0:List UInt8) (p1:Int) (σ:Nat->Nat):List AV:=[(.ptr (σ 0) 0),(.str p0),(.int .i64 p1)]
def qmg (x:Td) (_p0:List UInt8) (_p1:Int) (_σ:Nat->Nat):List Blk:=[.cells [(.int .i64 x.n0),(.int .i64 x.n1),(.int .i64 x.n2),(.im (yaf eR x.t) x.bt),(.im (yaf eM x.m) x.bm)] false 26]
theorem kve (x:Td) (p0:List UInt8) (p1:Int) (σ:Nat->Nat):k3j.map (gm (kvg x p0 p1 σ))=qmf x p0 p1 σ:=by kernel_rfl
theorem kvf (x:Td) (p0:List UInt8) (p1:Int) (σ:Nat->Nat):k3i.map (gB (kvg x p0 p1 σ))=qmg x p0 p1 σ:=by kernel_rfl
theorem qmh: ∀ (fu:Nat),∀ (x:Td) (p0:List UInt8) (p1:Int) {r0:AV} {z0:St} {σ:Nat->Nat},(∀ i j,σ i=σ j->i=j)->kg2 fu x p0 p1=some r0->Sim (kvg x p0 p1 σ) (kaa [1,5,7] k3j k3i) z0->J FF (kai FF 13) (kcm (kai FF 13) 2) (.code (.loop (kcl (kai FF 13) 2))) z0 r0:=by
 intro fu
 induction fu with
 |zero=>
  intro _ _ _ _ _ _ _ h _;unfold kg2 at h;cases h
 |succ fu ih=>
  intro x p0 p1 r0 z0 σ hσ h S;unfold kg2 at h;exact kcr (have H:=Tok.start hσ S 1 5 2 0 ([.str p0,.int .i64 p1,.int .i64 x.n0,.int .i64 x.n1,.int .i64 x.n2]) ([.im (yaf eR x.t) x.bt,.im (yaf eM x.m) x.bm]) [] (.c (ya3 kbt _ _) <| .c (ya3 kax _ _) <| .n) (.n) (kve _ _ _ _) (kvf _ _ _ _);have H:=H.t 7 [.int .i64 x.t.length,.bool (decide (p1<(x.t.length:Int)))]|>.q 6 (.bin .lss (cT 1) (cT 5))|>.L (vf 0) 5;kaf h (fun h0 h=>have H:=H.y 6 h0;kac h (fun h1 h=>kbh h (fun x2 h2 h=>have H:=H.t 8 [.str x2]|>.c (p:=(.bin .add (cT 0) (.c (.str [116,104,114,101,97,100,10])),(vt 7))) (fun _ _ _=>kbm (a:=p0) (b:=[116,104,114,101,97,100,10]) (by kernel_rfl) (by kernel_rfl) h1 (by subst h2;kernel_rfl));kac h (fun h3 h=>kbb h (fun x4 h4 h=>have H:=H.f 3 [.im (yaf eC x4.c) x4.b] (.c (ya3 ka5 _ _) <| .n)|>.I (vf 0) (vt 1) [(vf 2)] kbt h3 h4;kac h (fun h5 h=>have H:=H.t 9 [.str (kbr x4.c)]|>.s [(vf 2)] (vt 8) (qet x4.c x4.b h5);kac h (fun h6 h=>have H:=H.t 11 [.str (x2++(kbr x4.c)),.int .i64 (w64 (p1+1))]|>.q 10 (.bin .add (cT 1) (cI 1))|>.K (vt 7) (vt 8) 9 h6;H.k [2,4] [1,5,7] [0] [(.ptr 0 0),(vt 9),(vt 10)] [.cells [(vt 2),(vt 3),(vt 4),(vf 0),(vf 1)] false 26] 1 _ (kve _ _ _ _) (kvf _ _ _ _) (fun _ hi S=>ih _ _ _ hi h S)))))))) (fun h0 h=>have H:=H.w 6 h0;kac h (fun h1 h=>have H:=H.jj (vt 0) (.str [103,111,10]) 7 (b:=[103,111,10]) h1;H.k [2,4] [1,5,8] [0] [(.ptr 0 0),(vt 7),(.int .i64 0)] [.cells [(vt 2),(vt 3),(vt 4),(vf 0),(vf 1)] false 26] 1 _ (kvh _ _ _ _) (kvi _ _ _ _) (fun _ hi S=>qmk _ _ _ _ hi h S))))
def kvc (fu:Nat) (x:Td):Option AV:=
 if kdq x=true then if(!(kec x))=true then
  some (.tup [(.str []),(.int .i64 1)])
 else
  if 0<=x.n0/\x.n0<=9223372036854775807 then if yab [99,111,114,101,115,32]+yab (kab x.n0)<=140737488355328 then kay (([99,111,114,101,115,32]++(kab x.n0))) fun x4=>
  if x4.length+yab [10]<=140737488355328 then if yab (x4++[10])+yab [110,111,100,101,115]<=140737488355328 then kay (((x4++[10])++[110,111,100,101,115])) fun x7=>
  if x7.length+yab [32]<=140737488355328 then if 0<=x.n1/\x.n1<=9223372036854775807 then if yab (x7++[32])+yab (kab x.n1)<=140737488355328 then if yab ((x7++[32])++(kab x.n1))+yab [10]<=140737488355328 then if yab (((x7++[32])++(kab x.n1))++[10])+yab [112,111,114,116,115]<=140737488355328 then kay (((((x7++[32])++(kab x.n1))++[10])++[112,111,114,116,115])) fun x13=>
  if x13.length+yab [32]<=140737488355328 then if 0<=x.n2/\x.n2<=9223372036854775807 then if yab (x13++[32])+yab (kab x.n2)<=140737488355328 then if yab ((x13++[32])++(kab x.n2))+yab [10]<=140737488355328 then kay ((((x13++[32])++(kab x.n2))++[10])) fun x18=>
  kg2 fu x x18 0 else none else none else none else none else none else none else none else none else none else none else none else none else none else none
def k3h:List AV:=[(.agg [(vt 0),(vt 1),(vt 2),(vf 0),(vf 1)])]
def kvd (x:Td) (σ:Nat->Nat):Val:=(kal ([.int .i64 x.n0,.int .i64 x.n1,.int .i64 x.n2]) ([.im (yaf eR x.t) x.bt,.im (yaf eM x.m) x.bm]) [] σ 0)
def qmd (x:Td) (_σ:Nat->Nat):List AV:=[(.agg [(.int .i64 x.n0),(.int .i64 x.n1),(.int .i64 x.n2),(.im (yaf eR x.t) x.bt),(.im (yaf eM x.m) x.bm)])]
def qme (_x:Td) (_σ:Nat->Nat):List Blk:=[]
theorem qmb (x:Td) (σ:Nat->Nat):k3h.map (gm (kvd x σ))=qmd x σ:=by kernel_rfl
theorem qmc (x:Td) (σ:Nat->Nat):([]:List Blk).map (gB (kvd x σ))=qme x σ:=by kernel_rfl
theorem qml {fu:Nat} (x:Td) {r0:AV} (h:kvc fu x=some r0):kak FF 13 [(.agg [(.int .i64 x.n0),(.int .i64 x.n1),(.int .i64 x.n2),(.im (yaf eR x.t) x.bt),(.im (yaf eM x.m) x.bm)])] r0:=by
 unfold kvc at h;have hσ: ∀ i j:Nat,(fun i:Nat=>i) i=(fun i:Nat=>i) j->i=j:=fun _ _ e=>e
 exact kbq (ρ:=kvd x (fun i=>i)) (xs:=k3h) (by kernel_rfl) rfl rfl (by kernel_rfl) (fun z0 S=>have H:=Tok.start hσ S 0 3 2 0 ([.int .i64 x.n0,.int .i64 x.n1,.int .i64 x.n2]) ([.im (yaf eR x.t) x.bt,.im (yaf eM x.m) x.bm]) [] (.c (ya3 kbt _ _) <| .c (ya3 kax _ _) <| .n) .n (qmb _ _) (qmc _ _);kac h (fun h0 h=>have H:=H.t 5 [.bool (kec x),.bool (!(kec x))]|>.q 4 (.un .not (cT 3))|>.s [(.agg [(vt 0),(vt 1),(vt 2),(vf 0),(vf 1)])] (vt 3) (qb1 x h0);kaf h (fun h1 h=>have H:=H.m 4 true h1;H.e [2,4] h) (fun h1 h=>have H:=H.m 4 false (bF h1)|>.s [(.int .i64 0)] (.str [99,111,114,101,115]) krk;kac h (fun h2 h=>have H:=H.t 6 [.str (kab x.n0)]|>.s [(vt 0)] (vt 5) (kht x.n0 h2);kac h (fun h3 h=>kbh h (fun x4 h4 h=>have H:=H.t 7 [.str x4]|>.c (p:=(.bin .add (.c (.str [99,111,114,101,115,32])) (cT 5),(vt 6))) (fun _ _ _=>kbm (a:=[99,111,114,101,115,32]) (b:=(kab x.n0)) (by kernel_rfl) (by kernel_rfl) h3 (by subst h4;kernel_rfl));kac h (fun h5 h=>have H:=H.jj (vt 6) (.str [10]) 7 (b:=[10]) h5|>.s [(.int .i64 1)] (.str [110,111,100,101,115]) krl;kac h (fun h6 h=>kbh h (fun x7 h7 h=>have H:=H.t 9 [.str x7]|>.c (p:=(.bin .add (cT 7) (.c (.str [110,111,100,101,115])),(vt 8))) (fun _ _ _=>kbm (a:=(x4++[10])) (b:=[110,111,100,101,115]) (by kernel_rfl) (by kernel_rfl) h6 (by subst h7;kernel_rfl));kac h (fun h8 h=>have H:=H.jj (vt 8) (.str [32]) 9 (b:=[32]) h8;kac h (fun h9 h=>have H:=H.t 11 [.str (kab x.n1)]|>.s [(vt 1)] (vt 10) (kht x.n1 h9);kac h (fun h10 h=>have H:=H.jj (vt 9) (vt 10) 11 h10;kac h (fun h11 h=>have H:=H.jj (vt 11) (.str [10]) 12 (b:=[10]) h11|>.s [(.int .i64 2)] (.str [112,111,114,116,115]) krm;kac h (fun h12 h=>kbh h (fun x13 h13 h=>have H:=H.t 14 [.str x13]|>.c (p:=(.bin .add (cT 12) (.c (.str [112,111,114,116,115])),(vt 13))) (fun _ _ _=>kbm (a:=(((x7++[32])++(kab x.n1))++[10])) (b:=[112,111,114,116,115]) (by kernel_rfl) (by kernel_rfl) h12 (by subst h13;kernel_rfl));kac h (fun h14 h=>have H:=H.jj (vt 13) (.str [32]) 14 (b:=[32]) h14;kac h (fun h15 h=>have H:=H.t 16 [.str (kab x.n2)]|>.s [(vt 2)] (vt 15) (kht x.n2 h15);kac h (fun h16 h=>have H:=H.jj (vt 14) (vt 15) 16 h16;kac h (fun h17 h=>kbh h (fun x18 h18 h=>have H:=H.t 18 [.str x18]|>.c (p:=(.bin .add (cT 16) (.c (.str [10])),(vt 17))) (fun _ _ _=>kbm (a:=((x13++[32])++(kab x.n2))) (b:=[10]) (by kernel_rfl) (by kernel_rfl) h17 (by subst h18;kernel_rfl));H.k [2,4] [1,5,7] [0] [(.ptr 0 0),(vt 17),(.int .i64 0)] [.cells [(vt 0),(vt 1),(vt 2),(vf 0),(vf 1)] false 26] 40 _ (kve _ _ _ _) (kvf _ _ _ _) (fun _ hi S=>qmh _ _ _ _ hi h S)))))))))))))))))))))
theorem kgf (s:Bs) (hs:s.length<=1000000):kak FF 28 [.str s] (.agg [.int .i64 (ka6 s).kind,.int .i64 (ka6 s).n]):=qh8 s (by
 unfold kto;have g: ∀ w:Bs,w.length<=1000->kg9 s w 9999=true:=fun w hw=>by
  simp only[kg9,decide_eq_true_eq];exact⟨⟨hs,hw⟩,by omega,by omega⟩
 rw[iq (g _ (by decide)),iq (g _ (by decide)),iq (g _ (by decide))];show(if kah kee s 9999 ≥ 0 then _ else if kah keg s 9999 ≥ 0 then _ else if kah kef s 9999 ≥ 0 then _ else _)=_;unfold ka6 kcc;by_cases c1:0<=kah kee s 9999
 ·rw[iq (show kah kee s 9999 ≥ 0 from c1),iq c1];rfl
 rw[ir (show ¬kah kee s 9999 ≥ 0 from c1),ir c1];by_cases c2:0<=kah keg s 9999
 ·rw[iq (show kah keg s 9999 ≥ 0 from c2),iq c2];rfl
 rw[ir (show ¬kah keg s 9999 ≥ 0 from c2),ir c2];by_cases c3:0<=kah kef s 9999
 ·rw[iq (show kah kef s 9999 ≥ 0 from c3),iq c3];rfl
 rw[ir (show ¬kah kef s 9999 ≥ 0 from c3),ir c3];rfl)
theorem k5i (x:Dt):ke7 x=hdL kaz x.n0++(hdL ka0 x.n1++(hdL ka1 x.n2++((x.t.map kky).flatten++(goL++(x.m.map mvL).flatten)))):=by
 have h: ∀ T:List (List Cl),((T.map kd7).flatten).flatten=(T.map kky).flatten:=by
  intro T
  induction T with
  |nil=>rfl
  |cons c T ih=>rw[yaw,yao,yat,ih];rfl
 unfold ke7 ken kfu;simp only[yat,yao,List.flatten_nil,h,List.append_nil,yan]
theorem kds (k:Int):(kan k).length=4:=by
 unfold kan;split
 ·rfl
 ·split <;> rfl
theorem krj {w:Bs} {n:Int} (h:inI n=true):(hdL w n).length<=w.length+23:=by
 simp only[inI,decide_eq_true_eq] at h;have:=kdn (n:=n) h;unfold hdL;simp only[yad,yah];omega
theorem qre (x:Td) (hn:x.m.length<=1000) (ho: ∀ m ∈ x.m,kcd m=true): ∀ (k i fu:Nat) (p:Bs),i+k=x.m.length->k<fu->p.length+k*40<=1000000000->kg3 fu x p i=some (.tup [.str (p++((x.m.drop i).map mvL).flatten),.int .i64 0]):=by
 intro k
 induction k with
 |zero=>
  intro i fu p hi hf hl;obtain⟨fu,rfl⟩: ∃ g,fu=g+1:=⟨fu - 1,by omega⟩;unfold kg3;rw[ir (by omega),yas (by omega)];simp
 |succ k ih=>
  intro i fu p hi hf hl;obtain⟨fu,rfl⟩: ∃ g,fu=g+1:=⟨fu - 1,by omega⟩;have h1:i<x.m.length:=by omega
  have hm:=kr0.1 (ho _ (yam h1));have hi':=kdn (n:=x.m[i].n) (by omega);have hw:=kds x.m[i].kind;unfold kg3 kay;rw[iq (by omega),iq (by omega)];simp only[yai,yaa h1,yal];rw[iq (by omega),iq (by omega),iq (by simp only[yad,yah];omega),iq (by omega),iq (by simp only[yad,yah];omega),iq (by simp only[yad,yah];omega),kbv h1 (by omega)];rw[ih (i+1) fu _ (by omega) (by omega) (by simp only[yad,yah];omega)];rw[yaq h1,yaw,yao];congr 3;unfold mvL hdL;simp only[yan]
theorem qrd (x:Td) (hn:x.t.length<=16) (hm:x.m.length<=1000) (hr: ∀ r ∈ x.t,kbx r.c=true) (ho: ∀ m ∈ x.m,kcd m=true): ∀ (k i fu:Nat) (p:Bs),i+k=x.t.length->k+x.m.length+1<fu->p.length+k*6000<=1000000->
  kg2 fu x p i=some (.tup [.str (p++(((x.t.drop i).map fun r=>kky r.c).flatten++(goL++(x.m.map mvL).flatten))),.int .i64 0]):=by
 intro k
 induction k with
 |zero=>
  intro i fu p hi hf hl;obtain⟨fu,rfl⟩: ∃ g,fu=g+1:=⟨fu - 1,by omega⟩;unfold kg2;rw[ir (by omega),iq (by simp only[yag,yaj];omega),yas (by omega)];have:=qre x hm ho x.m.length 0 fu (p++goL) (by omega) (by omega) (by rw[yad];simp only[goL,yag,yaj];omega);rw[ya2] at this;show kg3 fu x (p++goL) ((0:Nat):Int)=_;rw[this];simp
 |succ k ih=>
  intro i fu p hi hf hl;obtain⟨fu,rfl⟩: ∃ g,fu=g+1:=⟨fu - 1,by omega⟩;have h1:i<x.t.length:=by omega
  have hro:=hr _ (yam h1);simp only[kbx,yap,decide_eq_true_eq] at hro;have hp:=kkn (kz2 hro.1);unfold kg2 kay;rw[iq (by omega),iq (by simp only[yag,yaj];omega)];dsimp only;rw[iq (by omega)];simp only[yai,yaa h1,yal];rw[iq (qd1 hro.1 (by omega)),iq (by simp only[yad,yag,yaj];omega),kbv h1 (by omega)];rw[ih (i+1) fu _ (by omega) (by omega) (by simp only[yad,yag,yaj];omega)];rw[yaq h1,yaw,yao];congr 3;unfold kky thrL;simp only[yan]
theorem qrl (x:Td) (hs:kdq x=true):kak FF 13 [x.av] (.tup [.str (if kec x=true then ke7 x.d else []),.int .i64 (if kec x=true then 0 else 1)]):=by
 refine qml (fu:=x.t.length+x.m.length+2) x ?_;unfold kvc kay;rw[iq hs];by_cases hm:kec x=true
 ·have hM:=kzg.1 hm;obtain⟨⟨a0,a1⟩,⟨b0,b1⟩,⟨c0,c1⟩,ht,ho,hl,hk⟩:=hM;simp only[Td.d] at a0 a1 b0 b1 c0 c1 ht ho hl hk;rw[ya0] at hl;rw[ya4] at ht;have l0:=kdn (n:=x.n0) (by omega);have l1:=kdn (n:=x.n1) (by omega);have l2:=kdn (n:=x.n2) (by omega);rw[ir (by simp[hm]),iq hm,iq hm];dsimp only
  repeat rw[iq (by first |omega |(simp only[yad,yag,yaj];omega))]
  have:=qrd x hl hk (fun r hr=>yak.1 ht r hr) (yak.1 ho) x.t.length 0 (x.t.length+x.m.length+2) (hdL kaz x.n0++(hdL ka0 x.n1++hdL ka1 x.n2)) (by omega) (by omega) (by
   have:=krj (w:=kaz) (n:=x.n0) (by simp only[inI,decide_eq_true_eq];omega);have:=krj (w:=ka0) (n:=x.n1) (by simp only[inI,decide_eq_true_eq];omega);have:=krj (w:=ka1) (n:=x.n2) (by simp only[inI,decide_eq_true_eq];omega);simp only[kaz,ka0,ka1,yad,yag,yaj] at*;omega)
  rw[ya2] at this;refine Eq.trans (congrArg (fun p=>kg2 _ x p ((0:Nat):Int)) ?_) (this.trans ?_)
  ·unfold hdL;simp only[yan];rfl
  ·rw[k5i];simp only[Td.d,List.map_map,yan];rfl
 ·rw[iq (by simp[hm]),ir hm,ir hm]
end Go.Proofs.Hz
