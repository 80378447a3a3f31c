/-
  Chapter 20: walks through the functions of syscalls' texts (part e), written by a program of our own (wip/tools).
  Conditions: none.
-/
import Derived.Test.YtamikoglpnoicaaGreatDoorT22
import Derived.Lib.ItoaLen
open Go Go.Proofs
namespace Go.Proofs.Hz
open Bool renaming and_eq_true->yaq
open Int renaming tmod->yac,toNat->yah,tdiv->yak,toNat_natCast->yao
open Go.IntKind renaming wrap->yaa,signed->yau,bits->yaw
open Go.Lib renaming decDigits->yad,decDigits_one->yaj,atoiAll->yam,itoa->yas,parseUint10->ya0,parseMag->ya4
open List renaming length_cons->yab,length_append->yae,length_nil->yaf,length->yai,foldl_cons->yal,mem_singleton->yan,singleton_append->yar,map->yat,mem_cons->yav,append_nil->yay,drop->ya1,foldl_nil->ya2,take->ya5
open List.cons renaming inj->yap
open Nat renaming mod_eq_of_lt->yax,strongRecOn->yaz,mod_lt->ya3
open Option renaming bind->ya6
open UInt8 renaming ofNat->yag
def kfh:Nat->Int->List UInt8->Int->Option AV
 |0,_,_,_=>none
 |fu+1,n,p0,p1=>
  if p1=0 then
   if(p0 == [])=true then
    kay ((w64 (48+(if(yaa .i64 (0 - (yac p1 10))) > (yac p1 10) then(yaa .i64 (0 - (yac p1 10))) else(yac p1 10))))) fun x2=>
    if yai [yag (yah (yaa .u8 x2))]+p0.length<=140737488355328 then kay (([yag (yah (yaa .u8 x2))]++p0)) fun x4=>
    kfh fu n x4 (yaa .i64 (yak p1 10)) else none
   else
    if n<0 then
     if yai [45]+p0.length<=140737488355328 then some (.str ([45]++p0)) else none
    else
     some (.str p0)
  else
   kay ((w64 (48+(if(yaa .i64 (0 - (yac p1 10))) > (yac p1 10) then(yaa .i64 (0 - (yac p1 10))) else(yac p1 10))))) fun x1=>
   if yai [yag (yah (yaa .u8 x1))]+p0.length<=140737488355328 then kay (([yag (yah (yaa .u8 x1))]++p0)) fun x3=>
   kfh fu n x3 (yaa .i64 (yak p1 10)) else none
def k1k:List AV:=[(vt 0),(vt 1),(vt 2)]
def k1j:List Blk:=[]
def ks8 (n:Int) (p0:List UInt8) (p1:Int) (σ:Nat->Nat):Val:=(kal ([.int .i64 n,.str p0,.int .i64 p1]) ([]) [] σ 0)
def qg6 (n:Int) (p0:List UInt8) (p1:Int) (_σ:Nat->Nat):List AV:=[(.int .i64 n),(.str p0),(.int .i64 p1)]
def qg7 (_n:Int) (_p0:List UInt8) (_p1:Int) (_σ:Nat->Nat):List Blk:=[]
theorem kok (n:Int) (p0:List UInt8) (p1:Int) (σ:Nat->Nat):k1k.map (gm (ks8 n p0 p1 σ))=qg6 n p0 p1 σ:=by kernel_rfl
theorem kol (n:Int) (p0:List UInt8) (p1:Int) (σ:Nat->Nat):k1j.map (gB (ks8 n p0 p1 σ))=qg7 n p0 p1 σ:=by kernel_rfl
theorem qg9: ∀ (fu:Nat),∀ (n:Int) (p0:List UInt8) (p1:Int) {r0:AV} {z0:St} {σ:Nat->Nat},(∀ i j,σ i=σ j->i=j)->kfh fu n p0 p1=some r0->Sim (ks8 n p0 p1 σ) (kaa [0,3,4] k1k k1j) z0->J FF (kai FF 42) (kcm (kai FF 42) 0) (.code (.loop (kcl (kai FF 42) 0))) z0 r0:=by
 intro fu
 induction fu with
 |zero=>
  intro _ _ _ _ _ _ _ h _;unfold kfh at h;cases h
 |succ fu ih=>
  intro n p0 p1 r0 z0 σ hσ h S;unfold kfh at h;exact kcr (have H:=Tok.start hσ S 0 3 0 0 ([.int .i64 n,.str p0,.int .i64 p1]) ([]) [] (.n) (.n) (kok _ _ _ _) (kol _ _ _ _);have H:=H.t 4 [.bool (!decide (p1=0))]|>.q 3 (.bin .neq (cT 2) (cI 0));kaf h (fun h0 h=>have H:=H.t 5 [.bool (p0 == [])]|>.q 4 (.bin .eql (cT 1) (.c (.str [])))|>.m 3 false (nT h0);kaf h (fun h1 h=>have H:=H.t 8 [.int .i64 (yac p1 10),.int .i64 (yaa .i64 (0 - (yac p1 10))),.int .i64 (if(yaa .i64 (0 - (yac p1 10))) > (yac p1 10) then(yaa .i64 (0 - (yac p1 10))) else(yac p1 10))]|>.q 6 (.un .neg (cT 5))|>.q 7 (.mxi (cT 5) (cT 6))|>.m 4 true h1|>.c (p:=(.bin .rem (cT 2) (cI 10),(vt 5))) (fun _ _ _=>kq1 rfl rfl (by decide) rfl);kbh h (fun x2 h2 h=>have H:=H.t 11 [.int .i64 x2,.int .u8 (yaa .u8 x2),.str [yag (yah (yaa .u8 x2))]]|>.q 9 (.conv .u8 (cT 8))|>.q 10 (.b2s (.c (.im [[(vt 9)]] true)))|>.c (p:=(.bin .add (cI 48) (cT 7),(vt 8))) (fun _ _ _=>fun _=>by subst h2;kernel_rfl);kac h (fun h3 h=>kbh h (fun x4 h4 h=>have H:=H.t 13 [.str x4,.int .i64 (yaa .i64 (yak p1 10))]|>.c (p:=(.bin .add (cT 10) (cT 1),(vt 11))) (fun _ _ _=>kbm (a:=[yag (yah (yaa .u8 x2))]) (b:=p0) (by kernel_rfl) (by kernel_rfl) h3 (by subst h4;kernel_rfl))|>.c (p:=(.bin .quo (cT 2) (cI 10),(vt 12))) (fun _ _ _=>kq0 rfl rfl (by decide) rfl);H.k [0] [0,3,4] [] [(vt 0),(vt 11),(vt 12)] [] 1 _ (kok _ _ _ _) (kol _ _ _ _) (fun _ hi S=>ih _ _ _ hi h S))))) (fun h1 h=>have H:=H.t 6 [.bool (decide (n<0))]|>.q 5 (.bin .lss (cT 0) (cI 0))|>.m 4 false (bF h1);kaf h (fun h2 h=>have H:=H.y 5 h2;kac h (fun h3 h=>have H:=H.jj (.str [45]) (vt 1) 6 (a:=[45]) h3;H.e [0] h)) (fun h2 h=>have H:=H.w 5 h2;H.e [0] h))) (fun h0 h=>have H:=H.t 7 [.int .i64 (yac p1 10),.int .i64 (yaa .i64 (0 - (yac p1 10))),.int .i64 (if(yaa .i64 (0 - (yac p1 10))) > (yac p1 10) then(yaa .i64 (0 - (yac p1 10))) else(yac p1 10))]|>.q 5 (.un .neg (cT 4))|>.q 6 (.mxi (cT 4) (cT 5))|>.m 3 true (nF h0)|>.c (p:=(.bin .rem (cT 2) (cI 10),(vt 4))) (fun _ _ _=>kq1 rfl rfl (by decide) rfl);kbh h (fun x1 h1 h=>have H:=H.t 10 [.int .i64 x1,.int .u8 (yaa .u8 x1),.str [yag (yah (yaa .u8 x1))]]|>.q 8 (.conv .u8 (cT 7))|>.q 9 (.b2s (.c (.im [[(vt 8)]] true)))|>.c (p:=(.bin .add (cI 48) (cT 6),(vt 7))) (fun _ _ _=>fun _=>by subst h1;kernel_rfl);kac h (fun h2 h=>kbh h (fun x3 h3 h=>have H:=H.t 12 [.str x3,.int .i64 (yaa .i64 (yak p1 10))]|>.c (p:=(.bin .add (cT 9) (cT 1),(vt 10))) (fun _ _ _=>kbm (a:=[yag (yah (yaa .u8 x1))]) (b:=p0) (by kernel_rfl) (by kernel_rfl) h2 (by subst h3;kernel_rfl))|>.c (p:=(.bin .quo (cT 2) (cI 10),(vt 11))) (fun _ _ _=>kq0 rfl rfl (by decide) rfl);H.k [0] [0,3,4] [] [(vt 0),(vt 10),(vt 11)] [] 1 _ (kok _ _ _ _) (kol _ _ _ _) (fun _ hi S=>ih _ _ _ hi h S))))))
def koj (fu:Nat) (n:Int):Option AV:=
 kfh fu n [] n
def k1i:List AV:=[(vt 0)]
def ks7 (n:Int) (σ:Nat->Nat):Val:=(kal ([.int .i64 n]) ([]) [] σ 0)
def qg4 (n:Int) (_σ:Nat->Nat):List AV:=[(.int .i64 n)]
def qg5 (_n:Int) (_σ:Nat->Nat):List Blk:=[]
theorem qg2 (n:Int) (σ:Nat->Nat):k1i.map (gm (ks7 n σ))=qg4 n σ:=by kernel_rfl
theorem qg3 (n:Int) (σ:Nat->Nat):([]:List Blk).map (gB (ks7 n σ))=qg5 n σ:=by kernel_rfl
theorem qhb {fu:Nat} (n:Int) {r0:AV} (h:koj fu n=some r0):kak FF 42 [(.int .i64 n)] r0:=by
 unfold koj at h;have hσ: ∀ i j:Nat,(fun i:Nat=>i) i=(fun i:Nat=>i) j->i=j:=fun _ _ e=>e
 exact kbq (ρ:=ks7 n (fun i=>i)) (xs:=k1i) (by kernel_rfl) rfl rfl (by kernel_rfl) (fun z0 S=>have H:=Tok.start hσ S 0 1 0 0 ([.int .i64 n]) ([]) [] (.n) .n (qg2 _ _) (qg3 _ _);H.k [0] [0,3,4] [] [(vt 0),(.str []),(vt 0)] [] 0 _ (kok _ _ _ _) (kol _ _ _ _) (fun _ hi S=>qg9 _ _ _ _ hi h S))
theorem wI {x:Int} (h: -9223372036854775808<=x/\x<=9223372036854775807):yaa .i64 x=x:=by
 unfold yaa;simp[yau,yaw];omega
theorem wB {x:Int} (h:0<=x/\x<=255):yaa .u8 x=x:=by
 unfold yaa;simp[yau,yaw];omega
theorem kq5 (m:Int):yag (yah (yaa .u8 (w64 (48+(if(yaa .i64 (0 - (yac m 10))) > (yac m 10) then(yaa .i64 (0 - (yac m 10))) else(yac m 10))))))=yag (48+m.natAbs % 10):=by
 have h1:(yac m 10).natAbs=m.natAbs % 10:=by rw[Int.natAbs_tmod];rfl
 have h2:m.natAbs % 10<10:=ya3 _ (by decide);generalize hd:yac m 10=d at h1;generalize m.natAbs % 10=q at h1 h2;have hw:yaa .i64 (0 - d)=0 - d:=wI (by omega);rw[hw];have e:(if(0 - d) > d then(0 - d) else d)=(q:Int):=by
  split <;> omega
 rw[e];unfold w64;rw[wI (by omega),wB (by omega)];congr 1
theorem kkx (m:Int):(yak m 10).natAbs=m.natAbs / 10:=by rw[Int.natAbs_tdiv];rfl
theorem ks9 (k:Nat) (n:Int) (p:List UInt8) (hp:p≠[]) (hl:p.length<=100):kfh (k+1) n p 0=some (.str (if n<0 then 45::p else p)):=by
 unfold kfh;have hb:(p == [])=false:=beq_eq_false_iff_ne.2 hp;rw[iq rfl,hb,ir (by simp)];by_cases h:n<0
 ·rw[iq h,iq h,iq (by simp only[yab,yaf];omega)];rfl
 ·rw[ir h,ir h]
theorem qg8 (n:Int): ∀ (k:Nat) (p:List UInt8) (m:Int),m≠0-> -9223372036854775808<=m/\m<=9223372036854775807->m.natAbs<10 ^ (k+1)->p.length+k<=90->
  kfh (k+2) n p m=some (.str (if n<0 then 45::(yad m.natAbs++p) else yad m.natAbs++p)):=by
 intro k
 induction k with
 |zero=>
  intro p m h0 hm hlt hl;have h10:m.natAbs<10:=by simpa using hlt
  have hz:yak m 10=0:=by
   have:=kkx m;omega
  unfold kfh;rw[ir h0];unfold kay;simp only[kq5,hz];rw[iq (by simp only[yab,yaf];omega),wI (by omega),yar,ks9 0 n _ (by simp) (by simp only[yab];omega)];rw[yaj h10,yax h10];simp
 |succ k ih=>
  intro p m h0 hm hlt hl;have hb: -9223372036854775808<=yak m 10/\yak m 10<=9223372036854775807:=by
   have:=kkx m;omega
  unfold kfh;rw[ir h0];unfold kay;simp only[kq5];rw[iq (by simp only[yab,yaf];omega),wI hb,yar];by_cases h10:m.natAbs<10
  ·have hz:yak m 10=0:=by
    have:=kkx m;omega
   rw[hz,ks9 (k+1) n _ (by simp) (by simp only[yab];omega),yaj h10,yax h10];simp
  ·have hne:yak m 10≠0:=fun e=>by
    have:=kkx m;rw[e] at this;simp at this;omega
   rw[ih _ _ hne hb (by rw[kkx];rw[Nat.pow_succ] at hlt;omega) (by simp only[yab];omega),kkx];have hd:yad m.natAbs=yad (m.natAbs / 10)++[yag (48+m.natAbs % 10)]:=by
    conv=>lhs;rw[yad]
    rw[dif_neg h10]
   rw[hd];simp
theorem qha {n:Int} (h: -9223372036854775808<=n/\n<=9223372036854775807):koj 25 n=some (.str (kab n)):=by
 rw[ki4 h.1 h.2];unfold koj;by_cases h0:n=0
 ·subst h0;unfold kfh;rw[iq rfl,iq (by simp)];unfold kay;simp only[kq5];rw[iq (by simp)];have hz:yaa .i64 (yak 0 10)=0:=by decide
  rw[hz,yay,ks9 23 0 _ (by simp) (by simp)];simp[yas,yaj]
 ·rw[qg8 n 23 [] n h0 h (by have:(10:Nat) ^ (23+1)=1000000000000000000000000:=by decide
                            omega) (by simp)]
  unfold yas;simp only[yay];split
  ·rfl
  ·rename_i hn;rw[show n.natAbs=n.toNat by omega]
theorem kgb (n:Int) (h: -9223372036854775808<=n/\n<=9223372036854775807):kak FF 42 [.int .i64 n] (.str (kab n)):=qhb n (qha h)
def kh4:Nat->List Cl->Bool->List UInt8->Int->Option AV
 |0,_,_,_,_=>none
 |fu+1,l,bl,p0,p1=>
  if p1<(l.length:Int) then
   if 0<=p1 then ya6 (l[yah p1]?) fun x2=>
   ya6 (kik x2.no) fun x3=>
   if p0.length+x3.length<=140737488355328 then if yai (p0++x3)+yai [32]<=140737488355328 then if -9223372036854775808<=x2.a/\x2.a<=9223372036854775807 then if yai ((p0++x3)++[32])+yai (kab x2.a)<=140737488355328 then if yai (((p0++x3)++[32])++(kab x2.a))+yai [32]<=140737488355328 then kay (((((p0++x3)++[32])++(kab x2.a))++[32])) fun x9=>
   if -9223372036854775808<=x2.b/\x2.b<=9223372036854775807 then if x9.length+yai (kab x2.b)<=140737488355328 then if yai (x9++(kab x2.b))+yai [10]<=140737488355328 then kh4 fu l bl ((x9++(kab x2.b))++[10]) (w64 (p1+1)) else none else none else none else none else none else none else none else none else none
  else
   some (.str p0)
def k2k:List AV:=[(vf 0),(vt 0),(vt 1)]
def k2j:List Blk:=[]
def kua (l:List Cl) (bl:Bool) (p0:List UInt8) (p1:Int) (σ:Nat->Nat):Val:=(kal ([.str p0,.int .i64 p1]) ([.im (yat eC l) bl]) [] σ 0)
def qjt (l:List Cl) (bl:Bool) (p0:List UInt8) (p1:Int) (_σ:Nat->Nat):List AV:=[(.im (yat eC l) bl),(.str p0),(.int .i64 p1)]
def qju (_l:List Cl) (_bl:Bool) (_p0:List UInt8) (_p1:Int) (_σ:Nat->Nat):List Blk:=[]
theorem kt8 (l:List Cl) (bl:Bool) (p0:List UInt8) (p1:Int) (σ:Nat->Nat):k2k.map (gm (kua l bl p0 p1 σ))=qjt l bl p0 p1 σ:=by kernel_rfl
theorem kt9 (l:List Cl) (bl:Bool) (p0:List UInt8) (p1:Int) (σ:Nat->Nat):k2j.map (gB (kua l bl p0 p1 σ))=qju l bl p0 p1 σ:=by kernel_rfl
theorem qjw: ∀ (fu:Nat),∀ (l:List Cl) (bl:Bool) (p0:List UInt8) (p1:Int) {r0:AV} {z0:St} {σ:Nat->Nat},(∀ i j,σ i=σ j->i=j)->kh4 fu l bl p0 p1=some r0->Sim (kua l bl p0 p1 σ) (kaa [0,3,4] k2k k2j) z0->J FF (kai FF 18) (kcm (kai FF 18) 0) (.code (.loop (kcl (kai FF 18) 0))) z0 r0:=by
 intro fu
 induction fu with
 |zero=>
  intro _ _ _ _ _ _ _ _ h _;unfold kh4 at h;cases h
 |succ fu ih=>
  intro l bl p0 p1 r0 z0 σ hσ h S;unfold kh4 at h;exact kcr (have H:=Tok.start hσ S 0 2 1 0 ([.str p0,.int .i64 p1]) ([.im (yat eC l) bl]) [] (.c (OkF.im ka5 _ _) <| .n) (.n) (kt8 _ _ _ _ _) (kt9 _ _ _ _ _);have H:=H.t 4 [.int .i64 l.length,.bool (decide (p1<(l.length:Int)))]|>.q 3 (.bin .lss (cT 1) (cT 2))|>.L (vf 0) 2;kaf h (fun h0 h=>have H:=H.y 3 h0;kac h (fun h1 h=>kbb h (fun x2 h2 h=>have H:=H.t 7 [.int .i64 x2.no,.int .i64 x2.a,.int .i64 x2.b]|>.I (vf 0) (vt 1) [(vt 4),(vt 5),(vt 6)] ka5 h1 h2;kbb h (fun x3 h3 h=>have H:=H.t 8 [.str x3]|>.s [(vt 4)] (vt 7) (k5f h3);kac h (fun h4 h=>have H:=H.jj (vt 0) (vt 7) 8 h4;kac h (fun h5 h=>have H:=H.jj (vt 8) (.str [32]) 9 (b:=[32]) h5;kac h (fun h6 h=>have H:=H.t 11 [.str (kab x2.a)]|>.s [(vt 5)] (vt 10) (kgb x2.a h6);kac h (fun h7 h=>have H:=H.jj (vt 9) (vt 10) 11 h7;kac h (fun h8 h=>kbh h (fun x9 h9 h=>have H:=H.t 13 [.str x9]|>.c (p:=(.bin .add (cT 11) (.c (.str [32])),(vt 12))) (fun _ _ _=>kbm (a:=(((p0++x3)++[32])++(kab x2.a))) (b:=[32]) (by kernel_rfl) (by kernel_rfl) h8 (by subst h9;kernel_rfl));kac h (fun h10 h=>have H:=H.t 14 [.str (kab x2.b)]|>.s [(vt 6)] (vt 13) (kgb x2.b h10);kac h (fun h11 h=>have H:=H.jj (vt 12) (vt 13) 14 h11;kac h (fun h12 h=>have H:=H.t 17 [.str ((x9++(kab x2.b))++[10]),.int .i64 (w64 (p1+1))]|>.q 16 (.bin .add (cT 1) (cI 1))|>.K (vt 14) (.str [10]) 15 (b:=[10]) h12;H.k [0] [0,3,4] [] [(vf 0),(vt 15),(vt 16)] [] 26 _ (kt8 _ _ _ _ _) (kt9 _ _ _ _ _) (fun _ hi S=>ih _ _ _ _ hi h S)))))))))))))) (fun h0 h=>have H:=H.w 3 h0;H.e [0] h))
def kow (fu:Nat) (l:List Cl) (bl:Bool):Option AV:=
 kh4 fu l bl [] 0
def k2i:List AV:=[(vf 0)]
def kt7 (l:List Cl) (bl:Bool) (σ:Nat->Nat):Val:=(kal ([]) ([.im (yat eC l) bl]) [] σ 0)
def qjr (l:List Cl) (bl:Bool) (_σ:Nat->Nat):List AV:=[(.im (yat eC l) bl)]
def qjs (_l:List Cl) (_bl:Bool) (_σ:Nat->Nat):List Blk:=[]
theorem qjp (l:List Cl) (bl:Bool) (σ:Nat->Nat):k2i.map (gm (kt7 l bl σ))=qjr l bl σ:=by kernel_rfl
theorem qjq (l:List Cl) (bl:Bool) (σ:Nat->Nat):([]:List Blk).map (gB (kt7 l bl σ))=qjs l bl σ:=by kernel_rfl
theorem qjy {fu:Nat} (l:List Cl) (bl:Bool) {r0:AV} (h:kow fu l bl=some r0):kak FF 18 [(.im (yat eC l) bl)] r0:=by
 unfold kow at h;have hσ: ∀ i j:Nat,(fun i:Nat=>i) i=(fun i:Nat=>i) j->i=j:=fun _ _ e=>e
 exact kbq (ρ:=kt7 l bl (fun i=>i)) (xs:=k2i) (by kernel_rfl) rfl rfl (by kernel_rfl) (fun z0 S=>have H:=Tok.start hσ S 0 0 1 0 ([]) ([.im (yat eC l) bl]) [] (.c (OkF.im ka5 _ _) <| .n) .n (qjp _ _ _) (qjq _ _ _);H.k [0] [0,3,4] [] [(vf 0),(.str []),(.int .i64 0)] [] 0 _ (kt8 _ _ _ _ _) (kt9 _ _ _ _ _) (fun _ hi S=>qjw _ _ _ _ _ hi h S))
theorem klx (c:Cl):okC c=true↔(0<=c.no/\c.no<=9)/\(-9223372036854775808<=c.a/\c.a<=9223372036854775807)/\ -9223372036854775808<=c.b/\c.b<=9223372036854775807:=by
 simp[okC,inI]
theorem kly (l:List Cl):okP l=true↔l.length<=100000/\ ∀ c ∈ l,okC c=true:=by
 simp[okP]
theorem kdn {n:Int} (h: -9223372036854775808<=n/\n<=9223372036854775807):(kab n).length<=21:=by
 rw[ki4 h.1 h.2];exact Lib.itoa_length_le n h.1 h.2
theorem k5e (no:Int):(ka9 no).length<=5:=by
 unfold ka9 knk
 (repeat' split) <;> simp
theorem qa3 {c:Cl} (h:okC c=true):(kbo c).length<=50:=by
 obtain⟨_,h1,h2⟩:=(klx c).1 h;have:=kdn h1;have:=kdn h2;have:=k5e c.no;simp only[kbo,yae,yab,yaf];omega
theorem kkn: ∀ {l:List Cl},(∀ c ∈ l,okC c=true)->(kbr l).length<=50*l.length
 | [],_=>by simp[kbr]
 |c::l,h=>by
  have h1:=qa3 (h c (by simp));have h2:=kkn (l:=l) fun d hd=>h d (by simp[hd])
  simp only[kbr,List.map_cons,List.flatten_cons,yae,yab] at h2 ⊢;omega
theorem qer (l m:List Cl):kbr (l++m)=kbr l++kbr m:=by simp[kbr]
theorem qes (c:Cl):kbr [c]=kbo c:=by simp[kbr]
theorem ksc {l:List Cl} {i:Nat} (h:i<l.length):kbr (l.take (i+1))=kbr (l.take i)++kbo l[i]:=by
 rw[List.take_succ_eq_append_getElem h,qer,qes]
theorem qjv (l:List Cl) (bl:Bool) (h:okP l=true): ∀ (k i:Nat),i+k=l.length->kh4 (k+1) l bl (kbr (l.take i)) i=some (.str (kbr l)):=by
 obtain⟨hn,hok⟩:=(kly l).1 h;intro k
 induction k with
 |zero=>
  intro i hi;unfold kh4;rw[ir (by omega),List.take_of_length_le (by omega)]
 |succ k ih=>
  intro i hi;have h1:i<l.length:=by omega
  have hc:=hok _ (List.getElem_mem h1);obtain⟨c1,c2,c3⟩:=(klx _).1 hc;have la:=kdn c2;have lb:=kdn c3;have lw:=k5e l[i].no;have hp:(kbr (l.take i)).length<=5000000:=by
   have:=kkn (l:=l.take i) fun c hc=>hok c (List.mem_of_mem_take hc)
   simp only[List.length_take] at this;omega
  have ih':=ih (i+1) (by omega);rw[ksc h1] at ih';generalize hpp:kbr (l.take i)=p at hp ih' ⊢;unfold kh4;rw[iq (by omega),iq (by omega)];simp only[yao,List.getElem?_eq_getElem h1,Option.bind_some,kik,iq c1,kay];rw[iq (by omega),iq (by simp only[yae,yab,yaf];omega),iq c2,iq (by simp only[yae,yab,yaf];omega),
   iq (by simp only[yae,yab,yaf];omega),iq c3,iq (by simp only[yae,yab,yaf];omega),iq (by simp only[yae,yab,yaf];omega),kbv h1 (by omega)]
  rw[←ih'];congr 1;simp only[kbo,List.append_assoc]
theorem qjx (l:List Cl) (bl:Bool) (h:okP l=true):kow (l.length+1) l bl=some (.str (kbr l)):=by
 unfold kow;exact qjv l bl h l.length 0 (by omega)
theorem qet (l:List Cl) (bl:Bool) (h:okP l=true):kak FF 18 [.im (l.map eC) bl] (.str (kbr l)):=qjy l bl (qjx l bl h)
def kme (l:List UInt8):Nat:=l.foldl (fun a d=>10*a+(d.toNat - 48)) 0
theorem kmv {u:Nat} (h: ¬u<10):yad u=yad (u / 10)++[yag (48+u % 10)]:=by
 conv=>lhs;rw[yad]
 rw[dif_neg h]
theorem km5 {d:Nat} (h:d<10):(yag (48+d)).toNat=48+d:=by
 rw[UInt8.toNat_ofNat'];omega
theorem kqe (u:Nat):kme (yad u)=u:=by
 induction u using yaz with
 |_ u ih=>
  by_cases h:u<10
  ·rw[yaj h];simp only[kme,yal,ya2,km5 h];omega
  ·rw[kmv h];have:=ih (u / 10) (by omega);unfold kme at this ⊢;rw[List.foldl_append,this,yal,ya2,km5 (ya3 _ (by decide))];omega
def kdm (c:UInt8):Prop:=48<=c.toNat/\c.toNat<=57
theorem kis (u:Nat): ∀ c ∈ yad u,kdm c:=by
 induction u using yaz with
 |_ u ih=>
  intro c hc;by_cases h:u<10
  ·rw[yaj h,yan] at hc;subst hc;unfold kdm;rw[km5 h];omega
  ·rw[kmv h,List.mem_append,yan] at hc;rcases hc with hc |rfl
   ·exact ih _ (by omega) c hc
   ·unfold kdm;rw[km5 (ya3 _ (by decide))];omega
theorem kmu (u:Nat):yad u≠[]:=by
 by_cases h:u<10
 ·rw[yaj h];simp
 ·rw[kmv h];simp
theorem qat (n:Int): ∀ c ∈ yas n,c=45\/kdm c:=by
 intro c hc;unfold yas at hc;split at hc
 ·rcases yav.1 hc with rfl |hc
  ·exact .inl rfl
  ·exact .inr (kis _ c hc)
 ·exact .inr (kis _ c hc)
theorem kyr {n:Int} {b:UInt8} (h1:b≠45) (h2:b.toNat<48\/57<b.toNat):b ∉ yas n:=fun h=>by
 rcases qat n b h with h |h
 ·exact h1 h
 ·unfold kdm at h;omega
theorem kxg {b:UInt8}: ∀ {u v x y:List UInt8},b ∉ u->b ∉ v->u++b::x=v++b::y->u=v/\x=y
 | [],[],_,_,_,_,h=>⟨rfl,(yap h).2⟩
 | [],c::v,_,_,_,hv,h=>absurd (by rw[(yap h).1];simp) hv
 |c::u,[],_,_,hu,_,h=>absurd (by rw[←(yap h).1];simp) hu
 |c::u,d::v,_,_,hu,hv,h=>by
  obtain⟨h1,h2⟩:=yap h;obtain⟨h3,h4⟩:=kxg (fun k=>hu (by simp[k])) (fun k=>hv (by simp[k])) h2;exact⟨by rw[h1,h3],h4⟩
theorem kpl {no:Int} (h:0<=no/\no<=9):(32:UInt8) ∉ ka9 no/\(10:UInt8) ∉ ka9 no/\ka9 no≠[]:=by
 rcases klq no with rfl |rfl |rfl |rfl |rfl |rfl |rfl |rfl |rfl |rfl |hh
 case inr.inr.inr.inr.inr.inr.inr.inr.inr.inr=>omega
 all_goals decide
def kfn (w:List UInt8):Int:=
 if w=[115,101,110,100] then 0 else if w=[114,101,99,118] then 1 else if w=[116,114,121] then 2 else if w=[112,117,116] then 3
 else if w=[108,111,111,107] then 4 else if w=[99,117,116] then 5 else if w=[115,101,116] then 6 else if w=[114,101,115,101,116] then 7
 else if w=[116,101,115,116] then 8 else if w=[121,105,101,108,100] then 9 else -1
theorem kpk {no:Int} (h:0<=no/\no<=9):kfn (ka9 no)=no:=by
 rcases klq no with rfl |rfl |rfl |rfl |rfl |rfl |rfl |rfl |rfl |rfl |hh
 case inr.inr.inr.inr.inr.inr.inr.inr.inr.inr=>omega
 all_goals decide
theorem qq7 {n m:Int} (hn:0<=n/\n<=9) (hm:0<=m/\m<=9) (h:ka9 n=ka9 m):n=m:=by
 rw[←kpk hn,←kpk hm,h]
theorem kgx {n:Int} (hn: -9223372036854775808<=n/\n<=9223372036854775807):(32:UInt8) ∉ kab n/\(10:UInt8) ∉ kab n/\kab n≠[]:=by
 rw[ki4 hn.1 hn.2];refine⟨kyr (by decide) (by decide),kyr (by decide) (by decide),?_⟩;unfold yas;split
 ·simp
 ·exact kmu _
theorem kz2 {l:List Cl} (h:kd9 l=true): ∀ c ∈ l,okC c=true:=fun c hc=>by
 have:=(k5j c).1 (List.all_eq_true.1 h c hc);exact(klx c).2 ⟨this.1,by omega,by omega⟩
theorem qd1 {l:List Cl} (h:kd9 l=true) (hn:l.length<=100000):okP l=true:=(kly l).2 ⟨hn,kz2 h⟩
def eT (t:List UInt8):List AV:=[.str t]
theorem kae:Enc eT 1:=⟨fun _=>rfl,fun _=>rfl,fun t=>by simp[eT,kcy,AV.beq]⟩
def kam (s:List UInt8):Int:=match yam s with
 | .ok v=>v
 |Go.Lib.NumEnd.syntax=>0
 | .range=>Lib.atoiSat s
def kes (s:List UInt8):Bool:=match yam s with
 | .ok _=>true
 |_=>false
def kba (s:List UInt8):Bool:=kes s && (inW (kam s) && kab (kam s) == s)
def kao (s:List UInt8):Bool:=s.getLast? == some 10
def kad (s:List UInt8):List UInt8:=if kao s=true then s.dropLast else s
def kas (s:List UInt8):Cl:=
 if kao s=true then match kbd 32 (kad s) with
  | [w,a,b]=>⟨kfn w,kam a,kam b⟩
  |_=>⟨0,0,0⟩
 else⟨0,0,0⟩
def kau (s:List UInt8):Bool:=
 kao s && match kbd 32 (kad s) with
  | [w,a,b]=>decide (0<=kfn w) && (kba a && kba b)
  |_=>false
theorem kw0 (s:List UInt8) (hl:s.length<=1000000) (h:kes s=true):kak FF 112 [.str s] (.tup [.int .i64 (kam s),.nili]):=⟨1,by
 show kAtoi [.str s]=_;unfold kes at h;simp only[kAtoi,kam];rw[iq (by omega)];split at h
 ·rename_i v hv;rw[hv]
 ·cases h⟩
theorem kwz (s:List UInt8) (hl:s.length<=1000000) (h: ¬kes s=true):kak FF 112 [.str s] (.tup [.int .i64 (kam s),.ifv]):=⟨1,by
 show kAtoi [.str s]=_;unfold kes at h;simp only[kAtoi,kam];rw[iq (by omega)];split at h
 ·exact absurd rfl h
 ·rename_i hv;cases hq:yam s
  ·exact absurd hq (hv _)
  ·rfl
  ·rfl⟩
theorem qox (s:List UInt8) (hl:s.length<=1000000):kak FF 158 [.str s,.str [32]] (.im ((kbd 32 s).map eT) true):=⟨1,by
 show kSplit [.str s,.str [32]]=_;simp only[kSplit];rw[iq (by omega)];rfl⟩
theorem km4: ∀ (l:List UInt8) (a:Nat),a<=l.foldl (fun a d=>10*a+(d.toNat - 48)) a
 | [],a=>Nat.le_refl a
 |d::l,a=>by
  have:=km4 l (10*a+(d.toNat - 48));rw[yal];omega
theorem k0f: ∀ (l:List UInt8) (a:Nat),(∀ c ∈ l,kdm c)->l.foldl (fun a d=>10*a+(d.toNat - 48)) a<=9223372036854775808->ya0 a l= .ok (l.foldl (fun a d=>10*a+(d.toNat - 48)) a)
 | [],a,_,_=>rfl
 |d::l,a,h,hl=>by
  have hd:=h d (by simp);unfold kdm at hd;have hg:=km4 l (10*a+(d.toNat - 48));rw[yal] at hl ⊢;unfold ya0;rw[iq hd,ir (by omega),ir (by omega),show a*10+(d.toNat - 48)=10*a+(d.toNat - 48) by omega];exact k0f l _ (fun c hc=>h c (by simp[hc])) hl
theorem kza {u:Nat} (h:u<=9223372036854775807):ya4 (yad u)= .ok u:=by
 have hv:=kqe u;unfold kme at hv;unfold ya4;rw[ir (kmu u),k0f _ 0 (kis u) (by rw[hv];omega),hv]
theorem k6j {n:Int} (h:inW n=true):yam (kab n)= .ok n:=by
 simp only[inW,decide_eq_true_eq] at h;rw[ki4 (by omega) (by omega)];unfold yas;split
 ·rename_i hn;unfold yam;simp only[show(45:UInt8).toNat=45 from rfl,or_true,if_true,kza (u:=n.natAbs) (by omega),not_true,false_and,if_false,true_and];rw[ir (by omega)];congr 1;omega
 ·rename_i hn;cases hd:yad n.toNat with
  |nil=>exact absurd hd (kmu _)
  |cons c r=>
   have hc:=kis n.toNat c (by rw[hd];simp);unfold kdm at hc;have hm:=kza (u:=n.toNat) (by omega);rw[hd] at hm;unfold yam;simp only;rw[ir (by omega),hm];simp only;rw[ir (by omega),ir (by omega),ir (by omega)];congr 1;omega
theorem klv {n:Int} (h:inW n=true):kba (kab n)=true/\kam (kab n)=n:=by
 have e:=k6j h;have hv:kam (kab n)=n:=by unfold kam;rw[e]
 have ho:kes (kab n)=true:=by unfold kes;rw[e]
 exact⟨by simp[kba,hv,ho,h],hv⟩
theorem kn2 {s:List UInt8} (h:kba s=true):inW (kam s)=true/\kab (kam s)=s:=by
 simp only[kba,yaq,beq_iff_eq] at h;exact h.2
def kkb (c:UInt8):List (List UInt8)->List UInt8
 | []=>[]
 | [p]=>p
 |p::ps=>p++c::kkb c ps
theorem k4j (c:UInt8): ∀ l,kkb c (kbd c l)=l
 | []=>rfl
 |x::l=>by
  have ih:=k4j c l;unfold kbd;split
  ·rename_i hx;subst hx;cases hs:kbd x l with
   |nil=>exact absurd hs (kv6 x l)
   |cons p ps=>rw[hs] at ih;simp only[kkb,List.nil_append];rw[ih]
  ·split
   ·rename_i p ps hs;rw[hs] at ih;cases ps with
    |nil=>simp only[kkb] at ih ⊢;rw[ih]
    |cons q qs=>simp only[kkb,List.cons_append] at ih ⊢;rw[ih]
   ·rename_i hs;exact absurd hs (kv6 c l)
theorem qoy {c:UInt8} {l a b d:List UInt8} (h:kbd c l=[a,b,d]):l=a++c::(b++c::d):=by
 have:=k4j c l;rw[h] at this;simpa[kkb] using this.symm
theorem ko9 {c:UInt8}: ∀ {l p:List UInt8},p ∈ kbd c l->p.length<=l.length
 | [],p,h=>by
   simp only[kbd,yan] at h;subst h;simp
 |x::l,p,h=>by
  unfold kbd at h;split at h
  ·rcases yav.1 h with rfl |h
   ·simp
   ·have:=ko9 h;simp only[yab];omega
  ·split at h
   ·rename_i q qs hs;rcases yav.1 h with rfl |h
    ·have:=ko9 (l:=l) (p:=q) (by rw[hs];simp);simp only[yab];omega
    ·have:=ko9 (l:=l) (p:=p) (by rw[hs];simp[h]);simp only[yab];omega
   ·rename_i hs;exact absurd hs (kv6 c l)
theorem ke8 {s:List UInt8}:kao s=true↔ ∃ t,s=t++[10]:=by
 unfold kao;rw[beq_iff_eq,List.getLast?_eq_some_iff]
theorem kj1 (t:List UInt8):kad (t++[10])=t:=by
 unfold kad;rw[iq (ke8.2 ⟨t,rfl⟩),List.dropLast_concat]
theorem kxf (s:List UInt8):(kad s).length<=s.length:=by
 unfold kad;split
 ·rw[List.length_dropLast];omega
 ·exact Nat.le_refl _
theorem qq8 (w:List UInt8):(0<=kfn w/\kfn w<=9/\ka9 (kfn w)=w)\/kfn w= -1:=by
 unfold kfn
 (repeat' split) <;> first |exact .inr rfl |(rename_i h;subst h;exact .inl ⟨by decide,by decide,by decide⟩)
theorem krx {s:List UInt8} (h:kau s=true):kdt (kas s)=true/\kbo (kas s)=s:=by
 simp only[kau,yaq] at h;obtain⟨h1,h2⟩:=h;obtain⟨t,rfl⟩:=ke8.1 h1;unfold kas;rw[iq h1];rw[kj1] at h2 ⊢;split at h2
 ·rename_i w a b hs;simp only[yaq,decide_eq_true_eq] at h2;obtain⟨h3,h4,h5⟩:=h2;obtain⟨a1,a2⟩:=kn2 h4;obtain⟨b1,b2⟩:=kn2 h5;rcases qq8 w with⟨w1,w2,w3⟩ |hw
  ·refine⟨by simp[kdt,w1,w2,a1,b1],?_⟩;simp only[kbo,w3,a2,b2];rw[qoy hs];simp
  ·omega
 ·cases h2
theorem kyw {c:Cl} (h:kdt c=true):kau (kbo c)=true/\kas (kbo c)=c:=by
 have h0:(0<=c.no/\c.no<=9)/\inW c.a=true/\inW c.b=true:=by simpa[kdt] using h
 obtain⟨h1,h2,h3⟩:=h0;obtain⟨n1,n2⟩:=klv h2;obtain⟨n3,n4⟩:=klv h3;have k2: -9223372036854775808<=c.a/\c.a<=9223372036854775807:=by simp only[inW,decide_eq_true_eq] at h2;omega
 have k3: -9223372036854775808<=c.b/\c.b<=9223372036854775807:=by simp only[inW,decide_eq_true_eq] at h3;omega
 have e:kbo c=(ka9 c.no++32::(kab c.a++32::kab c.b))++[10]:=by simp[kbo]
 have he:kao (kbo c)=true:=ke8.2 ⟨_,e⟩;have hs:kbd 32 (kad (kbo c))=[ka9 c.no,kab c.a,kab c.b]:=by
  rw[e,kj1,ko8 (kpl h1).1,ko8 (kgx k2).1,kv7 (kgx k3).1]
 refine⟨?_,?_⟩
 ·unfold kau;rw[he,hs];simp[kpk h1,h1.1,n1,n3]
 ·unfold kas;rw[iq he,hs];simp[kpk h1,n2,n4]
def koh (s:List UInt8):Option AV:=
 if(s.length:Int) ≥ 1 then
  if 0<=(w64 ((s.length:Int) - 1))/\(w64 ((s.length:Int) - 1))<=(s.length:Int) then some (.bool ((ya1 (yah (w64 ((s.length:Int) - 1))) s) == [10])) else none
 else
  some (.bool false)
def k04:List AV:=[(vt 0),(.str [10])]
def ksl (s:List UInt8) (σ:Nat->Nat):Val:=(kal ([.str s]) ([]) [] σ 0)
def qfv (s:List UInt8) (_σ:Nat->Nat):List AV:=[(.str s),(.str [10])]
def qfw (_s:List UInt8) (_σ:Nat->Nat):List Blk:=[]
theorem qft (s:List UInt8) (σ:Nat->Nat):k04.map (gm (ksl s σ))=qfv s σ:=by kernel_rfl
theorem qfu (s:List UInt8) (σ:Nat->Nat):([]:List Blk).map (gB (ksl s σ))=qfw s σ:=by kernel_rfl
theorem qfy (s:List UInt8) {r0:AV} (h:koh s=some r0):kak FF 195 [(.str s),(.str [10])] r0:=by
 unfold koh at h;have hσ: ∀ i j:Nat,(fun i:Nat=>i) i=(fun i:Nat=>i) j->i=j:=fun _ _ e=>e
 exact kbq (ρ:=ksl s (fun i=>i)) (xs:=k04) (by kernel_rfl) rfl rfl (by kernel_rfl) (fun z0 S=>have H:=Tok.start hσ S 0 1 0 0 ([.str s]) ([]) [] (.n) .n (qft _ _) (qfu _ _);have H:=H.t 3 [.int .i64 s.length,.bool (decide ((s.length:Int) ≥ 1))]|>.q 1 (.len 1 (cT 0))|>.q 2 (.bin .geq (cT 1) (cI 1));kaf h (fun h0 h=>have H:=H.t 4 [.int .i64 (w64 ((s.length:Int) - 1))]|>.q 3 (.bin .sub (cT 1) (cI 1))|>.y 2 h0;kac h (fun _ h=>have H:=H.t 6 [.str (ya1 (yah (w64 ((s.length:Int) - 1))) s),.bool ((ya1 (yah (w64 ((s.length:Int) - 1))) s) == [10])]|>.q 5 (.bin .eql (cT 4) (.c (.str [10])))|>.c (p:=(.slT (cT 0) (some (cT 3)) none,(vt 4))) (fun _ _ _=>kcu (l:=s) (l':=(ya1 (yah (w64 ((s.length:Int) - 1))) s)) (lo:=(some ((vt 3),((w64 ((s.length:Int) - 1)):Int)))) (hi:=none) (by kernel_rfl) ⟨.i64,by kernel_rfl⟩ trivial (by simp only[ka3];omega) (by simp only[ka3];exact khi _ _) (by kernel_rfl));H.e [] h)) (fun h0 h=>have H:=H.w 2 h0;H.e [] h))
def kor (s:List UInt8):Option AV:=
 if s.length<=1000000 then if kes s=true then
  if(kam s) ≥ (-4611686018427387904) then
   if(kam s)<=4611686018427387904 then
     if -9223372036854775808<=(kam s)/\(kam s)<=9223372036854775807 then some (.tup [(.int .i64 (kam s)),(.bool ((kab (kam s)) == s))]) else none
   else
     some (.tup [(.int .i64 (kam s)),(.bool false)])
  else
   some (.tup [(.int .i64 (kam s)),(.bool false)])
 else
  some (.tup [(.int .i64 (kam s)),(.bool false)]) else none
def k16:List AV:=[(vt 0)]
def ktw (s:List UInt8) (σ:Nat->Nat):Val:=(kal ([.str s]) ([]) [] σ 0)
def qit (s:List UInt8) (_σ:Nat->Nat):List AV:=[(.str s)]
def qiu (_s:List UInt8) (_σ:Nat->Nat):List Blk:=[]
theorem qir (s:List UInt8) (σ:Nat->Nat):k16.map (gm (ktw s σ))=qit s σ:=by kernel_rfl
theorem qis (s:List UInt8) (σ:Nat->Nat):([]:List Blk).map (gB (ktw s σ))=qiu s σ:=by kernel_rfl
theorem qiw (s:List UInt8) {r0:AV} (h:kor s=some r0):kak FF 161 [(.str s)] r0:=by
 unfold kor at h;have hσ: ∀ i j:Nat,(fun i:Nat=>i) i=(fun i:Nat=>i) j->i=j:=fun _ _ e=>e
 exact kbq (ρ:=ktw s (fun i=>i)) (xs:=k16) (by kernel_rfl) rfl rfl (by kernel_rfl) (fun z0 S=>have H:=Tok.start hσ S 0 1 0 0 ([.str s]) ([]) [] (.n) .n (qir _ _) (qis _ _);kac h (fun h0 h=>kaf h (fun h1 h=>have H:=H.t 3 [.int .i64 (kam s),.bool (decide ((kam s) ≥ (-4611686018427387904)))]|>.q 2 (.bin .geq (cT 1) (cI (-4611686018427387904)))|>.s [(vt 0)] (.tup [(vt 1),.nili]) (kw0 s h0 h1);kaf h (fun h2 h=>have H:=H.t 4 [.bool (decide ((kam s)<=4611686018427387904))]|>.q 3 (.bin .leq (cT 1) (cI 4611686018427387904))|>.y 2 h2;kaf h (fun h3 h=>have H:=H.y 3 h3;kac h (fun h4 h=>have H:=H.t 6 [.str (kab (kam s)),.bool ((kab (kam s)) == s)]|>.q 5 (.bin .eql (cT 4) (cT 0))|>.s [(vt 1)] (vt 4) (kbk (kam s) h4);H.e [] h)) (fun h3 h=>have H:=H.w 3 h3;H.e [] h)) (fun h2 h=>have H:=H.w 2 h2;H.e [] h)) (fun h1 h=>have H:=H.t 2 [.int .i64 (kam s)]|>.s [(vt 0)] (.tup [(vt 1),.ifv]) (kwz s h0 h1);H.e [] h)))
theorem kwk {n:Nat} (h:1<=n) (hn:n<=1000000):w64 ((n:Int) - 1)=((n - 1:Nat):Int):=by
 unfold w64 yaa;simp[yau,yaw];omega
theorem qfx (s:List UInt8) (hl:s.length<=1000000):koh s=some (.bool (kao s)):=by
 unfold koh;by_cases h:(s.length:Int) ≥ 1
 ·have h1:1<=s.length:=by omega
  rw[iq h,kwk h1 hl,iq (by omega)];congr 2;have hne:s≠[]:=by intro e;subst e;simp at h1
  obtain⟨t,x,rfl⟩: ∃ t x,s=t++[x]:=⟨s.dropLast,s.getLast hne,(List.dropLast_concat_getLast hne).symm⟩;rw[yao,yae,List.length_singleton,Nat.add_sub_cancel,List.drop_left];unfold kao;rw[List.getLast?_concat,Bool.eq_iff_iff];simp
 ·rw[ir h];have:s=[]:=List.eq_nil_of_length_eq_zero (by omega);subst this;rfl
theorem k7m (s:List UInt8) (hl:s.length<=1000000):kak FF 195 [.str s,.str [10]] (.bool (kao s)):=qfy s (qfx s hl)
theorem qiv (s:List UInt8) (hl:s.length<=1000000):kor s=some (.tup [.int .i64 (kam s),.bool (kba s)]):=by
 unfold kor kba inW;rw[iq hl];by_cases h1:kes s=true
 ·rw[iq h1];by_cases h2:kam s ≥ -4611686018427387904
  ·rw[iq h2];by_cases h3:kam s<=4611686018427387904
   ·rw[iq h3,iq (by omega)];simp[h1,h2,h3]
   ·rw[ir h3];simp[h3]
  ·rw[ir h2];have h2': ¬ -4611686018427387904<=kam s:=h2;simp[h2']
 ·rw[ir h1];simp[h1]
theorem kc6 (s:List UInt8) (hl:s.length<=1000000):kak FF 161 [.str s] (.tup [.int .i64 (kam s),.bool (kba s)]):=qiw s (qiv s hl)
def kog (s:List UInt8):Option AV:=
 if s.length<=1000000 then if(!(kao s))=true then
  some (.tup [(.str s),(.bool false)])
 else
  if 0<=(w64 ((s.length:Int) - 1))/\(w64 ((s.length:Int) - 1))<=(s.length:Int) then some (.tup [(.str (ya5 (yah (w64 ((s.length:Int) - 1))) s)),(.bool true)]) else none else none
def k0y:List AV:=[(vt 0),(.str [10])]
def ksf (s:List UInt8) (σ:Nat->Nat):Val:=(kal ([.str s]) ([]) [] σ 0)
def qe7 (s:List UInt8) (_σ:Nat->Nat):List AV:=[(.str s),(.str [10])]
def qe8 (_s:List UInt8) (_σ:Nat->Nat):List Blk:=[]
theorem qe5 (s:List UInt8) (σ:Nat->Nat):k0y.map (gm (ksf s σ))=qe7 s σ:=by kernel_rfl
theorem qe6 (s:List UInt8) (σ:Nat->Nat):([]:List Blk).map (gB (ksf s σ))=qe8 s σ:=by kernel_rfl
theorem qfa (s:List UInt8) {r0:AV} (h:kog s=some r0):kak FF 155 [(.str s),(.str [10])] r0:=by
 unfold kog at h;have hσ: ∀ i j:Nat,(fun i:Nat=>i) i=(fun i:Nat=>i) j->i=j:=fun _ _ e=>e
 exact kbq (ρ:=ksf s (fun i=>i)) (xs:=k0y) (by kernel_rfl) rfl rfl (by kernel_rfl) (fun z0 S=>have H:=Tok.start hσ S 0 1 0 0 ([.str s]) ([]) [] (.n) .n (qe5 _ _) (qe6 _ _);kac h (fun h0 h=>have H:=H.t 3 [.bool (kao s),.bool (!(kao s))]|>.q 2 (.un .not (cT 1))|>.s [(vt 0),(.str [10])] (vt 1) (k7m s h0);kaf h (fun h1 h=>have H:=H.m 2 true h1;H.e [] h) (fun h1 h=>have H:=H.t 5 [.int .i64 s.length,.int .i64 (w64 ((s.length:Int) - 1))]|>.q 3 (.len 1 (cT 0))|>.q 4 (.bin .sub (cT 3) (cI 1))|>.m 2 false (bF h1);kac h (fun _ h=>have H:=H.t 6 [.str (ya5 (yah (w64 ((s.length:Int) - 1))) s)]|>.c (p:=(.slT (cT 0) none (some (cT 4)),(vt 5))) (fun _ _ _=>kcu (l:=s) (l':=(ya5 (yah (w64 ((s.length:Int) - 1))) s)) (lo:=none) (hi:=(some ((vt 4),((w64 ((s.length:Int) - 1)):Int)))) (by kernel_rfl) trivial ⟨.i64,by kernel_rfl⟩ (by simp only[ka3];omega) (by simp[ka3]) (by kernel_rfl));H.e [] h))))
theorem qe9 (s:List UInt8) (hl:s.length<=1000000):kog s=some (.tup [.str (kad s),.bool (kao s)]):=by
 unfold kog kad;rw[iq hl];by_cases h:kao s=true
 ·obtain⟨t,rfl⟩:=ke8.1 h;have h1:1<=(t++[10]).length:=by simp
  rw[ir (by simp[h]),kwk h1 hl,iq (by omega),iq h,h];congr 5;rw[yao,List.dropLast_eq_take]
 ·rw[iq (by simp[h]),ir h];simp[h]
theorem k7a (s:List UInt8) (hl:s.length<=1000000):kak FF 155 [.str s,.str [10]] (.tup [.str (kad s),.bool (kao s)]):=qfa s (qe9 s hl)
def kse (s:List UInt8):Option AV:=
 if s.length<=1000000 then some (.tup [(.str (kad s)),(.bool (kao s))]) else none
def k02:List AV:=[(vt 0),(.str [10])]
def ksj (s:List UInt8) (σ:Nat->Nat):Val:=(kal ([.str s]) ([]) [] σ 0)
def qfl (s:List UInt8) (_σ:Nat->Nat):List AV:=[(.str s),(.str [10])]
def qfm (_s:List UInt8) (_σ:Nat->Nat):List Blk:=[]
theorem qe3 (s:List UInt8) (σ:Nat->Nat):k02.map (gm (ksj s σ))=qfl s σ:=by kernel_rfl
theorem qe4 (s:List UInt8) (σ:Nat->Nat):([]:List Blk).map (gB (ksj s σ))=qfm s σ:=by kernel_rfl
theorem qfn (s:List UInt8) {r0:AV} (h:kse s=some r0):kak FF 111 [(.str s),(.str [10])] r0:=by
 unfold kse at h;have hσ: ∀ i j:Nat,(fun i:Nat=>i) i=(fun i:Nat=>i) j->i=j:=fun _ _ e=>e
 exact kbq (ρ:=ksj s (fun i=>i)) (xs:=k02) (by kernel_rfl) rfl rfl (by kernel_rfl) (fun z0 S=>have H:=Tok.start hσ S 0 1 0 0 ([.str s]) ([]) [] (.n) .n (qe3 _ _) (qe4 _ _);kac h (fun h0 h=>have H:=H.t 3 [.str (kad s),.bool (kao s)]|>.s [(vt 0),(.str [10])] (.tup [(vt 1),(vt 2)]) (k7a s h0);H.e [] h))
theorem kdg (s:List UInt8) (hl:s.length<=1000000):kak FF 111 [.str s,.str [10]] (.tup [.str (kad s),.bool (kao s)]):=qfn s (by unfold kse;rw[iq hl])
end Go.Proofs.Hz
