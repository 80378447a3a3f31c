/-
  Symbolic runs: facts, calls, regions, code.
  Conditions: none.
-/
import Derived.Test.YtamikoglpnoicaaGreatDoorT04
namespace Go.Proofs.Hz
open Bool renaming and_eq_true->yab,false_eq_true->yac
open List renaming mem_cons_of_mem->yaa,map_map->yad
def AOp.mapO (f:AO->AO):AOp->AOp
 | .mov x=> .mov (f x)
 | .pick c a b=> .pick (f c) (f a) (f b)
 | .alloc t z=> .alloc t z
 | .box t x=> .box t (f x)
 | .build z ps=> .build z (ps.map fun p=>(p.1,p.2.1,f p.2.2))
 | .bsl t sz z ps=> .bsl t sz z (ps.map fun p=>(p.1,p.2.1,f p.2.2))
 | .load g n a=> .load g n (f a)
 | .store n a x=> .store n (f a) (f x)
 | .nilck x=> .nilck (f x)
 | .bin op x y=> .bin op (f x) (f y)
 | .eqa neg ks x y=> .eqa neg ks (f x) (f y)
 | .eqn k neg x y=> .eqn k neg (f x) (f y)
 | .eqb neg x y=> .eqb neg (f x) (f y)
 | .un op x=> .un op (f x)
 | .conv k x=> .conv k (f x)
 | .mvs x=> .mvs (f x)
 | .b2s x=> .b2s (f x)
 | .mkfn g a b=> .mkfn g (a.map f) (b.map f)
 | .faddr off x=> .faddr off (f x)
 | .fld g off n x=> .fld g off n (f x)
 | .iaA n sz x i=> .iaA n sz (f x) (f i)
 | .iaS sz x i=> .iaS sz (f x) (f i)
 | .ixA g n sz x i=> .ixA g n sz (f x) (f i)
 | .ixS x i=> .ixS (f x) (f i)
 | .slA n sz x lo hi mx=> .slA n sz (f x) (lo.map f) (hi.map f) (mx.map f)
 | .slS sz x lo hi mx=> .slS sz (f x) (lo.map f) (hi.map f) (mx.map f)
 | .slT x lo hi=> .slT (f x) (lo.map f) (hi.map f)
 | .a2p n x=> .a2p n (f x)
 | .mksl t sz b z l c=> .mksl t sz b z (f l) (f c)
 | .mkmap=> .mkmap
 | .look kk z ok m k=> .look kk z ok (f m) (f k)
 | .mapup kk m k x=> .mapup kk (f m) (f k) (f x)
 | .extr i x=> .extr i (f x)
 | .app t sz b d x=> .app t sz b (f d) (f x)
 | .appn t sz b z d x=> .appn t sz b z (f d) (f x)
 | .cpy sz d x=> .cpy sz (f d) (f x)
 | .len k x=> .len k (f x)
 | .lenc n=> .lenc n
 | .cap x=> .cap (f x)
 | .mxi x y=> .mxi (f x) (f y)
 | .mni x y=> .mni (f x) (f y)
 | .del kk m k=> .del kk (f m) (f k)
 | .cvp t n x=> .cvp t n (f x)
 | .usd x=> .usd (f x)
 | .ust t p n=> .ust t (f p) (f n)
 | .s2b t x=> .s2b t (f x)
 | .eqp n x y=> .eqp n (f x) (f y)
 | .mki t x=> .mki t (f x)
 | .eqi n t x y=> .eqi n t (f x) (f y)
 | .ext k x y=> .ext k (f x) (f y)
 | .call g as=> .call (f g) (as.map f)
 | .fail=> .fail
def AOp.inst (s:St) (o:AOp):AOp:=o.mapO fun x=> .c (x.ev s)
def AO.gmO (ρ:Val):AO->AO
 | .t n=> .t n
 | .c v=> .c (gm ρ v)
def AOp.gmO (ρ:Val) (o:AOp):AOp:=o.mapO (AO.gmO ρ)
theorem qd5 (s:St) (o:AOp):opA s (o.inst s)=opA s o:=by
 have hl: ∀ l:List AO,(l.map fun x=>AO.c (x.ev s)).map (AO.ev s)=l.map (AO.ev s):=fun l=>by rw[yad];rfl
 have hp: ∀ l:List (Nat×Nat×AO),evp s (l.map fun p=>(p.1,p.2.1,AO.c (p.2.2.ev s)))=evp s l:=fun l=>by unfold evp;rw[yad];rfl
 have hn: ∀ d (x:Option AO),kcv s d (x.map fun x=>AO.c (x.ev s))=kcv s d x:=fun d x=>by cases x <;> rfl
 have hs: ∀ x:Option AO,(x.map fun x=>AO.c (x.ev s)).isSome=x.isSome:=fun x=>by cases x <;> rfl
 have hb: ∀ a b (l h m:Option AO),kck s a b (l.map fun x=>AO.c (x.ev s)) (h.map fun x=>AO.c (x.ev s)) (m.map fun x=>AO.c (x.ev s))=kck s a b l h m:=fun a b l h m=>by
  unfold kck;simp only[hn,hs]
 have hb0: ∀ a b (l h:Option AO),kck s a b (l.map fun x=>AO.c (x.ev s)) (h.map fun x=>AO.c (x.ev s)) none=kck s a b l h none:=fun a b l h=>hb a b l h none
 have hc: ∀ v,AO.ev s (.c v)=v:=fun _=>rfl
 cases o <;> simp only[AOp.inst,AOp.mapO,opA,hc,hl,hp,hb,hb0,hs]
structure AFact where
 own:Bool
 sz:Nat
 by_:Nat
 b:AV
 x:AV
 k:Nat
structure NFact where
 sz:Nat
 by_:Nat
 z:List AV
 b:AV
 n:AV
 k:Nat
structure Facts where
 ops:List (AOp×AV)
 apps:List AFact
 apns:List NFact
 calls:List (Nat×List AV×AV)
def AO.eqB:AO->AO->Bool
 | .c a,.c b=>AV.beq a b
 |_,_=>false
def AO.eqO:Option AO->Option AO->Bool
 |none,none=>true
 |some a,some b=>a.eqB b
 |_,_=>false
def AOp.eqB:AOp->AOp->Bool
 | .mov x,.mov x'=>x.eqB x'
 | .bin op x y,.bin op' x' y'=>decide (op=op') && (x.eqB x' && y.eqB y')
 | .un op x,.un op' x'=>decide (op=op') && x.eqB x'
 | .conv k x,.conv k' x'=>decide (k=k') && x.eqB x'
 | .len k x,.len k' x'=>k == k' && x.eqB x'
 | .eqa n ks x y,.eqa n' ks' x' y'=>n == n' && (ks == ks' && (x.eqB x' && y.eqB y'))
 | .eqn k n x y,.eqn k' n' x' y'=>k == k' && (n == n' && (x.eqB x' && y.eqB y'))
 | .eqb n x y,.eqb n' x' y'=>n == n' && (x.eqB x' && y.eqB y')
 | .iaS sz x i,.iaS sz' x' i'=>sz == sz' && (x.eqB x' && i.eqB i')
 | .ixS x i,.ixS x' i'=>x.eqB x' && i.eqB i'
 | .slS sz x l h m,.slS sz' x' l' h' m'=>sz == sz' && (x.eqB x' && (AO.eqO l l' && (AO.eqO h h' && AO.eqO m m')))
 | .slT x l h,.slT x' l' h'=>x.eqB x' && (AO.eqO l l' && AO.eqO h h')
 | .b2s x,.b2s x'=>x.eqB x'
 | .mvs x,.mvs x'=>x.eqB x'
 | .mxi x y,.mxi x' y'=>x.eqB x' && y.eqB y'
 | .mni x y,.mni x' y'=>x.eqB x' && y.eqB y'
 | .cap x,.cap x'=>x.eqB x'
 | .nilck x,.nilck x'=>x.eqB x'
 | .app t a b x y,.app t' a' b' x' y'=>t == t' && (a == a' && (b == b' && (x.eqB x' && y.eqB y')))
 | .iaA n sz x i,.iaA n' sz' x' i'=>n == n' && (sz == sz' && (x.eqB x' && i.eqB i'))
 | .ixA g n sz x i,.ixA g' n' sz' x' i'=>g == g' && (n == n' && (sz == sz' && (x.eqB x' && i.eqB i')))
 | .ext k x y,.ext k' x' y'=>k == k' && (x.eqB x' && y.eqB y')
 | .usd x,.usd x'=>x.eqB x'
 |_,_=>false
theorem AO.eqB_eq {a b:AO} (h:a.eqB b=true):a=b:=by
 cases a <;> cases b <;> simp only[AO.eqB,yac] at h
 rw[AV.beq_eq h]
theorem AO.eqO_eq {a b:Option AO} (h:AO.eqO a b=true):a=b:=by
 cases a <;> cases b <;> simp only[AO.eqO,yac] at h
 ·rfl
 ·rw[AO.eqB_eq h]
theorem AOp.eqB_eq {a b:AOp} (h:a.eqB b=true):a=b:=by
 unfold AOp.eqB at h;split at h <;> (try simp only[yab,decide_eq_true_eq,beq_iff_eq,yac] at h)
 ·rw[AO.eqB_eq h]
 ·rw[h.1,AO.eqB_eq h.2.1,AO.eqB_eq h.2.2]
 ·rw[h.1,AO.eqB_eq h.2]
 ·rw[h.1,AO.eqB_eq h.2]
 ·rw[h.1,AO.eqB_eq h.2]
 ·rw[h.1,h.2.1,AO.eqB_eq h.2.2.1,AO.eqB_eq h.2.2.2]
 ·rw[h.1,h.2.1,AO.eqB_eq h.2.2.1,AO.eqB_eq h.2.2.2]
 ·rw[h.1,AO.eqB_eq h.2.1,AO.eqB_eq h.2.2]
 ·rw[h.1,AO.eqB_eq h.2.1,AO.eqB_eq h.2.2]
 ·rw[AO.eqB_eq h.1,AO.eqB_eq h.2]
 ·rw[h.1,AO.eqB_eq h.2.1,AO.eqO_eq h.2.2.1,AO.eqO_eq h.2.2.2.1,AO.eqO_eq h.2.2.2.2]
 ·rw[AO.eqB_eq h.1,AO.eqO_eq h.2.1,AO.eqO_eq h.2.2]
 ·rw[AO.eqB_eq h]
 ·rw[AO.eqB_eq h]
 ·rw[AO.eqB_eq h.1,AO.eqB_eq h.2]
 ·rw[AO.eqB_eq h.1,AO.eqB_eq h.2]
 ·rw[AO.eqB_eq h]
 ·rw[AO.eqB_eq h]
 ·rw[h.1,h.2.1,h.2.2.1,AO.eqB_eq h.2.2.2.1,AO.eqB_eq h.2.2.2.2]
 ·rw[h.1,h.2.1,AO.eqB_eq h.2.2.1,AO.eqB_eq h.2.2.2]
 ·rw[h.1,h.2.1,h.2.2.1,AO.eqB_eq h.2.2.2.1,AO.eqB_eq h.2.2.2.2]
 ·rw[h.1,AO.eqB_eq h.2.1,AO.eqB_eq h.2.2]
 ·rw[AO.eqB_eq h]
def kdx:List (AOp×AV)->AOp->Option AV
 | [],_=>none
 |(o,r)::l,x=>if o.eqB x then some r else kdx l x
def kej:List (Nat×List AV×AV)->Nat->List AV->Option AV
 | [],_,_=>none
 |(g,as,r)::l,f,xs=>if g == f && kcy as xs then some r else kej l f xs
def eB (b:UInt8):List AV:=[.int .u8 b.toNat]
def keo:List AFact->Bool->Nat->Nat->AV->AV->Option Nat
 | [],_,_,_,_,_=>none
 |p::l,o,sz,by_,b,x=>if p.own == o && (p.sz == sz && (p.by_ == by_ && (AV.beq p.b b && AV.beq p.x x))) then some p.k else keo l o sz by_ b x
structure AHold (ρ:Val) (o:Bool) (sz by_:Nat) (b x:AV) (k:Nat):Prop where
 told: ∃ A ca B,gm ρ b= .im A ca/\((∃ cb,gm ρ x= .im B cb)\/sz=1/\ ∃ t,gm ρ x= .str t/\B=t.map eB)/\ρ.v false k= .im (A++B) false/\(A.length+B.length)*by_<=kaq/\A.length+B.length<=kaq/\(o=false->ca=true/\B≠[])
 big:BIG<=k
 size:k % 1000=sz
 pos:0<sz
def kdf (ρ:Val) (l:List AFact):Prop:=∀ p ∈ l,AHold ρ p.own p.sz p.by_ p.b p.x p.k
theorem klr {ρ:Val}: ∀ {l:List AFact} {o:Bool} {sz by_:Nat} {b x:AV} {k:Nat},kdf ρ l->keo l o sz by_ b x=some k->AHold ρ o sz by_ b x k
 | [],_,_,_,_,_,_,_,h=>by cases h
 |p::l,o,sz,by_,b,x,k,hl,h=>by
  unfold keo at h;split at h
  ·rename_i he;cases h;simp only[yab,beq_iff_eq] at he;obtain⟨h1,h2,h3,h4,h5⟩:=he;have:=hl p (by simp);rw[h1,h2,h3,AV.beq_eq h4,AV.beq_eq h5] at this;exact this
  ·exact klr (fun q hq=>hl q (yaa _ hq)) h
def knr:List NFact->Nat->Nat->List AV->AV->AV->Option Nat
 | [],_,_,_,_,_=>none
 |p::l,sz,by_,z,b,n=>if p.sz == sz && (p.by_ == by_ && (kcy p.z z && (AV.beq p.b b && AV.beq p.n n))) then some p.k else knr l sz by_ z b n
structure NHold (ρ:Val) (sz by_:Nat) (z:List AV) (b n:AV) (k:Nat):Prop where
 told: ∃ A N kk,gm ρ b= .im A true/\gm ρ n= .int kk (N:Nat)/\N≠0/\ρ.v false k= .im (A++List.replicate N z) false/\(A.length+N)*by_<=kaq/\A.length+N<=kaq
 big:BIG<=k
 size:k % 1000=sz
 pos:0<sz
def kfq (ρ:Val) (l:List NFact):Prop:=∀ p ∈ l,NHold ρ p.sz p.by_ p.z p.b p.n p.k
theorem ky7 {ρ:Val}: ∀ {l:List NFact} {sz by_:Nat} {z:List AV} {b n:AV} {k:Nat},kfq ρ l->knr l sz by_ z b n=some k->NHold ρ sz by_ z b n k
 | [],_,_,_,_,_,_,_,h=>by cases h
 |p::l,sz,by_,z,b,n,k,hl,h=>by
  unfold knr at h;split at h
  ·rename_i he;cases h;simp only[yab,beq_iff_eq] at he;obtain⟨h1,h2,h3,h4,h5⟩:=he;have:=hl p (by simp);rw[h1,h2,kgp h3,AV.beq_eq h4,AV.beq_eq h5] at this;exact this
  ·exact ky7 (fun q hq=>hl q (yaa _ hq)) h
def kcq (ρ:Val) (l:List (AOp×AV)):Prop:=∀ p ∈ l,∀ s:St,opA s (p.1.gmO ρ)=some (gm ρ p.2,s)
def k5n (ρ:Val) (K:Nat->List AV->Option AV) (l:List (Nat×List AV×AV)):Prop:=∀ p ∈ l,K p.1 (p.2.1.map (gm ρ))=some (gm ρ p.2.2)
theorem ke3: ∀ {l:List (AOp×AV)} {o:AOp} {r:AV},kdx l o=some r->(o,r) ∈ l
 | [],_,_,h=>by cases h
 |(o',r')::l,o,r,h=>by
  unfold kdx at h;split at h
  ·rename_i he;cases h;rw[AOp.eqB_eq he];simp
  ·exact yaa _ (ke3 h)
theorem knq: ∀ {l:List (Nat×List AV×AV)} {f:Nat} {xs:List AV} {r:AV},kej l f xs=some r->(f,xs,r) ∈ l
 | [],_,_,_,h=>by cases h
 |(g,as,r')::l,f,xs,r,h=>by
  unfold kej at h;split at h
  ·rename_i he;cases h;simp only[yab,beq_iff_eq] at he;rw[he.1,kgp he.2];simp
  ·exact yaa _ (knq h)
theorem kq2 {ρ:Val} {s c:St} (S:Sim ρ s c) {l:List (AOp×AV)} (hl:kcq ρ l) {o:AOp} (hset:SetIn s o.looks) (hcl:o.cl=true) {r:AV} (h:kdx l (o.inst s)=some r):opA c o=some (gm ρ r,c):=by
 have h1:=hl _ (ke3 h) c;simp only at h1;rw[←h1,←qd5 c o];congr 1;have hl: ∀ {l:List AO},SetIn s (AO.tml l)->l.all AO.cl=true->(l.map fun x=>AO.c (x.ev c))=(l.map fun x=>AO.c (x.ev s)).map (AO.gmO ρ):=fun {l} h1 h2=>by
  have:=kj5 S h1 h2;have h3:(l.map (AO.ev c)).map AO.c=((l.map (AO.ev s)).map (gm ρ)).map AO.c:=by rw[this]
  simp only[yad] at h3 ⊢;exact h3
 have hp: ∀ {l:List (Nat×Nat×AO)},SetIn s (AO.tmp l)->(l.all fun p=>p.2.2.cl)=true->(l.map fun p=>(p.1,p.2.1,AO.c (p.2.2.ev c)))=(l.map fun p=>(p.1,p.2.1,AO.c (p.2.2.ev s))).map fun p=>(p.1,p.2.1,AO.gmO ρ p.2.2):=fun {l} h1 h2=>by
  have:=km1 S h1 h2;have h3:(evp c l).map (fun p=>(p.1,p.2.1,AO.c p.2.2))=((evp s l).map fun p=>(p.1,p.2.1,gm ρ p.2.2)).map (fun p=>(p.1,p.2.1,AO.c p.2.2)):=by rw[this]
  simp only[evp,yad] at h3 ⊢;exact h3
 have ho: ∀ {x:Option AO},SetIn s (AO.tmo x)->AO.clo x=true->(x.map fun x=>AO.c (x.ev c))=(x.map fun x=>AO.c (x.ev s)).map (AO.gmO ρ):=fun {x} h1 h2=>by
  cases x with
  |none=>rfl
  |some x=>simp only[Option.map_some,AO.gmO];rw[kag S h1 h2]
 cases o <;> simp only[AOp.looks] at hset <;> simp only[AOp.cl,yab] at hcl <;> simp only[AOp.inst,AOp.gmO,AOp.mapO]
 case mov x=>simp only[AO.gmO,kag S hset hcl]
 case box t x=>simp only[AO.gmO,kag S hset hcl]
 case load g n x=>simp only[AO.gmO,kag S hset hcl]
 case nilck x=>simp only[AO.gmO,kag S hset hcl]
 case un op x=>simp only[AO.gmO,kag S hset hcl]
 case conv k x=>simp only[AO.gmO,kag S hset hcl]
 case mvs x=>simp only[AO.gmO,kag S hset hcl]
 case b2s x=>simp only[AO.gmO,kag S hset hcl]
 case faddr o x=>simp only[AO.gmO,kag S hset hcl]
 case fld g o n x=>simp only[AO.gmO,kag S hset hcl]
 case a2p n x=>simp only[AO.gmO,kag S hset hcl]
 case extr i x=>simp only[AO.gmO,kag S hset hcl]
 case len k x=>simp only[AO.gmO,kag S hset hcl]
 case cap x=>simp only[AO.gmO,kag S hset hcl]
 case cvp t n x=>simp only[AO.gmO,kag S hset hcl]
 case usd x=>simp only[AO.gmO,kag S hset hcl]
 case s2b t x=>simp only[AO.gmO,kag S hset hcl]
 case mki t x=>simp only[AO.gmO,kag S hset hcl]
 case ust t a x=>simp only[AO.gmO,kag S hset.left hcl.1,kag S hset.right hcl.2]
 case eqp t a x=>simp only[AO.gmO,kag S hset.left hcl.1,kag S hset.right hcl.2]
 case eqi n t a x=>simp only[AO.gmO,kag S hset.left hcl.1,kag S hset.right hcl.2]
 case ext k a x=>simp only[AO.gmO,kag S hset.left hcl.1,kag S hset.right hcl.2]
 case store n a x=>simp only[AO.gmO,kag S hset.left hcl.1,kag S hset.right hcl.2]
 case bin op a x=>simp only[AO.gmO,kag S hset.left hcl.1,kag S hset.right hcl.2]
 case eqa neg ks a x=>simp only[AO.gmO,kag S hset.left hcl.1,kag S hset.right hcl.2]
 case eqn k neg a x=>simp only[AO.gmO,kag S hset.left hcl.1,kag S hset.right hcl.2]
 case eqb neg a x=>simp only[AO.gmO,kag S hset.left hcl.1,kag S hset.right hcl.2]
 case iaA n sz a x=>simp only[AO.gmO,kag S hset.left hcl.1,kag S hset.right hcl.2]
 case iaS sz a x=>simp only[AO.gmO,kag S hset.left hcl.1,kag S hset.right hcl.2]
 case ixA g n sz a x=>simp only[AO.gmO,kag S hset.left hcl.1,kag S hset.right hcl.2]
 case ixS a x=>simp only[AO.gmO,kag S hset.left hcl.1,kag S hset.right hcl.2]
 case mksl t sz b z a x=>simp only[AO.gmO,kag S hset.left hcl.2.1,kag S hset.right hcl.2.2]
 case look kk z ok a x=>simp only[AO.gmO,kag S hset.left hcl.2.1,kag S hset.right hcl.2.2]
 case appn t sz b z a x=>simp only[AO.gmO,kag S hset.left hcl.2.1,kag S hset.right hcl.2.2]
 case app t sz b a x=>simp only[AO.gmO,kag S hset.left hcl.1,kag S hset.right hcl.2]
 case cpy sz a x=>simp only[AO.gmO,kag S hset.left hcl.1,kag S hset.right hcl.2]
 case mxi a x=>simp only[AO.gmO,kag S hset.left hcl.1,kag S hset.right hcl.2]
 case mni a x=>simp only[AO.gmO,kag S hset.left hcl.1,kag S hset.right hcl.2]
 case del kk a x=>simp only[AO.gmO,kag S hset.left hcl.1,kag S hset.right hcl.2]
 case pick c a b=>simp only[AO.gmO,kag S hset.left hcl.1,kag S hset.right.left hcl.2.1,kag S hset.right.right hcl.2.2]
 case mapup kk c a b=>simp only[AO.gmO,kag S hset.left hcl.1,kag S hset.right.left hcl.2.1,kag S hset.right.right hcl.2.2]
 case build z ps=>rw[hp hset hcl.2]
 case bsl t sz z ps=>rw[hp hset hcl.2]
 case mkfn f a b=>rw[hl hset.left hcl.1,hl hset.right hcl.2]
 case slA n sz x lo hi mx=>rw[kag S hset.left hcl.1,ho hset.right.left hcl.2.1,ho hset.right.right.left hcl.2.2.1,ho hset.right.right.right hcl.2.2.2];rfl
 case slS sz x lo hi mx=>rw[kag S hset.left hcl.1,ho hset.right.left hcl.2.1,ho hset.right.right.left hcl.2.2.1,ho hset.right.right.right hcl.2.2.2];rfl
 case slT x lo hi=>rw[kag S hset.left hcl.1,ho hset.right.left hcl.2.1,ho hset.right.right hcl.2.2];rfl
 case call f xs=>rw[kag S hset.left hcl.1,hl hset.right hcl.2];rfl
def kgw (s:St) (l:List Nat):Bool:=l.all fun t=>(s.r.get t).isSome
theorem khp {s:St} {l:List Nat} (h:kgw s l=true):SetIn s l:=fun t ht=>Option.isSome_iff_exists.1 (List.all_eq_true.1 h t ht)
def kif (s:St) (sz:Nat) (v:AV):Option AV:=
 match v with
 | .var false j=>some (.var false j)
 | .var true j=>if sz=1 then some (.var true j) else none
 | .str b=>if sz=1 then some (.str b) else none
 | .im els c=>some (.im els c)
 | .sl id off n z _=>if z=sz then match s.h.get id with
   |some (.own j _ _)=>if off=0/\n=j/\BIG<=j then some (.var false j) else none
   |some (.cells cs _ _)=>if n<BIG then(kb2 cs off (n*sz)).map fun l=> .im (kb9 sz n l) true else none
   |_=>none
   else none
 |_=>none
def kpv (l:List AFact) (s:St) (t sz by_:Nat) (d x:AV):Option (AV×St):=
 match kif s sz x with
 |none=>none
 |some xr=>match d with
  | .var false j=>(keo l false sz by_ (.var false j) xr).map fun k=>(.sl s.nx 0 k sz none,s.new (.own k false t))
  | .im els c=>(keo l false sz by_ (.im els c) xr).map fun k=>(.sl s.nx 0 k sz none,s.new (.own k false t))
  | .nils=>(keo l false sz by_ (.im [] true) xr).map fun k=>(.sl s.nx 0 k sz none,s.new (.own k false t))
  | .sl id off n z c=>if z=sz then match c,s.h.get id with
    |none,some (.own j false ty)=>if ty=t then if off=0/\n=j/\BIG<=j then
      (keo l true sz by_ (.var false j) xr).map fun k=>(.sl s.nx 0 k sz none,{s with h:=(s.h.put id none).put s.nx (some (.own k false t)),nx:=s.nx+1})
     else if off=0/\n=0 then
      (keo l true sz by_ (.im [] true) xr).map fun k=>(.sl s.nx 0 k sz none,{s with h:=(s.h.put id none).put s.nx (some (.own k false t)),nx:=s.nx+1}) else none
     else none
    |none,some (.cells cs false ty)=>if off=0/\n*sz<=cs.length/\n<BIG/\ty=t then
     (keo l true sz by_ (.im (kb9 sz n (cs.take (n*sz))) true) xr).map fun k=>(.sl s.nx 0 k sz none,{s with h:=(s.h.put id none).put s.nx (some (.own k false t)),nx:=s.nx+1}) else none
    |some m,some (.cells cs _ _)=>if m=n/\n<BIG then match kb2 cs off (n*sz) with
      |some old=>(keo l false sz by_ (.im (kb9 sz n old) true) xr).map fun k=>(.sl s.nx 0 k sz none,s.new (.own k false t))
      |none=>none
     else none
    |_,_=>none
    else none
  |_=>none
def kvw (l:List AFact) (s:St) (t:Nat) (x:AV):Option (AV×St):=
 match x with
 | .var true j=>(keo l true 1 1 (.im [] true) (.var true j)).map fun k=>(.sl s.nx 0 k 1 none,s.new (.own k false t))
 |_=>none
def AV.isVt:AV->Bool
 | .var true _=>true
 |_=>false
def kpb:List AFact->Nat->Option AV
 | [],_=>none
 |p::l,k=>if p.k == k && (p.sz == 1 && (AV.beq p.b (.im [] true) && p.x.isVt)) then some p.x else kpb l k
def kwj (Φ:Facts) (s:St) (t:Nat) (p n:AV):Option (AV×St):=
 match p with
 | .ptr id 0=>match s.h.get id with
   |some (.own k false ty)=>if ty=t then match kpb Φ.apps k with
     |some x=>match kdx Φ.ops (.len 1 (.c x)),kdx Φ.ops (.bin .gtr (.c n) (.c (.int .i64 0))) with
      |some m,some (.bool true)=>if AV.beq m n then some (x,{s with h:=s.h.put id (some (.text x ty))}) else none
      |_,_=>none
     |none=>none
    else none
   |some (.text x ty)=>if ty=t then match kdx Φ.ops (.len 1 (.c x)),kdx Φ.ops (.bin .gtr (.c n) (.c (.int .i64 0))) with
         |some m,some (.bool true)=>if AV.beq m n then some (x,s) else none
         |_,_=>none
    else none
   |_=>none
 |_=>none
def kpx (l:List NFact) (s:St) (t sz by_:Nat) (z:List AV) (d n:AV):Option (AV×St):=(knr l sz by_ z d n).map fun k=>(.sl s.nx 0 k sz none,s.new (.own k false t))
def kd2 (h:T Blk):Nat->AV->Option AV
 |0,_=>none
 |n+1,v=>match v with
  | .sl id off k sz c=>match h.get id with
    |some (.cells cs _ _)=>if k<BIG then match kb2 cs off (k*sz) with
         |some l=>match mapO (kd2 h n) l with
          |some l=>some (.im (kb9 sz k l) (c == some k))
          |none=>none
         |none=>none
     else none
    |some (.own j _ _)=>if off=0/\k=j/\BIG<=j/\j % 1000=sz/\c=none/\0<n then some (.var false j) else none
    |_=>none
  | .agg cs=>(mapO (kd2 h n) cs).map .agg
  | .tup cs=>(mapO (kd2 h n) cs).map .tup
  | .fn f a b=>match mapO (kd2 h n) a,mapO (kd2 h n) b with
    |some a,some b=>some (.fn f a b)
    |_,_=>none
  | .ptr .. =>none
  | .mp .. =>none
  | .yld .. =>none
  | .ifc t (.int k n)=>some (.ifc t (.int k n))
  | .ifc _ (.var ..)=>none
  | .ifc .. =>some .ifv
  | .nils=>some (.im [] true)
  |v=>some v
def kge:Nat->T Blk->AV->Option (T Blk)
 |0,_,_=>none
 |n+1,h,v=>match v with
  | .sl id _ _ _ _=>match h.get id with
    |some (.cells cs _ ty)=>fzL (kge n) (h.put id (some (.cells cs true ty))) cs
    |some (.own j _ ty)=>if 0<n/\BIG<=j then some (h.put id (some (.own j true ty))) else none
    |_=>none
  | .agg cs=>fzL (kge n) h cs
  | .tup cs=>fzL (kge n) h cs
  | .fn _ a b=>match fzL (kge n) h a with
    |some h=>fzL (kge n) h b
    |none=>none
  |_=>some h
def knd:List AFact->Nat->AV->Nat->Bool
 | [],_,_,_=>false
 |p::l,c,u,k=>if p.k == k && (p.sz == 1 && (AV.beq p.b (.var false c) && (AV.beq p.x (.im [[u]] true) || AV.beq p.x (.im [[u]] false)))) then true else knd l c u k
def km8 (l:List AFact) (h:T Blk) (v:AV):Option AV:=
 match kd2 h 23 v with
 |some u=>some u
 |none=>match v with
  | .sl id 0 k 1 none=>match h.get id with
    |some (.pre n c [w] _)=>if n=k/\BIG<=k then match kd2 h 22 w with
         |some u=>if knd l c u k=true then some (.var false k) else none
         |none=>none
     else none
    |_=>none
  |_=>none
def kq9 (l:List AFact) (h:T Blk) (v:AV):Option AV:=
 match kd2 h kbu v with
 |some u=>some u
 |none=>match v with
  | .agg cs=>(mapO (km8 l h) cs).map .agg
  |_=>none
section
variable (Φ:Facts) (F:Nat->Option AFn) (KS:Nat->List AV->Option AV)
def kk2 (v:AV):Option Bool:=
 match v with
 | .bool b=>some b
 | .var f i=>match kdx Φ.ops (.mov (.c (.var f i))) with
   |some (.bool b)=>some b
   |_=>none
 |_=>none
def kij (s:St):Option (Nat×Bool)->Option Bool
 |none=>some true
 |some (t,b)=>match s.r.get t with
  |some (.bool x)=>some (x == b)
  |some (.tup _)=>some false
  |some (.var f i)=>(kk2 Φ (.var f i)).map (· == b)
  |_=>none
def knl (h:AV):Option AV:=
 match kdx Φ.ops (.len 0 (.c h)) with
 |some a=>match kdx Φ.ops (.bin .gtr (.c a) (.c (.int .i64 0))),kdx Φ.ops (.bin .leq (.c a) (.c (.int .i64 1000))) with
  |some (.bool true),some (.bool true)=>some a
  |_,_=>none
 |none=>none
def krv (h i:AV):Bool:=
 match knl Φ h with
 |some a=>match kdx Φ.ops (.bin .sub (.c a) (.c (.int .i64 1))) with
  |some b=>AV.beq b i
  |none=>false
 |none=>false
def kod (s:St) (x i:AO):Option (Nat×Nat×Nat×AV×Nat):=
 match x.ev s with
 | .sl id 0 j 1 none=>match s.h.get id with
   |some (.pre n c [v] ty)=>if n=j/\krv Φ (.sl id 0 j 1 none) (i.ev s)=true then some (id,n,c,v,ty) else none
   |_=>none
 |_=>none
def kpt (s:St) (t sz by_:Nat) (d x:AV):Option (AV×St):=
 match d with
 | .sl id 0 j 1 none=>match s.h.get id with
   |some (.pre n c [v] ty)=>if n=j/\ty=t/\sz=1/\BIG<=n then match kif s 1 x with
     |some (.im [[.im [] true]] cb)=>match knl Φ (.sl id 0 j 1 none),keo Φ.apps true 1 by_ (.var false n) (.im [[.im [] true]] cb) with
      |some _,some k=>some (.sl s.nx 0 k 1 none,{s with h:=(s.h.put id none).put s.nx (some (.pre k c [v,.im [] true] t)),nx:=s.nx+1})
      |_,_=>none
     |_=>none
    else none
   |_=>none
 |_=>none
def kpu (s:St) (t sz by_:Nat) (d x:AV):Option (AV×St):=
 match d with
 | .sl id 0 j 1 none=>match s.h.get id with
   |some (.own n false ty)=>if n=j/\ty=t/\sz=1/\BIG<=n then match kif s 1 x with
     |some (.im [[v]] cb)=>if v.one=true then match kd2 s.h 22 v with
          |some u=>(keo Φ.apps true 1 by_ (.var false n) (.im [[u]] cb)).map fun k=>(.sl s.nx 0 k 1 none,{s with h:=(s.h.put id none).put s.nx (some (.pre k n [v] t)),nx:=s.nx+1})
          |none=>none
      else none
     |_=>none
    else none
   |_=>none
 |_=>none
def opB (s:St) (o:AOp):Option (AV×St):=
 match opA s o with
 |some (v,s1)=>if o.sm s v then some (v,s1) else none
 |none=>none
def opS (s:St) (o:AOp):Option (AV×St):=
 match opB s o with
 |some r=>some r
 |none=>match o with
  | .app t sz by_ d x=>match kpv Φ.apps s t sz by_ (d.ev s) (x.ev s) with
    |some r=>some r
    |none=>match kpt Φ s t sz by_ (d.ev s) (x.ev s) with
     |some r=>some r
     |none=>match kpu Φ s t sz by_ (d.ev s) (x.ev s) with
     |some r=>some r
     |none=>match kdx Φ.ops ((AOp.app t sz by_ d x).inst s) with
      |some r=>some (r,s)
      |none=>none
  | .appn t sz by_ z d n=>kpx Φ.apns s t sz by_ z (d.ev s) (n.ev s)
  | .s2b t x=>kvw Φ.apps s t (x.ev s)
  | .b2s x=>match kdx Φ.ops ((AOp.b2s x).inst s) with
    |some r=>some (r,s)
    |none=>match kif s 1 (x.ev s) with
     |some u=>(kdx Φ.ops (.b2s (.c u))).map fun r=>(r,s)
     |none=>none
  | .ust t p n=>kwj Φ s t (p.ev s) (n.ev s)
  | .pick t a b=>match kk2 Φ (t.ev s) with
    |some t=>some (if t then a.ev s else b.ev s,s)
    |none=>none
  |o=>match kdx Φ.ops (o.inst s) with
   |some r=>some (r,s)
   |none=>none
def kgq (ex:AC->St->Option (AE×St)) (f:Nat) (args:List AV) (s:St):Option (AV×St):=
  match F f with
  |none=>none
  |some fn=>
   if fn.pure then
    match mapO (kq9 Φ.apps s.h) args with
    |none=>none
    |some as=>match KS f as with
     |none=>none
     |some r=>if r.flat || !(args.any (AV.hasSl kbu)) then some (r,s) else match fzL (kge kbu) s.h args with
      |some h=>some (r,{s with h:=h})
      |none=>none
   else match ex fn.body {r:=inits 0 args .nil,h:=s.h,nx:=s.nx} with
    |some (.nrm,s1)=>match resS fn s1 with
     |some v=>some (v,{r:=s.r,h:=s1.h,nx:=s1.nx})
     |none=>none
    |some (.ret,s1)=>match resS fn s1 with
     |some v=>some (v,{r:=s.r,h:=s1.h,nx:=s1.nx})
     |none=>none
    |_=>none
 where
  resS (fn:AFn) (s:St):Option AV:=if kgw s (fn.res.map (·.1)) then kcg fn s else none
def kku (ex:AC->St->Option (AE×St)) (o:AOp) (s:St):Option (AV×St):=
 if kgw s o.looks && o.cl then match o with
  | .call f as=>match f.ev s with
    | .fn g first caps=>kgq Φ F KS ex g (first++as.map (AO.ev s)++caps) s
    |_=>none
  |o=>opS Φ s o
 else none
def krd (s:St) (sz:Nat) (x i:AO) (g:Bool):Option AV:=
 match x.ev s with
 | .sl id 0 j z none=>if z=sz/\BIG<=j/\j % 1000=sz then match s.h.get id with
   |some (.own k _ _)=>if k=j then match kdx Φ.ops (.iaS sz (.c (.var false j)) (.c (i.ev s))) with
     |some (.ip cells 0)=>if cells.length=sz then kdh g cells else none
     |_=>none
    else none
   |_=>none
   else none
 |_=>none
def kre (s:St) (sz:Nat) (x i:AO) (g:Bool):Option AV:=
 match krd Φ s sz x i g with
 |some v=>some v
 |none=>if sz=1/\g=false then match kod Φ s x i with
   |some (_,_,_,v,_)=>if v.one then some v else none
   |none=>none
  else none
def kn0 (d:Nat):Option (Nat×Bool)->Bool
 |some (t,_)=> !(t == d)
 |none=>true
def kli (s:St) (o o2:AOper):Option St:=
 match o.op,o.dst,o2.op with
 | .iaS sz x i,some d,.load g n (.t d')=>
   if d'=d/\n=sz/\(kgw s (AOp.iaS sz x i).looks && (AOp.iaS sz x i).cl)=true/\kn0 d o2.guard=true then
    match kij Φ s o.guard,kij Φ s o2.guard with
    |some true,some true=>match kre Φ s sz x i g with
     |some v=>some (St.set {s with r:=s.r.put d none} o2.dst v)
     |none=>none
    |_,_=>none
   else none
 |_,_,_=>none
def klj (s:St) (o o2:AOper):Option St:=
 match o.op,o.dst,o2.op with
 | .iaS sz x i,some d,.store n (.t d') y=>
   if d'=d/\n=1/\sz=1/\(kgw s (AOp.iaS sz x i).looks && (AOp.iaS sz x i).cl)=true/\(kgw s y.tm && y.cl)=true/\ !y.tm.contains d/\kn0 d o2.guard=true then
    match kij Φ s o.guard,kij Φ s o2.guard with
    |some true,some true=>match kod Φ s x i with
     |some (id,n,c,_,ty)=>if(y.ev s).one then some (St.set {s with r:=s.r.put d none,h:=s.h.put id (some (.pre n c [y.ev s] ty))} o2.dst (.tup [])) else none
     |none=>none
    |_,_=>none
   else none
 |_,_,_=>none
def kn6 (ex:AC->St->Option (AE×St)) (o:AOper) (s:St):Option St:=
 match kij Φ s o.guard with
 |some true=>match kku Φ F KS ex o.op s with
  |some (v,s1)=>some (s1.set o.dst v)
  |none=>none
 |some false=>some (s.set o.dst (.tup []))
 |none=>none
def kjm (ex:AC->St->Option (AE×St)):List AOper->St->Option St
 | [],s=>some s
 | [o],s=>kn6 Φ F KS ex o s
 |o::o2::os,s=>match kli Φ s o o2 with
  |some s1=>kjm ex os s1
  |none=>match klj Φ s o o2 with
   |some s1=>kjm ex os s1
   |none=>match kn6 Φ F KS ex o s with
   |some s1=>kjm ex (o2::os) s1
   |none=>none
def k42 (s:St) (o:AOp) (v:AV) (h:T Blk):Bool:=
 match opS Φ {s with h:=h} o with
 |some (u,_)=>AV.beq v u
 |none=>false
def kmy (ex:AC->St->Option (AE×St)) (nx0:Nat) (hist:List (T Blk)) (o:ADr) (s:St):Option (AV×St×List (T Blk)):=
 match kij Φ s o.o.guard with
 |some true=>if kgw s o.o.op.looks && o.o.op.cl then
   match o.k with
   |0=>if kgk o.o.op then match opS Φ s o.o.op with
     |some (v,_)=>some (v,s,hist)
     |none=>none
    else match o.o.op with
     | .call f as=>match f.ev s with
       | .fn g first caps=>match F g with
         |some fn=>if fn.pure && !((first++as.map (AO.ev s)++caps).any (AV.hasSl kbu)) then
           match mapO (kd2 s.h kbu) (first++as.map (AO.ev s)++caps) with
           |some xs=>match KS g xs with
            |some r=>some (r,s,hist)
            |none=>none
           |none=>none
          else none
         |none=>none
       |_=>none
     |_=>none
   |1=>if kjc o.o.op && (s.h.get (nx0+o.i)).isNone then match opB {s with nx:=nx0+o.i} o.o.op with
     |some (v,s1)=>some (v,{s1 with nx:=s.nx},hist)
     |none=>none
    else none
   |2=>match kku Φ F KS ex o.o.op s with
    |some (v,s1)=>some (v,s1,s1.h::hist)
    |none=>none
   |3=>if khg F o.o.op then match kku Φ F KS ex o.o.op s with
     |some (v,s1)=>some (v,s1,s1.h::hist)
     |none=>none
    else none
   |_=>if kfk o.o.op then match opS Φ s o.o.op with
     |some (v,_)=>if decide (o.back<hist.length) && (o.seen hist).all (k42 Φ s o.o.op v) then some (v,s,hist) else none
     |none=>none
    else none
  else none
 |some false=>some (.tup [],s,if o.k=2\/o.k=3 then s.h::hist else hist)
 |none=>none
def krb (s:St) (hist:List (T Blk)) (o o2:ADr):Option St:=
 if o.k=0/\o2.k=4/\o2.back=0/\o2.fl=false/\0<hist.length then kli Φ s o.o o2.o else none
def krc (s:St) (o o2:ADr):Option St:=
 if o.k=0/\o2.k=3 then klj Φ s o.o o2.o else none
def kit (ex:AC->St->Option (AE×St)) (nx0:Nat):List ADr->St->List (T Blk)->Option St
 | [],s,_=>some s
 | [o],s,hist=>match kmy Φ F KS ex nx0 hist o s with
   |some (v,s1,_)=>some (s1.set o.o.dst v)
   |none=>none
 |o::o2::os,s,hist=>match krb Φ s hist o o2 with
  |some s1=>kit ex nx0 os s1 hist
  |none=>match krc Φ s o o2 with
   |some s1=>kit ex nx0 os s1 (s1.h::hist)
   |none=>match kmy Φ F KS ex nx0 hist o s with
   |some (v,s1,hist)=>kit ex nx0 (o2::os) (s1.set o.o.dst v) hist
   |none=>none
def exS:Nat->AC->St->Option (AE×St)
 |0,_,_=>none
 |n+1,c,s=>match c with
  | .skip=>some (.nrm,s)
  | .reg ops=>match kjm Φ F KS (exS n) ops s with
    |some s=>some (.nrm,s)
    |none=>none
  | .drw m ops=>match kit Φ F KS (exS n) s.nx ops {s with nx:=s.nx+m} [s.h] with
    |some s=>some (.nrm,s)
    |none=>none
  | .seq a b=>match exS n a s with
    |some (.nrm,s1)=>exS n b s1
    |r=>r
  | .cond x a b=>if kgw s x.tm && x.cl then match kk2 Φ (x.ev s) with
    |some t=>if t then exS n a s else exS n b s
    |none=>none
    else none
  | .block id b=>match exS n b s with
    |some (.ext j,s1)=>if j=id then some (.nrm,s1) else some (.ext j,s1)
    |r=>r
  | .loop b=>match exS n b s with
    |some (.nrm,s1)=>exS n (.loop b) s1
    |r=>r
  | .exit id=>some (.ext id,s)
  | .ret=>some (.ret,s)
  | .label _=>some (.nrm,s)
  | .goto l=>some (.gto l,s)
  | .scope cur b=>match exS n cur s with
    |some (.gto l,s1)=>match kgc b l with
     |some rest=>exS n (.scope rest b) s1
     |none=>some (.gto l,s1)
    |r=>r
  | .rngf .. =>none
end
end Go.Proofs.Hz
