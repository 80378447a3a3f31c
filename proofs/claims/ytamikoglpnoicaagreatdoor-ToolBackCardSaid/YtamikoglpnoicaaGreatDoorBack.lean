/-
  'hazellaw20.ToolBack' returns true for every input, and its arguments read afterwards as they read before; the card.
  Conditions: none.
-/
import Derived.Test.YtamikoglpnoicaaGreatDoorT41
import Derived.Test.YtamikoglpnoicaaGreatDoorT42
open Go Go.Proofs
namespace Go.Proofs.Hz
def klw (x:Td) (s:List UInt8):Option AV:=
 if(!(fewT x))=true then
  some (.bool true)
 else
  if(List.length s:Int) > 2000 then
   some (.bool true)
  else
   if List.length s≤900000 then letB (kat s) fun x3=>
   if kbx x3.1=true then if x3.2.2=0 then
    if(wE x3.1)=0 then
     if(!((wS x3.1) == s))=true then
       none
     else
       if x3.2.1<4 then
        none
       else
        if kb2 x3.1=true then if(!(ka6 x3.1))=true then
         none
        else
         if kbx x=true then if List.length (wS x)≤900000 then letB (kat (wS x)) fun x13=>
         if kb2 x=true then if((decide ((wE x)=0)) == (ka6 x))=true then
          if(!(ka6 x))=true then
           some (.bool true)
          else
           if x13.2.2=0 then
                some (.bool (kbj x x13.1))
           else
                none
         else
          none else none else none else none else none
    else
     none
   else
    if x3.2.1<1 then
     none
    else
     if kbx x=true then if List.length (wS x)≤900000 then letB (kat (wS x)) fun x9=>
     if kb2 x=true then if((decide ((wE x)=0)) == (ka6 x))=true then
      if(!(ka6 x))=true then
       some (.bool true)
      else
       if x9.2.2=0 then
        some (.bool (kbj x x9.1))
       else
        none
     else
      none else none else none else none else none else none
def kvx:List AV:=[(.agg [(vt 0),(vt 1),(vt 2),(vf 0),(vf 1)]),(vt 3)]
def kpf (x:Td) (s:List UInt8) (σ:Nat→Nat):Val:=(valL ([.int .i64 x.n0,.int .i64 x.n1,.int .i64 x.n2,.str s]) ([.im (List.map eR x.t) x.bt,.im (List.map eM x.m) x.bm]) [] σ 0)
def k7r (x:Td) (s:List UInt8) (_σ:Nat→Nat):List AV:=[(.agg [(.int .i64 x.n0),(.int .i64 x.n1),(.int .i64 x.n2),(.im (List.map eR x.t) x.bt),(.im (List.map eM x.m) x.bm)]),(.str s)]
def k7s (_x:Td) (_s:List UInt8) (_σ:Nat→Nat):List Blk:=[]
theorem k7p (x:Td) (s:List UInt8) (σ:Nat→Nat):kvx.map (gm (kpf x s σ))=k7r x s σ:=by kernel_rfl
theorem k7q (x:Td) (s:List UInt8) (σ:Nat→Nat):([]:List Blk).map (gB (kpf x s σ))=k7s x s σ:=by kernel_rfl
theorem k7u (x:Td) (s:List UInt8) {r0:AV} (h:klw x s=some r0):Spec FF 4 [(.agg [(.int .i64 x.n0),(.int .i64 x.n1),(.int .i64 x.n2),(.im (List.map eR x.t) x.bt),(.im (List.map eM x.m) x.bm)]),(.str s)] r0:=by
 unfold klw at h
 have hσ: ∀ i j:Nat,(fun i:Nat=>i) i=(fun i:Nat=>i) j→i=j:=fun _ _ e=>e
 exact kbk (ρ:=kpf x s (fun i=>i)) (xs:=kvx) (by kernel_rfl) rfl rfl (by kernel_rfl) (fun z0 S=>have H:=Tok.start hσ S 0 4 2 0 ([.int .i64 x.n0,.int .i64 x.n1,.int .i64 x.n2,.str s]) ([.im (List.map eR x.t) x.bt,.im (List.map eM x.m) x.bm]) [] (.c (OkF.im kau _ _) <| .c (OkF.im kam _ _) <| .n) .n (k7p x s _) (k7q x s _);have H:=H.t 6 [.bool (fewT x),.bool (!(fewT x))]|>.r [(.un .not (cT 4),(vt 5))]|>.s [] (.bool true) kmo|>.s [(.agg [(vt 0),(vt 1),(vt 2),(vf 0),(vf 1)])] (vt 4) (kkm x);iteE h (fun h0 h=>have H:=H.m 5 true h0;H.e [] h) (fun h0 h=>have H:=H.t 8 [.int .i64 (List.length s:Int),.bool (decide ((List.length s:Int) > 2000))]|>.r [(.len 1 (cT 3),(vt 6)),(.bin .gtr (cT 6) (cI 2000),(vt 7))]|>.m 5 false (bF h0);iteE h (fun h1 h=>have H:=H.m 7 true (decide_eq_true h1);H.e [] h) (fun h1 h=>have H:=H.m 7 false (decide_eq_false h1);reqE h (fun h2 h=>letE h (fun x3 h3 h=>have H:=H.t 13 [.int .i64 x3.1.n0,.int .i64 x3.1.n1,.int .i64 x3.1.n2,.int .i64 x3.2.1,.int .i64 x3.2.2]|>.f 4 [.im (List.map eR x3.1.t) x3.1.bt,.im (List.map eM x3.1.m) x3.1.bm] (.c (OkF.im kau _ _) <| .c (OkF.im kam _ _) <| .n)|>.s [(vt 3)] (.tup [(.agg [(vt 8),(vt 9),(vt 10),(vf 2),(vf 3)]),(vt 11),(vt 12)]) (kb0 s h2 h3);reqE h (fun h4 h=>have H:=H.t 16 [.str (wS x3.1),.int .i64 (wE x3.1),.bool (decide (x3.2.2=0))]|>.r [(.bin .eql (cT 12) (cI 0),(vt 15))]|>.s [(.agg [(vt 8),(vt 9),(vt 10),(vf 2),(vf 3)])] (.tup [(vt 13),(vt 14)]) (kea x3.1 h4);iteE h (fun h5 h=>have H:=H.t 17 [.bool (!decide ((wE x3.1)=0))]|>.r [(.bin .neq (cT 14) (cI 0),(vt 16))]|>.m 15 true (decide_eq_true h5);iteE h (fun h6 h=>have H:=H.t 18 [.bool (!((wS x3.1) == s))]|>.r [(.bin .neq (cT 13) (cT 3),(vt 17))]|>.m 16 false (nT h6);iteE h (fun _ h=>nomatch h) (fun h7 h=>have H:=H.t 19 [.bool (decide (x3.2.1<4))]|>.r [(.bin .lss (cT 11) (cI 4),(vt 18))]|>.m 17 false (bF h7);iteE h (fun _ h=>nomatch h) (fun h8 h=>have H:=H.m 18 false (decide_eq_false h8);reqE h (fun h9 h=>have H:=H.t 21 [.bool (ka6 x3.1),.bool (!(ka6 x3.1))]|>.r [(.un .not (cT 19),(vt 20))]|>.s [(.agg [(vt 8),(vt 9),(vt 10),(vf 2),(vf 3)])] (vt 19) (khu x3.1 h9);iteE h (fun _ h=>nomatch h) (fun h10 h=>have H:=H.t 22 [.bool (!decide (x3.2.2=0))]|>.r [(.bin .neq (cT 12) (cI 0),(vt 21))]|>.m 20 false (bF h10)|>.m 21 false (b:=(!decide (x3.2.2=0))) (nT (by omega));reqE h (fun h11 h=>have H:=H.t 24 [.str (wS x),.int .i64 (wE x)]|>.s [(.agg [(vt 0),(vt 1),(vt 2),(vf 0),(vf 1)])] (.tup [(vt 22),(vt 23)]) (kea x h11);reqE h (fun h12 h=>letE h (fun x13 h13 h=>have H:=H.t 29 [.int .i64 x13.1.n0,.int .i64 x13.1.n1,.int .i64 x13.1.n2,.int .i64 x13.2.1,.int .i64 x13.2.2]|>.f 6 [.im (List.map eR x13.1.t) x13.1.bt,.im (List.map eM x13.1.m) x13.1.bm] (.c (OkF.im kau _ _) <| .c (OkF.im kam _ _) <| .n)|>.s [(vt 22)] (.tup [(.agg [(vt 24),(vt 25),(vt 26),(vf 4),(vf 5)]),(vt 27),(vt 28)]) (kb0 (wS x) h12 h13);reqE h (fun h14 h=>have H:=H.t 32 [.bool (ka6 x),.bool (decide ((wE x)=0)),.bool ((decide ((wE x)=0)) == (ka6 x))]|>.r [(.bin .eql (cT 23) (cI 0),(vt 30)),(.eqb false (cT 30) (cT 29),(vt 31))]|>.s [(.agg [(vt 0),(vt 1),(vt 2),(vf 0),(vf 1)])] (vt 29) (khu x h14);iteE h (fun h15 h=>have H:=H.t 33 [.bool (!(ka6 x))]|>.r [(.un .not (cT 29),(vt 32))]|>.m 31 true h15;iteE h (fun h16 h=>have H:=H.m 32 true h16;H.e [] h) (fun h16 h=>have H:=H.t 34 [.bool (decide (x13.2.2=0))]|>.r [(.bin .eql (cT 28) (cI 0),(vt 33))]|>.m 32 false (bF h16);iteE h (fun h17 h=>have H:=H.t 35 [.bool (kbj x x13.1)]|>.m 33 true (decide_eq_true h17)|>.s [(.agg [(vt 0),(vt 1),(vt 2),(vf 0),(vf 1)]),(.agg [(vt 24),(vt 25),(vt 26),(vf 4),(vf 5)])] (vt 34) (kgb x x13.1 h14);H.e [] h) (fun _ h=>nomatch h))) (fun _ h=>nomatch h)))))))))) (fun _ h=>nomatch h)) (fun h5 h=>have H:=H.t 18 [.bool (!decide (x3.2.2=0)),.bool (decide (x3.2.1<1))]|>.r [(.bin .neq (cT 12) (cI 0),(vt 16)),(.bin .lss (cT 11) (cI 1),(vt 17))]|>.m 15 false (decide_eq_false h5)|>.m 16 true (b:=(!decide (x3.2.2=0))) (nF (by omega));iteE h (fun _ h=>nomatch h) (fun h6 h=>have H:=H.m 17 false (decide_eq_false h6);reqE h (fun h7 h=>have H:=H.t 20 [.str (wS x),.int .i64 (wE x)]|>.s [(.agg [(vt 0),(vt 1),(vt 2),(vf 0),(vf 1)])] (.tup [(vt 18),(vt 19)]) (kea x h7);reqE h (fun h8 h=>letE h (fun x9 h9 h=>have H:=H.t 25 [.int .i64 x9.1.n0,.int .i64 x9.1.n1,.int .i64 x9.1.n2,.int .i64 x9.2.1,.int .i64 x9.2.2]|>.f 6 [.im (List.map eR x9.1.t) x9.1.bt,.im (List.map eM x9.1.m) x9.1.bm] (.c (OkF.im kau _ _) <| .c (OkF.im kam _ _) <| .n)|>.s [(vt 18)] (.tup [(.agg [(vt 20),(vt 21),(vt 22),(vf 4),(vf 5)]),(vt 23),(vt 24)]) (kb0 (wS x) h8 h9);reqE h (fun h10 h=>have H:=H.t 28 [.bool (ka6 x),.bool (decide ((wE x)=0)),.bool ((decide ((wE x)=0)) == (ka6 x))]|>.r [(.bin .eql (cT 19) (cI 0),(vt 26)),(.eqb false (cT 26) (cT 25),(vt 27))]|>.s [(.agg [(vt 0),(vt 1),(vt 2),(vf 0),(vf 1)])] (vt 25) (khu x h10);iteE h (fun h11 h=>have H:=H.t 29 [.bool (!(ka6 x))]|>.r [(.un .not (cT 25),(vt 28))]|>.m 27 true h11;iteE h (fun h12 h=>have H:=H.m 28 true h12;H.e [] h) (fun h12 h=>have H:=H.t 30 [.bool (decide (x9.2.2=0))]|>.r [(.bin .eql (cT 24) (cI 0),(vt 29))]|>.m 28 false (bF h12);iteE h (fun h13 h=>have H:=H.t 31 [.bool (kbj x x9.1)]|>.m 29 true (decide_eq_true h13)|>.s [(.agg [(vt 0),(vt 1),(vt 2),(vf 0),(vf 1)]),(.agg [(vt 20),(vt 21),(vt 22),(vf 4),(vf 5)])] (vt 30) (kgb x x9.1 h10);H.e [] h) (fun _ h=>nomatch h))) (fun _ h=>nomatch h)))))))))))))
end Go.Proofs.Hz
open Go Go.Proofs
namespace Go.Proofs.Hz
theorem k7t (x:Td) (s:Bs) (hv:kcy x=true):klw x s=some (.bool true):=by
 have tail: ∀ {p:Td×Int×Int},p=kat (wS x)→fewT x=true→(if kb2 x=true then if((decide ((wE x)=0)) == (ka6 x))=true then
     if(!(ka6 x))=true then
             some (AV.bool true)
     else
             if p.2.2=0 then
              some (.bool (kbj x p.1))
             else
              none
    else
     none else none)=some (.bool true):=fun {p} hp hf=>by
  subst hp
  rw[if_pos (ke4 hf)]
  by_cases hm:ka6 x=true
  ·rw[kif hm,kej hm,kh2 (kdc.1 hm),hm,qfb]
   rfl
  ·have hw:=ky9 hm
   simp only[Bool.not_eq_true] at hm
   rw[hw,hm]
   rfl
 unfold klw letB
 by_cases hf:fewT x=true
 ·rw[if_neg (by simp[hf])]
  by_cases hl:(List.length s:Int) > 2000
  ·rw[if_pos hl]
  rw[if_neg hl,if_pos (by omega)]
  have hx:=kio hf hv
  have hwl:=khb x
  rcases qec s with⟨d,h1,h2,h3⟩ | ⟨n,h1,h2,_⟩
  ·rw[h1]
   dsimp only
   have hm:=qgg h2
   have hw:wS d.td=s:=by rw[kej hm,td_d,h3]
   rw[if_pos (qgf h2),if_pos rfl,if_pos (kif hm),if_neg (by simp[hw]),if_neg (by omega),if_pos (ke4 (kjy h2)),if_neg (by simp[hm]),if_pos hx,if_pos (by omega)]
   exact tail rfl hf
  ·rw[h1]
   dsimp only
   rw[if_pos k61,if_neg (by omega),if_neg (by omega),if_pos hx,if_pos (by omega)]
   exact tail rfl hf
 ·rw[if_pos (by simp[hf])]
theorem k0l (x:Td) (s:Bs) (hv:kcy x=true):Spec FF 4 [x.av,.str s] (.bool true):=k7u x s (k7t x s hv)
end Go.Proofs.Hz
namespace Go.Proofs.YtamikoglpnoicaaGreatDoor
open Go.ChangeShapes Go.WideShapes Go.ChangeAt Go.RowKit Go.Proofs.Hz
set_option maxRecDepth 100000
theorem k0u (os:Os) (started:os.Started) (H:Type) (enc:TypeId×Value→H):
  ReturnsInHanded {} Tryz.checked os 4 .any (fun w args=>(Rows.toolBackSpec.pre enc Tryz.prog Tryz.f4 Rows.toolBackRow.domain false w args∧laidMetH Tryz.prog laid w)∧sizedMet enc Tryz.prog Tryz.f4 (OpenSpec.ofChange Rows.toolBackSpec) false w args)
   (Rows.toolBackSpec.post enc Tryz.prog Tryz.f4 false true false false):=by
 refine kmk (C:=Tryz.checked) (X:=fun w _=>laidMetH Tryz.prog laid w) (fun _ _ _ hh h=>h.of_heap hh) own started (by kernel_rfl) Tryz.func4
  (ChangeSpec.witness_shaped (enc:=enc) (C:=Tryz.checked) (os:=os) (X:=fun w _=>laidMetH Tryz.prog laid w) false (World.laidAll Tryz.prog os laid) #[klh,.string ⟨#[]⟩] 8 (World.laidAll_os _ _ _)
   (World.shaped_of_ZipB (by kernel_rfl) (by kernel_rfl)) (by kernel_rfl) (by kernel_rfl) (by kernel_rfl) (kld os _)) ?_
 intro W base args ds gs before hval0 hW hL hsh
 have hval: ∀ (j:Nat) t v,Tryz.f4.params[j]? =some t→args[j]? =some v→Value.okWide Tryz.prog W .any base t v:=hval0
 have hW':=hW
 obtain⟨p,q,hA0,hV,rfl,hfz,hnd⟩:=hW
 have hA:DataW.TrodAll enc Tryz.prog W 0 (fun _=>true) true Tryz.f4.params.toList args.toList ds p:=hA0
 have hA1:=hA
 rw[Tryz.params4] at hA hval
 obtain⟨v0,v1,d0,d1,p0,p1,rfl,rfl,rfl,h0,h1⟩:=trodAll_two hA
 obtain⟨rfl,rfl⟩:=trodVars_none hV
 obtain⟨x0,hR0,hv0⟩:=kj9 (hval 0 26 v0 rfl rfl) h0
 obtain⟨s1,hR1⟩:=kz8 (hval 1 9 v1 rfl rfl) h1
 simp only[List.append_nil] at hW'
 refine(kk1 (pu:=puN) (F:=FF) (fun f af h=>h) hX15 (kks hL hsh) (k0l x0 s1 hv0) (RL.cons hR0 (RL.cons hR1 RL.nil))).mono fun e W' ⟨he,hw⟩=> ?_
 subst he
 exact⟨_,rfl,kk2 (P:=Tryz.prog) kk0 rfl hW' (by simpa using hA1) rfl (by kernel_rfl) rfl u4 hw⟩
theorem k0m:(Rows.toolBackRow.inPlace == Tryz.prog.inPlace 4)=true:=by kernel_rfl
theorem k0n:(Rows.toolBackRow.unfollowed == Tryz.prog.unfollowed 4)=true:=by kernel_rfl
theorem k0o:(Rows.toolBackRow.recurses == Tryz.prog.recurses 4)=true:=by kernel_rfl
theorem k0p:(Rows.toolBackRow.named == Tryz.prog.varsNamed 4)=true:=by kernel_rfl
theorem k0q:joinedFacts Tryz.prog 4 Tryz.f4 Rows.toolBackSpec Rows.toolBackRow=true:=by
 unfold joinedFacts
 rw[k0m,k0n,k0o,k0p]
 kernel_rfl
theorem ksk:Tryz.prog.funcNamed "hazel/hazellaw20.ToolBack" =some 4:=by kernel_rfl
theorem k0t:Tryz.f4.isInstance Tryz.prog Rows.toolBackRow.origin Rows.toolBackRow.targs:=of_decide_eq_true (by kernel_rfl)
theorem k0w:Rows.toolBackRow.wfByText (OpenSpec.ofChange Rows.toolBackSpec)=true:=by kernel_rfl
theorem k0r:false=Rows.toolBackRow.goesBy Tryz.prog:=by kernel_rfl
theorem k0v:([26,9].all fun u=> !Tryz.prog.wantsStandIn u)=true:=by kernel_rfl
theorem k0s:Rows.ToolBackSaid:=
 OpenClaim.holds_of_wide 4 Tryz.f4 rfl rfl rfl rfl rfl rfl rfl ⟨rfl,rfl,rfl,rfl,rfl⟩ rfl rfl rfl rfl rfl ksk Tryz.func4 k0q
  k0t (by unfold Func.isWrapper;first |(rw[if_pos (by decide+kernel)];kernel_rfl) |(rw[if_neg (by decide+kernel)];exact⟨rfl,rfl⟩))
  (fun os started H enc _=>k0u os started H enc)
theorem back_card:Rows.ToolBackCardSaid:=
 Claim7.holds_tied_plain_at .later [] [.data,.data,.data,.data,.sentinel,.sentinel,.pinned] true (true,"fad3822e4c3238e0715d09156ba720034c4347236d647728db356adb10470ef3") true k0s (fun _ h=>by cases h) k0w (fun _ h=>by cases h) toolBack_row_tie rfl ⟨rfl,rfl⟩ klc rfl
  (fun f fn hf hfn=>by
   obtain rfl:f=4:=Option.some.inj (ksk.symm.trans hf)|>.symm
   obtain rfl:fn=Tryz.f4:=(Option.some.inj (Tryz.func4.symm.trans hfn)).symm
   exact⟨kk9,fun j t ht=>by
    rw[Tryz.params4] at ht
    have hm:t ∈ [26,9]:=by simpa using Array.mem_of_getElem? ht
    exact(show Tryz.prog.wantsStandIn t=false by simpa using List.all_eq_true.1 k0v t hm)⟩)
  k0r
#print axioms back_card
end Go.Proofs.YtamikoglpnoicaaGreatDoor
