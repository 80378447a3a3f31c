/-
  Chapter 20: the laws' arguments; what the listed variables hold; the start that lays them.
  Conditions: none.
-/
import Derived.Test.YtamikoglpnoicaaGreatDoorTie
import Derived.Test.YtamikoglpnoicaaGreatDoorCards
import Derived.Test.YtamikoglpnoicaaGreatDoorT40
import Derived.Test.YtamikoglpnoicaaGreatDoorT21
import Derived.LaidMore
import Derived.Lay
import Derived.Lib.LaidU8
import Derived.SevenTiedAt
import Derived.Stop.Joined
import Derived.HandedShaped
namespace Go.Proofs.YtamikoglpnoicaaGreatDoor
open Go.ChangeShapes Go.WideShapes Go.ChangeAt Go.RowKit Go.Proofs.Hz
set_option maxRecDepth 100000
open Ids renaming none->yac
open Go.Lib renaming pow10Tab->yab
open Option.some renaming inj->yaa
open Ren renaming none->yad
theorem qbu:true=Tryz.prog.looks []:=by kernel_rfl
theorem qbw:Tryz.prog.mainIs=some (true,"fad3822e4c3238e0715d09156ba720034c4347236d647728db356adb10470ef3".toList):=by kernel_rfl
theorem own:ownKnob Tryz.prog.godebug=none:=by kernel_rfl
theorem qax:laidOutB Tryz.prog=true:=by kernel_rfl
theorem u3:Tryz.prog.underlying 3=some (.int .i64):=by kernel_rfl
theorem u4:Tryz.prog.underlying 4=some .bool:=by kernel_rfl
theorem u9:Tryz.prog.underlying 9=some .string:=by kernel_rfl
theorem u22:Tryz.prog.underlying 22=some (.array 3 3):=by kernel_rfl
theorem u23:Tryz.prog.underlying 23=some (.slice 42):=by kernel_rfl
theorem u24:Tryz.prog.underlying 24=some (.slice 45):=by kernel_rfl
theorem u42:Tryz.prog.underlying 42=some (.slice 48):=by kernel_rfl
theorem u26: ∃ fs:Array Field,Tryz.prog.underlying 26=some (.struct fs)/\fs.toList.map (·.type)=[22,23,24]:=⟨_,rfl,by kernel_rfl⟩
theorem u45: ∃ fs:Array Field,Tryz.prog.underlying 45=some (.struct fs)/\fs.toList.map (·.type)=[3,3]:=⟨_,rfl,by kernel_rfl⟩
theorem u48: ∃ fs:Array Field,Tryz.prog.underlying 48=some (.struct fs)/\fs.toList.map (·.type)=[3,3,3]:=⟨_,rfl,by kernel_rfl⟩
theorem khn {n:Nat} {xs:List AV} (h:SH Tryz.prog (n+1) 3 xs): ∃ m,xs=[.int .i64 m]/\inI m=true:=by
 unfold SH at h;rw[u3] at h;obtain⟨m,rfl,hw⟩:=h;exact⟨m,rfl,by simpa[inI] using bounds_i64 hw⟩
theorem ksb {n t:Nat} {xs:List AV} {fs:Array Field} {ts:List Nat} (hu:Tryz.prog.underlying t=some (.struct fs)) (hf:fs.toList.map (·.type)=ts) (h:SH Tryz.prog (n+1) t xs):
  ∃ parts:List (List AV),xs=parts.flatten/\parts.length=ts.length/\ ∀ (i:Nat) (u:Nat) (p:List AV),ts[i]? =some u->parts[i]? =some p->SH Tryz.prog n u p:=by
 unfold SH at h;rw[hu] at h;obtain⟨parts,rfl,hl,hp⟩:=h;refine⟨parts,rfl,by rw[hl,←hf];simp,fun i u p hi hq=> ?_⟩;rw[←hf,List.getElem?_map,Option.map_eq_some_iff] at hi;obtain⟨f,h1,h2⟩:=hi;rw[←h2];exact hp i f p (by rwa[Array.getElem?_toList] at h1) hq
theorem knp {α:Type} {n t:Nat} {e:α->List AV} {Q:α->Bool} (h1: ∀ xs,SH Tryz.prog n t xs-> ∃ a,xs=e a/\Q a=true): ∀ {els:List (List AV)},(∀ el ∈ els,SH Tryz.prog n t el)-> ∃ l:List α,els=l.map e/\l.all Q=true
 | [],_=>⟨[],rfl,rfl⟩
 |el::els,h=>by
  obtain⟨l,rfl,hl⟩:=knp h1 (els:=els) fun x hx=>h x (List.mem_cons_of_mem _ hx)
  obtain⟨a,rfl,ha⟩:=h1 el (h el (List.mem_cons_self ..));exact⟨a::l,rfl,by rw[List.all_cons,ha,hl];rfl⟩
theorem k62 {n:Nat} {xs:List AV} (h:SH Tryz.prog (n+2) 48 xs): ∃ c:Cl,xs=eC c/\kjq c=true:=by
 obtain⟨fs,hu,hf⟩:=u48;obtain⟨parts,rfl,hl,hp⟩:=ksb hu hf h
 match parts,hl with
 | [p0,p1,p2],_=>
   obtain⟨a,rfl,_⟩:=khn (hp 0 3 p0 rfl rfl);obtain⟨b,rfl,hb⟩:=khn (hp 1 3 p1 rfl rfl);obtain⟨c,rfl,hc⟩:=khn (hp 2 3 p2 rfl rfl);exact⟨⟨a,b,c⟩,rfl,by unfold kjq;rw[hb,hc];rfl⟩
theorem qci {n:Nat} {xs:List AV} (h:SH Tryz.prog (n+2) 45 xs): ∃ m:Mov,xs=eM m/\inI m.n=true:=by
 obtain⟨fs,hu,hf⟩:=u45;obtain⟨parts,rfl,hl,hp⟩:=ksb hu hf h
 match parts,hl with
 | [p0,p1],_=>
   obtain⟨a,rfl,_⟩:=khn (hp 0 3 p0 rfl rfl);obtain⟨b,rfl,hb⟩:=khn (hp 1 3 p1 rfl rfl);exact⟨⟨a,b⟩,rfl,hb⟩
theorem qnv {n:Nat} {xs:List AV} (h:SH Tryz.prog (n+3) 42 xs): ∃ r:Ro,xs=eR r/\(r.c.all kjq)=true:=by
 unfold SH at h;rw[u42] at h;obtain⟨els,c,rfl,_,he⟩:=h;obtain⟨l,rfl,hl⟩:=knp (fun _=>k62) he;exact⟨⟨l,c⟩,rfl,hl⟩
theorem qqc {n:Nat} {xs:List AV} (h:SH Tryz.prog (n+6) 26 xs): ∃ x:Td,AV.agg xs=x.av/\khb x=true:=by
 obtain⟨fs,hu,hf⟩:=u26;obtain⟨parts,rfl,hl,hp⟩:=ksb hu hf h
 match parts,hl with
 | [p0,p1,p2],_=>
   have h0:=hp 0 22 p0 rfl rfl;unfold SH at h0;rw[u22] at h0;obtain⟨ns,rfl,hn,h0⟩:=h0;have h1:=hp 1 23 p1 rfl rfl;unfold SH at h1;rw[u23] at h1;obtain⟨els,bt,rfl,_,he⟩:=h1;obtain⟨t,rfl,ht⟩:=knp (fun _=>qnv) he;have h2:=hp 2 24 p2 rfl rfl;unfold SH at h2;rw[u24] at h2;obtain⟨els,bm,rfl,_,he⟩:=h2;obtain⟨m,rfl,hm⟩:=knp (fun _=>qci) he
   match ns,hn with
   | [q0,q1,q2],_=>
     obtain⟨a,rfl,ha⟩:=khn (h0 q0 (by simp));obtain⟨b,rfl,hb⟩:=khn (h0 q1 (by simp));obtain⟨c,rfl,hc⟩:=khn (h0 q2 (by simp));exact⟨⟨a,b,c,t,bt,m,bm⟩,rfl,by simp only[khb,ha,hb,hc,ht,hm,Bool.and_self]⟩
theorem k59 {t:Nat} {fs:Array Field} (hu:Tryz.prog.underlying t=some (.struct fs)) (xs:List AV):kk6 Tryz.prog t xs= .agg xs:=by
 unfold kk6;rw[hu]
theorem kwy {H:Type} {enc:TypeId×Value->H} {w:World} {v:Value} {d:DataW H} {ps:List MemPlace} {base:Nat} (hval:Value.okWide Tryz.prog w .any base 26 v) (h:DataW.Trod enc Tryz.prog w 0 (fun _=>true) true 26 v d ps):
  ∃ x:Td,R (fun b=>b<w.heap.size) w yac yad x.av v/\khb x=true:=by
 obtain⟨xs,hS,hR⟩:=kwx (n:=8) (by kernel_rfl) hval h;obtain⟨x,hx,hv⟩:=qqc hS;obtain⟨fs,hu,_⟩:=u26;rw[k59 hu,hx] at hR;exact⟨x,hR,hv⟩
theorem k6a {H:Type} {enc:TypeId×Value->H} {w:World} {v:Value} {d:DataW H} {ps:List MemPlace} {base:Nat} (hval:Value.okWide Tryz.prog w .any base 9 v) (h:DataW.Trod enc Tryz.prog w 0 (fun _=>true) true 9 v d ps):
  ∃ s:List UInt8,R (fun b=>b<w.heap.size) w yac yad (.str s) v:=by
 obtain⟨xs,hS,hR⟩:=kwx (n:=4) (by kernel_rfl) hval h;unfold SH at hS;rw[u9] at hS;obtain⟨s,rfl,_⟩:=hS;unfold kk6 at hR;rw[u9] at hR;exact⟨s,hR⟩
abbrev kzp:Value:= .agg #[.int .i64 0,.int .i64 0,.int .i64 0,.slice none 0 0,.slice none 0 0]
abbrev laid:List (String×DataW Unit):=Rows.toolTellsRow.laid
theorem k0k (W:World):laidMetH Tryz.prog laid W=laidMet Tryz.prog laid W:=MakeChecks.laidMetH_plain _ _ _ (by kernel_rfl)
theorem qb3 (os:Os) (args:Array Value):laidMetH Tryz.prog laid ((World.laidAll Tryz.prog os laid).forCall (fun _ _=>0) ⟨#[],args,[]⟩).memory:=by
 rw[k0k];exact laidMet_laidAll _ (by kernel_rfl) (by kernel_rfl)
theorem kmq {w:World} {b o:Nat} {s:Option Nat} {v:Value} (h:w.cell? ⟨b,o,s⟩=some v):b<w.heap.size:=by
 unfold World.cell? at h;simp only at h;split at h
 ·rename_i hb;exact(Array.getElem?_eq_some_iff.1 hb).1
 ·cases h
theorem knh {W:World} (h:laidMet Tryz.prog laid W) {n:String} {g:Nat} {ti:TypeId} {ms:Array (String×TypeId)} {nm:String} {d:DataW Unit} (hm:(n,DataW.iface nm d) ∈ laid) (hg:Tryz.prog.globalNamed n=some g)
  (ht:(Tryz.prog.globals[g]?).map (·.type)=some ti) (hi:Tryz.prog.underlying ti=some (.interface ms)): ∃ u v,W.cell? ⟨g,0,none⟩=some (.iface u v):=by
 obtain⟨g',t,cs,fuel,p,h1,h2,h3,h4⟩:=Lib.laidMet.reads h hm;obtain rfl:=yaa (hg.symm.trans h1);obtain rfl:=yaa (ht.symm.trans h2);obtain⟨_,u,v,hc,_⟩:=iface_of_trod hi h4;refine⟨u,v,?_⟩;rw[World.var?_cell hg h3 0];have:=congrArg (·[0]?) hc;simpa using this
theorem i78: ∃ ms,Tryz.prog.underlying 78=some (.interface ms):=⟨_,rfl⟩
theorem qq3 {w:World} {n:String} {g:Nat} {cs:Array Value} (hg:Tryz.prog.globalNamed n=some g) (h:w.var? Tryz.prog n=some cs):g<w.heap.size:=by
 unfold World.var? at h;rw[hg] at h;simp only[Option.bind_some] at h;split at h
 ·rename_i hh;exact(Array.getElem?_eq_some_iff.1 hh).1
 ·cases h
theorem k9f {W:World} (h:laidMetH Tryz.prog laid W) (hsh:W.ShapedOpen Tryz.prog):GOk (fun b=>b<W.heap.size) W:=by
 rw[k0k] at h;have err: ∀ g,(∃ u v,W.cell? ⟨g,0,none⟩=some (.iface u v))->R (fun b=>b<W.heap.size) W yac yad (.ip [.ifv] 0) (.pointer (some ⟨g,0,none⟩)):=fun g ⟨u,v,hc⟩=>
  R.ip (o:=0) (fun _=> .iface u v) (kmq hc) (fun j hj=>by
   have:j=0:=by simp at hj;omega
   subst this;exact hc) fun j x hx=>by
   have:j=0:=by
    have:=(List.getElem?_eq_some_iff.1 hx).1;simp at this;omega
   subst this;cases hx;exact .ifv
 refine⟨fun g x hx=> ?_,?_⟩
 ·simp only[Gl.tab,glT] at hx;obtain⟨ms,hms⟩:=i78;split at hx
  ·rename_i hg;subst hg;cases hx;exact err 2 (knh h (show("strconv.ErrSyntax",(Rows.laid_strconv_ErrSyntax:DataW Unit)) ∈ laid by simp[laid,Rows.toolTellsRow]) (by kernel_rfl) (by kernel_rfl) hms)
  ·split at hx
   ·rename_i hg;subst hg;cases hx;exact err 3 (knh h (show("strconv.ErrRange",(Rows.laid_strconv_ErrRange:DataW Unit)) ∈ laid by simp[laid,Rows.toolTellsRow]) (by kernel_rfl) (by kernel_rfl) hms)
   ·cases hx
 ·have tab:Lib.TabIs Tryz.prog W "internal/strconv.uint64pow10" .u64 yab:=by
   obtain⟨g',t,cs,fuel,p,h1,h2,h3,h4⟩:=Lib.laidMet.reads h (n:= "internal/strconv.uint64pow10") (d:=Rows.laid_internal_strconv_uint64pow10) (by simp[laid,Rows.toolTellsRow]);obtain rfl:=yaa (g1.symm.trans h1);obtain⟨t',e,q1,q2,q3,q4,q5⟩: ∃ t' e,(Tryz.prog.globals[1]?).map (·.type)=some t'/\Tryz.prog.underlying t'=some (.array 20 e)/\Tryz.prog.underlying e=some (.int .u64)/\Tryz.prog.cellsOf e=1/\Tryz.prog.cellsOf t'=20:=⟨_,_,rfl,rfl,rfl,by kernel_rfl,by kernel_rfl⟩;obtain rfl:=yaa (q1.symm.trans h2);have hz:(Rows.laid_internal_strconv_uint64pow10:DataW Unit)=Lib.tabData .u64 yab:=by kernel_rfl
   rw[hz] at h4;have hc:=Lib.cells_of_tab q2 q3 q4 q5 h4;unfold Lib.TabIs;rw[h3,←hc]
  obtain⟨m,hm⟩: ∃ m,W.cell? ⟨0,0,none⟩=some (.int .i64 m):=Go.Proofs.cell_of_shapedOpen_int (zero:= #[.int .i64 0]) (t:=3) hsh (of_decide_eq_true (by kernel_rfl)) (by kernel_rfl) rfl (by kernel_rfl) (by kernel_rfl) Tryz.underlying3;obtain⟨ms,hms⟩:=i78;obtain⟨u2,v2,h2⟩:=knh h (show("strconv.ErrSyntax",(Rows.laid_strconv_ErrSyntax:DataW Unit)) ∈ laid by simp[laid,Rows.toolTellsRow]) (g:=2) (by kernel_rfl) (by kernel_rfl) hms;obtain⟨u3',v3',h3⟩:=knh h (show("strconv.ErrRange",(Rows.laid_strconv_ErrRange:DataW Unit)) ∈ laid by simp[laid,Rows.toolTellsRow]) (g:=3) (by kernel_rfl) (by kernel_rfl) hms;exact⟨⟨⟨qq3 g1 tab,tab⟩,kmq hm,m,hm⟩,⟨kmq h2,u2,v2,h2⟩,kmq h3,u3',v3',h3⟩
theorem qno {H:Type} {enc:TypeId×Value->H} {a:Assume} {C:Checked} {os:Os} {f:FuncId} {fn:Func} {s:ChangeSpec} {conds:List PathCond} {apart fresh handsOn again:Bool} {X:World->Array Value->Prop}
  (hX: ∀ (w w':World) (args:Array Value),w.heap=w'.heap->X w args->X w' args)
  (own:ownKnob C.prog.godebug=none) (started:os.Started) (noInit:C.prog.inits.idxOf? f=none) (hfn:C.prog.funcs[f]? =some fn)
  (witness: ∃(w:World) (tape:Tape) (i:Input),w.os=os/\(w.forCall tape i).Shaped C.prog/\i.vars=[]/\Input.okWide C.prog (w.forCall tape i) .any w.heap.size f i/\
   ((s.pre enc C.prog fn conds apart (w.forCall tape i).memory i.args/\X (w.forCall tape i).memory i.args)/\sizedMet enc C.prog fn (OpenSpec.ofChange s) apart (w.forCall tape i).memory i.args)/\a.holds C.prog (lone (Frame.enter C.prog f i.args .normal) [] (w.forCall tape i)))
  (contract: ∀ (W:World) (base:Nat) (args:Array Value) (ds gs:List (DataW H)) (before:List MemPlace),
   (∀ (j:Nat) t v,fn.params[j]? =some t->args[j]? =some v->Value.okWide C.prog W .any base t v)->
   DataW.Whole enc C.prog fn.params.toList s.vars apart W args.toList ds gs before->X W args->W.ShapedOpen C.prog->
   Calls C.prog f args W fun e W'=>∃ v,e= .returned v/\s.post enc C.prog fn apart fresh handsOn again W args v W'):
  ReturnsInHanded a C os f .any (fun w args=>(s.pre enc C.prog fn conds apart w args/\X w args)/\sizedMet enc C.prog fn (OpenSpec.ofChange s) apart w args) (s.post enc C.prog fn apart fresh handsOn again):=by
 refine returnsInHanded_of_calls own started noInit witness ?_;intro w tape i _ hsh _ hok hpre _;obtain⟨_,_,_,fn',hfn',_,_,_,_,hval⟩:=hok;have e:fn'=fn:=yaa (hfn'.symm.trans hfn);subst e;obtain⟨⟨⟨ds,gs,before,hw,_⟩,hx⟩,_⟩:=hpre;have hw':=DataW.Whole.of_heap (w':=w.forCall tape i) (by rfl) hw;refine(contract (w.forCall tape i) w.heap.size i.args ds gs before hval hw' (hX _ _ _ (by rfl) hx) hsh).mono fun e W' ⟨v,he,hp⟩=> ?_
 subst he;exact ChangeSpec.post_blind hp
end Go.Proofs.YtamikoglpnoicaaGreatDoor
