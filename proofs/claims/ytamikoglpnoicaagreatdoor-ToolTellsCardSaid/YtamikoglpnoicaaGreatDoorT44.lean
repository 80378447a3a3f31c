/-
  Chapter 20: hazelref20.Read (heads), in pieces, written by a program of our own (wip/tools).
  Conditions: none.
-/
import Derived.Test.YtamikoglpnoicaaGreatDoorT37
import Derived.Test.YtamikoglpnoicaaGreatDoorT43
open Go Go.Proofs
namespace Go.Proofs.Hz
open Int renaming toNat->yab
open OkF renaming im->yaa
set_option maxRecDepth 20000
noncomputable def B11:AC:=(kai FF 11).body
noncomputable def kdl:AC:=ka4 (ka4 (kat (ka4 (kat (kat (kat B11))))))
noncomputable def kco:AC:=ka4 (ka4 (ka4 (kat (kat (kat (kat (kat B11)))))))
noncomputable def kc5:AC:=ka4 (ka4 (kat (ka4 (kat (kat (kat (kat (kat (kat (kat B11))))))))))
noncomputable def c0x:AC:=ka4 B11
noncomputable def c1x:AC:=ka4 (kat B11)
noncomputable def c2x:AC:=ka4 (kat (kat B11))
noncomputable def c3x:AC:=ka4 (ka4 (kat (kat (kat B11))))
noncomputable def c4x:AC:=ka4 (kat (kat (kat (kat B11))))
noncomputable def cXx:AC:=ka4 (kat (kat (kat (kat (kat (kat B11))))))
noncomputable def c6x:AC:=ka4 (ka4 (kat (kat (kat (kat (kat (kat (kat B11))))))))
noncomputable def c7x:AC:=ka4 (kat (kat (kat (kat (kat (kat (kat (kat B11))))))))
theorem k6l:(kai FF 11).body= .seq c0x (.seq c1x (.seq c2x (.seq (.seq c3x (.block 0 (.loop kdl))) (.seq c4x (.seq (.block 2 (.loop kco)) (.seq cXx (.seq (.seq c6x (.block 5 (.loop kc5))) (.seq c7x .ret)))))))):=by kernel_rfl
def rB (t m:AV):Blk:= .cells [vt 1,vt 2,vt 3,t,m] false 26
def hN1:AV:= .sl 2 0 1000001 1 none
def vE:AV:= .sl 2 0 1000002 2 none
def vC:AV:= .sl 3 0 1001002 2 none
def sE:List Blk:=[tb,rB kaj kaj]
def sA:List Blk:=[tb,rB hN1 kaj,.pre 1000001 1 [kaj] 42]
def sB:List Blk:=[tb,rB hN1 kaj,.pre 1000001 1 [.sl 3 0 1001003 3 none] 42,.own 1001003 false 48]
def sA5:List Blk:=[tb,rB hN1 kaj,.pre 1000001 1 [kaj] 42,.own 1001003 false 48]
def sE1:List Blk:=[tb,rB kaj vE,.own 1000002 false 45]
def sC0:List Blk:=[tb,rB hN1 kaj,.own 1 false 42]
def sC1:List Blk:=[tb,rB hN1 vC,.own 1 false 42,.own 1001002 false 45]
def KE (a:Nat) (h:Hd) (L:List Bs) (bl:Bool) (σ:Nat->Nat):Val:=kal (hT a h) [.im (L.map eT) bl] [] σ 2
def KA (a:Nat) (h:Hd) (L:List Bs) (bl:Bool) (pc:List AV) (n:Nat) (hid:List (Nat×Blk)) (σ:Nat->Nat):Val:={kal (hT a h) [.im (L.map eT) bl,.im [pc] false] [(1,(un n).map eN)] σ 3 with hid:=hid}
def KB (a:Nat) (h:Hd) (L:List Bs) (bl:Bool) (pc:List AV) (n:Nat) (row:List Cl) (hid:List (Nat×Blk)) (σ:Nat->Nat):Val:={kal (hT a h) [.im (L.map eT) bl,.im [pc] false] [(1,(un n).map eN),(3,row.map eC)] σ 4 with hid:=hid}
def KA5 (a:Nat) (h:Hd) (L:List Bs) (bl:Bool) (pc:List AV) (n:Nat) (row:List Cl) (hid:List (Nat×Blk)) (σ:Nat->Nat):Val:={kal (hT a h) [.im (L.map eT) bl,.im [pc] false] [(1,(un n).map eN),(3,row.map eC)] σ 4 with hid:=hid}
def KE0 (a:Nat) (h:Hd) (L:List Bs) (bl:Bool) (_M:List Mov) (_q:Sh) (σ:Nat->Nat):Val:=kal (hT a h) [.im (L.map eT) bl] [] σ 2
def KE1 (a:Nat) (h:Hd) (L:List Bs) (bl:Bool) (M:List Mov) (_q:Sh) (σ:Nat->Nat):Val:=kal (hT a h) [.im (L.map eT) bl] [(2,M.map eM)] σ 3
def KC0 (a:Nat) (h:Hd) (L:List Bs) (bl:Bool) (_M:List Mov) (q:Sh) (σ:Nat->Nat):Val:={kal (hT a h) [.im (L.map eT) bl,.im [q.tc] false] [(1,(un q.n).map eN)] σ 3 with hid:=q.hid}
def KC1 (a:Nat) (h:Hd) (L:List Bs) (bl:Bool) (M:List Mov) (q:Sh) (σ:Nat->Nat):Val:={kal (hT a h) [.im (L.map eT) bl,.im [q.tc] false] [(1,(un q.n).map eN),(2,M.map eM)] σ 4 with hid:=q.hid}
theorem kk0 {l w:Bs} (hl:l.length<=1000000) (hw:w.length<=1000):kg9 l w 999=true:=by simp[kg9,hl,hw]
theorem koa {l:Bs} (h:kap l=(l,[])) (hne:l≠[]) (hl:l.length<=1000000) (hk:kau l=true):kak FF 27 [.str l] (.tup [.im [[.int .i64 (kas l).no,.int .i64 (kas l).a,.int .i64 (kas l).b]] false,.int .i64 l.length,.int .i64 0]):=by
 have:=k0d l hl rfl;rw[koc h hne,iq hk] at this;exact this
theorem khw {l:Bs} (h:kap l=(l,[])) (hne:l≠[]) (hl:l.length<=1000000) (hk: ¬kau l=true):kak FF 27 [.str l] (.tup [.im [] true,.int .i64 0,.int .i64 1]):=by
 have:=k0d l hl rfl;rw[koc h hne,ir hk] at this;exact this
theorem qn5 (s:Bs) (hs:s.length<=1000000) {z:St} (S:Sim (kal [.str s] [] [] (fun i=>i) 0) (kaa [0] [vt 0] []) z): ∃ z1,Ev FF (.seq c0x (.seq c1x (.seq c2x c3x))) z .nrm z1/\Sim (KE 0 ⟨0,0,0⟩ (kbf s) (kbf s).isEmpty (sig (fun i=>i) [0,1] 2)) (kaa [2,5,6,7] [.ptr 0 0,vf 0,.ptr 1 0,.int .i64 0] sE) z1:=by
 have H:=Tok.start (G:=gl20) (F:=FF) (σ:=fun i=>i) (fun _ _ e=>e) S 0 1 0 0 [.str s] [] [] .n .n rfl rfl;have H:=H.f 1 [.im ((kbf s).map eT) (kbf s).isEmpty] (.c (yaa kae _ _) .n);have H:=H.s [vt 0] (vf 0) (qa8 s hs);exact H.ev _ _ _ [0,1] [.ptr 0 0,vf 0,.ptr 1 0,.int .i64 0] [tb,.cells [.int .i64 0,.int .i64 0,.int .i64 0,kaj,kaj] false 26] 2 _ _ _
theorem qn6 (n:Nat) (hid:List (Nat×Blk)) {z:St} {σ:Nat->Nat} (hσ: ∀ i j,σ i=σ j->i=j) (S:Sim ({kal [.int .i64 n] [] [] σ 1 with hid:=hid}) (kaa [2,3,4] [.ptr 0 0,vt 0,.int .i64 1] [tb]) z):J FF (kai FF 11) [] (.sig .ret) z (.tup [.agg [.int .i64 0,.int .i64 0,.int .i64 0,.im [] true,.im [] true],.int .i64 n,.int .i64 1]):=by
 have H:=Tok.startH (G:=gl20) (F:=FF) hσ S 1 1 0 0 [.int .i64 n] [] [] hid .n .n rfl rfl;exact H.e [] rfl
theorem qae (a:Nat) (h:Hd) (L:List Bs) (bl:Bool) {z:St} {σ:Nat->Nat} (hσ: ∀ i j,σ i=σ j->i=j) (S:Sim (KE a h L bl σ) (kaa [2,5,6,7] [.ptr 0 0,vf 0,.ptr 1 0,.int .i64 0] sE) z) (h0: ¬(0:Int)<(L.length:Int)): ∃ z1,Ev FF kdl z .ret z1/\Sim (kal [.int .i64 1] [] [] (sig σ [0] 2) 1) (kaa [2,3,4] [.ptr 0 0,vt 0,.int .i64 1] [tb]) z1:=by
 have H:=Tok.start (G:=gl20) (F:=FF) hσ S 2 4 1 0 (hT a h) [.im (L.map eT) bl] [] (.c (yaa kae _ _) .n) .n rfl rfl;have H:=H.t 6 [.int .i64 L.length,.bool (decide ((0:Int)<(L.length:Int)))]|>.L (vf 0) 4|>.q 5 (.bin .lss (cI 0) (cT 4))|>.w 5 h0;exact H.ev _ _ _ [0] [.ptr 0 0,.int .i64 1,.int .i64 1] [tb] 2 _ _ _
theorem k98 (a:Nat) (h:Hd) (L:List Bs) (bl:Bool) {z:St} {σ:Nat->Nat} (hσ: ∀ i j,σ i=σ j->i=j) (S:Sim (KE a h L bl σ) (kaa [2,5,6,7] [.ptr 0 0,vf 0,.ptr 1 0,.int .i64 0] sE) z) (h0:(0:Int)<(L.length:Int)) {l:Bs} (hl:L[yab (0:Int)]? =some l) (hlen:l.length<=1000000) (hn:kah kaz l 999<0): ∃ z1,Ev FF kdl z .ret z1/\Sim (kal [.int .i64 1] [] [] (sig σ [0] 10) 1) (kaa [2,3,4] [.ptr 0 0,vt 0,.int .i64 1] [tb]) z1:=by
 have H:=Tok.start (G:=gl20) (F:=FF) hσ S 2 4 1 0 (hT a h) [.im (L.map eT) bl] [] (.c (yaa kae _ _) .n) .n rfl rfl;have H:=H.t 6 [.int .i64 L.length,.bool (decide ((0:Int)<(L.length:Int)))]|>.L (vf 0) 4|>.q 5 (.bin .lss (cI 0) (cT 4))|>.y 5 h0;have H:=H.t 7 [.str l]|>.I (vf 0) (.int .i64 0) [vt 6] kae (by omega) hl;have H:=H.t 9 [.int .i64 (kah kaz l 999),.bool (decide (kah kaz l 999<0))]|>.s [.int .i64 0] (.str kaz) krk|>.s [vt 6,.str kaz,.int .i64 999] (vt 7) (kha l kaz 999 (kk0 hlen (by decide)))|>.q 8 (.bin .lss (cT 7) (cI 0))|>.y 8 hn;exact H.ev _ _ _ [0] [.ptr 0 0,.int .i64 1,.int .i64 1] [tb] 10 _ _ _
theorem qab (a:Nat) (h:Hd) (L:List Bs) (bl:Bool) {z:St} {σ:Nat->Nat} (hσ: ∀ i j,σ i=σ j->i=j) (S:Sim (KE a h L bl σ) (kaa [2,5,6,7] [.ptr 0 0,vf 0,.ptr 1 0,.int .i64 0] sE) z) (h0:(0:Int)<(L.length:Int)) {l:Bs} (hl:L[yab (0:Int)]? =some l) (hlen:l.length<=1000000) (hn: ¬kah kaz l 999<0): ∃ z1,Ev FF kdl z .nrm z1/\Sim (KE a (Hd.mk (kah kaz l 999) h.n1 h.n2) L bl (sig σ [0,1] 10)) (kaa [2,5,6,7] [.ptr 0 0,vf 0,.ptr 1 0,.int .i64 1] sE) z1:=by
 have H:=Tok.start (G:=gl20) (F:=FF) hσ S 2 4 1 0 (hT a h) [.im (L.map eT) bl] [] (.c (yaa kae _ _) .n) .n rfl rfl;have H:=H.t 6 [.int .i64 L.length,.bool (decide ((0:Int)<(L.length:Int)))]|>.L (vf 0) 4|>.q 5 (.bin .lss (cI 0) (cT 4))|>.y 5 h0;have H:=H.t 7 [.str l]|>.I (vf 0) (.int .i64 0) [vt 6] kae (by omega) hl;have H:=H.t 9 [.int .i64 (kah kaz l 999),.bool (decide (kah kaz l 999<0))]|>.s [.int .i64 0] (.str kaz) krk|>.s [vt 6,.str kaz,.int .i64 999] (vt 7) (kha l kaz 999 (kk0 hlen (by decide)))|>.q 8 (.bin .lss (cT 7) (cI 0))|>.w 8 hn;exact H.ev _ _ _ [0,1] [.ptr 0 0,vf 0,.ptr 1 0,.int .i64 1] [.cells [(.int .i64 0),(.int .i64 0),(.int .i64 0),(.im [] true),(.im [] true)] false 26,.cells [(vt 7),(vt 2),(vt 3),(.im [] true),(.im [] true)] false 26] 10 _ _ _
theorem qaf (a:Nat) (h:Hd) (L:List Bs) (bl:Bool) {z:St} {σ:Nat->Nat} (hσ: ∀ i j,σ i=σ j->i=j) (S:Sim (KE a h L bl σ) (kaa [2,5,6,7] [.ptr 0 0,vf 0,.ptr 1 0,.int .i64 1] sE) z) (h0: ¬(1:Int)<(L.length:Int)): ∃ z1,Ev FF kdl z .ret z1/\Sim (kal [.int .i64 2] [] [] (sig σ [0] 2) 1) (kaa [2,3,4] [.ptr 0 0,vt 0,.int .i64 1] [tb]) z1:=by
 have H:=Tok.start (G:=gl20) (F:=FF) hσ S 2 4 1 0 (hT a h) [.im (L.map eT) bl] [] (.c (yaa kae _ _) .n) .n rfl rfl;have H:=H.t 6 [.int .i64 L.length,.bool (decide ((1:Int)<(L.length:Int)))]|>.L (vf 0) 4|>.q 5 (.bin .lss (cI 1) (cT 4))|>.w 5 h0;exact H.ev _ _ _ [0] [.ptr 0 0,.int .i64 2,.int .i64 1] [tb] 2 _ _ _
theorem k99 (a:Nat) (h:Hd) (L:List Bs) (bl:Bool) {z:St} {σ:Nat->Nat} (hσ: ∀ i j,σ i=σ j->i=j) (S:Sim (KE a h L bl σ) (kaa [2,5,6,7] [.ptr 0 0,vf 0,.ptr 1 0,.int .i64 1] sE) z) (h0:(1:Int)<(L.length:Int)) {l:Bs} (hl:L[yab (1:Int)]? =some l) (hlen:l.length<=1000000) (hn:kah ka0 l 999<0): ∃ z1,Ev FF kdl z .ret z1/\Sim (kal [.int .i64 2] [] [] (sig σ [0] 10) 1) (kaa [2,3,4] [.ptr 0 0,vt 0,.int .i64 1] [tb]) z1:=by
 have H:=Tok.start (G:=gl20) (F:=FF) hσ S 2 4 1 0 (hT a h) [.im (L.map eT) bl] [] (.c (yaa kae _ _) .n) .n rfl rfl;have H:=H.t 6 [.int .i64 L.length,.bool (decide ((1:Int)<(L.length:Int)))]|>.L (vf 0) 4|>.q 5 (.bin .lss (cI 1) (cT 4))|>.y 5 h0;have H:=H.t 7 [.str l]|>.I (vf 0) (.int .i64 1) [vt 6] kae (by omega) hl;have H:=H.t 9 [.int .i64 (kah ka0 l 999),.bool (decide (kah ka0 l 999<0))]|>.s [.int .i64 1] (.str ka0) krl|>.s [vt 6,.str ka0,.int .i64 999] (vt 7) (kha l ka0 999 (kk0 hlen (by decide)))|>.q 8 (.bin .lss (cT 7) (cI 0))|>.y 8 hn;exact H.ev _ _ _ [0] [.ptr 0 0,.int .i64 2,.int .i64 1] [tb] 10 _ _ _
theorem qac (a:Nat) (h:Hd) (L:List Bs) (bl:Bool) {z:St} {σ:Nat->Nat} (hσ: ∀ i j,σ i=σ j->i=j) (S:Sim (KE a h L bl σ) (kaa [2,5,6,7] [.ptr 0 0,vf 0,.ptr 1 0,.int .i64 1] sE) z) (h0:(1:Int)<(L.length:Int)) {l:Bs} (hl:L[yab (1:Int)]? =some l) (hlen:l.length<=1000000) (hn: ¬kah ka0 l 999<0): ∃ z1,Ev FF kdl z .nrm z1/\Sim (KE a (Hd.mk h.n0 (kah ka0 l 999) h.n2) L bl (sig σ [0,1] 10)) (kaa [2,5,6,7] [.ptr 0 0,vf 0,.ptr 1 0,.int .i64 2] sE) z1:=by
 have H:=Tok.start (G:=gl20) (F:=FF) hσ S 2 4 1 0 (hT a h) [.im (L.map eT) bl] [] (.c (yaa kae _ _) .n) .n rfl rfl;have H:=H.t 6 [.int .i64 L.length,.bool (decide ((1:Int)<(L.length:Int)))]|>.L (vf 0) 4|>.q 5 (.bin .lss (cI 1) (cT 4))|>.y 5 h0;have H:=H.t 7 [.str l]|>.I (vf 0) (.int .i64 1) [vt 6] kae (by omega) hl;have H:=H.t 9 [.int .i64 (kah ka0 l 999),.bool (decide (kah ka0 l 999<0))]|>.s [.int .i64 1] (.str ka0) krl|>.s [vt 6,.str ka0,.int .i64 999] (vt 7) (kha l ka0 999 (kk0 hlen (by decide)))|>.q 8 (.bin .lss (cT 7) (cI 0))|>.w 8 hn;exact H.ev _ _ _ [0,1] [.ptr 0 0,vf 0,.ptr 1 0,.int .i64 2] [.cells [(.int .i64 0),(.int .i64 0),(.int .i64 0),(.im [] true),(.im [] true)] false 26,.cells [(vt 1),(vt 7),(vt 3),(.im [] true),(.im [] true)] false 26] 10 _ _ _
theorem qag (a:Nat) (h:Hd) (L:List Bs) (bl:Bool) {z:St} {σ:Nat->Nat} (hσ: ∀ i j,σ i=σ j->i=j) (S:Sim (KE a h L bl σ) (kaa [2,5,6,7] [.ptr 0 0,vf 0,.ptr 1 0,.int .i64 2] sE) z) (h0: ¬(2:Int)<(L.length:Int)): ∃ z1,Ev FF kdl z .ret z1/\Sim (kal [.int .i64 3] [] [] (sig σ [0] 2) 1) (kaa [2,3,4] [.ptr 0 0,vt 0,.int .i64 1] [tb]) z1:=by
 have H:=Tok.start (G:=gl20) (F:=FF) hσ S 2 4 1 0 (hT a h) [.im (L.map eT) bl] [] (.c (yaa kae _ _) .n) .n rfl rfl;have H:=H.t 6 [.int .i64 L.length,.bool (decide ((2:Int)<(L.length:Int)))]|>.L (vf 0) 4|>.q 5 (.bin .lss (cI 2) (cT 4))|>.w 5 h0;exact H.ev _ _ _ [0] [.ptr 0 0,.int .i64 3,.int .i64 1] [tb] 2 _ _ _
theorem qaa (a:Nat) (h:Hd) (L:List Bs) (bl:Bool) {z:St} {σ:Nat->Nat} (hσ: ∀ i j,σ i=σ j->i=j) (S:Sim (KE a h L bl σ) (kaa [2,5,6,7] [.ptr 0 0,vf 0,.ptr 1 0,.int .i64 2] sE) z) (h0:(2:Int)<(L.length:Int)) {l:Bs} (hl:L[yab (2:Int)]? =some l) (hlen:l.length<=1000000) (hn:kah ka1 l 999<0): ∃ z1,Ev FF kdl z .ret z1/\Sim (kal [.int .i64 3] [] [] (sig σ [0] 10) 1) (kaa [2,3,4] [.ptr 0 0,vt 0,.int .i64 1] [tb]) z1:=by
 have H:=Tok.start (G:=gl20) (F:=FF) hσ S 2 4 1 0 (hT a h) [.im (L.map eT) bl] [] (.c (yaa kae _ _) .n) .n rfl rfl;have H:=H.t 6 [.int .i64 L.length,.bool (decide ((2:Int)<(L.length:Int)))]|>.L (vf 0) 4|>.q 5 (.bin .lss (cI 2) (cT 4))|>.y 5 h0;have H:=H.t 7 [.str l]|>.I (vf 0) (.int .i64 2) [vt 6] kae (by omega) hl;have H:=H.t 9 [.int .i64 (kah ka1 l 999),.bool (decide (kah ka1 l 999<0))]|>.s [.int .i64 2] (.str ka1) krm|>.s [vt 6,.str ka1,.int .i64 999] (vt 7) (kha l ka1 999 (kk0 hlen (by decide)))|>.q 8 (.bin .lss (cT 7) (cI 0))|>.y 8 hn;exact H.ev _ _ _ [0] [.ptr 0 0,.int .i64 3,.int .i64 1] [tb] 10 _ _ _
theorem qad (a:Nat) (h:Hd) (L:List Bs) (bl:Bool) {z:St} {σ:Nat->Nat} (hσ: ∀ i j,σ i=σ j->i=j) (S:Sim (KE a h L bl σ) (kaa [2,5,6,7] [.ptr 0 0,vf 0,.ptr 1 0,.int .i64 2] sE) z) (h0:(2:Int)<(L.length:Int)) {l:Bs} (hl:L[yab (2:Int)]? =some l) (hlen:l.length<=1000000) (hn: ¬kah ka1 l 999<0): ∃ z1,Ev FF kdl z .nrm z1/\Sim (KE a (Hd.mk h.n0 h.n1 (kah ka1 l 999)) L bl (sig σ [0,1] 10)) (kaa [2,5,6,7] [.ptr 0 0,vf 0,.ptr 1 0,.int .i64 3] sE) z1:=by
 have H:=Tok.start (G:=gl20) (F:=FF) hσ S 2 4 1 0 (hT a h) [.im (L.map eT) bl] [] (.c (yaa kae _ _) .n) .n rfl rfl;have H:=H.t 6 [.int .i64 L.length,.bool (decide ((2:Int)<(L.length:Int)))]|>.L (vf 0) 4|>.q 5 (.bin .lss (cI 2) (cT 4))|>.y 5 h0;have H:=H.t 7 [.str l]|>.I (vf 0) (.int .i64 2) [vt 6] kae (by omega) hl;have H:=H.t 9 [.int .i64 (kah ka1 l 999),.bool (decide (kah ka1 l 999<0))]|>.s [.int .i64 2] (.str ka1) krm|>.s [vt 6,.str ka1,.int .i64 999] (vt 7) (kha l ka1 999 (kk0 hlen (by decide)))|>.q 8 (.bin .lss (cT 7) (cI 0))|>.w 8 hn;exact H.ev _ _ _ [0,1] [.ptr 0 0,vf 0,.ptr 1 0,.int .i64 3] [.cells [(.int .i64 0),(.int .i64 0),(.int .i64 0),(.im [] true),(.im [] true)] false 26,.cells [(vt 1),(vt 2),(vt 7),(.im [] true),(.im [] true)] false 26] 10 _ _ _
theorem hxE (a:Nat) (h:Hd) (L:List Bs) (bl:Bool) {z:St} {σ:Nat->Nat} (hσ: ∀ i j,σ i=σ j->i=j) (S:Sim (KE a h L bl σ) (kaa [2,5,6,7] [.ptr 0 0,vf 0,.ptr 1 0,.int .i64 3] sE) z): ∃ z1,Ev FF kdl z (.ext 0) z1/\Sim (KE a h L bl (sig σ [0,1] 2)) (kaa [2,5,6] [.ptr 0 0,vf 0,.ptr 1 0] sE) z1:=by
 have H:=Tok.start (G:=gl20) (F:=FF) hσ S 2 4 1 0 (hT a h) [.im (L.map eT) bl] [] (.c (yaa kae _ _) .n) .n rfl rfl;exact H.ev _ _ _ [0,1] [.ptr 0 0,vf 0,.ptr 1 0] [.cells [(.int .i64 0),(.int .i64 0),(.int .i64 0),(.im [] true),(.im [] true)] false 26,.cells [(vt 1),(vt 2),(vt 3),(.im [] true),(.im [] true)] false 26] 2 _ _ _
theorem hx4 (a:Nat) (h:Hd) (L:List Bs) (bl:Bool) {z:St} {σ:Nat->Nat} (hσ: ∀ i j,σ i=σ j->i=j) (S:Sim (KE a h L bl σ) (kaa [2,5,6] [.ptr 0 0,vf 0,.ptr 1 0] sE) z): ∃ z1,Ev FF c4x z .nrm z1/\Sim (KE 3 h L bl (sig σ [0,1] 2)) (kaa [2,5,6,9] [.ptr 0 0,vf 0,.ptr 1 0,vt 0] sE) z1:=by
 have H:=Tok.start (G:=gl20) (F:=FF) hσ S 2 4 1 0 (hT a h) [.im (L.map eT) bl] [] (.c (yaa kae _ _) .n) .n rfl rfl;exact H.ev _ _ _ [0,1] [.ptr 0 0,vf 0,.ptr 1 0,.int .i64 3] [.cells [(.int .i64 0),(.int .i64 0),(.int .i64 0),(.im [] true),(.im [] true)] false 26,.cells [(vt 1),(vt 2),(vt 3),(.im [] true),(.im [] true)] false 26] 2 _ _ _
end Go.Proofs.Hz
