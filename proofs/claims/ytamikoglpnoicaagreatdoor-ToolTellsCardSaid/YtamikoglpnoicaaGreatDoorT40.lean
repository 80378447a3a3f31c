/-
  Chapter 20: the document's example, step by step: the states (written by a program of our own: wip/tools).
  Conditions: none.
-/
import Derived.Test.YtamikoglpnoicaaGreatDoorT22
import Derived.Test.YtamikoglpnoicaaGreatDoorT39
open Go Go.Proofs
namespace Go.Proofs.Hz
open Bool renaming and_eq_true->yab
open List renaming all_eq_true->yac
open List.cons renaming inj->yaa
def LI (l:List Int):List (List AV):=l.map fun n=>[.int .i64 n]
def SW0:List (List AV):=LI [4194310,0,0,0,0,0,0,0,0,0,0,0,0,0,0,0,0,0,0,0,0,0,0,0,0,0,0,0,0,0,0,0,4,4,0,0,0,0,0,0,0,0,0,0,0,0,0,0,2,0,1,0,0,0,0,0,0,0,0,0,0,0,0,0,0,0,0,0,0,0,0,0,0,0,0,0,0,0,0,0,0,1,0,1,0,1,0,1,0,1,0,1,0,1,0,1,2,0,0,0,0,0,0,0,0,0,0,0,0,0,0,0,1,0,0,0,0,0,0,0,0,0,0,0,0,0,0,0,2,2097152,0,0,3,2097152,0,0,4,0,0,0,5,0,0,0,6,0,0,0,7,0,0,0,8,0,0,0,9,0,0,0,0,0,0,0]
def SW1:List (List AV):=LI [4194310,0,0,0,0,0,0,0,0,0,0,0,0,0,0,0,0,0,0,0,0,0,0,0,0,0,0,0,0,0,0,0,4,4,0,0,0,0,0,0,0,0,0,0,0,0,0,0,2,0,1,0,0,0,0,0,0,0,0,0,0,0,0,0,0,0,0,0,0,0,0,0,0,0,0,0,0,0,0,0,0,1,0,1,0,1,0,1,0,1,0,1,0,1,0,1,2,0,0,0,0,0,0,0,0,0,0,0,0,0,0,0,0,0,0,0,0,0,0,0,0,0,0,0,0,0,0,0,2,2097152,0,0,3,2097152,0,0,4,0,0,0,5,0,0,0,6,0,0,0,7,0,0,0,8,0,0,0,9,0,0,0,0,0,0,0]
def SW2:List (List AV):=LI [4194310,0,0,0,0,0,0,0,0,0,0,0,0,0,0,0,0,0,0,0,0,0,0,0,0,0,0,0,0,0,0,0,4,4,0,0,0,0,0,0,0,0,0,0,0,0,0,0,2,0,1,0,0,0,0,0,0,0,0,0,0,0,0,0,0,0,0,0,0,0,0,0,0,0,0,0,0,0,0,0,0,1,0,1,0,1,0,1,0,1,0,1,0,1,0,1,2097156,0,0,0,0,0,0,0,0,0,0,0,0,0,0,0,0,0,0,0,0,0,0,0,0,0,0,0,0,0,0,0,2,2097152,0,0,3,2097152,0,0,4,0,0,0,5,0,0,0,6,0,0,0,7,0,0,0,8,0,0,0,9,0,0,0,0,0,0,0]
def SW3:List (List AV):=LI [4194310,0,0,0,0,0,0,0,2,0,0,0,0,0,0,0,0,0,0,0,0,0,0,0,0,0,0,0,0,0,0,0,4,4,0,0,0,0,0,0,0,0,0,0,0,0,0,0,2,0,1,0,0,0,0,0,0,0,0,0,0,0,0,0,0,0,0,0,0,0,0,0,0,0,0,0,0,0,0,0,0,1,0,1,0,1,0,1,0,1,0,1,0,1,0,1,2097156,0,0,0,0,0,0,0,0,0,0,0,0,0,0,0,0,0,0,0,0,0,0,0,0,0,0,0,0,0,0,0,2,2097152,0,0,3,2097152,0,0,4,0,0,0,5,0,0,0,6,0,0,0,7,0,0,0,8,0,0,0,9,0,0,0,0,0,0,0]
def SK0:AV:=(.agg [(.im SW0 true),(.im (LI [0,1,1,0,0,0,0,0,0,0]) false),(.bool false),(.im [[(.im [] true),(.int .i64 0),(.int .i64 0),(.int .i64 0),(.int .i64 0),(.int .i64 0),(.im [] true)]] true),(.im [] true),(.im [[(.im [[(.int .i64 2),(.int .i64 0),(.int .i64 0)]] false),(.int .i64 0),(.int .i64 (-1)),(.im [] true)]] false),(.im [[(.int .i64 (-1))]] true),(.im [[(.int .i64 0)]] true)])
def SK1:AV:=(.agg [(.im SW0 true),(.im (LI [0,1,1,0,0,0,0,0,0,0]) false),(.bool false),(.im [[(.im [[(.int .i64 23),(.int .i64 1),(.int .i64 0),(.int .i64 0),(.int .i64 1),(.int .i64 0),(.int .i64 0),(.int .i64 0),(.int .i64 0),(.int .i64 0),(.im [] true)]] false),(.int .i64 0),(.int .i64 0),(.int .i64 0),(.int .i64 0),(.int .i64 0),(.im [] true)]] true),(.im [] true),(.im [[(.im [[(.int .i64 2),(.int .i64 0),(.int .i64 0)]] false),(.int .i64 0),(.int .i64 (-1)),(.im [] true)]] false),(.im [[(.int .i64 (-1))]] true),(.im [[(.int .i64 0)]] true)])
def SK2:AV:=(.agg [(.im SW1 true),(.im (LI [0,1,1,0,0,0,0,0,0,0]) false),(.bool false),(.im [[(.im [[(.int .i64 23),(.int .i64 2),(.int .i64 0),(.int .i64 0),(.int .i64 1),(.int .i64 0),(.int .i64 0),(.int .i64 0),(.int .i64 0),(.int .i64 0),(.im [] true)]] false),(.int .i64 0),(.int .i64 0),(.int .i64 0),(.int .i64 0),(.int .i64 0),(.im [] true)]] true),(.im [] true),(.im [[(.im [[(.int .i64 2),(.int .i64 0),(.int .i64 0)]] false),(.int .i64 0),(.int .i64 (-1)),(.im [] true)]] false),(.im [[(.int .i64 (-1))]] true),(.im [[(.int .i64 0)]] true)])
def SK3:AV:=(.agg [(.im SW1 true),(.im (LI [0,1,1,0,0,0,0,0,0,0]) false),(.bool false),(.im [[(.im [[(.int .i64 23),(.int .i64 3),(.int .i64 0),(.int .i64 0),(.int .i64 1),(.int .i64 0),(.int .i64 2),(.int .i64 0),(.int .i64 0),(.int .i64 0),(.im [] true)]] false),(.int .i64 0),(.int .i64 0),(.int .i64 0),(.int .i64 0),(.int .i64 0),(.im [] true)]] true),(.im [] true),(.im [[(.im [[(.int .i64 2),(.int .i64 0),(.int .i64 0)]] false),(.int .i64 0),(.int .i64 (-1)),(.im [] true)]] false),(.im [[(.int .i64 (-1))]] true),(.im [[(.int .i64 0)]] true)])
def SK4:AV:=(.agg [(.im SW2 true),(.im (LI [0,1,1,0,0,0,0,0,0,0]) false),(.bool false),(.im [[(.im [] false),(.int .i64 0),(.int .i64 0),(.int .i64 0),(.int .i64 0),(.int .i64 0),(.im [] true)]] true),(.im [] true),(.im [[(.im [[(.int .i64 2),(.int .i64 0),(.int .i64 0)]] false),(.int .i64 0),(.int .i64 (-1)),(.im [] true)]] false),(.im [[(.int .i64 0)]] false),(.im [[(.int .i64 0)]] false)])
def SK5:AV:=(.agg [(.im SW2 true),(.im (LI [0,1,1,0,0,0,0,0,0,0]) false),(.bool false),(.im [[(.im [[(.int .i64 10),(.int .i64 1),(.int .i64 0),(.int .i64 0),(.int .i64 0),(.int .i64 0),(.int .i64 0),(.int .i64 0),(.int .i64 0),(.int .i64 0),(.im [] true)],[(.int .i64 3),(.int .i64 0),(.int .i64 32),(.int .i64 0),(.int .i64 0),(.int .i64 0),(.int .i64 0),(.int .i64 0),(.int .i64 0),(.int .i64 0),(.im [] true)]] false),(.int .i64 0),(.int .i64 0),(.int .i64 0),(.int .i64 0),(.int .i64 0),(.im [] true)]] true),(.im [] true),(.im [[(.im [[(.int .i64 2),(.int .i64 0),(.int .i64 0)]] false),(.int .i64 0),(.int .i64 0),(.im [] true)]] false),(.im [[(.int .i64 0)]] false),(.im [[(.int .i64 0)]] false)])
def SK6:AV:=(.agg [(.im SW2 true),(.im (LI [0,1,1,0,0,0,0,0,0,0]) false),(.bool false),(.im [[(.im [[(.int .i64 10),(.int .i64 1),(.int .i64 0),(.int .i64 0),(.int .i64 0),(.int .i64 0),(.int .i64 0),(.int .i64 0),(.int .i64 0),(.int .i64 0),(.im [] true)],[(.int .i64 3),(.int .i64 1),(.int .i64 32),(.int .i64 0),(.int .i64 4),(.int .i64 0),(.int .i64 0),(.int .i64 0),(.int .i64 0),(.int .i64 0),(.im [] true)]] false),(.int .i64 0),(.int .i64 0),(.int .i64 0),(.int .i64 0),(.int .i64 0),(.im [] true)]] true),(.im [] true),(.im [[(.im [[(.int .i64 2),(.int .i64 0),(.int .i64 0)]] false),(.int .i64 0),(.int .i64 0),(.im [] true)]] false),(.im [[(.int .i64 0)]] false),(.im [[(.int .i64 0)]] false)])
def SK7:AV:=(.agg [(.im SW3 true),(.im (LI [0,1,1,0,0,0,0,0,0,0]) false),(.bool false),(.im [[(.im [[(.int .i64 10),(.int .i64 1),(.int .i64 0),(.int .i64 0),(.int .i64 0),(.int .i64 0),(.int .i64 0),(.int .i64 0),(.int .i64 0),(.int .i64 0),(.im [] true)],[(.int .i64 3),(.int .i64 2),(.int .i64 32),(.int .i64 0),(.int .i64 4),(.int .i64 0),(.int .i64 0),(.int .i64 0),(.int .i64 0),(.int .i64 0),(.im [] true)]] false),(.int .i64 0),(.int .i64 0),(.int .i64 0),(.int .i64 0),(.int .i64 0),(.im [] true)]] true),(.im [] true),(.im [[(.im [[(.int .i64 2),(.int .i64 0),(.int .i64 0)]] false),(.int .i64 0),(.int .i64 0),(.im [] true)]] false),(.im [[(.int .i64 0)]] false),(.im [[(.int .i64 0)]] false)])
def SK8:AV:=(.agg [(.im SW3 true),(.im (LI [0,1,1,0,0,0,0,0,0,0]) false),(.bool false),(.im [[(.im [[(.int .i64 10),(.int .i64 1),(.int .i64 0),(.int .i64 0),(.int .i64 0),(.int .i64 0),(.int .i64 0),(.int .i64 0),(.int .i64 0),(.int .i64 0),(.im [] true)]] false),(.int .i64 4),(.int .i64 0),(.int .i64 0),(.int .i64 0),(.int .i64 0),(.im [] true)]] true),(.im [] true),(.im [[(.im [[(.int .i64 2),(.int .i64 0),(.int .i64 0)]] false),(.int .i64 0),(.int .i64 0),(.im [] true)]] false),(.im [[(.int .i64 0)]] false),(.im [[(.int .i64 0)]] false)])
def SK9:AV:=(.agg [(.im SW3 true),(.im (LI [0,1,1,0,0,0,0,0,0,0]) false),(.bool false),(.im [[(.im [[(.int .i64 10),(.int .i64 2),(.int .i64 0),(.int .i64 0),(.int .i64 4),(.int .i64 0),(.int .i64 0),(.int .i64 0),(.int .i64 0),(.int .i64 0),(.im [] true)]] false),(.int .i64 4),(.int .i64 0),(.int .i64 0),(.int .i64 0),(.int .i64 0),(.im [] true)]] true),(.im [] true),(.im [[(.im [[(.int .i64 2),(.int .i64 0),(.int .i64 0)]] false),(.int .i64 0),(.int .i64 0),(.im [] true)]] false),(.im [[(.int .i64 0)]] false),(.im [[(.int .i64 0)]] false)])
def SK10:AV:=(.agg [(.im SW3 true),(.im (LI [0,1,1,0,0,0,0,0,0,0]) false),(.bool false),(.im [[(.im [[(.int .i64 10),(.int .i64 3),(.int .i64 0),(.int .i64 0),(.int .i64 4),(.int .i64 4),(.int .i64 0),(.int .i64 0),(.int .i64 0),(.int .i64 0),(.im [] true)]] false),(.int .i64 4),(.int .i64 0),(.int .i64 0),(.int .i64 0),(.int .i64 0),(.im [] true)]] true),(.im [] true),(.im [[(.im [[(.int .i64 2),(.int .i64 0),(.int .i64 0)]] false),(.int .i64 0),(.int .i64 0),(.im [] true)]] false),(.im [[(.int .i64 0)]] false),(.im [[(.int .i64 0)]] false)])
def SK11:AV:=(.agg [(.im SW3 true),(.im (LI [0,1,1,0,0,0,0,0,0,0]) false),(.bool false),(.im [[(.im [[(.int .i64 10),(.int .i64 9),(.int .i64 0),(.int .i64 0),(.int .i64 4),(.int .i64 4),(.int .i64 2097152),(.int .i64 0),(.int .i64 3),(.int .i64 0),(.im [] true)]] false),(.int .i64 4),(.int .i64 0),(.int .i64 0),(.int .i64 0),(.int .i64 0),(.im [] true)]] true),(.im [[(.int .i64 0),(.int .i64 3),(.int .i64 0),(.int .i64 0),(.int .i64 0)]] false),(.im [[(.im [[(.int .i64 2),(.int .i64 0),(.int .i64 0)]] false),(.int .i64 0),(.int .i64 0),(.im [] true)]] false),(.im [[(.int .i64 0)]] false),(.im [[(.int .i64 0)]] false)])
def SK12:AV:=(.agg [(.im SW2 true),(.im (LI [0,1,1,0,0,0,0,0,0,0]) false),(.bool false),(.im [[(.im [[(.int .i64 10),(.int .i64 10),(.int .i64 0),(.int .i64 0),(.int .i64 4),(.int .i64 4),(.int .i64 2097152),(.int .i64 0),(.int .i64 3),(.int .i64 0),(.im [] true)]] false),(.int .i64 4),(.int .i64 0),(.int .i64 0),(.int .i64 0),(.int .i64 0),(.im [] true)]] true),(.im [[(.int .i64 0),(.int .i64 3),(.int .i64 0),(.int .i64 0),(.int .i64 0)]] false),(.im [[(.im [[(.int .i64 2),(.int .i64 0),(.int .i64 0)]] false),(.int .i64 0),(.int .i64 0),(.im [] true)]] false),(.im [[(.int .i64 0)]] false),(.im [[(.int .i64 0)]] false)])
def SK13:AV:=(.agg [(.im SW2 true),(.im (LI [0,1,1,0,0,0,0,0,0,0]) false),(.bool false),(.im [[(.im [] false),(.int .i64 0),(.int .i64 3),(.int .i64 0),(.int .i64 0),(.int .i64 0),(.im [] true)]] true),(.im [[(.int .i64 0),(.int .i64 3),(.int .i64 0),(.int .i64 0),(.int .i64 0)]] false),(.im [[(.im [[(.int .i64 2),(.int .i64 0),(.int .i64 0)]] false),(.int .i64 1),(.int .i64 (-1)),(.im [[(.int .i64 2),(.int .i64 0),(.int .i64 0),(.int .i64 0),(.int .i64 3),(.int .i64 0),(.int .i64 1),(.int .i64 0)]] false)]] false),(.im [[(.int .i64 0)]] false),(.im [[(.int .i64 0)]] false)])
def SK14:AV:=(.agg [(.im SW2 true),(.im (LI [0,1,1,0,0,0,0,0,0,0]) false),(.bool false),(.im [[(.im [] false),(.int .i64 0),(.int .i64 3),(.int .i64 0),(.int .i64 0),(.int .i64 0),(.im [] true)]] true),(.im [[(.int .i64 0),(.int .i64 3),(.int .i64 0),(.int .i64 0),(.int .i64 0)]] false),(.im [[(.im [[(.int .i64 2),(.int .i64 0),(.int .i64 0)]] false),(.int .i64 1),(.int .i64 (-1)),(.im [[(.int .i64 2),(.int .i64 0),(.int .i64 0),(.int .i64 0),(.int .i64 3),(.int .i64 0),(.int .i64 1),(.int .i64 0)]] false)]] false),(.im [[(.int .i64 (-1))]] false),(.im [[(.int .i64 0)]] false)])
def stx:AV:=(.str [99,111,114,101,115,32,49,10,110,111,100,101,115,32,57,10,112,111,114,116,115,32,49,10,116,104,114,101,97,100,10,116,114,121,32,48,32,48,10,103,111,10,114,101,115,116,32,57,57,10])
def stb:AV:=(.str [99,111,114,101,115,32,49,10,110,111,100,101,115,32,120,10])
def rep:AV:=(.str [48,32,116,114,121,32,48,32,48,32,61,32,48,32,51,10])
def sxt:AV:=(.im [[(.im [[(.int .i64 2),(.int .i64 0),(.int .i64 0)]] false)]] false)
theorem bt0:[kbp FF Gl.X 80 44 [SK0,.int .i64 0,.bool false],kbp FF Gl.X 80 44 [SK1,.int .i64 0,.bool false],kbp FF Gl.X 80 44 [SK2,.int .i64 0,.bool false],kbp FF Gl.X 80 44 [SK3,.int .i64 0,.bool false],kbp FF Gl.X 80 44 [SK4,.int .i64 0,.bool false]]=[some SK1,some SK2,some SK3,some SK4,some SK5]:=by kernel_rfl
theorem pk0:kak FF 44 [SK0,.int .i64 0,.bool false] SK1:=⟨80,(yaa bt0).1⟩
theorem pk1:kak FF 44 [SK1,.int .i64 0,.bool false] SK2:=⟨80,(yaa (yaa bt0).2).1⟩
theorem pk2:kak FF 44 [SK2,.int .i64 0,.bool false] SK3:=⟨80,(yaa (yaa (yaa bt0).2).2).1⟩
theorem pk3:kak FF 44 [SK3,.int .i64 0,.bool false] SK4:=⟨80,(yaa (yaa (yaa (yaa bt0).2).2).2).1⟩
theorem pk4:kak FF 44 [SK4,.int .i64 0,.bool false] SK5:=⟨80,(yaa (yaa (yaa (yaa (yaa bt0).2).2).2).2).1⟩
theorem bt5:[kbp FF Gl.X 80 44 [SK5,.int .i64 0,.bool false],kbp FF Gl.X 80 44 [SK6,.int .i64 0,.bool false],kbp FF Gl.X 80 44 [SK7,.int .i64 0,.bool false],kbp FF Gl.X 80 44 [SK8,.int .i64 0,.bool false],kbp FF Gl.X 80 44 [SK9,.int .i64 0,.bool false]]=[some SK6,some SK7,some SK8,some SK9,some SK10]:=by kernel_rfl
theorem pk5:kak FF 44 [SK5,.int .i64 0,.bool false] SK6:=⟨80,(yaa bt5).1⟩
theorem pk6:kak FF 44 [SK6,.int .i64 0,.bool false] SK7:=⟨80,(yaa (yaa bt5).2).1⟩
theorem pk7:kak FF 44 [SK7,.int .i64 0,.bool false] SK8:=⟨80,(yaa (yaa (yaa bt5).2).2).1⟩
theorem pk8:kak FF 44 [SK8,.int .i64 0,.bool false] SK9:=⟨80,(yaa (yaa (yaa (yaa bt5).2).2).2).1⟩
theorem pk9:kak FF 44 [SK9,.int .i64 0,.bool false] SK10:=⟨80,(yaa (yaa (yaa (yaa (yaa bt5).2).2).2).2).1⟩
theorem kmm:[kbp FF Gl.X 80 44 [SK10,.int .i64 0,.bool false],kbp FF Gl.X 80 44 [SK11,.int .i64 0,.bool false],kbp FF Gl.X 80 44 [SK12,.int .i64 0,.bool false],kbp FF Gl.X 80 44 [SK13,.int .i64 0,.bool false]]=[some SK11,some SK12,some SK13,some SK14]:=by kernel_rfl
theorem qek:kak FF 44 [SK10,.int .i64 0,.bool false] SK11:=⟨80,(yaa kmm).1⟩
theorem qel:kak FF 44 [SK11,.int .i64 0,.bool false] SK12:=⟨80,(yaa (yaa kmm).2).1⟩
theorem qem:kak FF 44 [SK12,.int .i64 0,.bool false] SK13:=⟨80,(yaa (yaa (yaa kmm).2).2).1⟩
theorem qen:kak FF 44 [SK13,.int .i64 0,.bool false] SK14:=⟨80,(yaa (yaa (yaa (yaa kmm).2).2).2).1⟩
theorem qt:[kbp FF Gl.X 80 46 [SK0],kbp FF Gl.X 80 46 [SK1],kbp FF Gl.X 80 46 [SK2],kbp FF Gl.X 80 46 [SK3],kbp FF Gl.X 80 46 [SK4],kbp FF Gl.X 80 46 [SK5],kbp FF Gl.X 80 46 [SK6],kbp FF Gl.X 80 46 [SK7],kbp FF Gl.X 80 46 [SK8],kbp FF Gl.X 80 46 [SK9],kbp FF Gl.X 80 46 [SK10],kbp FF Gl.X 80 46 [SK11],kbp FF Gl.X 80 46 [SK12],kbp FF Gl.X 80 46 [SK13],kbp FF Gl.X 80 46 [SK14]]=[some (.bool false),some (.bool false),some (.bool false),some (.bool false),some (.bool false),some (.bool false),some (.bool false),some (.bool false),some (.bool false),some (.bool false),some (.bool false),some (.bool false),some (.bool false),some (.bool false),some (.bool true)]:=by kernel_rfl
theorem qu0:kak FF 46 [SK0] (.bool false):=⟨80,(yaa qt).1⟩
theorem qu1:kak FF 46 [SK1] (.bool false):=⟨80,(yaa (yaa qt).2).1⟩
theorem qu2:kak FF 46 [SK2] (.bool false):=⟨80,(yaa (yaa (yaa qt).2).2).1⟩
theorem qu3:kak FF 46 [SK3] (.bool false):=⟨80,(yaa (yaa (yaa (yaa qt).2).2).2).1⟩
theorem qu4:kak FF 46 [SK4] (.bool false):=⟨80,(yaa (yaa (yaa (yaa (yaa qt).2).2).2).2).1⟩
theorem qu5:kak FF 46 [SK5] (.bool false):=⟨80,(yaa (yaa (yaa (yaa (yaa (yaa qt).2).2).2).2).2).1⟩
theorem qu6:kak FF 46 [SK6] (.bool false):=⟨80,(yaa (yaa (yaa (yaa (yaa (yaa (yaa qt).2).2).2).2).2).2).1⟩
theorem qu7:kak FF 46 [SK7] (.bool false):=⟨80,(yaa (yaa (yaa (yaa (yaa (yaa (yaa (yaa qt).2).2).2).2).2).2).2).1⟩
theorem qu8:kak FF 46 [SK8] (.bool false):=⟨80,(yaa (yaa (yaa (yaa (yaa (yaa (yaa (yaa (yaa qt).2).2).2).2).2).2).2).2).1⟩
theorem qu9:kak FF 46 [SK9] (.bool false):=⟨80,(yaa (yaa (yaa (yaa (yaa (yaa (yaa (yaa (yaa (yaa qt).2).2).2).2).2).2).2).2).2).1⟩
theorem qln:kak FF 46 [SK10] (.bool false):=⟨80,(yaa (yaa (yaa (yaa (yaa (yaa (yaa (yaa (yaa (yaa (yaa qt).2).2).2).2).2).2).2).2).2).2).1⟩
theorem qlo:kak FF 46 [SK11] (.bool false):=⟨80,(yaa (yaa (yaa (yaa (yaa (yaa (yaa (yaa (yaa (yaa (yaa (yaa qt).2).2).2).2).2).2).2).2).2).2).2).1⟩
theorem qlp:kak FF 46 [SK12] (.bool false):=⟨80,(yaa (yaa (yaa (yaa (yaa (yaa (yaa (yaa (yaa (yaa (yaa (yaa (yaa qt).2).2).2).2).2).2).2).2).2).2).2).2).1⟩
theorem qlq:kak FF 46 [SK13] (.bool false):=⟨80,(yaa (yaa (yaa (yaa (yaa (yaa (yaa (yaa (yaa (yaa (yaa (yaa (yaa (yaa qt).2).2).2).2).2).2).2).2).2).2).2).2).2).1⟩
theorem k28:kak FF 46 [SK14] (.bool true):=⟨80,(yaa (yaa (yaa (yaa (yaa (yaa (yaa (yaa (yaa (yaa (yaa (yaa (yaa (yaa (yaa qt).2).2).2).2).2).2).2).2).2).2).2).2).2).2).1⟩
theorem nw:kak FF 43 [.int .i64 1,.int .i64 9,.int .i64 1,sxt] (.tup [SK0,.int .i64 0]):=⟨80,by kernel_rfl⟩
theorem rp:kak FF 47 [SK14] rep:=⟨80,by kernel_rfl⟩
theorem k5q {F:Nat->Option AFn} {ρ:Val} {Φ:Facts} (H:Hold F ρ Φ) {n:Nat} {fn:AFn} {a:AC} {s c:St} {r:AV} (S:Sim ρ s c)
  (h:kj3 fn ((exS Φ F (kej Φ.calls) n a s).map fun p=> .fin p.1 p.2)=some r):J F fn [] (.code a) c (gm ρ r):=by
 unfold kj3 at h;split at h
 ·rename_i e s1 hx;have hx':exS Φ F (kej Φ.calls) n a s=some (e,s1):=by
   cases hq:exS Φ F (kej Φ.calls) n a s with
   |none=>rw[hq] at hx;cases hx
   |some p=>rw[hq] at hx;cases hx;rfl
  have key:(e= .nrm\/e= .ret)->(match kgq.resS fn s1 with
   |some v=>kd2 s1.h kbu v
   |none=>none)=some r->J F fn [] (.code a) c (gm ρ r):=fun he h=>by
   obtain⟨N,hN⟩:=knf H.calls;have hex:=kqx (F:=F) H.good H.ops H.apps H.apns (KS:=kej Φ.calls) (K:=KN F N) (fun f g r h=>hN _ (knq h));obtain⟨c1,hc1,h2⟩:=hex n _ _ _ _ _ hx' S;have hc2:=kb0 (F:=F) (kbz (F:=F) (show N<=max N n by omega)) (show n<=max N n by omega) _ _ _ hc1;split at h
   ·rename_i v hv;refine⟨max N n,e,c1,_,?_,he,ko4 h2 hv,ki0 H.good.1 h2.heap h⟩;unfold run;simp only[hc2];rfl
   ·cases h
  split at h
  ·exact key (.inl rfl) h
  ·exact key (.inr rfl) h
  ·cases h
 ·cases h
def kx3 (ρ:Val) (fn:AFn) (st:Option (AE×St)):Option AV:=match kj3 fn (st.map fun p=> .fin p.1 p.2) with
 |some v=>some (gm ρ v)
 |none=>none
theorem Tok.x {F:Nat->Option AFn} {σ:Nat->Nat} {lo:Nat} {s0 z:St} {A:As} {Φ:Facts} {f:Nat} {a:AC} {R r:AV} (H:Tok F σ lo s0 z A Φ) (h:some R=some r)
  (q:kx3 (A.val0 σ lo) (kai F f) (exS Φ F (kej Φ.calls) 4000 a s0)=some R:=by as_aux_lemma=>kernel_rfl):J F (kai F f) [] (.code a) z r:=by
 cases h;unfold kx3 at q;split at q
 ·rename_i v hv;cases q;exact k5q H.all.1 H.all.2 hv
 ·cases q
def sx1:AV:=(.agg [(.int .i64 1),(.int .i64 9),(.int .i64 1),(.im [[(.im [[(.int .i64 2),(.int .i64 0),(.int .i64 0)]] false)]] false),(.im [[(.int .i64 2),(.int .i64 99)]] false)])
def sx0:AV:=(.agg [(.int .i64 0),(.int .i64 0),(.int .i64 0),(.im [] true),(.im [] true)])
def sdo:AV:=(.tup [(.str [48,32,116,114,121,32,48,32,48,32,61,32,48,32,51,10,113,117,105,101,116,10]),(.int .i64 14),(.int .i64 0)])
theorem sr0:kak FF 10 [stx] (.tup [sx1,.int .i64 7,.int .i64 0]):=⟨100,by kernel_rfl⟩
theorem sr1:kak FF 10 [stb] (.tup [sx0,.int .i64 2,.int .i64 1]):=⟨100,by kernel_rfl⟩
theorem sw:kak FF 12 [sx1] (.tup [stx,.int .i64 0]):=⟨100,by kernel_rfl⟩
theorem ss0:kak FF 15 [sx1,sx1] (.bool true):=⟨100,by kernel_rfl⟩
theorem ss1:kak FF 15 [sx1,sx0] (.bool false):=⟨100,by kernel_rfl⟩
def qrs:Option AV:=some (.tup [SK14,(.int .i64 14),(.bool true)])
def k2s:List AV:=[SK0,(.int .i64 99)]
def kue (σ:Nat->Nat):Val:=(kal ([]) ([]) [] σ 0)
def qkd (_σ:Nat->Nat):List AV:=[SK0,(.int .i64 99)]
def qke (_σ:Nat->Nat):List Blk:=[]
theorem qkb (σ:Nat->Nat):k2s.map (gm (kue σ))=qkd σ:=by kernel_rfl
theorem qkc (σ:Nat->Nat):([]:List Blk).map (gB (kue σ))=qke σ:=by kernel_rfl
theorem qkf {r0:AV} (h:qrs=some r0):kak FF 45 [SK0,(.int .i64 99)] r0:=by
 unfold qrs at h;have hσ: ∀ i j:Nat,(fun i:Nat=>i) i=(fun i:Nat=>i) j->i=j:=fun _ _ e=>e
 exact kbq (ρ:=kue (fun i=>i)) (xs:=k2s) (by kernel_rfl) rfl rfl (by kernel_rfl) (fun z0 S=>have H:=Tok.start hσ S 0 0 0 0 ([]) ([]) [] (.n) .n (qkb _) (qkc _);have H:=H.s [SK0] (.bool false) (qu0)|>.s [SK0,(.int .i64 0),(.bool false)] SK1 (pk0)|>.s [SK1] (.bool false) (qu1)|>.s [SK1,(.int .i64 0),(.bool false)] SK2 (pk1)|>.s [SK2] (.bool false) (qu2)|>.s [SK2,(.int .i64 0),(.bool false)] SK3 (pk2)|>.s [SK3] (.bool false) (qu3)|>.s [SK3,(.int .i64 0),(.bool false)] SK4 (pk3)|>.s [SK4] (.bool false) (qu4)|>.s [SK4,(.int .i64 0),(.bool false)] SK5 (pk4)|>.s [SK5] (.bool false) (qu5)|>.s [SK5,(.int .i64 0),(.bool false)] SK6 (pk5)|>.s [SK6] (.bool false) (qu6)|>.s [SK6,(.int .i64 0),(.bool false)] SK7 (pk6)|>.s [SK7] (.bool false) (qu7)|>.s [SK7,(.int .i64 0),(.bool false)] SK8 (pk7)|>.s [SK8] (.bool false) (qu8)|>.s [SK8,(.int .i64 0),(.bool false)] SK9 (pk8)|>.s [SK9] (.bool false) (qu9)|>.s [SK9,(.int .i64 0),(.bool false)] SK10 (pk9)|>.s [SK10] (.bool false) (qln)|>.s [SK10,(.int .i64 0),(.bool false)] SK11 (qek)|>.s [SK11] (.bool false) (qlo)|>.s [SK11,(.int .i64 0),(.bool false)] SK12 (qel)|>.s [SK12] (.bool false) (qlp)|>.s [SK12,(.int .i64 0),(.bool false)] SK13 (qem)|>.s [SK13] (.bool false) (qlq)|>.s [SK13,(.int .i64 0),(.bool false)] SK14 (qen)|>.s [SK14] (.bool true) (k28);H.x h)
theorem rs:kak FF 45 [SK0,.int .i64 99] (.tup [SK14,(.int .i64 14),(.bool true)]):=qkf rfl
def qdo:Option AV:=some sdo
def k03:List AV:=[stx]
def ksk (σ:Nat->Nat):Val:=(kal ([]) ([]) [] σ 0)
def qfq (_σ:Nat->Nat):List AV:=[stx]
def qfr (_σ:Nat->Nat):List Blk:=[]
theorem qfo (σ:Nat->Nat):k03.map (gm (ksk σ))=qfq σ:=by kernel_rfl
theorem qfp (σ:Nat->Nat):([]:List Blk).map (gB (ksk σ))=qfr σ:=by kernel_rfl
theorem qfs {r0:AV} (h:qdo=some r0):kak FF 19 [stx] r0:=by
 unfold qdo at h;have hσ: ∀ i j:Nat,(fun i:Nat=>i) i=(fun i:Nat=>i) j->i=j:=fun _ _ e=>e
 exact kbq (ρ:=ksk (fun i=>i)) (xs:=k03) (by kernel_rfl) rfl rfl (by kernel_rfl) (fun z0 S=>have H:=Tok.start hσ S 0 0 0 0 ([]) ([]) [] (.n) .n (qfo _) (qfp _);have H:=H.s [stx] (.tup [sx1,(.int .i64 7),(.int .i64 0)]) (sr0)|>.s [(.int .i64 1),(.int .i64 9),(.int .i64 1),sxt] (.tup [SK0,(.int .i64 0)]) (nw)|>.s [SK0,(.int .i64 99)] (.tup [SK14,(.int .i64 14),(.bool true)]) (rs)|>.s [SK14] (.bool true) (k28)|>.s [SK14] rep (rp);H.e [] h)
theorem sd:kak FF 19 [stx] sdo:=qfs rfl
def qsh:Option AV:=some (.bool true)
def k24:List AV:=[]
def kuv (σ:Nat->Nat):Val:=(kal ([]) ([]) [] σ 0)
def qlc (_σ:Nat->Nat):List AV:=[]
def qld (_σ:Nat->Nat):List Blk:=[]
theorem qla (σ:Nat->Nat):k24.map (gm (kuv σ))=qlc σ:=by kernel_rfl
theorem qlb (σ:Nat->Nat):([]:List Blk).map (gB (kuv σ))=qld σ:=by kernel_rfl
theorem qle {r0:AV} (h:qsh=some r0):kak FF 8 [] r0:=by
 unfold qsh at h;have hσ: ∀ i j:Nat,(fun i:Nat=>i) i=(fun i:Nat=>i) j->i=j:=fun _ _ e=>e
 exact kbq (ρ:=kuv (fun i=>i)) (xs:=k24) (by kernel_rfl) rfl rfl (by kernel_rfl) (fun z0 S=>have H:=Tok.start hσ S 0 0 0 0 ([]) ([]) [] (.n) .n (qla _) (qlb _);have H:=H.s [stx] (.tup [sx1,(.int .i64 7),(.int .i64 0)]) (sr0)|>.s [sx1] (.tup [stx,(.int .i64 0)]) (sw)|>.s [stx] sdo (sd)|>.s [stb] (.tup [sx0,(.int .i64 2),(.int .i64 1)]) (sr1)|>.s [sx1,sx1] (.bool true) (ss0)|>.s [sx1,sx0] (.bool false) (ss1);H.e [] h)
theorem qof:kak FF 8 [] (.bool true):=qle rfl
theorem qo4 {d:Dt} (h:May d):kdv d.td=true:=by
 have h1:=h.tl;have h2:=h.ml;simp only[kdv,kgv,Dt.td,yab,decide_eq_true_eq,yac,List.length_map,List.mem_map,forall_exists_index,and_imp,forall_apply_eq_imp_iff₂];refine⟨⟨by omega,fun c hc=> ?_⟩,?_⟩
 ·have:=yac.1 h.t c hc;simp only[kbx,yab,decide_eq_true_eq] at this;omega
 ·exact decide_eq_true (by show(d.m.length:Int)<=1002;omega)
theorem k8r {x:Td} (h:kdv x=true) (hv:khb x=true):klf x=true:=by
 unfold klf;rw[h,hv];rfl
theorem qna (s:Bs):(∃ d,kcn s=(d.td,((4+kig d.t+d.m.length:Nat):Int),0)/\May d/\ke7 d=s)\/(∃ n:Nat,kcn s=(kjd,(n:Int),1)/\1<=n/\kfj s=(none,n)):=by
 rcases h:kfj s with⟨_ |d,n⟩
 ·refine .inr ⟨n,?_,qnf h,rfl⟩;unfold kcn;rw[h]
 ·obtain⟨h1,h2,_,h3⟩:=k3u h;refine .inl ⟨d,?_,h1,h2⟩;unfold kcn;rw[h,h3]
end Go.Proofs.Hz
