/- Parts of the proof: Ops, Mem, Valid, Effect, Text, LaidB2, Door2, KpD. -/
import Derived.BigQuiet
import Derived.Deep.DeepCutAuto
import Derived.Deep.Draws
import Derived.Deep.QuietTactic
import Derived.Deep.RegionWith
import Derived.KernelRfl
import Derived.LaidMore
import Derived.Laws.AppendOwn
import Derived.Lib.AppendIntMem
import Derived.Lib.Hide
import Derived.Lib.ItoaLen
import Derived.Lib.LaidTab
import Derived.Lib.QuietBelow
import Derived.OpenShut
import Derived.ProofKit
import Derived.SevenTiedAt
import Derived.Stop.Joined
import Derived.Test.YtmbnlccafcfbeaaDoorPqA
import Derived.Test.YtmbnlccafcfbeaaDoorProg
import Derived.Test.YtmbnlccafcfbeaaDoorRows
import Derived.WalkKit
import Derived.Test.YtmbnlccafcfbeaaDoorPqShelf
set_option linter.unusedVariables false
set_option linter.unusedSimpArgs false
set_option linter.unusedSectionVars false
set_option maxRecDepth 100000
namespace Go.Proofs.YtmbnlccafcfbeaaDoor
section
open Go.RowKit
def opRows:List (List Nat × Int × Int × Int × Int × Int × Bool × Value) :=
 let N:=Value.nilFunc
 let F (n:Nat):=Value.func (.func n) #[] #[]
 let number:=F 54
 let name:=F 55
 let both:=F 56
 [([112,117,115,104],2305843009213693951,0,-2305843009213693952,0,1,false,number),
  ([110,105,108],0,0,0,0,1,false,N),
  ([116,104,105,115],0,0,0,0,1,false,N),
  ([108,111,97,100],29,0,0,0,1,false,number),
  ([115,116,111,114,101],29,0,0,1,0,false,number),
  ([112,111,112],0,0,0,1,0,false,N),
  ([102,105,101,108,100],1023,0,0,1,1,false,name),
  ([111,119,110],29,0,0,0,1,false,number),
  ([115,101,116,102,105,101,108,100],1023,0,0,2,0,false,name),
  ([115,101,116,111,119,110],29,0,0,1,0,false,number),
  ([110,101,119],60,30,1,0,1,true,both),
  ([110,101,119,97,116],60,30,1,1,1,true,both),
  ([119,101,97,107],0,0,0,1,1,false,N),
  ([103,101,116],0,0,0,1,1,false,N),
  ([110,101,103],0,0,0,1,1,false,N),
  ([110,111,116],0,0,0,1,1,false,N),
  ([98,105,110,97,114,121],10,0,0,2,1,false,F 57),
  ([116,114,117,116,104],0,0,0,1,1,false,N),
  ([106,117,109,112],4000,0,0,0,0,false,number),
  ([106,117,109,112,102,97,108,115,101],4000,0,0,1,0,false,number),
  ([106,117,109,112,116,114,117,101],4000,0,0,1,0,false,number),
  ([115,101,110,100],1023,8,0,1,0,true,F 58),
  ([112,114,105,110,116],0,0,0,1,0,false,N),
  ([109,111,118,101],0,0,0,2,0,false,N),
  ([119,97,116,99,104],1023,0,0,2,0,false,name),
  ([114,101,116,117,114,110],0,0,0,0,0,false,N)]
def opCell:(List Nat × Int × Int × Int × Int × Int × Bool × Value)→List Value
 | (s,most,args,least,pops,pushes,counts,text) =>
  [.string ⟨(s.map fun n=>n.toUInt8).toArray⟩,.int .i64 most,.int .i64 args,.int .i64 least,.int .i64 pops,.int .i64 pushes,.bool counts,text]
def opCells:Array Value:=(opRows.flatMap opCell).toArray
theorem setRow_alloc (w:World) (old cs:Array Value) (t:TypeId) (fr:Nat × Nat):(w.alloc (.cells old t fr)).setRow w.heap.size cs=w.alloc (.cells cs t fr):=by
 cases w with
 | mk heap tape drawn os output =>
  simp only[World.setRow,World.alloc]
  congr 1
  apply Array.ext
  ·simp
  ·intro i h1 h2
   simp only[Array.getElem_modify,Array.getElem_push]
   by_cases hi:i < heap.size
   ·simp[hi];omega
   ·have:i=heap.size:=by simp at h2;omega
    simp[this]
set_option maxHeartbeats 1000000 in
theorem operations_any (w:World) :
  Calls Tryd.prog 43 #[] w fun e w'=>e=.returned (.agg opCells)∧∃ o,w'=w.alloc o:=by
 go_enter Tryd.func43,Tryd.ntmps43
 go_wp2_with (first | (refine wpList_build rfl _ _ rfl (by kernel_rfl) ?_) | (refine wpList_store_row rfl _ _ _ rfl w.heap.size opCells (by kernel_rfl) (by kernel_rfl) _ _ (heap_alloc_new w _) (by kernel_rfl) (by kernel_rfl) (by kernel_rfl) ?_))
 refine bodyPost_ret (v:=.agg opCells) (results_cell_row rfl _ _ w.heap.size _ opCells _ _ (by kernel_rfl) (setRow_heap _ _ _ _ _ _ (heap_alloc_new w _)) Tryd.underlying71 rfl (by kernel_rfl)) rfl ⟨rfl,?_⟩
 exact⟨_,setRow_alloc w _ _ _ _⟩
/-- the row of an operation -/
def opRow (n:Nat):List Nat × Int × Int × Int × Int × Int × Bool × Value:=opRows.getD n ([],0,0,0,0,0,false,.nilFunc)
def opName (n:Nat):ByteArray:=⟨((opRow n).1.map fun n=>n.toUInt8).toArray⟩
def opMost (n:Nat):Int:=(opRow n).2.1
def opArgs (n:Nat):Int:=(opRow n).2.2.1
def opLeast (n:Nat):Int:=(opRow n).2.2.2.1
def opPops (n:Nat):Int:=(opRow n).2.2.2.2.1
def opPushes (n:Nat):Int:=(opRow n).2.2.2.2.2.1
def opCounts (n:Nat):Bool:=(opRow n).2.2.2.2.2.2.1
def opText (n:Nat):Value:=(opRow n).2.2.2.2.2.2.2
theorem index_op (n:Nat) (h:n < 26) (w:World):(Instr.index 71 (.agg opCells) (.int .i64 (n:Int))).run Tryd.prog w=.ok (.agg #[.string (opName n),.int .i64 (opMost n),.int .i64 (opArgs n),.int .i64 (opLeast n),.int .i64 (opPops n),.int .i64 (opPushes n),.bool (opCounts n),opText n]) w:=by
 have hh:n=0 ∨ n=1 ∨ n=2 ∨ n=3 ∨ n=4 ∨ n=5 ∨ n=6 ∨ n=7 ∨ n=8 ∨ n=9 ∨ n=10 ∨ n=11 ∨ n=12 ∨ n=13 ∨ n=14 ∨ n=15 ∨ n=16 ∨ n=17 ∨ n=18 ∨ n=19 ∨ n=20 ∨ n=21 ∨ n=22 ∨ n=23 ∨ n=24 ∨ n=25:=by omega
 rcases hh with rfl | rfl | rfl | rfl | rfl | rfl | rfl | rfl | rfl | rfl | rfl | rfl | rfl | rfl | rfl | rfl | rfl | rfl | rfl | rfl | rfl | rfl | rfl | rfl | rfl | rfl <;> (show _=_;kernel_rfl)
theorem field_op0 (v0 v1 v2 v3 v4 v5 v6 v7:Value) (w:World):(Instr.field 70 (.agg #[v0,v1,v2,v3,v4,v5,v6,v7]) 0).run Tryd.prog w=.ok v0 w:=by kernel_rfl
theorem field_op7 (v0 v1 v2 v3 v4 v5 v6 v7:Value) (w:World):(Instr.field 70 (.agg #[v0,v1,v2,v3,v4,v5,v6,v7]) 7).run Tryd.prog w=.ok v7 w:=by kernel_rfl
set_option maxHeartbeats 1000000 in
theorem Name_in (n:Nat) (h:n < 26) (w:World) :
  Calls Tryd.prog 46 #[.int .i64 (n:Int)] w fun e w'=>e=.returned (.string (opName n))∧Below w.heap.size w w':=by
 have h1:¬ (n:Int) < 0:=by omega
 have h2:¬ (26:Int)≤n:=by omega
 have hi:=fun w=>index_op n h w
 have hf:=field_op0
 go_enter Tryd.func46,Tryd.ntmps46
 go_wp2_with (first | (go_at_call 43;refine(operations_any _).mono ?_;rintro e w' ⟨rfl,o,rfl⟩))
 go_ret
 exact⟨rfl,((Below.refl _ _).alloc (Nat.le_refl _) _).alloc (by simp) _⟩
set_option maxHeartbeats 1000000 in
theorem Name_out (n:Int) (h:n < 0 ∨ 26≤n) (w:World) :
  Calls Tryd.prog 46 #[.int .i64 n] w fun e w'=>e=.returned (.string ⟨#[]⟩)∧Below w.heap.size w w':=by
 rcases h with h | h
 ·go_enter Tryd.func46,Tryd.ntmps46
  go_wp2_with (first | (go_at_call 43;refine(operations_any _).mono ?_;rintro e w' ⟨rfl,o,rfl⟩))
  go_ret
  exact⟨rfl,Below.refl _ _⟩
 ·have h1:¬ n < 0:=by omega
  go_enter Tryd.func46,Tryd.ntmps46
  go_wp2_with (first | (go_at_call 43;refine(operations_any _).mono ?_;rintro e w' ⟨rfl,o,rfl⟩))
  go_ret
  exact⟨rfl,(Below.refl _ _).alloc (Nat.le_refl _) _⟩
end
section
open Go.RowKit
/-- The slice value with address A and n elements of s cells reads as the cells xs in the world w. -/
def Sl (w:World) (s:Nat) (A:Option Addr) (n:Nat) (xs:List Value):Prop :=
 xs.length=n*s∧(n=0 ∨ ∃ b o,A=some ⟨b,o,none⟩∧b < w.heap.size∧∀ j x,xs[j]?=some x→w.cell? ⟨b,o+j,none⟩=some x)
theorem cell_lt {w:World} {p:Addr} {v:Value} (h:w.cell? p=some v):p.block < w.heap.size:=by
 rcases Nat.lt_or_ge p.block w.heap.size with h1 | h1
 ·exact h1
 ·rw[World.cell?,Array.getElem?_eq_none h1] at h;cases h
theorem Sl.nil (w:World) (s:Nat) (A:Option Addr):Sl w s A 0 []:=⟨by simp,.inl rfl⟩
theorem Sl.get {w:World} {s n:Nat} {A:Option Addr} {xs:List Value} (h:Sl w s A n xs) {k:Nat} (hk:k < n) :
  ∃ b o,A=some ⟨b,o,none⟩∧b < w.heap.size∧∀ j x,xs[j]?=some x→w.cell? ⟨b,o+j,none⟩=some x:=by
 rcases h.2 with h0 | h0
 ·omega
 ·exact h0
theorem Sl.keep {w w':World} {s n:Nat} {A:Option Addr} {xs:List Value} (h:Sl w s A n xs) (hs:w.heap.size≤w'.heap.size)
  (hk:∀ b o v,w.cell? ⟨b,o,none⟩=some v→w'.cell? ⟨b,o,none⟩=some v):Sl w' s A n xs:=by
 refine⟨h.1,?_⟩
 rcases h.2 with h0 | ⟨b,o,e,hb,hc⟩
 ·exact .inl h0
 ·exact .inr ⟨b,o,e,by omega,fun j x hx=>hk _ _ _ (hc j x hx)⟩
theorem Sl.below {w w':World} {s n:Nat} {A:Option Addr} {xs:List Value} (h:Sl w s A n xs) (hb:Below w.heap.size w w'):Sl w' s A n xs :=
 h.keep hb.size fun b o v hv=>(hb.cell (p:=⟨b,o,none⟩) (cell_lt hv)).trans hv
theorem Sl.drewN {w:World} {s n:Nat} {A:Option Addr} {xs:List Value} (h:Sl w s A n xs) (k:Nat):Sl (w.drewN k) s A n xs:=h
theorem Sl.new (w:World) (t:TypeId) (xs:List Value):Sl (w.alloc (.cells xs.toArray t)) 1 (some ⟨w.heap.size,0,none⟩) xs.length xs :=
 ⟨by simp,.inr ⟨_,_,rfl,by simp,fun j x hx=>by simpa using hx⟩⟩
theorem below_drewN {B:Nat} {a w:World} (h:Below B a w) (n:Nat):Below B a (w.drewN n):=⟨h.os,h.tape,h.output,h.size,h.block⟩
theorem below_box {w w1:World} {o:Obj} (hb:Below (w.alloc o).heap.size (w.alloc o) w1):Below w.heap.size w w1 :=
 ((Below.refl _ _).alloc (Nat.le_refl _) _).trans (hb.mono (by simp))
theorem ret_bool {a b:Bool} (h:a=b):Ending.returned (.bool a)=.returned (.bool b):=by rw[h]
theorem ret_int2 {a b c d:Int} (h:a=b) (k:c=d):Ending.returned (.tuple #[.int .i64 a,.int .i64 c])=.returned (.tuple #[.int .i64 b,.int .i64 d]):=by rw[h,k]
theorem box_kept {w w1:World} {C:Array Value} {t:TypeId} (hb:Below (w.alloc (.cells C t)).heap.size (w.alloc (.cells C t)) w1) (j:Nat):w1.cell? ⟨w.heap.size,j,none⟩=C[j]? :=
 (hb.cell (p:=⟨w.heap.size,j,none⟩) (by simp)).trans (by simp)
theorem bcell {W w1:World} (hb:Below W.heap.size W w1):(∀ b o,b < W.heap.size→w1.cell? ⟨b,o,none⟩=W.cell? ⟨b,o,none⟩)∧(∀ b o,b < W.heap.size→w1.frozen? ⟨b,o,none⟩=W.frozen? ⟨b,o,none⟩) :=
 ⟨fun b o h=>hb.cell (p:=⟨b,o,none⟩) h,fun b o h=>hb.frozen (p:=⟨b,o,none⟩) h⟩
/-- Block g is just the cells cs of element type t, none frozen. -/
def Bk (w:World) (g:Nat) (t:TypeId) (cs:Array Value):Prop:=w.heap[g]?=some (.cells cs t (0,0))
section
variable {w w':World} {g:Nat} {t:TypeId} {cs:Array Value}
theorem Bk.lt (h:Bk w g t cs):g < w.heap.size:=(Array.getElem?_eq_some_iff.1 h).1
theorem Bk.cell (h:Bk w g t cs) (i:Nat):w.cell? ⟨g,i,none⟩=cs[i]?:=by unfold Bk at h;simp[World.cell?,h]
theorem Bk.free (h:Bk w g t cs) (i:Nat):w.frozen? ⟨g,i,none⟩=false:=by unfold Bk at h;simp[World.frozen?,h]
theorem Bk.new (w:World) (t:TypeId) (cs:Array Value):Bk (w.alloc (.cells cs t)) w.heap.size t cs:=by show(w.heap.push _)[w.heap.size]?=_;simp
theorem Bk.alloc (h:Bk w g t cs) (o:Obj):Bk (w.alloc o) g t cs:=(Below.heap_alloc w o g h.lt).trans h
theorem Bk.set (h:Bk w g t cs) (i:Nat) (u:Value):Bk (w.setCell ⟨g,i,none⟩ u) g t (cs.setIfInBounds i u):=by
 unfold Bk at h ⊢
 simp[World.setCell,Array.getElem?_modify,h]
theorem Bk.far (h:Bk w g t cs) {p:Addr} (hp:g≠p.block) (u:Value):Bk (w.setCell p u) g t cs:=(Below.heap_setCell w p u g hp).trans h
theorem Bk.below {B:Nat} (h:Bk w g t cs) (hb:Below B w w') (hg:g < B):Bk w' g t cs:=(hb.block g hg).trans h
theorem Bk.grown {row:Option Nat} (h:Bk w g t cs) (hb:w.grownBy w' row) (hg:some g≠row):Bk w' g t cs:=(hb.block g h.lt hg).trans h
end
end
section
open Go.RowKit
def validB (op a b:Int):Bool:=decide (0≤op∧op < 26∧opLeast op.toNat≤a∧a≤opMost op.toNat∧0≤b∧b≤opArgs op.toNat)
theorem opName_ne (n:Nat) (h:n < 26):(opName n).toList≠[]:=by
 have hh:n=0 ∨ n=1 ∨ n=2 ∨ n=3 ∨ n=4 ∨ n=5 ∨ n=6 ∨ n=7 ∨ n=8 ∨ n=9 ∨ n=10 ∨ n=11 ∨ n=12 ∨ n=13 ∨ n=14 ∨ n=15 ∨ n=16 ∨ n=17 ∨ n=18 ∨ n=19 ∨ n=20 ∨ n=21 ∨ n=22 ∨ n=23 ∨ n=24 ∨ n=25:=by omega
 rcases hh with rfl | rfl | rfl | rfl | rfl | rfl | rfl | rfl | rfl | rfl | rfl | rfl | rfl | rfl | rfl | rfl | rfl | rfl | rfl | rfl | rfl | rfl | rfl | rfl | rfl | rfl <;> decide +kernel
theorem opText_one (n:Nat) (h:n < 26):(opText n).oneCell'=true:=by
 have hh:n=0 ∨ n=1 ∨ n=2 ∨ n=3 ∨ n=4 ∨ n=5 ∨ n=6 ∨ n=7 ∨ n=8 ∨ n=9 ∨ n=10 ∨ n=11 ∨ n=12 ∨ n=13 ∨ n=14 ∨ n=15 ∨ n=16 ∨ n=17 ∨ n=18 ∨ n=19 ∨ n=20 ∨ n=21 ∨ n=22 ∨ n=23 ∨ n=24 ∨ n=25:=by omega
 rcases hh with rfl | rfl | rfl | rfl | rfl | rfl | rfl | rfl | rfl | rfl | rfl | rfl | rfl | rfl | rfl | rfl | rfl | rfl | rfl | rfl | rfl | rfl | rfl | rfl | rfl | rfl <;> decide +kernel
theorem store_opText (n:Nat) (h:n < 26) (w:World) (a:Addr) (m:Mode):(store a (opText n) m).run Tryd.prog w=stored Tryd.prog w a (opText n) m:=run_store _ w a _ m (opText_one n h)
set_option maxHeartbeats 1000000 in
theorem Valid_out (n a b:Int) (h:n < 0 ∨ 26≤n) (w:World) :
  Calls Tryd.prog 17 #[.agg #[.int .i64 n,.int .i64 a,.int .i64 b]] w fun e w'=>e=.returned (.bool false)∧Below w.heap.size w w':=by
 go_enter Tryd.func17,Tryd.ntmps17
 go_wp2_with (first | (go_at_call 46;refine(Name_out _ h _).mono ?_;rintro e w' ⟨rfl,hb⟩))
 go_ret
 exact⟨rfl,((Below.refl _ _).alloc (Nat.le_refl _) _).trans (hb.mono (by simp))⟩
set_option maxHeartbeats 1000000 in
theorem Valid_in (n:Nat) (a b:Int) (h:n < 26) (w:World) :
  Calls Tryd.prog 17 #[.agg #[.int .i64 (n:Int),.int .i64 a,.int .i64 b]] w fun e w'=>e=.returned (.bool (validB n a b))∧Below w.heap.size w w':=by
 have hne:=opName_ne n h
 have hne2:(opName n).toList.isEmpty=false:=by simp[hne]
 clear hne
 have hi:=fun w=>index_op n h w
 have hst:=fun w a m=>store_opText n h w a m
 go_enter Tryd.func17,Tryd.ntmps17
 go_upto_region 3 with (first | (go_at_call 46;refine(Name_in _ h _).mono ?_;rintro e w1 ⟨rfl,hb⟩;have hz:w.heap.size < w1.heap.size:=(by have:=hb.size;simp at this;omega);have c0:=box_kept hb 0;have c1:=box_kept hb 1;have c2:=box_kept hb 2;simp only[List.getElem?_toArray,List.getElem?_cons_zero,List.getElem?_cons_succ] at c0 c1 c2))
 go_cut [3] (fun s3 wx=>∃ g:Nat,s3=.pointer (some ⟨g,0,none⟩)∧wx.cell? ⟨g,1,none⟩=some (.int .i64 (opMost n))∧wx.cell? ⟨g,2,none⟩=some (.int .i64 (opArgs n))∧wx.cell? ⟨g,3,none⟩=some (.int .i64 (opLeast n))∧Below w1.heap.size w1 wx)
 case first =>
  go_region_with (go_at_call 43;refine(operations_any _).mono ?_;rintro e w' ⟨rfl,o,rfl⟩)
  all_goals
   go_wp2_with fail
   go_meet
   refine⟨_,rfl,?_,?_,?_,(((Below.refl _ _).alloc (Nat.le_refl _) _).alloc (by simp) _).drew⟩ <;> go_simp
 case rest =>
  obtain⟨g,rfl,d1,d2,d3,hbx⟩:=hcut
  have e1:=(hbx.cell (p:=⟨w.heap.size,1,none⟩) hz).trans c1
  have e2:=(hbx.cell (p:=⟨w.heap.size,2,none⟩) hz).trans c2
  have HB:=(((Below.refl _ _).alloc (Nat.le_refl _) _).trans (hb.mono (by simp))).trans (hbx.mono (Nat.le_of_lt hz))
  have HB':=lh HB
  clear HB hbx hb c0 c1 c2
  go_wp2
  all_goals
   go_ret
   refine⟨ret_bool ?_,HB'.out⟩
   unfold validB
   rw[Int.toNat_natCast]
   first | exact(decide_eq_false (by omega)).symm | exact decide_eq_decide.2 (by omega)
theorem Valid_any (n a b:Int) (w:World) :
  Calls Tryd.prog 17 #[.agg #[.int .i64 n,.int .i64 a,.int .i64 b]] w fun e w'=>e=.returned (.bool (validB n a b))∧Below w.heap.size w w':=by
 by_cases h:n < 0 ∨ 26≤n
 ·have hv:validB n a b=false:=decide_eq_false (by omega)
  rw[hv]
  exact Valid_out n a b h w
 ·obtain⟨k,rfl⟩:=Int.eq_ofNat_of_zero_le (show 0≤n by omega)
  exact Valid_in k a b (by omega) w
end
section
open Go.RowKit
def popsI (op a b:Int):Int:=if validB op a b then opPops op.toNat+(if opCounts op.toNat then b else 0) else 0
def pushesI (op a b:Int):Int:=if validB op a b then opPushes op.toNat else 0
theorem op_bounds (n:Nat) (h:n < 26):0≤opPops n∧opPops n≤2∧0≤opPushes n∧opPushes n≤1∧opArgs n≤30:=by
 have hh:n=0 ∨ n=1 ∨ n=2 ∨ n=3 ∨ n=4 ∨ n=5 ∨ n=6 ∨ n=7 ∨ n=8 ∨ n=9 ∨ n=10 ∨ n=11 ∨ n=12 ∨ n=13 ∨ n=14 ∨ n=15 ∨ n=16 ∨ n=17 ∨ n=18 ∨ n=19 ∨ n=20 ∨ n=21 ∨ n=22 ∨ n=23 ∨ n=24 ∨ n=25:=by omega
 rcases hh with rfl | rfl | rfl | rfl | rfl | rfl | rfl | rfl | rfl | rfl | rfl | rfl | rfl | rfl | rfl | rfl | rfl | rfl | rfl | rfl | rfl | rfl | rfl | rfl | rfl | rfl <;> decide +kernel
theorem validB_some {n a b:Int} (h:validB n a b=true):∃ k:Nat,n=k∧k < 26∧opLeast k≤a∧a≤opMost k∧0≤b∧b≤opArgs k∧b≤30:=by
 have h:=of_decide_eq_true h
 obtain⟨k,rfl⟩:=Int.eq_ofNat_of_zero_le h.1
 simp only[Int.toNat_natCast] at h
 have:=op_bounds k (by omega)
 exact⟨k,rfl,by omega,by omega,by omega,by omega,by omega,by omega⟩
set_option maxHeartbeats 1000000 in
theorem Effect_out (n a b:Int) (h:validB n a b=false) (w:World) :
  Calls Tryd.prog 15 #[.agg #[.int .i64 n,.int .i64 a,.int .i64 b]] w fun e w'=>e=.returned (.tuple #[.int .i64 0,.int .i64 0])∧Below w.heap.size w w':=by
 go_enter Tryd.func15,Tryd.ntmps15
 go_wp2_with (first | (go_at_call 17;refine(Valid_any _ _ _ _).mono ?_;rintro e w' ⟨rfl,hb⟩))
 go_ret2
 exact⟨rfl,((Below.refl _ _).alloc (Nat.le_refl _) _).trans (hb.mono (by simp))⟩
set_option maxHeartbeats 2000000 in
theorem Effect_in (n:Nat) (a b:Int) (hv:validB n a b=true) (h:n < 26) (b0:0≤b) (b1:b≤30) (w:World) :
  Calls Tryd.prog 15 #[.agg #[.int .i64 (n:Int),.int .i64 a,.int .i64 b]] w fun e w'=>e=.returned (.tuple #[.int .i64 (popsI n a b),.int .i64 (opPushes n)])∧Below w.heap.size w w':=by
 have hi:=fun w=>index_op n h w
 have hst:=fun w a m=>store_opText n h w a m
 obtain⟨p0,p1,q0,q1,_⟩:=op_bounds n h
 go_enter Tryd.func15,Tryd.ntmps15
 go_upto_region 3 with (first | (go_at_call 17;refine(Valid_any _ _ _ _).mono ?_;rintro e w1 ⟨rfl,hb⟩;have hz:w.heap.size < w1.heap.size:=(by have:=hb.size;simp at this;omega);have c0:=box_kept hb 0;have c1:=box_kept hb 1;have c2:=box_kept hb 2;simp only[List.getElem?_toArray,List.getElem?_cons_zero,List.getElem?_cons_succ] at c0 c1 c2))
 go_cut [4] (fun s3 wx=>∃ g:Nat,s3=.pointer (some ⟨g,0,none⟩)∧w1.heap.size≤g∧wx.cell? ⟨g,4,none⟩=some (.int .i64 (opPops n))∧wx.cell? ⟨g,5,none⟩=some (.int .i64 (opPushes n))∧wx.cell? ⟨g,6,none⟩=some (.bool (opCounts n))∧wx.frozen? ⟨g,4,none⟩=false∧Below w1.heap.size w1 wx)
 case first =>
  go_region_with (go_at_call 43;refine(operations_any _).mono ?_;rintro e w' ⟨rfl,o,rfl⟩)
  all_goals
   go_wp2_with fail
   go_meet
   refine⟨_,rfl,by simp,?_,?_,?_,?_,(((Below.refl _ _).alloc (Nat.le_refl _) _).alloc (by simp) _).drew⟩ <;> go_simp
 case rest =>
  obtain⟨g,rfl,hg,d4,d5,d6,f4,hbx⟩:=hcut
  have e1:=(hbx.cell (p:=⟨w.heap.size,1,none⟩) hz).trans c1
  have e2:=(hbx.cell (p:=⟨w.heap.size,2,none⟩) hz).trans c2
  have HB:=(((Below.refl _ _).alloc (Nat.le_refl _) _).trans (hb.mono (by simp))).trans (hbx.mono (Nat.le_of_lt hz))
  have HB':=lh HB
  clear HB hbx hb c0 c1 c2
  by_cases hc:opCounts n=true
  ·rw[hc] at d6
   have HC:=lh hc
   clear hc
   go_wp2
   go_quiet (fail)
   go_wp2
   go_ret2
   exact⟨ret_int2 (by simp[popsI,hv,HC.out]) rfl,below_drewN (HB'.out.setCell (Nat.le_trans (Nat.le_of_lt hz) hg) _) _⟩
  ·have hc':opCounts n=false:=by simpa using hc
   clear hc
   rw[hc'] at d6
   have HC:=lh hc'
   clear hc'
   go_wp2
   go_quiet (fail)
   go_wp2
   go_ret2
   exact⟨ret_int2 (by simp[popsI,hv,HC.out]) rfl,below_drewN HB'.out _⟩
theorem Effect_any (n a b:Int) (w:World) :
  Calls Tryd.prog 15 #[.agg #[.int .i64 n,.int .i64 a,.int .i64 b]] w fun e w'=>e=.returned (.tuple #[.int .i64 (popsI n a b),.int .i64 (pushesI n a b)])∧Below w.heap.size w w':=by
 unfold pushesI
 by_cases hv:validB n a b=true
 ·rw[if_pos hv]
  obtain⟨k,rfl,hk,_,_,b0,_,b1⟩:=validB_some hv
  exact Effect_in k a b hv hk b0 b1 w
 ·rw[if_neg hv,show popsI n a b=0 from if_neg hv]
  exact Effect_out n a b (by simpa using hv) w
end
section
open Go.RowKit Go.Sort
def dec (z:Int):ByteArray:=⟨(Lib.itoa z).toArray⟩
def spB:ByteArray:=⟨#[32]⟩
def strs (l:List ByteArray):List Value:=l.map Value.string
def nameB (ns:List ByteArray) (a:Int):ByteArray:=if a < ns.length then ns.getD a.toNat ⟨#[]⟩ else ⟨#[63]⟩
/-- the texts of the binary operators -/
def operTexts:List (List Nat):=[[43],[45],[42],[47],[37],[61,61],[33,61],[60],[60,61],[62],[62,61]]
def operB (n:Nat):ByteArray:=⟨((operTexts.getD n []).map fun n=>n.toUInt8).toArray⟩
/-- the library's table of powers and the texts of the operators lie in the world -/
structure Tabs (w:World):Prop where
 pow : Lib.TabIs Tryd.prog w "internal/strconv.uint64pow10" .u64 Lib.pow10Tab
 opr:∀ i:Nat,i < 11→w.cell? ⟨0,i,none⟩=some (.string (operB i))
 lt:0 < w.heap.size
theorem Tabs.below {w w':World} (h:Tabs w) (hb:Below w.heap.size w w'):Tabs w' :=
 ⟨Lib.tabBelow_of_tabIs h.pow w' hb,fun i hi=>((bcell hb).1 _ _ h.lt).trans (h.opr i hi),Nat.lt_of_lt_of_le h.lt hb.size⟩
theorem dec_size (z:Int) (h0:-9223372036854775808≤z) (h1:z≤9223372036854775807):(dec z).size≤21:=by
 have:=Lib.itoa_length_le z h0 h1
 simpa [dec,ByteArray.size] using this
theorem FormatInt_any (n:Int) (h0:-9223372036854775808≤n) (h1:n≤9223372036854775807) (w:World) (ht:Tabs w) :
  Calls Tryd.prog 59 #[.int .i64 n,.int .i64 10] w fun e w'=>e=.returned (.string (dec n))∧Below w.heap.size w w' :=
 (Tryd.strconv_FormatInt_10 n h0 h1 w ht.pow).mono fun e w' ⟨he,k,os,hw⟩=>⟨he,hw ▸ Lib.below_grow _ _ (Nat.le_refl _) _ _⟩
theorem Itoa_any (n:Int) (h0:-9223372036854775808≤n) (h1:n≤9223372036854775807) (w:World) (ht:Tabs w) :
  Calls Tryd.prog 45 #[.int .i64 n] w fun e w'=>e=.returned (.string (dec n))∧Below w.heap.size w w' :=
 (Tryd.strconv_Itoa n h0 h1 w ht.pow).mono fun e w' ⟨he,k,os,hw⟩=>⟨he,hw ▸ Lib.below_grow _ _ (Nat.le_refl _) _ _⟩
section
variable {w:World} {n a b:Int} {v0 v1 v2 v3:Value} {B:Option Addr} {m d:Nat} {ns:List ByteArray}
theorem number_any (a0:-9223372036854775808≤a) (a1:a≤9223372036854775807) (ht:Tabs w) :
  Calls Tryd.prog 54 #[.agg #[.int .i64 n,.int .i64 a,.int .i64 b],.agg #[v0,v1,v2,v3,.slice B m d]] w fun e w'=>e=.returned (.string (dec a))∧Below w.heap.size w w':=by
 have HT:=lh ht
 clear ht
 go_enter Tryd.func54,Tryd.ntmps54
 go_wp2_with fail
 refine(FormatInt_any a a0 a1 _ (HT.out.below (((Below.refl _ _).alloc (Nat.le_refl _) _).alloc (by simp) _))).mono ?_
 rintro e w1 ⟨rfl,hb⟩
 go_wp2
 go_ret
 exact⟨rfl,(((Below.refl _ _).alloc (Nat.le_refl _) _).alloc (by simp) _).trans (hb.mono (by simp;omega))⟩
theorem name_any (a0:0≤a) (a1:a≤9223372036854775807) (hm:ns.length=m) (hd:m≤d) (hs:Sl w 1 B m (strs ns)) :
  Calls Tryd.prog 55 #[.agg #[.int .i64 n,.int .i64 a,.int .i64 b],.agg #[v0,v1,v2,v3,.slice B m d]] w fun e w'=>e=.returned (.string (nameB ns a))∧Below w.heap.size w w':=by
 by_cases h:a < (m:Int)
 ·obtain⟨k,rfl⟩:=Int.eq_ofNat_of_zero_le a0
  have hk:k < m:=by omega
  obtain⟨bb,o,rfl,hb1,hc1⟩:=hs.get hk
  obtain⟨x,hx⟩:∃ x,ns[k]?=some x:=⟨_,List.getElem?_eq_getElem (by omega)⟩
  have c1:w.cell? ⟨bb,o+k,none⟩=some (.string x):=hc1 k _ (by simp[strs,hx])
  have hkd:k < d:=by omega
  have hn:nameB ns k=x:=by unfold nameB;rw[if_pos (by omega)];simp[hx]
  have HN:=lh hn
  have HM:=lh hm
  clear hs hc1 hm hn hx
  go_enter Tryd.func55,Tryd.ntmps55
  go_wp2
  go_ret
  exact⟨by rw[HN.out];rfl,((Below.refl _ _).alloc (Nat.le_refl _) _).alloc (by simp) _⟩
 ·have hn:nameB ns a=⟨#[63]⟩:=by unfold nameB;rw[if_neg (by omega)]
  have HN:=lh hn
  clear hn
  have hge:(m:Int)≤a:=by omega
  clear hs hm
  go_enter Tryd.func55,Tryd.ntmps55
  go_wp2
  go_ret
  exact⟨by rw[HN.out];rfl,((Below.refl _ _).alloc (Nat.le_refl _) _).alloc (by simp) _⟩
theorem oper_any (k:Nat) (hk:k < 11) (ht:Tabs w) :
  Calls Tryd.prog 57 #[.agg #[.int .i64 n,.int .i64 (k:Int),.int .i64 b],.agg #[v0,v1,v2,v3,.slice B m d]] w fun e w'=>e=.returned (.string (operB k))∧Below w.heap.size w w':=by
 have c1:=ht.opr k hk
 have h0:0 < w.heap.size:=ht.lt
 have h00:0≠w.heap.size:=Nat.ne_of_lt h0
 clear ht
 go_enter Tryd.func57,Tryd.ntmps57
 go_wp2
 go_ret
 exact⟨rfl,((Below.refl _ _).alloc (Nat.le_refl _) _).alloc (by simp) _⟩
theorem both_any (a0:-9223372036854775808≤a) (a1:a≤9223372036854775807) (b0:-9223372036854775808≤b) (b1:b≤9223372036854775807) (ht:Tabs w) :
  Calls Tryd.prog 56 #[.agg #[.int .i64 n,.int .i64 a,.int .i64 b],.agg #[v0,v1,v2,v3,.slice B m d]] w fun e w'=>e=.returned (.string (dec a++spB++dec b))∧Below w.heap.size w w':=by
 have sa:=dec_size a a0 a1
 have sb:=dec_size b b0 b1
 have hb2:Below w.heap.size w ((w.alloc (.cells #[.int .i64 n,.int .i64 a,.int .i64 b] 37)).alloc (.cells #[v0,v1,v2,v3,.slice B m d] 43)):=((Below.refl _ _).alloc (Nat.le_refl _) _).alloc (by simp) _
 have htw:=ht.below hb2
 have k0:=cell_regrown (w:=(w.alloc (.cells #[.int .i64 n,.int .i64 a,.int .i64 b] 37)).alloc (.cells #[v0,v1,v2,v3,.slice B m d] 43)) (a:=⟨w.heap.size,0,none⟩) (v:=.int .i64 n) (by simp)
 have k1:=cell_regrown (w:=(w.alloc (.cells #[.int .i64 n,.int .i64 a,.int .i64 b] 37)).alloc (.cells #[v0,v1,v2,v3,.slice B m d] 43)) (a:=⟨w.heap.size,1,none⟩) (v:=.int .i64 a) (by simp)
 have k2:=cell_regrown (w:=(w.alloc (.cells #[.int .i64 n,.int .i64 a,.int .i64 b] 37)).alloc (.cells #[v0,v1,v2,v3,.slice B m d] 43)) (a:=⟨w.heap.size,2,none⟩) (v:=.int .i64 b) (by simp)
 have l0:=cell_regrown (w:=(w.alloc (.cells #[.int .i64 n,.int .i64 a,.int .i64 b] 37)).alloc (.cells #[v0,v1,v2,v3,.slice B m d] 43)) (a:=⟨w.heap.size+1,0,none⟩) (v:=v0) (by simp)
 have l1:=cell_regrown (w:=(w.alloc (.cells #[.int .i64 n,.int .i64 a,.int .i64 b] 37)).alloc (.cells #[v0,v1,v2,v3,.slice B m d] 43)) (a:=⟨w.heap.size+1,1,none⟩) (v:=v1) (by simp)
 have l2:=cell_regrown (w:=(w.alloc (.cells #[.int .i64 n,.int .i64 a,.int .i64 b] 37)).alloc (.cells #[v0,v1,v2,v3,.slice B m d] 43)) (a:=⟨w.heap.size+1,2,none⟩) (v:=v2) (by simp)
 have l3:=cell_regrown (w:=(w.alloc (.cells #[.int .i64 n,.int .i64 a,.int .i64 b] 37)).alloc (.cells #[v0,v1,v2,v3,.slice B m d] 43)) (a:=⟨w.heap.size+1,3,none⟩) (v:=v3) (by simp)
 have l4:=cell_regrown (w:=(w.alloc (.cells #[.int .i64 n,.int .i64 a,.int .i64 b] 37)).alloc (.cells #[v0,v1,v2,v3,.slice B m d] 43)) (a:=⟨w.heap.size+1,4,none⟩) (v:=.slice B m d) (by simp)
 have cN:∀ dd os,Calls Tryd.prog 54 #[.agg #[.int .i64 n,.int .i64 a,.int .i64 b],.agg #[v0,v1,v2,v3,.slice B m d]] (grow (redrawn ((w.alloc (.cells #[.int .i64 n,.int .i64 a,.int .i64 b] 37)).alloc (.cells #[v0,v1,v2,v3,.slice B m d] 43)) dd) os) fun e w''=>e=.returned (.string (dec a))∧∃ p:Regrown,w''=grow (redrawn ((w.alloc (.cells #[.int .i64 n,.int .i64 a,.int .i64 b] 37)).alloc (.cells #[v0,v1,v2,v3,.slice B m d] 43)) p.d) p.os :=
  fun dd os=>Calls.regrown_of (number_any a0 a1 (htw.below (below_regrown _ dd os)))
 have cF:∀ dd os,Calls Tryd.prog 59 #[.int .i64 b,.int .i64 10] (grow (redrawn ((w.alloc (.cells #[.int .i64 n,.int .i64 a,.int .i64 b] 37)).alloc (.cells #[v0,v1,v2,v3,.slice B m d] 43)) dd) os) fun e w''=>e=.returned (.string (dec b))∧∃ p:Regrown,w''=grow (redrawn ((w.alloc (.cells #[.int .i64 n,.int .i64 a,.int .i64 b] 37)).alloc (.cells #[v0,v1,v2,v3,.slice B m d] 43)) p.d) p.os :=
  fun dd os=>Calls.regrown_of (FormatInt_any b b0 b1 _ (htw.below (below_regrown _ dd os)))
 have s1:¬ 9223372036854775807 < (dec a).size+1:=by omega
 have s2:¬ 9223372036854775807 < (dec a).size+1+(dec b).size:=by omega
 have HB:=lh hb2
 clear hb2 ht htw
 go_enter Tryd.func56,Tryd.ntmps56
 go_wp2_with fail
 refine wp_region_quiet_below (by kernel_rfl) (by kernel_rfl) ?_
 repeat (quiet_step (first | exact cN _ _ | exact cF _ _))
 refine wpQuiet_nil ?_
 intro _ hw'
 obtain⟨⟨dq,osq⟩,hw''⟩:=hw'
 subst hw''
 go_wp2
 go_ret
 exact⟨rfl,HB.out.trans ((below_regrown _ dq osq).mono (by simp;omega))⟩
theorem send_any (a0:0≤a) (a1:a≤9223372036854775807) (hm:ns.length=m) (hd:m≤d) (hs:Sl w 1 B m (strs ns)) (hsz:(nameB ns a).size≤1000000) (b0:-9223372036854775808≤b) (b1:b≤9223372036854775807) (ht:Tabs w) :
  Calls Tryd.prog 58 #[.agg #[.int .i64 n,.int .i64 a,.int .i64 b],.agg #[v0,v1,v2,v3,.slice B m d]] w fun e w'=>e=.returned (.string (nameB ns a++spB++dec b))∧Below w.heap.size w w':=by
 have sb:=dec_size b b0 b1
 have hb2:Below w.heap.size w ((w.alloc (.cells #[.int .i64 n,.int .i64 a,.int .i64 b] 37)).alloc (.cells #[v0,v1,v2,v3,.slice B m d] 43)):=((Below.refl _ _).alloc (Nat.le_refl _) _).alloc (by simp) _
 have htw:=ht.below hb2
 have k0:=cell_regrown (w:=(w.alloc (.cells #[.int .i64 n,.int .i64 a,.int .i64 b] 37)).alloc (.cells #[v0,v1,v2,v3,.slice B m d] 43)) (a:=⟨w.heap.size,0,none⟩) (v:=.int .i64 n) (by simp)
 have k1:=cell_regrown (w:=(w.alloc (.cells #[.int .i64 n,.int .i64 a,.int .i64 b] 37)).alloc (.cells #[v0,v1,v2,v3,.slice B m d] 43)) (a:=⟨w.heap.size,1,none⟩) (v:=.int .i64 a) (by simp)
 have k2:=cell_regrown (w:=(w.alloc (.cells #[.int .i64 n,.int .i64 a,.int .i64 b] 37)).alloc (.cells #[v0,v1,v2,v3,.slice B m d] 43)) (a:=⟨w.heap.size,2,none⟩) (v:=.int .i64 b) (by simp)
 have l0:=cell_regrown (w:=(w.alloc (.cells #[.int .i64 n,.int .i64 a,.int .i64 b] 37)).alloc (.cells #[v0,v1,v2,v3,.slice B m d] 43)) (a:=⟨w.heap.size+1,0,none⟩) (v:=v0) (by simp)
 have l1:=cell_regrown (w:=(w.alloc (.cells #[.int .i64 n,.int .i64 a,.int .i64 b] 37)).alloc (.cells #[v0,v1,v2,v3,.slice B m d] 43)) (a:=⟨w.heap.size+1,1,none⟩) (v:=v1) (by simp)
 have l2:=cell_regrown (w:=(w.alloc (.cells #[.int .i64 n,.int .i64 a,.int .i64 b] 37)).alloc (.cells #[v0,v1,v2,v3,.slice B m d] 43)) (a:=⟨w.heap.size+1,2,none⟩) (v:=v2) (by simp)
 have l3:=cell_regrown (w:=(w.alloc (.cells #[.int .i64 n,.int .i64 a,.int .i64 b] 37)).alloc (.cells #[v0,v1,v2,v3,.slice B m d] 43)) (a:=⟨w.heap.size+1,3,none⟩) (v:=v3) (by simp)
 have l4:=cell_regrown (w:=(w.alloc (.cells #[.int .i64 n,.int .i64 a,.int .i64 b] 37)).alloc (.cells #[v0,v1,v2,v3,.slice B m d] 43)) (a:=⟨w.heap.size+1,4,none⟩) (v:=.slice B m d) (by simp)
 have cN:∀ dd os,Calls Tryd.prog 55 #[.agg #[.int .i64 n,.int .i64 a,.int .i64 b],.agg #[v0,v1,v2,v3,.slice B m d]] (grow (redrawn ((w.alloc (.cells #[.int .i64 n,.int .i64 a,.int .i64 b] 37)).alloc (.cells #[v0,v1,v2,v3,.slice B m d] 43)) dd) os) fun e w''=>e=.returned (.string (nameB ns a))∧∃ p:Regrown,w''=grow (redrawn ((w.alloc (.cells #[.int .i64 n,.int .i64 a,.int .i64 b] 37)).alloc (.cells #[v0,v1,v2,v3,.slice B m d] 43)) p.d) p.os :=
  fun dd os=>Calls.regrown_of (name_any a0 a1 hm hd ((hs.below hb2).below (below_regrown _ dd os)))
 have cF:∀ dd os,Calls Tryd.prog 59 #[.int .i64 b,.int .i64 10] (grow (redrawn ((w.alloc (.cells #[.int .i64 n,.int .i64 a,.int .i64 b] 37)).alloc (.cells #[v0,v1,v2,v3,.slice B m d] 43)) dd) os) fun e w''=>e=.returned (.string (dec b))∧∃ p:Regrown,w''=grow (redrawn ((w.alloc (.cells #[.int .i64 n,.int .i64 a,.int .i64 b] 37)).alloc (.cells #[v0,v1,v2,v3,.slice B m d] 43)) p.d) p.os :=
  fun dd os=>Calls.regrown_of (FormatInt_any b b0 b1 _ (htw.below (below_regrown _ dd os)))
 have s1:¬ 9223372036854775807 < (nameB ns a).size+1:=by omega
 have s2:¬ 9223372036854775807 < (nameB ns a).size+1+(dec b).size:=by omega
 have HB:=lh hb2
 have HH:=lh (And.intro hm hs)
 clear hb2 ht htw hm hs
 go_enter Tryd.func58,Tryd.ntmps58
 go_wp2_with fail
 refine wp_region_quiet_below (by kernel_rfl) (by kernel_rfl) ?_
 repeat (quiet_step (first | exact cN _ _ | exact cF _ _))
 refine wpQuiet_nil ?_
 intro _ hw'
 obtain⟨⟨dq,osq⟩,hw''⟩:=hw'
 subst hw''
 go_wp2
 go_ret
 exact⟨rfl,HB.out.trans ((below_regrown _ dq osq).mono (by simp;omega))⟩
/-- the text of the operands -/
def textB (ns:List ByteArray) (n:Nat) (a b:Int):ByteArray :=
 if n=10 ∨ n=11 then dec a++spB++dec b
 else if n=6 ∨ n=8 ∨ n=24 then nameB ns a
 else if n=16 then operB a.toNat
 else if n=21 then nameB ns a++spB++dec b
 else dec a
def hasText (n:Nat):Bool:=[0,3,4,6,7,8,9,10,11,16,18,19,20,21,24].contains n
theorem enter_text (K:Nat) (hK:K=54 ∨ K=55 ∨ K=56 ∨ K=57 ∨ K=58):∀ args w,(callFunc K args).run Tryd.prog w=.ok (.enter K args) w:=by
 rcases hK with rfl | rfl | rfl | rfl | rfl <;> (intro args w;kernel_rfl)
theorem text_none (k:Nat) (hk:k < 26) (h:hasText k=false):opText k=.nilFunc:=by
 have hh:k=1 ∨ k=2 ∨ k=5 ∨ k=12 ∨ k=13 ∨ k=14 ∨ k=15 ∨ k=17 ∨ k=22 ∨ k=23 ∨ k=25:=by
  simp[hasText] at h
  omega
 rcases hh with rfl | rfl | rfl | rfl | rfl | rfl | rfl | rfl | rfl | rfl | rfl <;> rfl
theorem text_some (k:Nat) (hk:k < 26) (h:hasText k=true) (a0:-9223372036854775808≤a) (a1:a≤9223372036854775807) (b0:-9223372036854775808≤b) (b1:b≤9223372036854775807)
  (hv:validB k a b=true) (hm:ns.length=m) (hd:m≤d) (hsz:∀ x∈ns,x.size≤1000000) :
  ∃ K:Nat,opText k=.func (.func K) #[] #[]∧(∀ args w,(callFunc K args).run Tryd.prog w=.ok (.enter K args) w)∧∀ w,Tabs w→Sl w 1 B m (strs ns) →
   Calls Tryd.prog K #[.agg #[.int .i64 (k:Int),.int .i64 a,.int .i64 b],.agg #[v0,v1,v2,v3,.slice B m d]] w fun e w'=>e=.returned (.string (textB ns k a b))∧Below w.heap.size w w':=by
 have hnm:(nameB ns a).size≤1000000:=by
  unfold nameB
  split
  ·rw[List.getD_eq_getElem?_getD]
   cases hx:ns[a.toNat]? with
   | none=>simp[ByteArray.size]
   | some x=>exact hsz x (List.mem_of_getElem? hx)
  ·simp[ByteArray.size]
 have hpos:k≠0→0≤a:=fun h0=>by
  obtain⟨j,hj,hj2,hl,_⟩:=validB_some hv
  have hjk:j=k:=by omega
  subst hjk
  have:0≤opLeast j:=by
   have hall:((List.range 26).all fun i=>i == 0 || decide (0≤opLeast i))=true:=by decide +kernel
   have:=List.all_eq_true.1 hall j (by simpa using hk)
   simp only[Bool.or_eq_true,beq_iff_eq,decide_eq_true_eq] at this
   rcases this with h | h
   ·exact absurd h h0
   ·exact h
  omega
 have hh:k=0 ∨ k=3 ∨ k=4 ∨ k=6 ∨ k=7 ∨ k=8 ∨ k=9 ∨ k=10 ∨ k=11 ∨ k=16 ∨ k=18 ∨ k=19 ∨ k=20 ∨ k=21 ∨ k=24:=by simpa [hasText] using h
 have hnum:textB ns k a b=dec a→opText k=.func (.func 54) #[] #[]→∃ K:Nat,opText k=.func (.func K) #[] #[]∧(∀ args w,(callFunc K args).run Tryd.prog w=.ok (.enter K args) w)∧∀ w,Tabs w→Sl w 1 B m (strs ns) →
   Calls Tryd.prog K #[.agg #[.int .i64 (k:Int),.int .i64 a,.int .i64 b],.agg #[v0,v1,v2,v3,.slice B m d]] w fun e w'=>e=.returned (.string (textB ns k a b))∧Below w.heap.size w w':=fun e1 e2 =>
  ⟨_,e2,enter_text _ (by simp),fun w ht hs=>by rw[e1];exact number_any a0 a1 ht⟩
 have hnam:k≠0→textB ns k a b=nameB ns a→opText k=.func (.func 55) #[] #[]→∃ K:Nat,opText k=.func (.func K) #[] #[]∧(∀ args w,(callFunc K args).run Tryd.prog w=.ok (.enter K args) w)∧∀ w,Tabs w→Sl w 1 B m (strs ns) →
   Calls Tryd.prog K #[.agg #[.int .i64 (k:Int),.int .i64 a,.int .i64 b],.agg #[v0,v1,v2,v3,.slice B m d]] w fun e w'=>e=.returned (.string (textB ns k a b))∧Below w.heap.size w w':=fun e0 e1 e2 =>
  ⟨_,e2,enter_text _ (by simp),fun w ht hs=>by rw[e1];exact name_any (hpos e0) a1 hm hd hs⟩
 have hbot:textB ns k a b=dec a++spB++dec b→opText k=.func (.func 56) #[] #[]→∃ K:Nat,opText k=.func (.func K) #[] #[]∧(∀ args w,(callFunc K args).run Tryd.prog w=.ok (.enter K args) w)∧∀ w,Tabs w→Sl w 1 B m (strs ns) →
   Calls Tryd.prog K #[.agg #[.int .i64 (k:Int),.int .i64 a,.int .i64 b],.agg #[v0,v1,v2,v3,.slice B m d]] w fun e w'=>e=.returned (.string (textB ns k a b))∧Below w.heap.size w w':=fun e1 e2 =>
  ⟨_,e2,enter_text _ (by simp),fun w ht hs=>by rw[e1];exact both_any a0 a1 b0 b1 ht⟩
 rcases hh with rfl | rfl | rfl | rfl | rfl | rfl | rfl | rfl | rfl | rfl | rfl | rfl | rfl | rfl | rfl
 ·exact hnum rfl rfl
 ·exact hnum rfl rfl
 ·exact hnum rfl rfl
 ·exact hnam (by decide) rfl rfl
 ·exact hnum rfl rfl
 ·exact hnam (by decide) rfl rfl
 ·exact hnum rfl rfl
 ·exact hbot rfl rfl
 ·exact hbot rfl rfl
 ·obtain⟨j,hj,hj2,_,hu,_⟩:=validB_some hv
  have hj16:j=16:=by omega
  subst hj16
  have hm16:opMost 16=10:=by decide +kernel
  obtain⟨q,rfl⟩:=Int.eq_ofNat_of_zero_le (hpos (by decide))
  exact⟨_,rfl,enter_text _ (by simp),fun w ht hs=>oper_any q (by omega) ht⟩
 ·exact hnum rfl rfl
 ·exact hnum rfl rfl
 ·exact hnum rfl rfl
 ·exact⟨_,rfl,enter_text _ (by simp),fun w ht hs=>send_any (hpos (by decide)) a1 hm hd hs hnm b0 b1 ht⟩
 ·exact hnam (by decide) rfl rfl
end
end
section
open Go.ChangeShapes Go.WideShapes Go.ChangeAt Go.RowKit
theorem cells_of_strs {H:Type} {enc:TypeId × Value→H} {P:Program} {w:World} {base:Nat} {sp:Nat→Bool} {held:Bool} {fuel:Nat} {t e:TypeId} {n:Nat} {cs:List Value} {zs:List (List UInt8)} {p:List MemPlace}
  (ht:P.underlying t=some (.array n e)) (he:P.underlying e=some .string) (hce:P.cellsOf e=1) (hct:P.cellsOf t=n)
  (h:DataW.trod enc P w base sp held fuel t cs=some (.agg (zs.map fun z=>.lit (.string z)),p)):cs=zs.map fun z=>Value.string ⟨z.toArray⟩:=by
 cases fuel with
 | zero=>simp[DataW.trod] at h
 | succ fuel =>
  simp only[DataW.trod,ht,hce,hct,Nat.mul_one] at h
  split at h
  ·rename_i hl
   obtain⟨xs,hm,hx⟩:=Option.map_eq_some_iff.1 h
   have hxs:xs.map (·.1)=zs.map fun z=>(DataW.lit (.string z):DataW H):=by
    have:=congrArg Prod.fst hx
    simpa using this
   have hxl:xs.length=n:=by simpa using Lib.mapM_length hm
   have hzl:zs.length=n:=by
    have:=congrArg List.length hxs
    simp at this
    omega
   apply List.ext_getElem?
   intro i
   by_cases hi:i < n
   ·obtain⟨b,hb,hf⟩:=Lib.mapM_at hm i i (by simp[hi])
    obtain⟨z,hc,rfl,_⟩:=DataW.trod_string he hf
    have h1:cs[i]?=some (.string z):=by
     have:=congrArg (·[0]?) hc
     simpa [List.getElem?_take,List.getElem?_drop] using this
    have h2:(xs.map (·.1))[i]?=some (DataW.lit (.string z.data.toList):DataW H):=by simp[hb]
    rw[hxs] at h2
    simp only[List.getElem?_map,Option.map_eq_some_iff,DataW.lit.injEq,Lit.string.injEq] at h2
    obtain⟨z',hz',rfl⟩:=h2
    simp[h1,hz']
   ·rw[List.getElem?_eq_none (by omega),List.getElem?_eq_none (by simp;omega)]
  ·cases h
theorem tabs_of_laid {W:World} (h:laidMetH Tryd.prog Rows.bytecodeEqualRow.laid W):Tabs W:=by
 have h':laidMet Tryd.prog Rows.bytecodeEqualRow.laid W:=h
 obtain⟨ps,hl,_⟩:=h'
 obtain⟨g1,t1,cs1,f1,p1,q1,_,_,_,_,hl,_⟩:=hl
 obtain⟨g2,t2,cs2,f2,p2,q2,_,_,_,_,hl,_⟩:=hl
 obtain⟨g3,t3,cs3,f3,p3,q3,hg3,ht3,hv3,hd3,hl,_⟩:=hl
 obtain⟨g4,t4,cs4,f4,p4,q4,hg4,ht4,hv4,hd4,_,_⟩:=hl
 have e3 : Tryd.prog.globalNamed "internal/strconv.uint64pow10" = some 1 := by kernel_rfl
 have e4 : Tryd.prog.globalNamed "refmesh/bytecode.operators" = some 0 := by kernel_rfl
 obtain rfl:=Option.some.inj (e3.symm.trans hg3)
 obtain rfl:=Option.some.inj (e4.symm.trans hg4)
 have u3:(Tryd.prog.globals[1]?).map (·.type)=some 102:=by kernel_rfl
 have u4:(Tryd.prog.globals[0]?).map (·.type)=some 82:=by kernel_rfl
 obtain rfl:=Option.some.inj (u3.symm.trans ht3)
 obtain rfl:=Option.some.inj (u4.symm.trans ht4)
 have c3:cs3.toList=Lib.pow10Tab.map fun z=>Value.int .u64 z:=Lib.cells_of_tab (k:=.u64) (zs:=Lib.pow10Tab) Tryd.underlying102 Tryd.underlying56 (by kernel_rfl) (by kernel_rfl) hd3
 have c4:cs4.toList=(operTexts.map fun l=>l.map fun n=>n.toUInt8).map fun z=>Value.string ⟨z.toArray⟩:=cells_of_strs (zs:=operTexts.map fun l=>l.map fun n=>n.toUInt8) Tryd.underlying82 Tryd.underlying9 (by kernel_rfl) (by kernel_rfl) hd4
 have hc:∀ i:Nat,i < 11→W.cell? ⟨0,i,none⟩=some (.string (operB i)):=fun i hi=>by
  rw[World.var?_cell hg4 hv4 i,← Array.getElem?_toList,c4]
  have hh:i=0 ∨ i=1 ∨ i=2 ∨ i=3 ∨ i=4 ∨ i=5 ∨ i=6 ∨ i=7 ∨ i=8 ∨ i=9 ∨ i=10:=by omega
  rcases hh with rfl | rfl | rfl | rfl | rfl | rfl | rfl | rfl | rfl | rfl | rfl <;> rfl
 refine⟨?_,hc,cell_lt (hc 0 (by omega))⟩
 unfold Lib.TabIs
 rw[hv3]
 congr 1
 exact Array.toList_inj.1 (by rw[c3])
end
section
open Go.ChangeShapes Go.WideShapes Go.ChangeAt Go.RowKit
theorem own:ownKnob Tryd.prog.godebug=none:=by kernel_rfl
theorem laidOut:laidOutB Tryd.prog=true:=by kernel_rfl
theorem door_met (os:Os) (args:Array Value):laidMetH Tryd.prog Rows.bytecodeEqualRow.laid ((World.doorLaid Tryd.prog 400 os).forCall (fun _ _=>0) ⟨#[],args,[]⟩).memory :=
 laidMetH_of_parts3 (fuel:=8) (laidMet_of_run' 8 (by kernel_rfl) (by kernel_rfl)) (by kernel_rfl) (by kernel_rfl)
end
section
open Go.RowKit
/-- w' is w but for the blocks of S and new ones -/
structure Kp (S:Nat→Prop) (w w':World):Prop where
 os:w'.os=w.os
 tape:w'.tape=w.tape
 output:w'.output=w.output
 size:w.heap.size≤w'.heap.size
 block:∀ k,k < w.heap.size→¬ S k→w'.heap[k]?=w.heap[k]?
section
variable {S T:Nat→Prop} {w w1 w2:World}
theorem Kp.refl (S:Nat→Prop) (w:World):Kp S w w:=⟨rfl,rfl,rfl,Nat.le_refl _,fun _ _ _=>rfl⟩
theorem Kp.of_below (h:Below w.heap.size w w1):Kp S w w1:=⟨h.os,h.tape,h.output,h.size,fun k hk _=>h.block k hk⟩
theorem Kp.of_grown {row:Option Nat} (h:w.grownBy w1 row) (hr:∀ k,row=some k→S k):Kp S w w1:=⟨h.os,h.tape,h.output,h.size,fun k hk hn=>h.block k hk fun e=>hn (hr k e.symm)⟩
theorem Kp.trans (h:Kp S w w1) (h':Kp T w1 w2) (hs:∀ k,k < w.heap.size→T k→S k):Kp S w w2 :=
 ⟨h'.os.trans h.os,h'.tape.trans h.tape,h'.output.trans h.output,Nat.le_trans h.size h'.size,fun k hk hn=>(h'.block k (Nat.lt_of_lt_of_le hk h.size) fun hT=>hn (hs k hk hT)).trans (h.block k hk hn)⟩
theorem Kp.toBelow {B:Nat} {w0:World} (h:Kp S w w1) (hb:Below B w0 w) (hB:B≤w.heap.size) (hS:∀ k,S k→B≤k):Below B w0 w1 :=
 ⟨h.os.trans hb.os,h.tape.trans hb.tape,h.output.trans hb.output,Nat.le_trans hb.size h.size,fun k hk=>(h.block k (Nat.lt_of_lt_of_le hk hB) fun hk'=>by have:=hS k hk';omega).trans (hb.block k hk)⟩
theorem Kp.cell {a:Addr} {v:Value} (h:Kp S w w1) (hc:w.cell? a=some v) (hn:¬ S a.block):w1.cell? a=some v:=by
 rw[World.cell?_of_block (h.block a.block (cell_lt hc) hn)];exact hc
theorem Bk.kp {g:Nat} {t:TypeId} {cs:Array Value} (h:Bk w g t cs) (hk:Kp S w w1) (hn:¬ S g):Bk w1 g t cs:=(hk.block g h.lt hn).trans h
theorem Kp.setCell (w:World) (a:Addr) (v:Value) (h:S a.block):Kp S w (w.setCell a v):=⟨rfl,rfl,rfl,by simp[World.setCell],fun k _ hn=>Below.heap_setCell w a v k (fun e=>hn (e ▸ h))⟩
end
end
end Go.Proofs.YtmbnlccafcfbeaaDoor
