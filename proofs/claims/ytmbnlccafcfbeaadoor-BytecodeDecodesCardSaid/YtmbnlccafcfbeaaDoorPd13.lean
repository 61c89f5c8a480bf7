/- Parts of the proof: Dec5, Within, Boxs, Format, AwakeB, LawDec. -/
import Derived.Deep.CutBlock
import Derived.Deep.DeepCutAuto
import Derived.Deep.LoopGhost
import Derived.Deep.RegionHeld3
import Derived.Lib.QuietBelow
import Derived.Test.YtmbnlccafcfbeaaDoorPdA
import Derived.Test.YtmbnlccafcfbeaaDoorPd0
import Derived.Test.YtmbnlccafcfbeaaDoorPd11
import Derived.Test.YtmbnlccafcfbeaaDoorPd12
import Derived.Test.YtmbnlccafcfbeaaDoorPd5
import Derived.Test.YtmbnlccafcfbeaaDoorPd8
import Derived.Test.YtmbnlccafcfbeaaDoorPd9
set_option linter.unusedVariables false
set_option linter.unusedSimpArgs false
set_option linter.unusedSectionVars false
set_option maxRecDepth 100000
namespace Go.Proofs.YtmbnlccafcfbeaaDoor
section
def E3 (e:Int):Prop:=e=0 ∨ e=8 ∨ e=11
def Er {α:Type} (dec:Rd→α × Rd):Prop:=∀ r:Rd,E3 r.e→E3 (dec r).2.e
theorem erU:Er Rd.u:=fun r h=>by
 unfold Rd.u
 split
 ·exact h
 ·split
  ·exact .inl rfl
  ·exact .inr (.inr rfl)
theorem erI:Er Rd.i:=fun r h=>erU r h
theorem erB:Er Rd.bool:=fun r h=>by
 unfold Rd.bool
 split
 ·exact h
 ·split
  ·exact .inr (.inr rfl)
  ·split
   ·exact .inr (.inr rfl)
   ·exact .inl rfl
theorem erS (most:Int):Er (Rd.text most):=fun r h=>by
 have:=erU r h
 unfold Rd.text
 split
 ·exact this
 ·split
  ·exact .inr (.inl rfl)
  ·split
   ·exact .inr (.inr rfl)
   ·exact .inl rfl
theorem erC (most:Int) (r:Rd) (h:E3 r.e):E3 (r.count most).2.e:=by
 have:=erU r h
 unfold Rd.count
 split
 ·exact this
 ·split
  ·exact .inr (.inl rfl)
  ·split
   ·exact .inr (.inr rfl)
   ·exact this
theorem erL {α:Type} (most:Int) {one:Rd→α × Rd} (h:Er one):Er (Rd.list most one):=fun r hr=>by
 have key:∀ k,E3 (rep one (r.count most).2 k).2.e:=fun k=>by
  induction k with
  | zero=>exact erC most r hr
  | succ k ih=>exact h _ ih
 exact key _
theorem erIns:Er decIns:=fun r h=>erI _ (erI _ (erI _ h))
theorem erMth:Er decMth:=fun r h=>erL 1024 (erS 4096) _ (erL 4000 erIns _ (erI _ (erI _ (erS 4096 r h))))
theorem erCls:Er decCls:=fun r h=>erL 30 erMth _ (erL 30 (erS 4096) _ (erB _ (erS 4096 r h)))
theorem erCode:Er decCode:=erL 60 erCls
end
section
open Go.RowKit
attribute [local go_sem] Oper.semAt_some
section
variable {w:World} {cs:List Cls} {A:Option Addr} {n c:Nat}
set_option maxHeartbeats 4000000 in
theorem Within_any (hC:CodeR w cs A n c) {x:Bool} (hx:x=true↔withinP cs):Calls Tryd.prog 13 #[.agg #[.slice A n c]] w (YesP w x):=by
 obtain⟨rfl,hc,hn,hs⟩:=hC
 have HX:=lh hx
 have HB0:Hid (Below w.heap.size w (w.alloc (.cells #[.slice A cs.length c] 24))):=lh ((Below.refl _ _).alloc (Nat.le_refl _) _)
 have HS:=lh hs
 clear hs hx
 go_enter Tryd.func13,Tryd.ntmps13
 by_cases h60:60 < cs.length
 ·have d0:decide ((60:Int) < (cs.length:Int))=true:=decide_eq_true (by omega)
  have HE:Hid (x=false):=lh (by cases x with
   | false=>rfl
   | true=>have:=(HX.out.1 rfl).1;omega)
  clear h60
  go_wp2_with fail
  go_ret
  rw[HE.out];exact⟨rfl,HB0.out⟩
 ·have d0:decide ((60:Int) < (cs.length:Int))=false:=decide_eq_false (by omega)
  have H60:=lh h60
  clear h60
  go_wp2_with fail
  go_loopw [12] (fun ix wr=>∃ j:Nat,ix=.int .i64 (j:Int)∧j≤cs.length∧(∀ i k,i < j→cs[i]?=some k→k.fields.length≤30∧k.ms.length≤30)∧Below w.heap.size w wr) (fun ix _=>cs.length - (intOf ix).toNat)
  case atStart=>exact⟨0,rfl,Nat.zero_le _,fun i k hi=>(by omega),HB0.out⟩
  case round =>
   obtain⟨j,rfl,hj,ht,hbl⟩:=hrel
   have HT:=lh (And.intro ht hbl)
   clear ht hbl
   by_cases hlt:j < cs.length
   ·obtain⟨ba,oa,k,r,hA,hba,hk,hr,hrx,hca⟩:=HS.out.get hlt
    obtain⟨hok,F,cf,M,cm,rfl,hcf,hf,hcm,hm⟩:=hrx
    have e0:wr.cell? ⟨ba,oa+j*4,none⟩=some (.string k.nm):=((bcell HT.out.2).1 _ _ hba).trans (hca 0 _ rfl)
    have e1:wr.cell? ⟨ba,oa+j*4+1,none⟩=some (.bool k.actor):=((bcell HT.out.2).1 _ _ hba).trans (hca 1 _ rfl)
    have e2:wr.cell? ⟨ba,oa+j*4+2,none⟩=some (.slice F k.fields.length cf):=((bcell HT.out.2).1 _ _ hba).trans (hca 2 _ rfl)
    have e3:wr.cell? ⟨ba,oa+j*4+3,none⟩=some (.slice M k.ms.length cm):=((bcell HT.out.2).1 _ _ hba).trans (hca 3 _ rfl)
    subst hA
    have hjc:j < c:=by omega
    have HK:=lh hk
    have HBD:Hid (Below w.heap.size w (wr.alloc (.cells #[.string k.nm,.bool k.actor,.slice F k.fields.length cf,.slice M k.ms.length cm] 48))):=lh (HT.out.2.alloc HT.out.2.size _)
    clear hok hcf hf hcm hm hk hr hca hba
    by_cases h1:30 < k.fields.length
    ·have d1:decide ((30:Int) < (k.fields.length:Int))=true:=decide_eq_true (by omega)
     have HE:Hid (x=false):=lh (by cases x with
      | false=>rfl
      | true=>have:=((HX.out.1 rfl).2 k (List.mem_of_getElem? HK.out)).1;omega)
     clear h1
     go_wp2_with fail
     go_ret
     rw[HE.out];exact⟨rfl,HBD.out⟩
    ·have d1:decide ((30:Int) < (k.fields.length:Int))=false:=decide_eq_false (by omega)
     have H1:=lh h1
     clear h1
     by_cases h2:30 < k.ms.length
     ·have d2:decide ((30:Int) < (k.ms.length:Int))=true:=decide_eq_true (by omega)
      have HE:Hid (x=false):=lh (by cases x with
       | false=>rfl
       | true=>have:=((HX.out.1 rfl).2 k (List.mem_of_getElem? HK.out)).2;omega)
      clear h2
      go_wp2_with fail
      go_ret
      rw[HE.out];exact⟨rfl,HBD.out⟩
     ·have d2:decide ((30:Int) < (k.ms.length:Int))=false:=decide_eq_false (by omega)
      have H2:=lh h2
      clear h2
      go_wp2_with fail
      go_roundw
      case rel =>
       refine⟨j+1,by go_num,hlt,fun i k' hi hk'=>?_,HBD.out⟩
       by_cases e:i=j
       ·subst e
        rw[HK.out] at hk'
        injection hk' with hk'
        subst hk'
        have:=H1.out
        have:=H2.out
        omega
       ·exact HT.out.1 i k' (by omega) hk'
      case measure=>simp[intOf];omega
   ·obtain rfl:j=cs.length:=by omega
    have HE:Hid (x=true):=lh (HX.out.2 ⟨by have:=H60.out;omega,fun k hk=>by
     obtain⟨i,hi,rfl⟩:=List.mem_iff_getElem.1 hk
     exact HT.out.1 i _ hi (List.getElem?_eq_getElem hi)⟩)
    clear hlt hj
    go_wp2_with fail
    go_ret
    rw[HE.out];exact⟨rfl,HT.out.2⟩
end
theorem codeR_of {w:World} {cs:List Cls} {A:Option Addr} {c:Nat} {xs:List Value} (ho:w.ownsRow 0 48 4 (.slice A cs.length c) cs.length xs) (he:Els ClsO 4 w cs xs) (hk:okP cs):CodeR w cs A cs.length c :=
 ⟨rfl,own_le ho,hk.1,(he.ofIn fun x hx r h=>h.clsR (hk.2 x hx).1 (hk.2 x hx).2).slr (own_sl ho) rfl⟩
end
section
open Go.RowKit
/-- a box: who lays it, who fills it, of what type, with what at first and then -/
structure Bx where
 a:Nat
 s:Nat
 t:TypeId
 z:Array Value
 u:Array Value
def isBx (bs:List Bx) (i:Nat):Prop:=∃ b∈bs,i=b.a ∨ i=b.s
structure BxI (W:World) (N:Nat) (bs:List Bx) (vals:Nat→Value) (L:Array Bool) (vs:Nat→Value) (w:World):Prop where
 k:Below W.heap.size W w
 v:∀ i,i < N→¬ isBx bs i→L.getD i false=true→vs i=vals i
 o:∀ b∈bs,L.getD b.s false=true→L.getD b.a false=true
 b:∀ b∈bs,L.getD b.a false=true→∃ g,vs b.a=.pointer (some ⟨g,0,none⟩)∧W.heap.size≤g∧Bk w g b.t (if L.getD b.s false=true then b.u else b.z)
 d:∀ b∈bs,∀ b'∈bs,b.a≠b'.a→L.getD b.a false=true→L.getD b'.a false=true→vs b.a≠vs b'.a
end
section
open Go.RowKit Go.Sort
def headB (nm:ByteArray) (p l:Int):ByteArray:=⟨(Lib.join ([⟨#[109,101,116,104,111,100]⟩,nm,dec p,dec l].map (·.data.toList)) spB.data.toList).toArray⟩
def lineB (ns:List ByteArray) (i:Nat) (x:Ins):ByteArray :=
 dec i++spB++(if iV x then (if hasText x.1.toNat then opName x.1.toNat++spB++textB ns x.1.toNat x.2.1 x.2.2 else opName x.1.toNat) else ⟨#[63]⟩)
def linesTo (ns:List ByteArray) (c:List Ins) (k:Nat):List ByteArray:=(List.range k).map fun i=>lineB ns i (c.getD i (0,0,0))
def fmtL (nm:ByteArray) (p l:Int) (c:List Ins) (ns:List ByteArray) (k:Nat):List ByteArray:=headB nm p l::linesTo ns c k
theorem fmtL_succ (nm:ByteArray) (p l:Int) (c:List Ins) (ns:List ByteArray) (k:Nat) (x:Ins) (hx:c[k]?=some x):fmtL nm p l c ns (k+1)=fmtL nm p l c ns k++[lineB ns k x]:=by
 simp[fmtL,linesTo,List.range_succ,hx]
theorem fmtL_length (nm:ByteArray) (p l:Int) (c:List Ins) (ns:List ByteArray) (k:Nat):(fmtL nm p l c ns k).length=k+1:=by simp[fmtL,linesTo]
def FmtPost (w:World) (ls:List ByteArray) (e:Ending) (w':World):Prop :=
 ∃ g cap,e=.returned (.slice (some ⟨g,0,none⟩) ls.length cap)∧ls.length≤cap∧Sl w' 1 (some ⟨g,0,none⟩) ls.length (strs ls)∧Below w.heap.size w w'∧w.heap.size≤g
theorem own_slF {w:World} {base:Nat} {e:TypeId} {n:Nat} {v:Value} {xs:List Value} (h:w.ownsRow base e 1 v n xs) (hn:0 < n):∃ g cap,v=.slice (some ⟨g,0,none⟩) n cap∧n≤cap∧base≤g∧Sl w 1 (some ⟨g,0,none⟩) n xs:=by
 have hlt:=h.lt
 have hcl:=fun g=>h.cells (g:=g)
 obtain⟨h1,h2 | ⟨g,cap,cur,rfl,h3,_,h5,_⟩⟩:=h
 ·omega
 ·exact⟨g,cap,rfl,h5,h3,h1,.inr ⟨g,0,rfl,(hlt g rfl).2,fun j x hx=>by
   have:=hcl g rfl j x hx
   unfold Addr.add at this
   split at this
   ·next h0=>subst h0;exact this
   ·exact this⟩⟩
theorem cells_strs (w:World) (t:TypeId) (l:List ByteArray) (cs:Array Value) (h:cs=(strs l).toArray):∀ (j:Nat) x,l[j]?=some x→(w.alloc (.cells cs t)).cell? ⟨w.heap.size,0+j,none⟩=some (.string x):=by
 subst h
 intro j x hx
 simp[strs,hx]
theorem head_len {nm:ByteArray} {p l:Int} (hnm:nm.size≤1000000) (p0:-9223372036854775808≤p) (p1:p≤9223372036854775807) (l0:-9223372036854775808≤l) (l1:l≤9223372036854775807) :
  (Lib.join ([⟨#[109,101,116,104,111,100]⟩,nm,dec p,dec l].map (·.data.toList)) spB.data.toList).length≤140737488355328:=by
 have h1:=dec_size p p0 p1
 have h2:=dec_size l l0 l1
 have e:∀ b:ByteArray,b.data.toList.length=b.size:=fun b=>rfl
 simp only[Lib.join,List.intercalate,List.map_cons,List.map_nil,List.intersperse,List.flatten_cons,List.flatten_nil,List.length_append,List.append_nil,e]
 have e2:spB.size=1:=rfl
 have e1:[(109:UInt8),101,116,104,111,100].length=6:=rfl
 rw[e1,e2]
 omega
theorem Join_head {nm:ByteArray} {p l:Int} (w2:World) (hnm:nm.size≤1000000) (p0:-9223372036854775808≤p) (p1:p≤9223372036854775807) (l0:-9223372036854775808≤l) (l1:l≤9223372036854775807) :
  Calls Tryd.prog 44 #[.slice (some ⟨w2.heap.size,0,none⟩) 4 4,.string ⟨#[32]⟩] (w2.alloc (.cells #[.string ⟨#[109,101,116,104,111,100]⟩,.string nm,.string (dec p),.string (dec l)] 9)) fun e w'=>e=.returned (.string (headB nm p l))∧Below w2.heap.size w2 w' :=
 (Tryd.strings_Join w2.heap.size 0 4 [⟨#[109,101,116,104,111,100]⟩,nm,dec p,dec l] spB _ (cells_strs w2 9 _ _ rfl) (by simp) (by simp) (by simp) (head_len hnm p0 p1 l0 l1)).mono fun e w' ⟨he,hb⟩=>⟨he,below_box hb⟩
theorem i_str:(Tryd.prog.info? 9).map (fun i=>(i.zero,i.size,i.bytes))=some (some (.string ⟨#[]⟩),1,16):=by kernel_rfl
theorem i64_of_wf {z:Int} (h:(Lit.int .i64 z).wf=true):-9223372036854775808≤z∧z≤9223372036854775807:=by
 simp only[Lit.wf,Bool.and_eq_true,decide_eq_true_eq] at h
 exact h
theorem nameB_size {ns:List ByteArray} (hsz:∀ x∈ns,x.size≤1000000) (a:Int):(nameB ns a).size≤1000000:=by
 unfold nameB
 split
 ·rw[List.getD_eq_getElem?_getD]
  cases hx:ns[a.toNat]? with
  | none=>simp[ByteArray.size]
  | some x=>exact hsz x (List.mem_of_getElem? hx)
 ·simp[ByteArray.size]
theorem operB_size (n:Nat):(operB n).size≤2:=by
 by_cases h:n < 11
 ·have hall:((List.range 11).all fun i=>decide ((operB i).size≤2))=true:=by decide +kernel
  simpa using List.all_eq_true.1 hall n (by simpa using h)
 ·have:operTexts[n]?=none:=List.getElem?_eq_none (by simp[operTexts];omega)
  simp[operB,this,ByteArray.size]
theorem opName_size (n:Nat):(opName n).size≤10:=by
 by_cases h:n < 26
 ·have hall:((List.range 26).all fun i=>decide ((opName i).size≤10))=true:=by decide +kernel
  simpa using List.all_eq_true.1 hall n (by simpa using h)
 ·have:opRows[n]?=none:=List.getElem?_eq_none (by simp[opRows];omega)
  simp[opName,opRow,this,ByteArray.size]
theorem textB_size {ns:List ByteArray} (hsz:∀ x∈ns,x.size≤1000000) (n:Nat) {a b:Int} (a0:-9223372036854775808≤a) (a1:a≤9223372036854775807) (b0:-9223372036854775808≤b) (b1:b≤9223372036854775807):(textB ns n a b).size≤2000000:=by
 have h1:=dec_size a a0 a1
 have h2:=dec_size b b0 b1
 have h3:=nameB_size hsz a
 have h4:=operB_size a.toNat
 have h5:spB.size=1:=rfl
 unfold textB
 split
 ·simp only[ByteArray.size_append,h5];omega
 ·split
  ·omega
  ·split
   ·omega
   ·split
    ·simp only[ByteArray.size_append,h5];omega
    ·omega
theorem Valid_yes' {n a b:Int} (h:validB n a b=true) (w:World) :
  Calls Tryd.prog 17 #[.agg #[.int .i64 n,.int .i64 a,.int .i64 b]] w fun e w'=>e=.returned (.bool true)∧Below w.heap.size w w':=by
 have:=Valid_any n a b w
 rwa [h] at this
theorem Valid_no {n a b:Int} (h:validB n a b=false) (w:World) :
  Calls Tryd.prog 17 #[.agg #[.int .i64 n,.int .i64 a,.int .i64 b]] w fun e w'=>e=.returned (.bool false)∧Below w.heap.size w w':=by
 have:=Valid_any n a b w
 rwa [h] at this
theorem eql_nil (w:World):(binOp .eql 68 .nilFunc .nilFunc).run Tryd.prog w=.ok (.bool true) w:=by kernel_rfl
theorem eql_func (K:Nat) (w:World):(binOp .eql 68 (.func (.func K) #[] #[]) .nilFunc).run Tryd.prog w=.ok (.bool false) w:=by kernel_rfl
theorem opers_below (w:World):Calls Tryd.prog 43 #[] w fun e w'=>e=.returned (.agg opCells)∧Below w.heap.size w w' :=
 (operations_any w).mono fun e w' ⟨he,o,hw⟩=>⟨he,hw ▸ (Below.refl _ _).alloc (Nat.le_refl _) _⟩
section
variable {w:World} {nm:ByteArray} {p l:Int} {A B:Option Addr} {len cap m d:Nat}
set_option maxHeartbeats 4000000 in
theorem Format_any (c:List Ins) (ns:List ByteArray) (hc:c.length=len) (hl:len≤10000) (hcap:len≤cap) (hw:∀ x∈c,(Lit.int .i64 x.1).wf=true∧(Lit.int .i64 x.2.1).wf=true∧(Lit.int .i64 x.2.2).wf=true) (hcode:Sl w 3 A len (codeCells c))
  (hm:ns.length=m) (hd:m≤d) (hs:Sl w 1 B m (strs ns)) (hsz:∀ x∈ns,x.size≤1000000) (hnm:nm.size≤1000000) (p0:-9223372036854775808≤p) (p1:p≤9223372036854775807) (l0:-9223372036854775808≤l) (l1:l≤9223372036854775807) (ht:Tabs w) :
  Calls Tryd.prog 16 #[.agg #[.string nm,.int .i64 p,.int .i64 l,.slice A len cap,.slice B m d]] w (FmtPost w (fmtL nm p l c ns len)):=by
 have hb0:Below w.heap.size w (w.alloc (.cells #[.string nm,.int .i64 p,.int .i64 l,.slice A len cap,.slice B m d] 43)):=(Below.refl _ _).alloc (Nat.le_refl _) _
 have hS0:Below (w.alloc (.cells #[.string nm,.int .i64 p,.int .i64 l,.slice A len cap,.slice B m d] 43)).heap.size (w.alloc (.cells #[.string nm,.int .i64 p,.int .i64 l,.slice A len cap,.slice B m d] 43)) (w.alloc (.cells #[.string nm,.int .i64 p,.int .i64 l,.slice A len cap,.slice B m d] 43))∧Tabs (w.alloc (.cells #[.string nm,.int .i64 p,.int .i64 l,.slice A len cap,.slice B m d] 43))∧(w.alloc (.cells #[.string nm,.int .i64 p,.int .i64 l,.slice A len cap,.slice B m d] 43)).cell? ⟨w.heap.size,0,none⟩=some (.string nm)∧(w.alloc (.cells #[.string nm,.int .i64 p,.int .i64 l,.slice A len cap,.slice B m d] 43)).cell? ⟨w.heap.size,1,none⟩=some (.int .i64 p)∧(w.alloc (.cells #[.string nm,.int .i64 p,.int .i64 l,.slice A len cap,.slice B m d] 43)).cell? ⟨w.heap.size,2,none⟩=some (.int .i64 l) :=
  ⟨Below.refl _ _,ht.below hb0,by simp,by simp,by simp⟩
 have HS0:=lh hS0
 have HB0:=lh hb0
 have HCODE:=lh (hcode.below hb0)
 have HNS:=lh (hs.below hb0)
 have HBK:=lh (Bk.new w 43 #[.string nm,.int .i64 p,.int .i64 l,.slice A len cap,.slice B m d])
 have HT:=lh ht
 have hNlt:w.heap.size < (w.alloc (.cells #[.string nm,.int .i64 p,.int .i64 l,.slice A len cap,.slice B m d] 43)).heap.size:=by simp
 have HC:=lh hc
 have HM:=lh hm
 clear hb0 hS0 hcode hs ht hc hm
 go_enter Tryd.func16,Tryd.ntmps16
 go_upto_region 1 with fail
 obtain⟨W,hW⟩:∃ W,W=w.alloc (.cells #[.string nm,.int .i64 p,.int .i64 l,.slice A len cap,.slice B m d] 43):=⟨_,rfl⟩
 rw[← hW] at HS0 HB0 HCODE HNS HBK hNlt ⊢
 clear hW
 obtain⟨s1,s2,s3,s4,s5⟩:=HS0.out
 go_cut [3] from 7 to 17 (fun s3 wx=>∃ g:Nat,s3=.slice (some ⟨g,0,none⟩) 1 1∧W.heap.size≤g∧Bk wx g 9 #[.string (headB nm p l)]∧Below W.heap.size W wx)
 case first =>
  have sd:=s2.below s1.drew
  clear HS0 s1
  go_region_with (first
   | (go_at_call_of 45 (Value.int .i64 p);refine(Itoa_any p p0 p1 _ sd).mono ?_;rintro e w1 ⟨rfl,hb1⟩;have ht1:Tabs w1:=sd.below hb1;have c0:=((bcell hb1).1 _ 0 hNlt).trans s3;have c2:=((bcell hb1).1 _ 2 hNlt).trans s5;have z1:W.heap.size≤w1.heap.size:=hb1.size)
   | (go_at_call_of 45 (Value.int .i64 l);refine(Itoa_any l l0 l1 _ ht1).mono ?_;rintro e w2 ⟨rfl,hb2⟩;have c0':=((bcell hb2).1 _ 0 (Nat.lt_of_lt_of_le hNlt z1)).trans c0;have z2:W.heap.size≤w2.heap.size:=Nat.le_trans z1 hb2.size)
   | (go_at_call 44;refine(Join_head w2 hnm p0 p1 l0 l1).mono ?_;rintro e w3 ⟨rfl,hb3⟩;have z3:W.heap.size≤w3.heap.size:=Nat.le_trans z2 hb3.size))
  all_goals
   go_wp2_with fail
   go_meet
   refine⟨w3.heap.size,rfl,z3,Bk.new _ _ _,(((Below.refl _ _).drew.trans (hb1.trans (hb2.mono z1))).trans (hb3.mono z2)).alloc z3 _⟩
 case rest =>
  obtain⟨g,rfl,hg,hbk,hbel⟩:=hcut
  have hown:wc.ownsRow W.heap.size 9 1 (.slice (some ⟨g,0,none⟩) 1 1) 1 (strs (fmtL nm p l c ns 0)) :=
   ⟨rfl,.inr ⟨g,1,_,rfl,hg,hbk,Nat.le_refl _,by unfold maxLen;omega,rfl,rfl⟩⟩
  have hbkw:Bk wc w.heap.size 43 #[.string nm,.int .i64 p,.int .i64 l,.slice A len cap,.slice B m d]:=HBK.out.below hbel hNlt
  have b3:wc.cell? ⟨w.heap.size,3,none⟩=some (.slice A len cap):=hbkw.cell 3
  have HOWN:=lh hown
  have HBEL:=lh hbel
  clear hown hbel hbk
  clear hbkw
  obtain⟨i9,hi9,hi0,hi1,hi2⟩:=info_parts i_str
  have HI:=lh (And.intro hi9 (And.intro hi0 (And.intro hi1 hi2)))
  clear hi9 hi0 hi1 hi2 s2 s3 s4 s5 HS0
  have sW:Tabs W:=HT.out.below HB0.out
  have HTW:=lh sW
  clear sW
  go_wp2_with fail
  go_loopg [3,21] (len) (fun q v i wr=>∃ k,i=.int .i64 (k:Nat)∧k+q=len∧wr.ownsRow W.heap.size 9 1 v (k+1) (strs (fmtL nm p l c ns k))∧Below W.heap.size W wr)
  case atStart=>exact⟨0,rfl,by omega,HOWN.out,HBEL.out⟩
  case round =>
   obtain⟨k,rfl,hkq,hown,hB⟩:=hrel
   cases gk with
   | zero =>
    obtain rfl:k=len:=hkq
    have HO:=lh hown
    have HB:=lh hB
    clear hown hB
    go_wp2_with fail
    go_ret
    obtain⟨g',cp,hv,h1,h2,h3⟩:=own_slF HO.out (by omega)
    subst hv
    have hln:=fmtL_length nm p l c ns k
    refine⟨g',cp,by rw[hln];rfl,by rw[hln];exact h1,by rw[hln];exact h3,HB0.out.trans (HB.out.mono (Nat.le_of_lt hNlt)),by omega⟩
   | succ q =>
    have hkl:k < len:=by omega
    obtain⟨⟨xo,xa,xb⟩,hx⟩:∃ x,c[k]?=some x:=⟨_,List.getElem?_eq_getElem (by rw[HC.out];exact hkl)⟩
    obtain⟨hx0,hx1,hx2⟩:=codeCells_get c k (xo,xa,xb) hx
    obtain⟨cb,co,rfl,hbl,hcc⟩:=HCODE.out.get hkl
    have x0:wr.cell? ⟨cb,co+k*3,none⟩=some (.int .i64 xo):=(hB.cell (p:=⟨cb,co+k*3,none⟩) hbl).trans (hcc _ _ hx0)
    have x1:wr.cell? ⟨cb,co+k*3+1,none⟩=some (.int .i64 xa):=(hB.cell (p:=⟨cb,co+k*3+1,none⟩) hbl).trans (hcc _ _ hx1)
    have x2:wr.cell? ⟨cb,co+k*3+2,none⟩=some (.int .i64 xb):=(hB.cell (p:=⟨cb,co+k*3+2,none⟩) hbl).trans (hcc _ _ hx2)
    have hzW:=hB.size
    have hTr:Tabs (wr.alloc (.cells #[.int .i64 xo,.int .i64 xa,.int .i64 xb] 37)):=(HTW.out.below hB).below ((Below.refl _ _).alloc (Nat.le_refl _) _)
    have HTR:=lh hTr
    have HB:=lh hB
    have HO:=lh hown
    have HX:=lh hx
    have hkc:k < cap:=by omega
    have hds:=dec_size (k:Int) (by omega) (by omega)
    have hds1:¬ 9223372036854775807 < (dec k).size+1:=by omega
    obtain⟨hwo,hwa,hwb⟩:=hw _ (List.mem_of_getElem? hx)
    have ba:=i64_of_wf hwa
    have bb:=i64_of_wf hwb
    have hts:=textB_size hsz xo.toNat ba.1 ba.2 bb.1 bb.2
    have hos:=opName_size xo.toNat
    have hbm:=HBK.out.below hB hNlt
    have hzN:w.heap.size < wr.heap.size:=by omega
    clear hB hown hx hx0 hx1 hx2 hcc hbl hTr hwo hwa hwb
    go_upto_block 2 with (first | (go_at_call 45;refine(Itoa_any (k:Int) (by omega) (by omega) _ HTR.out).mono ?_;rintro e w1 ⟨rfl,hb1⟩))
    have hnw:wr.heap.size < (wr.alloc (.cells #[.int .i64 xo,.int .i64 xa,.int .i64 xb] 37)).heap.size:=by simp
    have hi1:Bk w1 wr.heap.size 37 #[.int .i64 xo,.int .i64 xa,.int .i64 xb]:=(Bk.new _ _ _).below hb1 hnw
    have hm1:=(hbm.alloc (.cells #[.int .i64 xo,.int .i64 xa,.int .i64 xb] 37)).below hb1 (by omega)
    have ht1:=HTR.out.below hb1
    have hz1:wr.heap.size < w1.heap.size:=Nat.lt_of_lt_of_le hnw hb1.size
    have HB1:=lh ((HB.out.alloc hzW (.cells #[.int .i64 xo,.int .i64 xa,.int .i64 xb] 37)).trans (hb1.mono (by simp;omega)))
    have HNS1:=lh (HNS.out.below HB1.out)
    have HO1:=lh (HO.out.alloc (.cells #[.int .i64 xo,.int .i64 xa,.int .i64 xb] 37))
    have HBB1:=lh hb1
    clear hb1 x0 x1 x2 hbm hnw HTR
    go_cut [6] from 29 to 61 (fun s6 wx=>s6=.string (lineB ns k (xo,xa,xb))∧Below w1.heap.size w1 wx)
    case first =>
     have i0:=hi1.cell 0
     have i1:=hi1.cell 1
     have i2:=hi1.cell 2
     simp only[List.getElem?_toArray,List.getElem?_cons_zero,List.getElem?_cons_succ] at i0 i1 i2
     cases hv:validB xo xa xb with
     | false =>
      have hln:lineB ns k (xo,xa,xb)=dec k++⟨#[32]⟩++⟨#[63]⟩:=by simp[lineB,iV,hv,spB]
      have HLN:=lh hln
      have HV:=lh hv
      have hd2:¬ 9223372036854775807 < (dec k).size+1+1:=by omega
      clear hln hv hds
      go_wp2_with fail
      refine(Valid_no HV.out _).mono ?_
      rintro e w2 ⟨rfl,hb2⟩
      go_wp2
      go_meet
      exact⟨by rw[HLN.out],hb2⟩
     | true =>
      obtain⟨kk,rfl,hkk,_⟩:=validB_some hv
      simp only[Int.toNat_natCast] at hts hos
      have HV:=lh hv
      cases hT:hasText kk with
      | false =>
       have hln:lineB ns k (kk,xa,xb)=dec k++⟨#[32]⟩++opName kk:=by simp[lineB,iV,hv,spB,hT]
       have HLN:=lh hln
       have hix:=fun w=>index_op kk hkk w
       simp only[text_none kk hkk hT] at hix
       have hfx:=field_op7
       have hen:=eql_nil
       have hd2:¬ 9223372036854775807 < (dec k).size+1+(opName kk).size:=by omega
       clear hln hv hds hT
       go_wp2_with fail
       refine(Valid_yes' HV.out _).mono ?_
       rintro e w2 ⟨rfl,hb2⟩
       have hi2:=hi1.below hb2 hz1
       have j0:=cell_regrown (hi2.cell 0)
       have cO:=fun dd os=>Calls.regrown_of (w:=w2) (opers_below (grow (redrawn w2 dd) os))
       have HB2:=lh hb2
       clear hb2 i0 i1 i2
       go_wp2_with fail
       refine wp_region_quiet_below (by kernel_rfl) (by kernel_rfl) ?_
       repeat (quiet_step (first | exact cO _ _))
       refine wpQuiet_nil ?_
       intro w3 hw'
       have hb3:Below w2.heap.size w2 w3:=by obtain⟨pp,rfl⟩:=hw';exact below_regrown _ _ _
       have i0:=(hi2.below hb3 (Nat.lt_of_lt_of_le hz1 HB2.out.size)).cell 0
       simp only[List.getElem?_toArray,List.getElem?_cons_zero,List.getElem?_cons_succ] at i0
       have HB3:=lh (HB2.out.trans (hb3.mono HB2.out.size))
       clear hw' hb3 cO j0 hix
       go_wp2_with fail
       refine(Name_in kk hkk _).mono ?_
       rintro e w4 ⟨rfl,hb4⟩
       go_wp2
       go_meet
       exact⟨by rw[HLN.out],HB3.out.trans (hb4.mono HB3.out.size)⟩
      | true =>
       have hln:lineB ns k (kk,xa,xb)=dec k++⟨#[32]⟩++(opName kk++⟨#[32]⟩++textB ns kk xa xb):=by simp[lineB,iV,hv,spB,hT]
       have HLN:=lh hln
       obtain⟨K,hK,eK,cK⟩:=text_some (v0:=.string nm) (v1:=.int .i64 p) (v2:=.int .i64 l) (v3:=.slice (some ⟨cb,co,none⟩) len cap) (B:=B) (d:=d) kk hkk hT ba.1 ba.2 bb.1 bb.2 hv HM.out hd hsz
       have hix:=fun w=>index_op kk hkk w
       simp only[hK] at hix
       have hfx:=field_op7
       have hen:=eql_func K
       have hd2:¬ 9223372036854775807 < (opName kk).size+1:=by omega
       have hd3:¬ 9223372036854775807 < (opName kk).size+1+(textB ns kk xa xb).size:=by omega
       have hd4:¬ 9223372036854775807 < (dec k).size+1+((opName kk).size+1+(textB ns kk xa xb).size):=by omega
       clear hln hv hds hT hK
       go_wp2_with fail
       refine(Valid_yes' HV.out _).mono ?_
       rintro e w2 ⟨rfl,hb2⟩
       have hi2:=hi1.below hb2 hz1
       have j0:=cell_regrown (hi2.cell 0)
       have cO:=fun dd os=>Calls.regrown_of (w:=w2) (opers_below (grow (redrawn w2 dd) os))
       have HB2:=lh hb2
       clear hb2 i0 i1 i2
       go_wp2_with fail
       refine wp_region_quiet_below (by kernel_rfl) (by kernel_rfl) ?_
       repeat (quiet_step (first | exact cO _ _))
       refine wpQuiet_nil ?_
       intro w3 hw'
       have hb3:Below w2.heap.size w2 w3:=by obtain⟨pp,rfl⟩:=hw';exact below_regrown _ _ _
       have hz2:=Nat.lt_of_lt_of_le hz1 HB2.out.size
       have HB3:=lh (HB2.out.trans (hb3.mono HB2.out.size))
       have hi3:=hi2.below hb3 hz2
       have hm3:=hm1.below HB3.out (by omega)
       have ht3:=ht1.below HB3.out
       have hs3:=HNS1.out.below HB3.out
       clear hw' hb3 cO j0
       have j0:=cell_regrown (hi3.cell 0)
       have j1:=cell_regrown (hi3.cell 1)
       have j2:=cell_regrown (hi3.cell 2)
       have k0:=cell_regrown (hm3.cell 0)
       have k1:=cell_regrown (hm3.cell 1)
       have k2:=cell_regrown (hm3.cell 2)
       have k3:=cell_regrown (hm3.cell 3)
       have k4:=cell_regrown (hm3.cell 4)
       have cO:=fun dd os=>Calls.regrown_of (w:=w3) (opers_below (grow (redrawn w3 dd) os))
       have cN:=fun dd os=>Calls.regrown_of (w:=w3) (Name_in kk hkk (grow (redrawn w3 dd) os))
       have cT:=fun dd os=>Calls.regrown_of (w:=w3) (cK (grow (redrawn w3 dd) os) (ht3.below (below_regrown _ _ _)) (hs3.below (below_regrown _ _ _)))
       clear cK ht3 hs3 hm3 hi3 hi2
       go_wp2_with fail
       refine wp_region_quiet_below (by kernel_rfl) (by kernel_rfl) ?_
       repeat (quiet_step (first | exact cO _ _ | exact cN _ _ | exact cT _ _))
       refine wpQuiet_nil ?_
       intro w4 hw'
       have hb4:Below w3.heap.size w3 w4:=by obtain⟨pp,rfl⟩:=hw';exact below_regrown _ _ _
       have HB4:=lh (HB3.out.trans (hb4.mono HB3.out.size))
       clear hw' hb4 cO cN cT j0 j1 j2 k0 k1 k2 k3 k4
       go_wp2
       go_meet
       exact⟨by rw[HLN.out],HB4.out⟩
    case rest =>
     obtain⟨rfl,hb2⟩:=hcut
     have hbx:=HB1.out.trans (hb2.mono (by have:=HB1.out.size;omega))
     have hszx:=hbx.size
     have hown:=own_below (own_below HO1.out HBB1.out) hb2
     have hsucc:strs (fmtL nm p l c ns k)++[Value.string (lineB ns k (xo,xa,xb))]=strs (fmtL nm p l c ns (k+1)):=by rw[fmtL_succ nm p l c ns k _ HX.out];simp[strs]
     have HSU:=lh hsucc
     have hlt:=fun kk hk=>(hown.lt kk hk).1
     have HLT:=lh hlt
     have HBX:=lh hbx
     have HOX:=lh hown
     clear hbx hown hb2 hi1 hm1 ht1 hsucc hlt
     go_wp2_with (first | (at_builtin;refine wpList_append_own _ rfl (.tmp 62) (.tmp 64) 40 rfl W.heap.size 9 i9 (.string ⟨#[]⟩) 1 16 Tryd.underlying40 HI.out.1 HI.out.2.1 HI.out.2.2.1 HI.out.2.2.2 rfl (by decide) _ _ _ rfl (HOX.out.alloc _) ⟨wc.heap.size,0,none⟩ 1 1 [.string (lineB ns k (xo,xa,xb))] rfl rfl (cell_one_new _ _ _) (by simp[Value.oneCell']) (by unfold maxLen;omega) (by omega) (by simp;omega) ?_;intro v' w4 hown4 hg4 _;rw[HSU.out] at hown4))
     have HO4:=lh hown4
     have HG4:=lh hg4
     clear hown4 hg4
     go_wp2_with fail
     go_roundg q
     case measure=>omega
     case rel=>exact⟨k+1,by go_num,by omega,HO4.out,(HBX.out.alloc hszx _).grown HG4.out (by simp;omega) HLT.out⟩
end
end
section
open Go.RowKit Go.Sort
theorem own_sls {w:World} {base:Nat} {e:TypeId} {s n:Nat} {v:Value} {xs:List Value} (h:w.ownsRow base e s v n xs) (hn:0 < n):∃ g cap,v=.slice (some ⟨g,0,none⟩) n cap∧n≤cap∧base≤g∧Sl w s (some ⟨g,0,none⟩) n xs:=by
 have hlt:=h.lt
 have hcl:=fun g=>h.cells (g:=g)
 obtain⟨h1,h2 | ⟨g,cap,cur,rfl,h3,_,h5,_⟩⟩:=h
 ·omega
 ·exact⟨g,cap,rfl,h5,h3,h1,.inr ⟨g,0,rfl,(hlt g rfl).2,fun j x hx=>by
   have:=hcl g rfl j x hx
   unfold Addr.add at this
   split at this
   ·next h0=>subst h0;exact this
   ·exact this⟩⟩
def aNames:List ByteArray:=[⟨#[102]⟩,⟨#[103,111]⟩]
def aCode (k:Nat):List Ins:=List.replicate k (1,0,0)
def aAll:List Ins:=aCode 7++[(21,1,2)]
theorem aCode_succ (k:Nat):codeCells (aCode k)++[Value.int .i64 1,.int .i64 0,.int .i64 0]=codeCells (aCode (k+1)):=by
 simp[aCode,codeCells,insCells,List.replicate_succ']
theorem aAll_cells:codeCells (aCode 7)++[Value.int .i64 21,.int .i64 1,.int .i64 2]=codeCells aAll:=by
 simp[aAll,codeCells,insCells]
theorem dec_small (n:Nat) (h:n < 10):dec n=⟨#[UInt8.ofNat (48+n)]⟩:=by
 unfold dec Lib.itoa
 rw[if_neg (by omega),Int.toNat_natCast,Lib.decDigits,dif_pos h]
theorem a_head:headB ⟨#[109]⟩ 1 2=⟨#[109,101,116,104,111,100,32,109,32,49,32,50]⟩:=by
 have h1:dec 1=⟨#[49]⟩:=dec_small 1 (by decide)
 have h2:dec 2=⟨#[50]⟩:=dec_small 2 (by decide)
 unfold headB
 rw[h1,h2]
 decide +kernel
theorem a_line:lineB aNames 7 (21,1,2)=⟨#[55,32,115,101,110,100,32,103,111,32,50]⟩:=by
 have h1:dec (7:Nat)=⟨#[55]⟩:=dec_small 7 (by decide)
 have h2:dec 2=⟨#[50]⟩:=dec_small 2 (by decide)
 have h3:iV (21,1,2)=true:=by decide +kernel
 unfold lineB
 rw[h1,h3]
 have h4:textB aNames (Int.toNat 21) 1 2=nameB aNames 1++spB++dec 2:=rfl
 show _++_++(if true=true then (if hasText (Int.toNat 21)=true then opName (Int.toNat 21)++spB++textB aNames (Int.toNat 21) 1 2 else _) else _)=_
 rw[h4,h2]
 decide +kernel
theorem i_ins:(Tryd.prog.info? 37).map (fun i=>(i.zero,i.size,i.bytes))=some (some (.agg #[.int .i64 0,.int .i64 0,.int .i64 0]),3,24):=by kernel_rfl
theorem cell_three_new (w:World) (x y z:Value) (t:TypeId):∀ j u,[x,y,z][j]?=some u→(w.alloc (.cells #[x,y,z] t)).cell? ((⟨w.heap.size,0,none⟩:Addr).add j)=some u:=by
 intro j u hj
 match j,hj with
 | 0,hj=>simp at hj;subst hj;simp[Addr.add]
 | 1,hj=>simp at hj;subst hj;simp[Addr.add]
 | 2,hj=>simp at hj;subst hj;simp[Addr.add]
theorem grown_setC (w:World) (g i:Nat) (v:Value):w.grownBy (w.setCell ⟨g,i,none⟩ v) (some g) :=
 ⟨rfl,rfl,rfl,by simp[World.setCell],fun k _ hk=>Below.heap_setCell _ _ _ _ (fun e=>hk (by rw[e]))⟩
structure AW (w wr:World) (H k:Nat) (c:List Ins) (v:Value):Prop where
 sd:Bk wr w.heap.size 37 #[.int .i64 21,.int .i64 1,.int .i64 2]
 ns:Bk wr H 9 #[.string ⟨#[102]⟩,.string ⟨#[103,111]⟩]
 m:Bk wr (H+1) 43 #[.string ⟨#[109]⟩,.int .i64 1,.int .i64 2,v,.slice (some ⟨H,0,none⟩) 2 2]
 own:wr.ownsRow (H+2) 37 3 v k (codeCells c)
 bel:Below w.heap.size w wr
 lt:w.heap.size < H
theorem AW.next {w wr w4:World} {H k n:Nat} {c c':List Ins} {v v':Value} {o:Obj} (h:AW w wr H k c v) (h4:w4.ownsRow (H+2) 37 3 v' n (codeCells c')) (hg:(wr.alloc o).grownBy w4 v.ownBlock):AW w (w4.setCell ⟨H+1,3,none⟩ v') H n c' v':=by
 have hne:∀ g,g < H+2→some g≠v.ownBlock:=fun g hg=>own_ne h.own hg
 have hl:=h.lt
 have hb:=h.bel.size
 refine⟨((h.sd.alloc o).grown hg (hne _ (by omega))).far (by simp;omega) _,((h.ns.alloc o).grown hg (hne _ (by omega))).far (by simp) _,?_,?_,?_,h.lt⟩
 ·exact((h.m.alloc o).grown hg (hne _ (by omega))).set 3 v'
 ·refine h4.kept (grown_setC w4 (H+1) 3 v') ?_
  rcases h4.2 with ⟨rfl,_⟩ | ⟨g,_,_,rfl,hge,_⟩
  ·exact .inl rfl
  ·refine .inr ?_
   simp[Value.ownBlock]
   omega
 ·refine((h.bel.alloc (by omega) o).grown hg (by simp;omega) fun k hk=>?_).setCell (by simp;omega) _
  have:=(h.own.lt k hk).1
  omega
set_option maxHeartbeats 4000000 in
theorem awakeB (w:World) (ht:Tabs w):Calls Tryd.prog 6 #[] w fun e w'=>e=.returned (.bool true)∧Below w.heap.size w w':=by
 have HT:=lh ht
 obtain⟨i9,hi9,hi0,hi1,hi2⟩:=info_parts i_ins
 have HI:=lh (And.intro hi9 (And.intro hi0 (And.intro hi1 hi2)))
 clear hi9 hi0 hi1 hi2 ht
 have hsd0:=Bk.new w 37 #[.int .i64 21,.int .i64 1,.int .i64 2]
 go_enter Tryd.func6,Tryd.ntmps6
 go_wp2_with fail
 refine(Effect_any 21 1 2 _).mono ?_
 rintro e w1 ⟨rfl,hb1⟩
 have hp:popsI 21 1 2=3:=by decide +kernel
 have hu:pushesI 21 1 2=0:=by decide +kernel
 rw[hp,hu]
 have hsd:=hsd0.below hb1 (by simp)
 have hbel1:=below_box hb1
 have hz:w.heap.size < w1.heap.size:=by have:=hb1.size;simp at this;omega
 have HA:Hid (AW w ((w1.alloc (.cells #[.string ⟨#[102]⟩,.string ⟨#[103,111]⟩] 9)).alloc (.cells #[.string ⟨#[109]⟩,.int .i64 1,.int .i64 2,.slice none 0 0,.slice (some ⟨w1.heap.size,0,none⟩) 2 2] 43)) w1.heap.size 0 (aCode 0) (.slice none 0 0)):=lh
  ⟨(hsd.alloc _).alloc _,(Bk.new _ _ _).alloc _,by have:=Bk.new (w1.alloc (.cells #[.string ⟨#[102]⟩,.string ⟨#[103,111]⟩] 9)) 43 #[.string ⟨#[109]⟩,.int .i64 1,.int .i64 2,.slice none 0 0,.slice (some ⟨w1.heap.size,0,none⟩) 2 2];simpa using this,World.ownsRow_nil _ _ _ _,(hbel1.alloc (by omega) _).alloc (by simp;omega) _,hz⟩
 clear hsd0 hsd hbel1 hb1 hp hu
 go_wp2_with fail
 go_loopg [14] (7) (fun q i wr=>∃ k v,i=.int .i64 (k:Nat)∧k+q=7∧AW w wr w1.heap.size k (aCode k) v)
 case atStart=>exact⟨0,_,rfl,rfl,HA.out⟩
 case round =>
  obtain⟨k,v,rfl,hkq,hA⟩:=hrel
  cases gk with
  | succ q =>
   have hk7:k < 7:=by omega
   have c3:wr.cell? ⟨w1.heap.size+1,3,none⟩=some v:=hA.m.cell 3
   have HA:=lh hA
   have hzr:w1.heap.size+1 < wr.heap.size:=hA.m.lt
   clear hA
   go_wp2_with (first | (at_builtin;refine wpList_append_own _ rfl (.tmp 17) (.tmp 19) 41 rfl (w1.heap.size+2) 37 i9 (.agg #[.int .i64 0,.int .i64 0,.int .i64 0]) 3 24 Tryd.underlying41 HI.out.1 HI.out.2.1 HI.out.2.2.1 HI.out.2.2.2 rfl (by decide) _ _ _ rfl (HA.out.own.alloc _) ⟨wr.heap.size,0,none⟩ 1 1 [.int .i64 1,.int .i64 0,.int .i64 0] rfl rfl (cell_three_new _ _ _ _ _) (by simp[Value.oneCell']) (by unfold maxLen;omega) (by omega) (by simp;omega) ?_;intro v' w4 hown4 hg4 _;rw[aCode_succ] at hown4;have HN:=lh (HA.out.next hown4 hg4);have f3:w4.frozen? ⟨w1.heap.size+1,3,none⟩=false:=(((HA.out.m.alloc _).grown hg4 (own_ne HA.out.own (by omega))).free 3);have c3':w4.cell? ⟨w1.heap.size+1,3,none⟩=some v:=(((HA.out.m.alloc _).grown hg4 (own_ne HA.out.own (by omega))).cell 3);obtain⟨g,cp,rfl,_,_⟩:=hown4.form (by omega);clear hown4 hg4))
   go_roundg q
   case measure=>omega
   case rel=>exact⟨k+1,_,by go_num,by omega,HN.out⟩
  | zero =>
   obtain rfl:k=7:=hkq
   have c0:wr.cell? ⟨w1.heap.size+1,0,none⟩=some (.string ⟨#[109]⟩):=hA.m.cell 0
   have c1:wr.cell? ⟨w1.heap.size+1,1,none⟩=some (.int .i64 1):=hA.m.cell 1
   have c2:wr.cell? ⟨w1.heap.size+1,2,none⟩=some (.int .i64 2):=hA.m.cell 2
   have c3:wr.cell? ⟨w1.heap.size+1,3,none⟩=some v:=hA.m.cell 3
   have c4:wr.cell? ⟨w1.heap.size+1,4,none⟩=some (.slice (some ⟨w1.heap.size,0,none⟩) 2 2):=hA.m.cell 4
   have s0:wr.cell? ⟨w.heap.size,0,none⟩=some (.int .i64 21):=hA.sd.cell 0
   have s1:wr.cell? ⟨w.heap.size,1,none⟩=some (.int .i64 1):=hA.sd.cell 1
   have s2:wr.cell? ⟨w.heap.size,2,none⟩=some (.int .i64 2):=hA.sd.cell 2
   have HA:=lh hA
   have hzr:w1.heap.size+1 < wr.heap.size:=hA.m.lt
   clear hA
   go_wp2_with (first | (at_builtin;refine wpList_append_own _ rfl (.tmp 24) (.tmp 26) 41 rfl (w1.heap.size+2) 37 i9 (.agg #[.int .i64 0,.int .i64 0,.int .i64 0]) 3 24 Tryd.underlying41 HI.out.1 HI.out.2.1 HI.out.2.2.1 HI.out.2.2.2 rfl (by decide) _ _ _ rfl (HA.out.own.alloc _) ⟨wr.heap.size,0,none⟩ 1 1 [.int .i64 21,.int .i64 1,.int .i64 2] rfl rfl (cell_three_new _ _ _ _ _) (by simp[Value.oneCell']) (by unfold maxLen;omega) (by omega) (by simp;omega) ?_;intro v' w4 hown4 hg4 _;rw[aAll_cells] at hown4;have HN:=lh (HA.out.next hown4 hg4);have f3:w4.frozen? ⟨w1.heap.size+1,3,none⟩=false:=(((HA.out.m.alloc _).grown hg4 (own_ne HA.out.own (by omega))).free 3);have c3':w4.cell? ⟨w1.heap.size+1,3,none⟩=some v:=(((HA.out.m.alloc _).grown hg4 (own_ne HA.out.own (by omega))).cell 3);obtain⟨g,cp,rfl,hge,_⟩:=hown4.form (by omega);obtain⟨g',cp',hgg,hcp,_,hsl⟩:=own_sls HN.out.own (by omega);cases hgg;have d0:=HN.out.m.cell 0;have d1:=HN.out.m.cell 1;have d2:=HN.out.m.cell 2;have d3:=HN.out.m.cell 3;have d4:=HN.out.m.cell 4;simp only[List.getElem?_toArray,List.getElem?_cons_zero,List.getElem?_cons_succ] at d0 d1 d2 d3 d4;have HSL:=lh hsl;clear hown4 hg4 hsl c0 c1 c2 c3 c4 s0 s1 s2))
   have hlt:g < (w4.setCell ⟨w1.heap.size+1,3,none⟩ (.slice (some ⟨g,0,none⟩) (7+1) cp)).heap.size:=by
    obtain⟨_,_,hA',h,_⟩:=HSL.out.get (k:=0) (by omega)
    cases hA'
    exact h
   have hbl:=HN.out.bel.size
   have hwf:∀ x∈aAll,(Lit.int .i64 x.1).wf=true∧(Lit.int .i64 x.2.1).wf=true∧(Lit.int .i64 x.2.2).wf=true:=by
    intro x hx
    have hall:(aAll.all fun x=>(Lit.int .i64 x.1).wf && (Lit.int .i64 x.2.1).wf && (Lit.int .i64 x.2.2).wf)=true:=by decide +kernel
    have:=List.all_eq_true.1 hall x hx
    simp only[Bool.and_eq_true] at this
    exact⟨this.1.1,this.1.2,this.2⟩
   have hsn:Sl (w4.setCell ⟨w1.heap.size+1,3,none⟩ (.slice (some ⟨g,0,none⟩) (7+1) cp)) 1 (some ⟨w1.heap.size,0,none⟩) 2 (strs aNames):=by
    refine⟨rfl,.inr ⟨_,0,rfl,HN.out.ns.lt,fun j x hx=>?_⟩⟩
    rw[HN.out.ns.cell]
    simpa [strs,aNames] using hx
   refine(Format_any (nm:=⟨#[109]⟩) (p:=1) (l:=2) aAll aNames rfl (by decide) hcp hwf HSL.out rfl (Nat.le_refl _) hsn (by decide) (by decide) (by decide) (by decide) (by decide) (by decide) (HT.out.below HN.out.bel)).mono ?_
   rintro e w5 ⟨gf,cf,rfl,hcf,hslf,hb5,_⟩
   have hlen9:(fmtL ⟨#[109]⟩ 1 2 aAll aNames aAll.length).length=9:=rfl
   rw[hlen9] at hcf hslf ⊢
   obtain⟨_,of,hAf,hbf,hcellf⟩:=hslf.get (k:=0) (by omega)
   cases hAf
   have e0:w5.cell? ⟨gf,0,none⟩=some (.string ⟨#[109,101,116,104,111,100,32,109,32,49,32,50]⟩):=by
    rw[← a_head]
    have:=hcellf 0 (.string (headB ⟨#[109]⟩ 1 2)) rfl
    simpa using this
   have e8:w5.cell? ⟨gf,8,none⟩=some (.string ⟨#[55,32,115,101,110,100,32,103,111,32,50]⟩):=by
    rw[← a_line]
    have:=hcellf 8 (.string (lineB aNames 7 (21,1,2))) rfl
    simpa using this
   have HB5:=lh (HN.out.bel.trans (hb5.mono hbl))
   have hsd5:=HN.out.sd.below hb5 HN.out.sd.lt
   have s0:w5.cell? ⟨w.heap.size,0,none⟩=some (.int .i64 21):=hsd5.cell 0
   have s1:w5.cell? ⟨w.heap.size,1,none⟩=some (.int .i64 1):=hsd5.cell 1
   have s2:w5.cell? ⟨w.heap.size,2,none⟩=some (.int .i64 2):=hsd5.cell 2
   have hz5:w.heap.size < w5.heap.size:=hsd5.lt
   have h0c:0 < cf:=by omega
   have h8c:8 < cf:=by omega
   have v1:validB 16 11 0=false:=by decide +kernel
   have v2:validB 21 1 2=true:=by decide +kernel
   have HV:=lh (And.intro v1 v2)
   clear hlt hbl hwf hsn hlen9 hslf hcellf hb5 hsd5 v1 v2 hcf d0 d1 d2 d3 d4 hcp
   go_wp2_with fail
   refine(Valid_no HV.out.1 _).mono ?_
   rintro e w6 ⟨rfl,hb6⟩
   have s0':=((bcell hb6).1 w.heap.size 0 hz5).trans s0
   have s1':=((bcell hb6).1 w.heap.size 1 hz5).trans s1
   have s2':=((bcell hb6).1 w.heap.size 2 hz5).trans s2
   have HB6:=lh (HB5.out.trans (hb6.mono (Nat.le_of_lt hz5)))
   clear hb6 s0 s1 s2 e0 e8
   go_wp2_with fail
   refine(Valid_yes' HV.out.2 _).mono ?_
   rintro e w7 ⟨rfl,hb7⟩
   go_wp2
   go_ret
   exact⟨rfl,HB6.out.trans (hb7.mono HB6.out.size)⟩
end
section
open Go.RowKit
attribute [local go_sem] Oper.semAt_some
section
variable {w:World} {l:List Int} {A:Option Addr} {c:Nat}
set_option maxHeartbeats 4000000 in
theorem LDec_any (hs:Sl w 1 A l.length (byts l)) (hA:∀ x,A=some x→x.spot=none) (h8:B8 l) (ht:Tabs w):Calls Tryd.prog 4 #[.slice A l.length c] w (YesP w true):=by
 have HS:=lh (And.intro hs (And.intro hA h8))
 have HT:=lh ht
 clear hs hA h8 ht
 go_enter Tryd.func4,Tryd.ntmps4
 by_cases h4:400 < l.length
 ·have d0:decide ((400:Int) < (l.length:Int))=true:=decide_eq_true (by omega)
  clear h4
  go_wp2_with fail
  refine(awakeB _ HT.out).mono ?_
  rintro e w1 ⟨rfl,hb1⟩
  have HB1:=lh hb1
  clear hb1
  go_wp2_with fail
  refine(awakeB _ (HT.out.below HB1.out)).mono ?_
  rintro e w2 ⟨rfl,hb2⟩
  have HB2:=lh (HB1.out.trans (hb2.mono HB1.out.size))
  clear hb2
  go_wp2_with fail
  go_ret
  exact⟨rfl,HB2.out⟩
 ·have d0:decide ((400:Int) < (l.length:Int))=false:=decide_eq_false (by omega)
  have H4:=lh h4
  clear h4
  go_wp2_with fail
  refine(awakeB _ HT.out).mono ?_
  rintro e w1 ⟨rfl,hb1⟩
  have HB1:=lh hb1
  have HT1:=lh (HT.out.below hb1)
  clear hb1
  go_wp2_with fail
  refine(Decode_any (c:=c) (HS.out.1.below HB1.out) HS.out.2.2 (by have:=H4.out;omega)).mono ?_
  rintro e w6 ⟨hb6,h6⟩
  have HB6:=lh (HB1.out.trans (hb6.mono HB1.out.size))
  have HB7:Hid (∀ u:Value,Below w.heap.size w (w6.alloc (.cells #[u] 24))):=lh fun u=>HB6.out.alloc HB6.out.size _
  clear hb6
  rcases h6 with ⟨hne,rfl⟩ | ⟨hz,A6,c6,xs,rfl,ho6,he6⟩
  ·obtain⟨er,her⟩:∃ er,er=(if (decCode ⟨l,0⟩).2.e=0∧(decCode ⟨l,0⟩).2.b≠[] then (11:Int) else (decCode ⟨l,0⟩).2.e):=⟨_,rfl⟩
   rw[← her] at hne ⊢
   have h3:=erCode ⟨l,0⟩ (.inl rfl)
   have hr:er=11 ∨ er=8:=by
    rw[her] at hne ⊢
    split at hne
    ·rename_i h;rw[if_pos h];exact .inl rfl
    ·rename_i h
     rw[if_neg h]
     rcases h3 with h3 | h3 | h3
     ·exact absurd h3 hne
     ·exact .inr h3
     ·exact .inl h3
   have b0:(w6.alloc (.cells #[.slice none 0 0] 24)).cell? ⟨w6.heap.size,0,none⟩=some (.slice none 0 0):=(Bk.new _ _ _).cell 0
   clear her hne h3
   rcases hr with rfl | rfl
   ·go_wp2_with fail
    go_ret
    exact⟨rfl,HB7.out _⟩
   ·go_wp2_with fail
    go_ret
    exact⟨rfl,HB7.out _⟩
  ·have hd0:(decCode ⟨l,0⟩).2.e=0∧(decCode ⟨l,0⟩).2.b=[]:=by
    split at hz
    ·exact absurd hz (by decide)
    ·rename_i h
     refine⟨hz,?_⟩
     by_cases hb:(decCode ⟨l,0⟩).2.b=[]
     ·exact hb
     ·exact absurd ⟨hz,hb⟩ h
   obtain⟨ds,hds⟩:∃ ds,ds=(decCode ⟨l,0⟩).1:=⟨_,rfl⟩
   obtain⟨_,hle,hp⟩:=codCode.bw ⟨l,0⟩ HS.out.2.2 hd0.1
   rw[hd0.2,List.append_nil] at hle
   rw[← hds] at hle hp ho6 he6 ⊢
   dsimp only at hle
   have hld:=codeR_of ho6 he6 hp.okP
   clear hz hd0 hds
   obtain⟨w7,h7⟩:∃ w7,w7=w6.alloc (.cells #[.slice A6 ds.length c6] 24):=⟨_,rfl⟩
   obtain⟨gd,hgd⟩:∃ gd,gd=w6.heap.size:=⟨_,rfl⟩
   have HD:Hid (CodeR w7 ds A6 ds.length c6):=lh (by rw[h7];exact hld.below ((Below.refl _ _).alloc (Nat.le_refl _) _))
   have HB8:Hid (Below w.heap.size w w7):=lh (by rw[h7];exact HB7.out _)
   have b0:w7.cell? ⟨gd,0,none⟩=some (.slice A6 ds.length c6):=by rw[h7,hgd];exact(Bk.new _ _ _).cell 0
   have hlt:gd < w7.heap.size:=by rw[h7,hgd];simp
   have HP:=lh (And.intro hle hp)
   clear ho6 he6 hld hle hp
   go_upto_region 4 with fail
   rw[← h7,← hgd]
   clear h7 hgd
   go_wp2_with fail
   refine(Encode_any HD.out (by rw[← HP.out.1];have:=H4.out;omega)).mono ?_
   rintro e w8 ⟨v8,rfl,ho8,hb8⟩
   obtain⟨A8,c8,rfl,_⟩:=own_shape ho8
   have HO8:=lh ho8
   have HB9:=lh (HB8.out.trans (hb8.mono HB8.out.size))
   have b1:=((bcell hb8).1 gd 0 hlt).trans b0
   have HD9:=lh (HD.out.below hb8)
   clear ho8 hb8 b0 hlt
   go_wp2_with fail
   have cS:=RSame_any (c:=c8) (d:=c) (own_sl HO8.out) (own_spot HO8.out) (HS.out.1.below HB9.out) HS.out.2.1 (by rw[← HP.out.1];exact HS.out.2.2) HS.out.2.2
   rw[decide_eq_true HP.out.1.symm] at cS
   refine cS.mono ?_
   rintro e w5 ⟨rfl,rfl⟩
   clear cS
   go_wp2_with fail
   refine(Within_any HD9.out (x:=true) ⟨fun _=>HP.out.2.within,fun _=>rfl⟩).mono ?_
   rintro e w10 ⟨rfl,hb10⟩
   have HB11:=lh (HB9.out.trans (hb10.mono HB9.out.size))
   clear b1 hb10
   go_wp2_with fail
   go_ret
   exact⟨rfl,HB11.out⟩
end
end
end Go.Proofs.YtmbnlccafcfbeaaDoor
