/- Parts of the proof: RMark. -/
import Derived.Deep.CutBlock
import Derived.Deep.CutRange
import Derived.Test.YtaijmgkjbbiboaaGreatPcA
import Derived.Test.YtaijmgkjbbiboaaGreatPc11
import Derived.Test.YtaijmgkjbbiboaaGreatPc2
set_option linter.unusedVariables false
set_option linter.unusedSimpArgs false
set_option linter.unusedSectionVars false
set_option maxRecDepth 100000
namespace Go.Proofs.YtaijmgkjbbiboaaGreat
section
open Go.RowKit Go.Sort
theorem i_int:(Tryz.prog.info? 3).map (fun i=>(i.zero,i.size,i.bytes))=some (some (.int .i64 0),1,8):=by kernel_rfl
theorem ints_one (l:List Int):∀ u∈ints l,u.oneCell'=true:=by
 intro u hu
 obtain⟨x,_,rfl⟩:=List.mem_map.1 hu
 rfl
theorem ints_get {l:List Int} {i:Nat} {x:Int} (h:l[i]?=some x):(ints l)[i]?=some (.int .i64 x):=by simp[ints,h]
/-- a list of numbers lies in a slice -/
structure IS (w:World) (l:List Int) (A:Option Addr) (c:Nat):Prop where
 sl:Sl w 1 A l.length (ints l)
 cap:l.length≤c
theorem IS.below {w w':World} {l:List Int} {A:Option Addr} {c:Nat} (h:IS w l A c) (hb:Below w.heap.size w w'):IS w' l A c:=⟨h.sl.below hb,h.cap⟩
theorem boxT (w:World) (v:Value) (t:TypeId):Below w.heap.size w (w.alloc (.cells #[v] t)):=(Below.refl _ _).alloc (Nat.le_refl _) _
section
variable {w:World} {cs:List Int} {A:Option Addr} {c:Nat}
set_option maxHeartbeats 1000000 in
theorem RHas_any (h:IS w cs A c) (hl:cs.length≤1000000) (hc:c≤maxLen) (a:Int):Calls Tryz.prog 75 #[.agg #[.slice A cs.length c],.int .i64 a] w fun e w'=>e=.returned (.bool (cardIn cs a))∧Below w.heap.size w w':=by
 have HB:=lh (boxT w (.slice A cs.length c) 37)
 have HQ:=lh (Bk.new w 37 #[.slice A cs.length c])
 have cO:=fun w=>ROld_any a w
 have hle:=h.cap
 have HS:=lh h.sl
 unfold maxLen at hc
 clear h
 cases ho:oldB a with
 | false =>
  have hk:=lh (show cardIn cs a=false by unfold cardIn;rw[ho];rfl)
  simp only[ho] at cO
  clear ho
  go_enter Tryz.func75,Tryz.ntmps75
  go_wp2_with fail
  go_loop [5] (fun i=>∃ k:Nat,k≤cs.length∧i=.int .i64 (k:Int)) (fun i=>cs.length - (intOf i).toNat)
  case atStart=>exact⟨0,by omega,rfl⟩
  case round =>
   obtain⟨k,hk1,rfl⟩:=hrel
   by_cases hlt:k < cs.length
   ·go_wp2_with fail
    refine(cO _).mono ?_
    rintro e w1 ⟨rfl,rfl⟩
    go_wp2_with fail
    go_round
    case rel=>exact⟨k+1,by omega,by go_num⟩
    case measure=>simp[intOf];omega
   ·go_wp2_with fail
    go_ret
    exact⟨ret_bool hk.out.symm,HB.out⟩
 | true =>
  have hk:=lh (show cardIn cs a=cs.contains (a / 16) by unfold cardIn;rw[ho];rfl)
  obtain⟨a0,a1⟩:=(oldB_iff a).1 ho
  simp only[ho] at cO
  clear ho
  go_enter Tryz.func75,Tryz.ntmps75
  go_wp2_with fail
  go_loop [5] (fun i=>∃ k:Nat,k≤cs.length∧i=.int .i64 (k:Int)∧(cs.take k).contains (a / 16)=false) (fun i=>cs.length - (intOf i).toNat)
  case atStart=>exact⟨0,by omega,rfl,by simp⟩
  case round =>
   obtain⟨k,hk1,rfl,hct⟩:=hrel
   have HCT:=lh hct
   clear hct
   by_cases hlt:k < cs.length
   ·obtain⟨x,hx⟩:∃ x,cs[k]?=some x:=⟨_,List.getElem?_eq_getElem hlt⟩
    have HX:=lh hx
    obtain⟨b,o,rfl,hbl,hcc⟩:=HS.out.get hlt
    have cx:w.cell? ⟨b,o+k,none⟩=some (.int .i64 x):=hcc k _ (ints_get hx)
    have hne:b≠w.heap.size:=by omega
    have htk:Hid (cs.take (k+1)=cs.take k++[x]):=lh (by rw[List.take_add_one,hx];rfl)
    have hkc:k < c:=by omega
    clear hx hcc
    by_cases hxe:x=a / 16
    ·have hE:=lh hxe
     have hxe':(x == a / 16)=true:=by simp[hxe]
     clear hxe
     go_wp2_with fail
     refine(cO _).mono ?_
     rintro e w1 ⟨rfl,rfl⟩
     go_wp2_with fail
     go_ret
     refine⟨ret_bool ?_,HB.out⟩
     rw[hk.out]
     have:=List.mem_of_getElem? HX.out
     rw[hE.out] at this
     simpa using this
    ·have hE:=lh hxe
     have hxe':(x == a / 16)=false:=by simp[hxe]
     clear hxe
     go_wp2_with fail
     refine(cO _).mono ?_
     rintro e w1 ⟨rfl,rfl⟩
     go_wp2_with fail
     go_round
     case rel =>
      refine⟨k+1,by omega,by go_num,?_⟩
      rw[htk.out,List.contains_eq_any_beq,List.any_append,← List.contains_eq_any_beq,HCT.out]
      simp
      exact fun e=>hE.out e.symm
     case measure=>simp[intOf];omega
   ·go_wp2_with fail
    go_ret
    refine⟨ret_bool ?_,HB.out⟩
    rw[hk.out,← HCT.out,List.take_of_length_le (by omega)]
end
end
section
open Go.RowKit Go.Sort
def RMkP (w:World) (A0:Option Addr) (r:Int × List Int) (e:Ending) (w':World):Prop:=∃ A c,e=.returned (.tuple #[.agg #[.slice A r.2.length c],.int .i64 r.1])∧IS w' r.2 A c∧c≤maxLen∧(∀ b o,A=some ⟨b,o,none⟩→A=A0 ∨ w.heap.size≤b)∧Below w.heap.size w w'
theorem cardIns_split (q:Int):∀ (cs:List Int) (k:Nat),(∀ j x,j < k→cs[j]?=some x→x < q)→(∀ x,cs[k]?=some x→q≤x)→k≤cs.length→cardIns q cs=cs.take k++q::cs.drop k
 | [],0,_,_,_=>rfl
 | [],k+1,_,_,h=>by simp at h
 | x::l,0,_,h2,_=>by
  have:=h2 x rfl
  unfold cardIns
  rw[if_neg (by omega)]
  rfl
 | x::l,k+1,h1,h2,h3=>by
  have:=h1 0 x (by omega) rfl
  unfold cardIns
  rw[if_pos this,cardIns_split q l k (fun j y hj hy=>h1 (j+1) y (by omega) (by simpa using hy)) (fun y hy=>h2 y (by simpa using hy)) (by simpa using h3)]
  rfl
theorem Sl.take {w:World} {A:Option Addr} {l:List Int} (h:Sl w 1 A l.length (ints l)) {k:Nat} (hk:k≤l.length):Sl w 1 A k (ints (l.take k)):=by
 refine⟨by simp[ints,hk],?_⟩
 rcases h.2 with h0 | ⟨b,o,e,hb,hc⟩
 ·exact .inl (by omega)
 ·refine .inr ⟨b,o,e,hb,fun j x hx=>hc j x ?_⟩
  simp only[ints,List.map_take] at hx ⊢
  exact(List.getElem?_take_of_lt (by have:=(List.getElem?_eq_some_iff.1 hx).1;simp at this;omega)).symm.trans hx
theorem Sl.drop {w:World} {b o:Nat} {l:List Int} (h:Sl w 1 (some ⟨b,o,none⟩) l.length (ints l)) {k:Nat} (hk:k≤l.length):Sl w 1 (some ⟨b,o+k,none⟩) (l.length - k) (ints (l.drop k)):=by
 refine⟨by simp[ints],?_⟩
 rcases h.2 with h0 | ⟨b',o',e,hb,hc⟩
 ·exact .inl (by omega)
 ·cases e
  refine .inr ⟨b,o+k,rfl,hb,fun j x hx=>?_⟩
  rw[Nat.add_assoc]
  refine hc (k+j) x ?_
  simpa [ints] using hx
def KMR (W:World) (B gb k l:Nat) (q a:Int) (A7:Option Addr) (c7:Nat) (bA oA c:Nat) (xs ys:List Value):Nat→Value→World→Prop
 | 0,v,w=>v=.slice A7 k c7∧w.ownsRow B 3 1 v (k) (xs)
 | 1,v,_=>v=.int .i64 a
 | 2,v,w=>v=.int .i64 q
 | 3,v,w=>∃ g,v=.slice (some ⟨g,0,none⟩) 1 1∧Bk w g 3 #[.int .i64 q]
 | 4,v,w=>w.ownsRow B 3 1 v (k+1) (xs++[.int .i64 q])
 | 5,v,_=>v=.pointer (some ⟨gb,0,none⟩)
 | 6,v,_=>v=.slice (some ⟨bA,oA,none⟩) l c
 | 7,v,_=>v=.int .i64 (k:Int)
 | 8,v,w=>∃ A9 c9,v=.slice A9 (l - k) c9∧Sl W 1 A9 (l - k) ys∧∀ b o,A9=some ⟨b,o,none⟩→b < B
 | 9,v,w=>w.ownsRow B 3 1 v (k+1+(l - k)) (xs++[.int .i64 q]++ys)
 | 10,v,w=>∃ u,v=.agg #[u]∧w.ownsRow B 3 1 u (k+1+(l - k)) (xs++[.int .i64 q]++ys)
 | _,_,_=>False
def KMO :Nat→Value→Option Nat
 | 0,v=>blkOf v
 | 3,v=>blkOf v
 | 4,v=>blkOf v
 | 9,v=>blkOf v
 | 10,v=>blkOf v
 | _,_=>none
def KMds:Nat→List Nat
 | 2=>[1]
 | 3=>[2]
 | 4=>[0,3]
 | 6=>[5]
 | 8=>[6,7]
 | 9=>[4,8]
 | 10=>[9]
 | _=>[]
def KMeat:Nat→List Nat
 | 4=>[0]
 | 9=>[4]
 | 10=>[9]
 | _=>[]
theorem KMR_loc {W:World} {B gb k l:Nat} {q a:Int} {A7:Option Addr} {c7:Nat} {bA oA c:Nat} {xs ys:List Value} (i:Nat) (v:Value) (w w':World) (hi:i < 11) (h:KMR W B gb k l q a A7 c7 bA oA c xs ys i v w) (hw:Below B W w) (hw':Below B W w') (hk:∀ k,KMO  i v=some k→w'.heap[k]?=w.heap[k]?):KMR W B gb k l q a A7 c7 bA oA c xs ys i v w':=by
 rcases (show i=0 ∨ i=1 ∨ i=2 ∨ i=3 ∨ i=4 ∨ i=5 ∨ i=6 ∨ i=7 ∨ i=8 ∨ i=9 ∨ i=10 by omega) with rfl | rfl | rfl | rfl | rfl | rfl | rfl | rfl | rfl | rfl | rfl
 ·exact⟨h.1,own_local h.2 fun k' h'=>hk k' ((own_blk h.2).trans h')⟩
 ·exact h
 ·exact h
 ·obtain⟨g,rfl,h2⟩:=h;exact⟨g,rfl,(hk g rfl).trans h2⟩
 ·exact own_local h fun k' h'=>hk k' ((own_blk h).trans h')
 ·exact h
 ·exact h
 ·exact h
 ·exact h
 ·exact own_local h fun k' h'=>hk k' ((own_blk h).trans h')
 ·obtain⟨u,rfl,h1⟩:=h;exact⟨u,rfl,own_local h1 fun k' h'=>hk k' ((own_blkAgg h1).trans h')⟩
section
variable {w:World} {cs:List Int} {A:Option Addr} {c:Nat}
theorem boxT2 (w:World) (v:Value):Below w.heap.size w ((w.alloc (.cells #[v] 37)).alloc (.cells #[.slice none 0 0] 37)):=((Below.refl _ _).alloc (Nat.le_refl _) _).alloc (by simp) _
set_option maxHeartbeats 1000000 in
theorem RMark_no (h:IS w cs A c) (hl:cs.length≤100000) (hc:c≤maxLen) (a:Int) (ho:oldB a=false):Calls Tryz.prog 88 #[.agg #[.slice A cs.length c],.int .i64 a] w (RMkP w A (cardMark cs a)):=by
 have HB:=lh (boxT2 w (.slice A cs.length c))
 have hk:=lh (show cardMark cs a=(2,cs) by unfold cardMark;rw[if_pos ho])
 have cO:=fun w=>ROld_any a w
 have H:=lh h
 have HC:=lh hc
 simp only[ho] at cO
 clear h ho hc
 go_enter Tryz.func88,Tryz.ntmps88
 go_wp2_with fail
 refine(cO _).mono ?_
 rintro e w1 ⟨rfl,rfl⟩
 go_wp2_with fail
 have hbb:Below w.heap.size w ((w.alloc (.cells #[.slice A cs.length c] 37)).alloc (.cells #[.slice A cs.length c] 37)):=((Below.refl _ _).alloc (Nat.le_refl _) _).alloc (by simp) _
 refine bodyPost_ret (v:=.tuple #[.agg #[.slice A cs.length c],.int .i64 2]) (by simp[results,Tryz.results88,go_sem]) rfl ?_
 rw[hk.out]
 exact⟨A,c,rfl,H.out.below hbb,HC.out,fun _ _ _=>.inl rfl,hbb⟩
set_option maxHeartbeats 1000000 in
theorem RMark_has (h:IS w cs A c) (hl:cs.length≤100000) (hc:c≤maxLen) (a:Int) (ho:oldB a=true) (hh:cardIn cs a=true):Calls Tryz.prog 88 #[.agg #[.slice A cs.length c],.int .i64 a] w (RMkP w A (cardMark cs a)):=by
 have HB:=lh (boxT2 w (.slice A cs.length c))
 have hk:=lh (show cardMark cs a=(0,cs) by unfold cardMark;rw[if_neg (by rw[ho];simp),if_pos hh])
 have cO:=fun w=>ROld_any a w
 have cH:=RHas_any (h.below HB.out) (by omega) hc a
 rw[hh] at cH
 have H:=lh h
 have HC:=lh hc
 simp only[ho] at cO
 clear h ho hh hc
 go_enter Tryz.func88,Tryz.ntmps88
 go_wp2_with fail
 refine(cO _).mono ?_
 rintro e w1 ⟨rfl,rfl⟩
 go_wp2_with fail
 refine cH.mono ?_
 rintro e w1 ⟨rfl,hb⟩
 have HB1:=lh (HB.out.trans (hb.mono HB.out.size))
 have k0:w1.cell? ⟨w.heap.size,0,none⟩=some (.slice A cs.length c):=(box2_a hb).cell 0
 have d0:w1.cell? ⟨w.heap.size+1,0,none⟩=some (.slice none 0 0):=(box2_b hb).cell 0
 have f0:w1.frozen? ⟨w.heap.size+1,0,none⟩=false:=(box2_b hb).free 0
 clear hb
 go_wp2_with fail
 have hbb:=HB1.out.setCell (p:=⟨w.heap.size+1,0,none⟩) (by simp) (.slice A cs.length c)
 refine bodyPost_ret (v:=.tuple #[.agg #[.slice A cs.length c],.int .i64 0]) (by simp[results,Tryz.results88,go_sem,d0]) rfl ?_
 rw[hk.out]
 exact⟨A,c,rfl,H.out.below (hbb.mono (Nat.le_refl _)),HC.out,fun _ _ _=>.inl rfl,hbb⟩
set_option maxHeartbeats 4000000 in
theorem RMark_some {bA oA:Nat} (h:IS w cs (some ⟨bA,oA,none⟩) c) (hlp:0 < cs.length) (hl:cs.length≤100000) (hc:c≤maxLen) (a:Int) (ho:oldB a=true) (hh:cardIn cs a=false):Calls Tryz.prog 88 #[.agg #[.slice (some ⟨bA,oA,none⟩) cs.length c],.int .i64 a] w (RMkP w (some ⟨bA,oA,none⟩) (cardMark cs a)):=by
 have HB:=lh (boxT2 w (.slice (some ⟨bA,oA,none⟩) cs.length c))
 have hk:=lh (show cardMark cs a=(0,cardIns (a / 16) cs) by unfold cardMark;rw[if_neg (by rw[ho];simp),if_neg (by rw[hh];simp)])
 have cO:=fun w=>ROld_any a w
 have cH:=RHas_any (h.below HB.out) (by omega) hc a
 rw[hh] at cH
 have hcl:=h.cap
 obtain⟨a0,a1⟩:=(oldB_iff a).1 ho
 have H:=lh h
 obtain⟨i9,hi9,hj0,hj1,hj2⟩:=info_parts i_int
 have HI:=lh (And.intro hi9 (And.intro hj0 (And.intro hj1 hj2)))
 unfold maxLen at hc
 have HDV:Hid (IntKind.i64.wrap (a.tdiv 16)=a / 16):=lh (by rw[Int.tdiv_eq_ediv_of_nonneg a0];exact IntWalk.i64_in _ (by omega))
 simp only[ho] at cO
 clear h ho hh hi9 hj0 hj1 hj2
 go_enter Tryz.func88,Tryz.ntmps88
 go_wp2_with fail
 refine(cO _).mono ?_
 rintro e w1 ⟨rfl,rfl⟩
 go_wp2_with fail
 refine cH.mono ?_
 rintro e w2 ⟨rfl,hb⟩
 have HB2:=lh (HB.out.trans (hb.mono HB.out.size))
 have Q2:=lh (box2_a hb)
 have Z2:=lh (box2_b hb)
 have hgl:w.heap.size < w2.heap.size:=Q2.out.lt
 have hgl2:w.heap.size+1 < w2.heap.size:=Z2.out.lt
 have HS2:=lh (H.out.sl.below HB2.out)
 have c2:w2.cell? ⟨w.heap.size,0,none⟩=some (.slice (some ⟨bA,oA,none⟩) cs.length c):=Q2.out.cell 0
 have HWF:Hid (a / 16=a / 16):=lh rfl
 clear hb
 obtain⟨q,hq⟩:∃ q,q=a / 16:=⟨_,rfl⟩
 have HQ:=lh hq
 clear hq
 go_upto_block 0 with fail
 go_cut [6] from 16 to 32 (fun s6 wx=>∃ k:Nat,k≤cs.length∧s6=.int .i64 (k:Int)∧cardIns (a / 16) cs=cs.take k++(a / 16)::cs.drop k∧wx=w2)
 case first =>
  go_wp2_with fail
  go_loop [6] (fun i=>∃ k:Nat,k≤cs.length∧i=.int .i64 (k:Int)∧∀ j x,j < k→cs[j]?=some x→x < a / 16) (fun i=>cs.length - (intOf i).toNat)
  case atStart=>exact⟨0,by omega,rfl,fun j x hj=>by omega⟩
  case round =>
   obtain⟨k,hk1,rfl,hall⟩:=hrel
   have HALL:=lh hall
   clear hall
   by_cases hlt:k < cs.length
   ·obtain⟨x,hx⟩:∃ x,cs[k]?=some x:=⟨_,List.getElem?_eq_getElem hlt⟩
    have HX:=lh hx
    have cx:w2.cell? ⟨bA,oA+k,none⟩=some (.int .i64 x):=by
     obtain⟨b',o',e',_,hcc⟩:=HS2.out.get hlt
     cases e'
     exact hcc k _ (ints_get hx)
    have hkc:k < c:=by omega
    clear hx
    by_cases hxe:x < a / 16
    ·go_wp2_with fail
     go_round
     case rel =>
      refine⟨k+1,by omega,by go_num,fun j y hj hy=>?_⟩
      rcases Nat.lt_or_ge j k with h1 | h1
      ·exact HALL.out j y h1 hy
      ·obtain rfl:j=k:=by omega
       rw[HX.out] at hy
       cases hy
       exact hxe
     case measure=>simp[intOf];omega
    ·have hxe':a / 16≤x:=by omega
     clear hxe
     go_wp2_with fail
     go_meet
     exact⟨k,by omega,rfl,cardIns_split _ _ _ HALL.out (fun y hy=>by rw[HX.out] at hy;cases hy;exact hxe') (by omega),rfl⟩
   ·go_wp2_with fail
    go_meet
    exact⟨k,by omega,rfl,cardIns_split _ _ _ HALL.out (fun y hy=>by rw[List.getElem?_eq_none (by omega)] at hy;cases hy) (by omega),rfl⟩
 case rest =>
  obtain⟨k,hk1,rfl,hins,rfl⟩:=hcut
  have HINS:=lh hins
  have hkc:k≤c:=by omega
  have hz2':w.heap.size≠wc.heap.size:=by omega
  clear hins
  have hbA:bA < wc.heap.size:=by
   obtain⟨b',o',e',h1,_⟩:=HS2.out.get hlp
   cases e'
   exact h1
  have HTK:=lh ((HS2.out.take hk1).below ((Below.refl wc.heap.size wc).alloc (Nat.le_refl _) (.cells #[] 3)))
  have hkI:(k:Int)≤(c:Int):=by omega
  have hkI2:(k:Int)≤(cs.length:Int):=by omega
  have hlI:(cs.length:Int)≤(c:Int):=by omega
  go_upto_region 9 with (at_builtin;refine wpList_app rfl (.tmp 33) (.tmp 37) 23 rfl Tryz.underlying23 HI.out.1 HI.out.2.1 HI.out.2.2.1 HI.out.2.2.2 rfl (by decide) (v:=.slice (some ⟨wc.heap.size,0,none⟩) 0 0) (n:=0) (xs:=[]) (base:=wc.heap.size) rfl (ownEmpty 1 (Bk.new _ _ _) (Nat.le_refl _)) (A:=some ⟨bA,oA,none⟩) (m:=k) (c:=c) (news:=ints (cs.take k)) rfl HTK.out (ints_one _) (by unfold maxLen;omega) (by omega) (by simp) ?_;intro v8 w8 hown8 hgr8 h48;simp only[Nat.zero_add,List.nil_append] at hown8;obtain⟨A7,c7,rfl,hle7⟩:=own_shape hown8;have OW8:=lh hown8;have HG8:=lh hgr8;have hs8:=hgr8.size;clear hown8 hgr8 h48)
  have hBW:wc.heap.size≤w8.heap.size:=by simp at hs8;omega
  have hb8:Below wc.heap.size wc w8:=((Below.refl wc.heap.size wc).alloc (Nat.le_refl _) _).grown HG8.out (by simp) (fun j hj=>by simp[Value.ownBlock] at hj;omega)
  have HB8:=lh hb8
  have c8:w8.cell? ⟨w.heap.size,0,none⟩=some (.slice (some ⟨bA,oA,none⟩) cs.length c):=(hb8.cell (p:=⟨w.heap.size,0,none⟩) hgl).trans c2
  have SL8:=lh ((HS2.out.below hb8).drop hk1)
  have hIN:∀ (i:Nat) (k':Nat),(if i=0 then blkOf (.slice A7 k c7) else none)=some k'→k' < w8.heap.size∧wc.heap.size≤k':=fun i k' hk'=>by
   split at hk'
   ·have:=OW8.out.lt k' ((own_blk OW8.out).symm.trans hk');exact⟨this.2,this.1⟩
   ·cases hk'
  have hIJ:∀ (i i':Nat) (k':Nat),(if i=0 then blkOf (.slice A7 k c7) else none)=some k'→(if i'=0 then blkOf (.slice A7 k c7) else none)=some k'→i=i':=fun i i' k' h h'=>by
   split at h
   ·split at h'
    ·omega
    ·cases h'
   ·cases h
  clear hb8 c2
  refine wp_region_sepB 11 KMds KMeat (KMR w8 wc.heap.size w.heap.size k cs.length (a / 16) a A7 c7 bA oA c (ints (cs.take k)) (ints (cs.drop k))) (KMO ) (wc.heap.size) (fun i=>if i=0 then blkOf (.slice A7 k c7) else none) (by kernel_rfl) (by kernel_rfl) (by rfl) hBW (fun i k hk=>hIN i k hk) (fun i i' k h h'=>hIJ i i' k h h') (fun i v w1 w2 hi h h1 h2 _ hk=>KMR_loc i v w1 w2 hi h h1 h2 hk) ?_ ?_
  ·intro i hi o ho vs w1 hg
   have hWs:=hg.2.1.size
   have b2:w1.cell? ⟨w.heap.size,0,none⟩=some (.slice (some ⟨bA,oA,none⟩) cs.length c):=(hg.2.1.cell (p:=⟨w.heap.size,0,none⟩) hgl).trans c8
   have HG:=lh hg
   have hgr:=hg.2.2.1
   clear hg c8
   rcases (show i=0 ∨ i=1 ∨ i=2 ∨ i=3 ∨ i=4 ∨ i=5 ∨ i=6 ∨ i=7 ∨ i=8 ∨ i=9 ∨ i=10 by omega) with rfl | rfl | rfl | rfl | rfl | rfl | rfl | rfl | rfl | rfl | rfl <;> cases ho
   ·clear hgr
    change Made _ _ (Sem.run _ (execOp (Act.eval (frm _ _ _ [])) _) _)
    simp only[frm]
    go_simp
    refine made_ok ?_
    exact lays_claimB ⟨rfl,own_local OW8.out fun k hk=>HG.out.1 k ((if_pos rfl).trans ((own_blk OW8.out).trans hk))⟩ rfl fun k hk=>by have:=OW8.out.lt k ((own_blk OW8.out).symm.trans hk);exact⟨this.1,by have:=HG.out.2.1.size;omega⟩
   ·clear hgr
    change Made _ _ (Sem.run _ (execOp (Act.eval (frm _ _ _ [])) _) _)
    simp only[frm]
    go_simp
    exact made_ok (lays_pureB rfl rfl)
   ·have h1:vs 1=_:=(hgr 1 (by simp[KMds])).1
    clear hgr
    change Made _ _ (Sem.run _ (execOp (Act.eval (Act.put (frm _ _ _ []) (some 40) (vs 1))) _) _)
    simp only[frm,h1]
    go_simp
    rw[HDV.out]
    exact made_ok (lays_pureB rfl rfl)
   ·have h2:vs 2=_:=(hgr 2 (by simp[KMds])).1
    clear hgr
    change Made _ _ (Sem.run _ (execOp (Act.eval (Act.put (frm _ _ _ []) (some 41) (vs 2))) _) _)
    simp only[frm,h2]
    go_simp
    refine made_ok ?_
    exact lays_allocB ⟨_,rfl,Bk.new _ _ _⟩ rfl (Nat.le_trans hBW hWs)
   ·obtain⟨h0,hown0⟩:=(hgr 0 (by simp[KMds])).1
    obtain⟨g3,h3,hbk3⟩:=(hgr 3 (by simp[KMds])).1
    clear hgr
    change Made _ _ (Sem.run _ (execOp (Act.eval (Act.put (Act.put (frm _ _ _ []) (some 42) (vs 3)) (some 39) (vs 0))) _) _)
    simp only[frm,h0,h3]
    rw[h0] at hown0
    refine made_append (.tmp 39) (.tmp 42) 23 rfl Tryz.underlying23 HI.out.1 HI.out.2.1 HI.out.2.2.1 HI.out.2.2.2 rfl (by decide) (v:=.slice A7 k c7) (n:=k) (xs:=ints (cs.take k)) rfl hown0 (A:=some ⟨g3,0,none⟩) (m:=1) (c:=1) (news:=[.int .i64 (a / 16)]) rfl ⟨rfl,.inr ⟨g3,0,rfl,hbk3.lt,fun j v hj=>by rw[Nat.zero_add,hbk3.cell];simpa using hj⟩⟩ (by simp[Value.oneCell']) (by unfold maxLen;omega) (by omega) (Nat.le_trans hBW hWs) fun v' w' ho hgr2 h4=>?_
    exact lays_appendB HG.out (Nat.le_trans hBW hWs) (j:=0) (by simp[KMeat]) (by simp[KMds]) hown0 (by rw[h0];rfl) hgr2 ho h4 ho rfl
   ·clear hgr
    change Made _ _ (Sem.run _ (execOp (Act.eval (frm _ _ _ [])) _) _)
    simp only[frm]
    go_simp
    exact made_ok (lays_pureB rfl rfl)
   ·have h5:vs 5=_:=(hgr 5 (by simp[KMds])).1
    clear hgr
    change Made _ _ (Sem.run _ (execOp (Act.eval (Act.put (frm _ _ _ []) (some 44) (vs 5))) _) _)
    simp only[frm,h5]
    go_simp
    exact made_ok (lays_pureB rfl rfl)
   ·clear hgr
    change Made _ _ (Sem.run _ (execOp (Act.eval (frm _ _ _ [])) _) _)
    simp only[frm]
    go_simp
    exact made_ok (lays_pureB rfl rfl)
   ·have h6:vs 6=_:=(hgr 6 (by simp[KMds])).1
    have h7:vs 7=_:=(hgr 7 (by simp[KMds])).1
    clear hgr
    change Made _ _ (Sem.run _ (execOp (Act.eval (Act.put (Act.put (frm _ _ _ []) (some 46) (vs 7)) (some 45) (vs 6))) _) _)
    simp only[frm,h6,h7]
    rcases Nat.lt_or_ge k c with hkk | hkk
    ·have hkkI:(k:Int) < (c:Int):=by omega
     go_simp
     refine made_ok ?_
     exact lays_pureB ⟨some ⟨bA,oA+k,none⟩,c - k,by simp;omega,SL8.out,fun b o e=>by cases e;omega⟩ rfl
    ·obtain rfl:k=c:=by omega
     go_simp
     refine made_ok ?_
     exact lays_pureB ⟨some ⟨bA,oA,none⟩,0,by simp;omega,⟨by simp[ints],.inl (by omega)⟩,fun b o e=>by cases e;omega⟩ rfl
   ·have hown4:=(hgr 4 (by simp[KMds])).1
    obtain⟨A4,c4,h4,_⟩:=own_shape hown4
    obtain⟨A9,c9,h8,hsl8,hA8⟩:=(hgr 8 (by simp[KMds])).1
    clear hgr
    change Made _ _ (Sem.run _ (execOp (Act.eval (Act.put (Act.put (frm _ _ _ []) (some 47) (vs 8)) (some 43) (vs 4))) _) _)
    simp only[frm,h4,h8]
    rw[h4] at hown4
    replace hown4:w1.ownsRow wc.heap.size 3 1 (.slice A4 (k+1) c4) (k+1) (ints (cs.take k)++[.int .i64 (a / 16)]):=hown4
    refine made_append (.tmp 43) (.tmp 47) 23 rfl Tryz.underlying23 HI.out.1 HI.out.2.1 HI.out.2.2.1 HI.out.2.2.2 rfl (by decide) (v:=.slice A4 (k+1) c4) (n:=k+1) (xs:=ints (cs.take k)++[.int .i64 (a / 16)]) rfl hown4 (A:=A9) (m:=cs.length - k) (c:=c9) (news:=ints (cs.drop k)) rfl (hsl8.belowB HG.out.2.1 hA8) (ints_one _) (by unfold maxLen;omega) (by omega) (Nat.le_trans hBW hWs) fun v' w' ho hgr2 h4'=>?_
    exact lays_appendB HG.out (Nat.le_trans hBW hWs) (j:=4) (by simp[KMeat]) (by simp[KMds]) hown4 (by rw[h4];rfl) hgr2 ho h4' ho rfl
   ·have hown9:=(hgr 9 (by simp[KMds])).1
    obtain⟨A9,c9,h9,_⟩:=own_shape hown9
    clear hgr
    change Made _ _ (Sem.run _ (execOp (Act.eval (Act.put (frm _ _ _ []) (some 48) (vs 9))) _) _)
    simp only[frm,h9]
    rw[h9] at hown9
    replace hown9:w1.ownsRow wc.heap.size 3 1 (.slice A9 (k+1+(cs.length - k)) c9) (k+1+(cs.length - k)) (ints (cs.take k)++[.int .i64 (a / 16)]++ints (cs.drop k)):=hown9
    go_simp
    refine made_ok ?_
    exact lays_takeB HG.out (j:=9) (by simp[KMeat]) (by simp[KMds]) ⟨_,rfl,hown9⟩ (by rw[h9];exact(own_blkAgg hown9).trans (own_blk hown9).symm)
  ·intro vs w1 hb hall hap
   obtain⟨⟨u,h10,hown10⟩,q10⟩:=hall 10 (by omega) (by decide)
   change wpList _ _ _ [_,_] (Act.put (Act.put (Act.put (Act.put (Act.put (Act.put (Act.put (Act.put (Act.put (Act.put (Act.put (frm _ _ _ []) (some 49) (vs 10)) (some 48) (vs 9)) (some 47) (vs 8)) (some 46) (vs 7)) (some 45) (vs 6)) (some 44) (vs 5)) (some 43) (vs 4)) (some 42) (vs 3)) (some 41) (vs 2)) (some 40) (vs 1)) (some 39) (vs 0)) _
   simp only[frm,h10]
   have HB9:=lh hb
   have HOW:=lh hown10
   have d0:w1.cell? ⟨w.heap.size+1,0,none⟩=some (.slice none 0 0):=((Z2.out.below HB8.out hgl2).belowB hb hgl2).cell 0
   have f0:w1.frozen? ⟨w.heap.size+1,0,none⟩=false:=((Z2.out.below HB8.out hgl2).belowB hb hgl2).free 0
   obtain⟨A',c',rfl,hle'⟩:=own_shape hown10
   have hne:∀ g,(Value.slice A' (k+1+(cs.length - k)) c').ownBlock=some g→g≠w.heap.size+1:=fun g hg e=>by have:=(HOW.out.lt g hg).1;omega
   have HNE:=lh hne
   clear hall hap q10 hb hown10 hne hIN hIJ
   go_wp2_with fail
   have hlen:(cardIns (a / 16) cs).length=k+1+(cs.length - k):=by rw[HINS.out];simp;omega
   have hbb:=(HB2.out.trans ((HB8.out.trans HB9.out).mono HB2.out.size)).setCell (p:=⟨w.heap.size+1,0,none⟩) (by simp) (.slice A' (k+1+(cs.length - k)) c')
   have hoF:=own_local (w':=w1.setCell ⟨w.heap.size+1,0,none⟩ (.slice A' (k+1+(cs.length - k)) c')) HOW.out fun g hg=>Below.heap_setCell _ _ _ _ (HNE.out g hg)
   refine bodyPost_ret (v:=.tuple #[.agg #[.slice A' (k+1+(cs.length - k)) c'],.int .i64 0]) (by simp[results,Tryz.results88,go_sem,d0]) rfl ?_
   rw[hk.out]
   refine⟨A',c',by simp only[hlen],⟨?_,by simp only[hlen];exact hle'⟩,?_,fun b o e=>?_,hbb⟩
   ·simp only[hlen]
    have:=own_sl hoF
    rw[HINS.out]
    simpa [ints] using this
   ·obtain⟨_,⟨h1,_⟩ | ⟨g,cap,cur,h1,_,_,_,h2,_⟩⟩:=HOW.out
    ·injection h1 with _ h3 _;omega
    ·injection h1 with _ _ h3;rw[h3];exact h2
   ·refine .inr (Nat.le_trans HB2.out.size (HOW.out.lt b ?_).1)
    rw[e];rfl
end
def KNR (W:World) (B gb k l:Nat) (q a:Int) (A7:Option Addr) (c7:Nat) (bA oA c:Nat) (xs ys:List Value):Nat→Value→World→Prop
 | 0,v,w=>v=.slice A7 k c7∧w.ownsRow B 3 1 v (k) (xs)
 | 1,v,_=>v=.int .i64 a
 | 2,v,w=>v=.int .i64 q
 | 3,v,w=>∃ g,v=.slice (some ⟨g,0,none⟩) 1 1∧Bk w g 3 #[.int .i64 q]
 | 4,v,w=>w.ownsRow B 3 1 v (k+1) (xs++[.int .i64 q])
 | 5,v,_=>v=.pointer (some ⟨gb,0,none⟩)
 | 6,v,_=>v=.slice none 0 0
 | 7,v,_=>v=.int .i64 (k:Int)
 | 8,v,w=>∃ A9 c9,v=.slice A9 (l - k) c9∧Sl W 1 A9 (l - k) ys∧∀ b o,A9=some ⟨b,o,none⟩→b < B
 | 9,v,w=>w.ownsRow B 3 1 v (k+1+(l - k)) (xs++[.int .i64 q]++ys)
 | 10,v,w=>∃ u,v=.agg #[u]∧w.ownsRow B 3 1 u (k+1+(l - k)) (xs++[.int .i64 q]++ys)
 | _,_,_=>False
def KNO :Nat→Value→Option Nat
 | 0,v=>blkOf v
 | 3,v=>blkOf v
 | 4,v=>blkOf v
 | 9,v=>blkOf v
 | 10,v=>blkOf v
 | _,_=>none
def KNds:Nat→List Nat
 | 2=>[1]
 | 3=>[2]
 | 4=>[0,3]
 | 6=>[5]
 | 8=>[6,7]
 | 9=>[4,8]
 | 10=>[9]
 | _=>[]
def KNeat:Nat→List Nat
 | 4=>[0]
 | 9=>[4]
 | 10=>[9]
 | _=>[]
theorem KNR_loc {W:World} {B gb k l:Nat} {q a:Int} {A7:Option Addr} {c7:Nat} {bA oA c:Nat} {xs ys:List Value} (i:Nat) (v:Value) (w w':World) (hi:i < 11) (h:KNR W B gb k l q a A7 c7 bA oA c xs ys i v w) (hw:Below B W w) (hw':Below B W w') (hk:∀ k,KNO  i v=some k→w'.heap[k]?=w.heap[k]?):KNR W B gb k l q a A7 c7 bA oA c xs ys i v w':=by
 rcases (show i=0 ∨ i=1 ∨ i=2 ∨ i=3 ∨ i=4 ∨ i=5 ∨ i=6 ∨ i=7 ∨ i=8 ∨ i=9 ∨ i=10 by omega) with rfl | rfl | rfl | rfl | rfl | rfl | rfl | rfl | rfl | rfl | rfl
 ·exact⟨h.1,own_local h.2 fun k' h'=>hk k' ((own_blk h.2).trans h')⟩
 ·exact h
 ·exact h
 ·obtain⟨g,rfl,h2⟩:=h;exact⟨g,rfl,(hk g rfl).trans h2⟩
 ·exact own_local h fun k' h'=>hk k' ((own_blk h).trans h')
 ·exact h
 ·exact h
 ·exact h
 ·exact h
 ·exact own_local h fun k' h'=>hk k' ((own_blk h).trans h')
 ·obtain⟨u,rfl,h1⟩:=h;exact⟨u,rfl,own_local h1 fun k' h'=>hk k' ((own_blkAgg h1).trans h')⟩
section
variable {w:World} {cs:List Int} {A:Option Addr} {c:Nat}
set_option maxHeartbeats 4000000 in
theorem RMark_nil (a:Int) (ho:oldB a=true) (hh:cardIn [] a=false):Calls Tryz.prog 88 #[.agg #[.slice none 0 0],.int .i64 a] w (RMkP w none (cardMark [] a)):=by
 have h:IS w [] none 0:=⟨Sl.nil _ _ _,Nat.le_refl _⟩
 have HB:=lh (boxT2 w (.slice none 0 0))
 have hk:=lh (show cardMark [] a=(0,[a / 16]) by unfold cardMark;rw[if_neg (by rw[ho];simp),if_neg (by rw[hh];simp)];rfl)
 have cO:=fun w=>ROld_any a w
 have cH:=RHas_any (h.below HB.out) (by simp) (by unfold maxLen;omega) a
 rw[hh] at cH
 simp only[List.length_nil] at cH
 obtain⟨a0,a1⟩:=(oldB_iff a).1 ho
 obtain⟨i9,hi9,hj0,hj1,hj2⟩:=info_parts i_int
 have HI:=lh (And.intro hi9 (And.intro hj0 (And.intro hj1 hj2)))
 have HDV:Hid (IntKind.i64.wrap (a.tdiv 16)=a / 16):=lh (by rw[Int.tdiv_eq_ediv_of_nonneg a0];exact IntWalk.i64_in _ (by omega))
 simp only[ho] at cO
 clear h ho hh hi9 hj0 hj1 hj2
 go_enter Tryz.func88,Tryz.ntmps88
 go_wp2_with fail
 refine(cO _).mono ?_
 rintro e w1 ⟨rfl,rfl⟩
 go_wp2_with fail
 refine cH.mono ?_
 rintro e w2 ⟨rfl,hb⟩
 have HB2:=lh (HB.out.trans (hb.mono HB.out.size))
 have Q2:=lh (box2_a hb)
 have Z2:=lh (box2_b hb)
 have hgl:w.heap.size < w2.heap.size:=Q2.out.lt
 have hgl2:w.heap.size+1 < w2.heap.size:=Z2.out.lt
 have hz2':w.heap.size≠w2.heap.size:=by omega
 have c2:w2.cell? ⟨w.heap.size,0,none⟩=some (.slice none 0 0):=Q2.out.cell 0
 clear hb
 go_upto_block 0 with fail
 go_cut [6] from 16 to 32 (fun s6 wx=>s6=.int .i64 0∧wx=w2)
 case first =>
  go_wp2_with fail
  go_loop [6] (fun i=>i=.int .i64 0) (fun i=>0)
  case atStart=>rfl
  case round =>
   obtain rfl:=hrel
   go_wp2_with fail
   go_meet
   exact⟨rfl,rfl⟩
 case rest =>
  obtain⟨rfl,rfl⟩:=hcut
  go_upto_region 9 with (at_builtin;refine wpList_app rfl (.tmp 33) (.tmp 37) 23 rfl Tryz.underlying23 HI.out.1 HI.out.2.1 HI.out.2.2.1 HI.out.2.2.2 rfl (by decide) (v:=.slice (some ⟨wc.heap.size,0,none⟩) 0 0) (n:=0) (xs:=[]) (base:=wc.heap.size) rfl (ownEmpty 1 (Bk.new _ _ _) (Nat.le_refl _)) (A:=none) (m:=0) (c:=0) (news:=ints []) rfl ⟨rfl,.inl rfl⟩ (ints_one _) (by unfold maxLen;omega) (by omega) (by simp) ?_;intro v8 w8 hown8 hgr8 h48;simp only[Nat.zero_add,List.nil_append] at hown8;obtain⟨A7,c7,rfl,hle7⟩:=own_shape hown8;have OW8:=lh hown8;have HG8:=lh hgr8;have hs8:=hgr8.size;clear hown8 hgr8 h48)
  have hBW:wc.heap.size≤w8.heap.size:=by simp at hs8;omega
  have hb8:Below wc.heap.size wc w8:=((Below.refl wc.heap.size wc).alloc (Nat.le_refl _) _).grown HG8.out (by simp) (fun j hj=>by simp[Value.ownBlock] at hj;omega)
  have HB8:=lh hb8
  have c8:w8.cell? ⟨w.heap.size,0,none⟩=some (.slice none 0 0):=(hb8.cell (p:=⟨w.heap.size,0,none⟩) hgl).trans c2
  have hIN:∀ (i:Nat) (k':Nat),(if i=0 then blkOf (.slice A7 0 c7) else none)=some k'→k' < w8.heap.size∧wc.heap.size≤k':=fun i k' hk'=>by
   split at hk'
   ·have:=OW8.out.lt k' ((own_blk OW8.out).symm.trans hk');exact⟨this.2,this.1⟩
   ·cases hk'
  have hIJ:∀ (i i':Nat) (k':Nat),(if i=0 then blkOf (.slice A7 0 c7) else none)=some k'→(if i'=0 then blkOf (.slice A7 0 c7) else none)=some k'→i=i':=fun i i' k' h h'=>by
   split at h
   ·split at h'
    ·omega
    ·cases h'
   ·cases h
  clear hb8 c2
  refine wp_region_sepB 11 KNds KNeat (KNR w8 wc.heap.size w.heap.size 0 0 (a / 16) a A7 c7 0 0 0 (ints []) (ints [])) (KNO ) (wc.heap.size) (fun i=>if i=0 then blkOf (.slice A7 0 c7) else none) (by kernel_rfl) (by kernel_rfl) (by rfl) hBW (fun i k hk=>hIN i k hk) (fun i i' k h h'=>hIJ i i' k h h') (fun i v w1 w2 hi h h1 h2 _ hk=>KNR_loc i v w1 w2 hi h h1 h2 hk) ?_ ?_
  ·intro i hi o ho vs w1 hg
   have hWs:=hg.2.1.size
   have b2:w1.cell? ⟨w.heap.size,0,none⟩=some (.slice none 0 0):=(hg.2.1.cell (p:=⟨w.heap.size,0,none⟩) hgl).trans c8
   have HG:=lh hg
   have hgr:=hg.2.2.1
   clear hg c8
   rcases (show i=0 ∨ i=1 ∨ i=2 ∨ i=3 ∨ i=4 ∨ i=5 ∨ i=6 ∨ i=7 ∨ i=8 ∨ i=9 ∨ i=10 by omega) with rfl | rfl | rfl | rfl | rfl | rfl | rfl | rfl | rfl | rfl | rfl <;> cases ho
   ·clear hgr
    change Made _ _ (Sem.run _ (execOp (Act.eval (frm _ _ _ [])) _) _)
    simp only[frm]
    go_simp
    refine made_ok ?_
    exact lays_claimB ⟨rfl,own_local OW8.out fun k hk=>HG.out.1 k ((if_pos rfl).trans ((own_blk OW8.out).trans hk))⟩ rfl fun k hk=>by have:=OW8.out.lt k ((own_blk OW8.out).symm.trans hk);exact⟨this.1,by have:=HG.out.2.1.size;omega⟩
   ·clear hgr
    change Made _ _ (Sem.run _ (execOp (Act.eval (frm _ _ _ [])) _) _)
    simp only[frm]
    go_simp
    exact made_ok (lays_pureB rfl rfl)
   ·have h1:vs 1=_:=(hgr 1 (by simp[KNds])).1
    clear hgr
    change Made _ _ (Sem.run _ (execOp (Act.eval (Act.put (frm _ _ _ []) (some 40) (vs 1))) _) _)
    simp only[frm,h1]
    go_simp
    rw[HDV.out]
    exact made_ok (lays_pureB rfl rfl)
   ·have h2:vs 2=_:=(hgr 2 (by simp[KNds])).1
    clear hgr
    change Made _ _ (Sem.run _ (execOp (Act.eval (Act.put (frm _ _ _ []) (some 41) (vs 2))) _) _)
    simp only[frm,h2]
    go_simp
    refine made_ok ?_
    exact lays_allocB ⟨_,rfl,Bk.new _ _ _⟩ rfl (Nat.le_trans hBW hWs)
   ·obtain⟨h0,hown0⟩:=(hgr 0 (by simp[KNds])).1
    obtain⟨g3,h3,hbk3⟩:=(hgr 3 (by simp[KNds])).1
    clear hgr
    change Made _ _ (Sem.run _ (execOp (Act.eval (Act.put (Act.put (frm _ _ _ []) (some 42) (vs 3)) (some 39) (vs 0))) _) _)
    simp only[frm,h0,h3]
    rw[h0] at hown0
    refine made_append (.tmp 39) (.tmp 42) 23 rfl Tryz.underlying23 HI.out.1 HI.out.2.1 HI.out.2.2.1 HI.out.2.2.2 rfl (by decide) (v:=.slice A7 0 c7) (n:=0) (xs:=ints []) rfl hown0 (A:=some ⟨g3,0,none⟩) (m:=1) (c:=1) (news:=[.int .i64 (a / 16)]) rfl ⟨rfl,.inr ⟨g3,0,rfl,hbk3.lt,fun j v hj=>by rw[Nat.zero_add,hbk3.cell];simpa using hj⟩⟩ (by simp[Value.oneCell']) (by unfold maxLen;omega) (by omega) (Nat.le_trans hBW hWs) fun v' w' ho hgr2 h4=>?_
    exact lays_appendB HG.out (Nat.le_trans hBW hWs) (j:=0) (by simp[KNeat]) (by simp[KNds]) hown0 (by rw[h0];rfl) hgr2 ho h4 ho rfl
   ·clear hgr
    change Made _ _ (Sem.run _ (execOp (Act.eval (frm _ _ _ [])) _) _)
    simp only[frm]
    go_simp
    exact made_ok (lays_pureB rfl rfl)
   ·have h5:vs 5=_:=(hgr 5 (by simp[KNds])).1
    clear hgr
    change Made _ _ (Sem.run _ (execOp (Act.eval (Act.put (frm _ _ _ []) (some 44) (vs 5))) _) _)
    simp only[frm,h5]
    go_simp
    exact made_ok (lays_pureB rfl rfl)
   ·clear hgr
    change Made _ _ (Sem.run _ (execOp (Act.eval (frm _ _ _ [])) _) _)
    simp only[frm]
    go_simp
    exact made_ok (lays_pureB rfl rfl)
   ·have h6:vs 6=_:=(hgr 6 (by simp[KNds])).1
    have h7:vs 7=_:=(hgr 7 (by simp[KNds])).1
    clear hgr
    change Made _ _ (Sem.run _ (execOp (Act.eval (Act.put (Act.put (frm _ _ _ []) (some 46) (vs 7)) (some 45) (vs 6))) _) _)
    simp only[frm,h6,h7]
    go_simp
    refine made_ok ?_
    exact lays_pureB ⟨none,0,by simp,⟨by simp[ints],.inl (by omega)⟩,fun b o e=>by cases e⟩ rfl
   ·have hown4:=(hgr 4 (by simp[KNds])).1
    obtain⟨A4,c4,h4,_⟩:=own_shape hown4
    obtain⟨A9,c9,h8,hsl8,hA8⟩:=(hgr 8 (by simp[KNds])).1
    clear hgr
    change Made _ _ (Sem.run _ (execOp (Act.eval (Act.put (Act.put (frm _ _ _ []) (some 47) (vs 8)) (some 43) (vs 4))) _) _)
    simp only[frm,h4,h8]
    rw[h4] at hown4
    replace hown4:w1.ownsRow wc.heap.size 3 1 (.slice A4 (0+1) c4) (0+1) (ints []++[.int .i64 (a / 16)]):=hown4
    refine made_append (.tmp 43) (.tmp 47) 23 rfl Tryz.underlying23 HI.out.1 HI.out.2.1 HI.out.2.2.1 HI.out.2.2.2 rfl (by decide) (v:=.slice A4 (0+1) c4) (n:=0+1) (xs:=ints []++[.int .i64 (a / 16)]) rfl hown4 (A:=A9) (m:=0 - 0) (c:=c9) (news:=ints []) rfl (hsl8.belowB HG.out.2.1 hA8) (ints_one _) (by unfold maxLen;omega) (by omega) (Nat.le_trans hBW hWs) fun v' w' ho hgr2 h4'=>?_
    exact lays_appendB HG.out (Nat.le_trans hBW hWs) (j:=4) (by simp[KNeat]) (by simp[KNds]) hown4 (by rw[h4];rfl) hgr2 ho h4' ho rfl
   ·have hown9:=(hgr 9 (by simp[KNds])).1
    obtain⟨A9,c9,h9,_⟩:=own_shape hown9
    clear hgr
    change Made _ _ (Sem.run _ (execOp (Act.eval (Act.put (frm _ _ _ []) (some 48) (vs 9))) _) _)
    simp only[frm,h9]
    rw[h9] at hown9
    replace hown9:w1.ownsRow wc.heap.size 3 1 (.slice A9 (0+1+(0 - 0)) c9) (0+1+(0 - 0)) (ints []++[.int .i64 (a / 16)]++ints []):=hown9
    go_simp
    refine made_ok ?_
    exact lays_takeB HG.out (j:=9) (by simp[KNeat]) (by simp[KNds]) ⟨_,rfl,hown9⟩ (by rw[h9];exact(own_blkAgg hown9).trans (own_blk hown9).symm)
  ·intro vs w1 hb hall hap
   obtain⟨⟨u,h10,hown10⟩,q10⟩:=hall 10 (by omega) (by decide)
   change wpList _ _ _ [_,_] (Act.put (Act.put (Act.put (Act.put (Act.put (Act.put (Act.put (Act.put (Act.put (Act.put (Act.put (frm _ _ _ []) (some 49) (vs 10)) (some 48) (vs 9)) (some 47) (vs 8)) (some 46) (vs 7)) (some 45) (vs 6)) (some 44) (vs 5)) (some 43) (vs 4)) (some 42) (vs 3)) (some 41) (vs 2)) (some 40) (vs 1)) (some 39) (vs 0)) _
   simp only[frm,h10]
   have HB9:=lh hb
   have HOW:=lh hown10
   have d0:w1.cell? ⟨w.heap.size+1,0,none⟩=some (.slice none 0 0):=((Z2.out.below HB8.out hgl2).belowB hb hgl2).cell 0
   have f0:w1.frozen? ⟨w.heap.size+1,0,none⟩=false:=((Z2.out.below HB8.out hgl2).belowB hb hgl2).free 0
   obtain⟨A',c',rfl,hle'⟩:=own_shape hown10
   have hne:∀ g,(Value.slice A' (0+1+(0 - 0)) c').ownBlock=some g→g≠w.heap.size+1:=fun g hg e=>by have:=(HOW.out.lt g hg).1;omega
   have HNE:=lh hne
   clear hall hap q10 hb hown10 hne hIN hIJ
   go_wp2_with fail
   have hbb:=(HB2.out.trans ((HB8.out.trans HB9.out).mono HB2.out.size)).setCell (p:=⟨w.heap.size+1,0,none⟩) (by simp) (.slice A' 1 c')
   have hoF:=own_local (w':=w1.setCell ⟨w.heap.size+1,0,none⟩ (.slice A' 1 c')) HOW.out fun g hg=>Below.heap_setCell _ _ _ _ (HNE.out g hg)
   refine bodyPost_ret (v:=.tuple #[.agg #[.slice A' 1 c'],.int .i64 0]) (by simp[results,Tryz.results88,go_sem,d0]) rfl ?_
   rw[hk.out]
   refine⟨A',c',rfl,⟨own_sl hoF,hle'⟩,?_,fun b o e=>.inr (Nat.le_trans HB2.out.size (HOW.out.lt b (by rw[e];rfl)).1),hbb⟩
   ·obtain⟨_,⟨h1,_⟩ | ⟨g,cap,cur,h1,_,_,_,h2,_⟩⟩:=HOW.out
    ·injection h1 with _ h3 _;omega
    ·injection h1 with _ _ h3;rw[h3];exact h2
theorem RMark_any (h:IS w cs A c) (hl:cs.length≤100000) (hc:c≤maxLen) (hn:cs=[]→A=none∧c=0) (a:Int):Calls Tryz.prog 88 #[.agg #[.slice A cs.length c],.int .i64 a] w (RMkP w A (cardMark cs a)):=by
 cases ho:oldB a with
 | false=>exact RMark_no h hl hc a ho
 | true =>
  cases hh:cardIn cs a with
  | true=>exact RMark_has h hl hc a ho hh
  | false =>
   rcases Nat.eq_zero_or_pos cs.length with h0 | h0
   ·obtain rfl:=List.length_eq_zero_iff.1 h0
    obtain⟨rfl,rfl⟩:=hn rfl
    exact RMark_nil a ho hh
   ·obtain⟨b,o,rfl,_⟩:=h.sl.get h0
    exact RMark_some h h0 hl hc a ho hh
end
end
end Go.Proofs.YtaijmgkjbbiboaaGreat
