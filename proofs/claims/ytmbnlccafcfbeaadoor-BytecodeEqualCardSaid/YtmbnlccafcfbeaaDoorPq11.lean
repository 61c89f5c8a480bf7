/- Parts of the proof: AwakeB, LawEq. -/
import Derived.Test.YtmbnlccafcfbeaaDoorPqA
import Derived.Test.YtmbnlccafcfbeaaDoorPq10
import Derived.Test.YtmbnlccafcfbeaaDoorPq3
import Derived.Test.YtmbnlccafcfbeaaDoorPq7
import Derived.Test.YtmbnlccafcfbeaaDoorPq8
import Derived.Test.YtmbnlccafcfbeaaDoorPq9
set_option linter.unusedVariables false
set_option linter.unusedSimpArgs false
set_option linter.unusedSectionVars false
set_option maxRecDepth 100000
namespace Go.Proofs.YtmbnlccafcfbeaaDoor
section
open Go.RowKit Go.Sort
theorem own_sls {w:World} {base:Nat} {e:TypeId} {s n:Nat} {v:Value} {xs:List Value} (h:w.ownsRow base e s v n xs) (hn:0 < n):∃ g cap,v=.slice (some ⟨g,0,none⟩) n cap∧n≤cap∧base≤g∧Sl w s (some ⟨g,0,none⟩) n xs:=by
 have hlt:=h.lt
 have hcl:=fun g=>h.cells (g:=g)
 obtain⟨h1,h2 | ⟨g,cap,cur,rfl,h3,_,h5,_⟩⟩:=h
 ·omega
 ·exact⟨g,cap,rfl,h5,h3,h1,.inr ⟨g,0,rfl,(hlt g rfl).2,fun j x hx=>by
   have:=hcl g rfl j x hx
   unfold Addr.add at this
   split at this
   ·next h0=>subst h0;exact this
   ·exact this⟩⟩
def aNames:List ByteArray:=[⟨#[102]⟩,⟨#[103,111]⟩]
def aCode (k:Nat):List Ins:=List.replicate k (1,0,0)
def aAll:List Ins:=aCode 7++[(21,1,2)]
theorem aCode_succ (k:Nat):codeCells (aCode k)++[Value.int .i64 1,.int .i64 0,.int .i64 0]=codeCells (aCode (k+1)):=by
 simp[aCode,codeCells,insCells,List.replicate_succ']
theorem aAll_cells:codeCells (aCode 7)++[Value.int .i64 21,.int .i64 1,.int .i64 2]=codeCells aAll:=by
 simp[aAll,codeCells,insCells]
theorem dec_small (n:Nat) (h:n < 10):dec n=⟨#[UInt8.ofNat (48+n)]⟩:=by
 unfold dec Lib.itoa
 rw[if_neg (by omega),Int.toNat_natCast,Lib.decDigits,dif_pos h]
theorem a_head:headB ⟨#[109]⟩ 1 2=⟨#[109,101,116,104,111,100,32,109,32,49,32,50]⟩:=by
 have h1:dec 1=⟨#[49]⟩:=dec_small 1 (by decide)
 have h2:dec 2=⟨#[50]⟩:=dec_small 2 (by decide)
 unfold headB
 rw[h1,h2]
 decide +kernel
theorem a_line:lineB aNames 7 (21,1,2)=⟨#[55,32,115,101,110,100,32,103,111,32,50]⟩:=by
 have h1:dec (7:Nat)=⟨#[55]⟩:=dec_small 7 (by decide)
 have h2:dec 2=⟨#[50]⟩:=dec_small 2 (by decide)
 have h3:iV (21,1,2)=true:=by decide +kernel
 unfold lineB
 rw[h1,h3]
 have h4:textB aNames (Int.toNat 21) 1 2=nameB aNames 1++spB++dec 2:=rfl
 show _++_++(if true=true then (if hasText (Int.toNat 21)=true then opName (Int.toNat 21)++spB++textB aNames (Int.toNat 21) 1 2 else _) else _)=_
 rw[h4,h2]
 decide +kernel
theorem i_ins:(Tryd.prog.info? 37).map (fun i=>(i.zero,i.size,i.bytes))=some (some (.agg #[.int .i64 0,.int .i64 0,.int .i64 0]),3,24):=by kernel_rfl
theorem cell_three_new (w:World) (x y z:Value) (t:TypeId):∀ j u,[x,y,z][j]?=some u→(w.alloc (.cells #[x,y,z] t)).cell? ((⟨w.heap.size,0,none⟩:Addr).add j)=some u:=by
 intro j u hj
 match j,hj with
 | 0,hj=>simp at hj;subst hj;simp[Addr.add]
 | 1,hj=>simp at hj;subst hj;simp[Addr.add]
 | 2,hj=>simp at hj;subst hj;simp[Addr.add]
theorem grown_setC (w:World) (g i:Nat) (v:Value):w.grownBy (w.setCell ⟨g,i,none⟩ v) (some g) :=
 ⟨rfl,rfl,rfl,by simp[World.setCell],fun k _ hk=>Below.heap_setCell _ _ _ _ (fun e=>hk (by rw[e]))⟩
structure AW (w wr:World) (H k:Nat) (c:List Ins) (v:Value):Prop where
 sd:Bk wr w.heap.size 37 #[.int .i64 21,.int .i64 1,.int .i64 2]
 ns:Bk wr H 9 #[.string ⟨#[102]⟩,.string ⟨#[103,111]⟩]
 m:Bk wr (H+1) 43 #[.string ⟨#[109]⟩,.int .i64 1,.int .i64 2,v,.slice (some ⟨H,0,none⟩) 2 2]
 own:wr.ownsRow (H+2) 37 3 v k (codeCells c)
 bel:Below w.heap.size w wr
 lt:w.heap.size < H
theorem AW.next {w wr w4:World} {H k n:Nat} {c c':List Ins} {v v':Value} {o:Obj} (h:AW w wr H k c v) (h4:w4.ownsRow (H+2) 37 3 v' n (codeCells c')) (hg:(wr.alloc o).grownBy w4 v.ownBlock):AW w (w4.setCell ⟨H+1,3,none⟩ v') H n c' v':=by
 have hne:∀ g,g < H+2→some g≠v.ownBlock:=fun g hg=>own_ne h.own hg
 have hl:=h.lt
 have hb:=h.bel.size
 refine⟨((h.sd.alloc o).grown hg (hne _ (by omega))).far (by simp;omega) _,((h.ns.alloc o).grown hg (hne _ (by omega))).far (by simp) _,?_,?_,?_,h.lt⟩
 ·exact((h.m.alloc o).grown hg (hne _ (by omega))).set 3 v'
 ·refine h4.kept (grown_setC w4 (H+1) 3 v') ?_
  rcases h4.2 with ⟨rfl,_⟩ | ⟨g,_,_,rfl,hge,_⟩
  ·exact .inl rfl
  ·refine .inr ?_
   simp[Value.ownBlock]
   omega
 ·refine((h.bel.alloc (by omega) o).grown hg (by simp;omega) fun k hk=>?_).setCell (by simp;omega) _
  have:=(h.own.lt k hk).1
  omega
set_option maxHeartbeats 4000000 in
theorem awakeB (w:World) (ht:Tabs w):Calls Tryd.prog 6 #[] w fun e w'=>e=.returned (.bool true)∧Below w.heap.size w w':=by
 have HT:=lh ht
 obtain⟨i9,hi9,hi0,hi1,hi2⟩:=info_parts i_ins
 have HI:=lh (And.intro hi9 (And.intro hi0 (And.intro hi1 hi2)))
 clear hi9 hi0 hi1 hi2 ht
 have hsd0:=Bk.new w 37 #[.int .i64 21,.int .i64 1,.int .i64 2]
 go_enter Tryd.func6,Tryd.ntmps6
 go_wp2_with fail
 refine(Effect_any 21 1 2 _).mono ?_
 rintro e w1 ⟨rfl,hb1⟩
 have hp:popsI 21 1 2=3:=by decide +kernel
 have hu:pushesI 21 1 2=0:=by decide +kernel
 rw[hp,hu]
 have hsd:=hsd0.below hb1 (by simp)
 have hbel1:=below_box hb1
 have hz:w.heap.size < w1.heap.size:=by have:=hb1.size;simp at this;omega
 have HA:Hid (AW w ((w1.alloc (.cells #[.string ⟨#[102]⟩,.string ⟨#[103,111]⟩] 9)).alloc (.cells #[.string ⟨#[109]⟩,.int .i64 1,.int .i64 2,.slice none 0 0,.slice (some ⟨w1.heap.size,0,none⟩) 2 2] 43)) w1.heap.size 0 (aCode 0) (.slice none 0 0)):=lh
  ⟨(hsd.alloc _).alloc _,(Bk.new _ _ _).alloc _,by have:=Bk.new (w1.alloc (.cells #[.string ⟨#[102]⟩,.string ⟨#[103,111]⟩] 9)) 43 #[.string ⟨#[109]⟩,.int .i64 1,.int .i64 2,.slice none 0 0,.slice (some ⟨w1.heap.size,0,none⟩) 2 2];simpa using this,World.ownsRow_nil _ _ _ _,(hbel1.alloc (by omega) _).alloc (by simp;omega) _,hz⟩
 clear hsd0 hsd hbel1 hb1 hp hu
 go_wp2_with fail
 go_loopg [14] (7) (fun q i wr=>∃ k v,i=.int .i64 (k:Nat)∧k+q=7∧AW w wr w1.heap.size k (aCode k) v)
 case atStart=>exact⟨0,_,rfl,rfl,HA.out⟩
 case round =>
  obtain⟨k,v,rfl,hkq,hA⟩:=hrel
  cases gk with
  | succ q =>
   have hk7:k < 7:=by omega
   have c3:wr.cell? ⟨w1.heap.size+1,3,none⟩=some v:=hA.m.cell 3
   have HA:=lh hA
   have hzr:w1.heap.size+1 < wr.heap.size:=hA.m.lt
   clear hA
   go_wp2_with (first | (at_builtin;refine wpList_append_own _ rfl (.tmp 17) (.tmp 19) 41 rfl (w1.heap.size+2) 37 i9 (.agg #[.int .i64 0,.int .i64 0,.int .i64 0]) 3 24 Tryd.underlying41 HI.out.1 HI.out.2.1 HI.out.2.2.1 HI.out.2.2.2 rfl (by decide) _ _ _ rfl (HA.out.own.alloc _) ⟨wr.heap.size,0,none⟩ 1 1 [.int .i64 1,.int .i64 0,.int .i64 0] rfl rfl (cell_three_new _ _ _ _ _) (by simp[Value.oneCell']) (by unfold maxLen;omega) (by omega) (by simp;omega) ?_;intro v' w4 hown4 hg4 _;rw[aCode_succ] at hown4;have HN:=lh (HA.out.next hown4 hg4);have f3:w4.frozen? ⟨w1.heap.size+1,3,none⟩=false:=(((HA.out.m.alloc _).grown hg4 (own_ne HA.out.own (by omega))).free 3);have c3':w4.cell? ⟨w1.heap.size+1,3,none⟩=some v:=(((HA.out.m.alloc _).grown hg4 (own_ne HA.out.own (by omega))).cell 3);obtain⟨g,cp,rfl,_,_⟩:=hown4.form (by omega);clear hown4 hg4))
   go_roundg q
   case measure=>omega
   case rel=>exact⟨k+1,_,by go_num,by omega,HN.out⟩
  | zero =>
   obtain rfl:k=7:=hkq
   have c0:wr.cell? ⟨w1.heap.size+1,0,none⟩=some (.string ⟨#[109]⟩):=hA.m.cell 0
   have c1:wr.cell? ⟨w1.heap.size+1,1,none⟩=some (.int .i64 1):=hA.m.cell 1
   have c2:wr.cell? ⟨w1.heap.size+1,2,none⟩=some (.int .i64 2):=hA.m.cell 2
   have c3:wr.cell? ⟨w1.heap.size+1,3,none⟩=some v:=hA.m.cell 3
   have c4:wr.cell? ⟨w1.heap.size+1,4,none⟩=some (.slice (some ⟨w1.heap.size,0,none⟩) 2 2):=hA.m.cell 4
   have s0:wr.cell? ⟨w.heap.size,0,none⟩=some (.int .i64 21):=hA.sd.cell 0
   have s1:wr.cell? ⟨w.heap.size,1,none⟩=some (.int .i64 1):=hA.sd.cell 1
   have s2:wr.cell? ⟨w.heap.size,2,none⟩=some (.int .i64 2):=hA.sd.cell 2
   have HA:=lh hA
   have hzr:w1.heap.size+1 < wr.heap.size:=hA.m.lt
   clear hA
   go_wp2_with (first | (at_builtin;refine wpList_append_own _ rfl (.tmp 24) (.tmp 26) 41 rfl (w1.heap.size+2) 37 i9 (.agg #[.int .i64 0,.int .i64 0,.int .i64 0]) 3 24 Tryd.underlying41 HI.out.1 HI.out.2.1 HI.out.2.2.1 HI.out.2.2.2 rfl (by decide) _ _ _ rfl (HA.out.own.alloc _) ⟨wr.heap.size,0,none⟩ 1 1 [.int .i64 21,.int .i64 1,.int .i64 2] rfl rfl (cell_three_new _ _ _ _ _) (by simp[Value.oneCell']) (by unfold maxLen;omega) (by omega) (by simp;omega) ?_;intro v' w4 hown4 hg4 _;rw[aAll_cells] at hown4;have HN:=lh (HA.out.next hown4 hg4);have f3:w4.frozen? ⟨w1.heap.size+1,3,none⟩=false:=(((HA.out.m.alloc _).grown hg4 (own_ne HA.out.own (by omega))).free 3);have c3':w4.cell? ⟨w1.heap.size+1,3,none⟩=some v:=(((HA.out.m.alloc _).grown hg4 (own_ne HA.out.own (by omega))).cell 3);obtain⟨g,cp,rfl,hge,_⟩:=hown4.form (by omega);obtain⟨g',cp',hgg,hcp,_,hsl⟩:=own_sls HN.out.own (by omega);cases hgg;have d0:=HN.out.m.cell 0;have d1:=HN.out.m.cell 1;have d2:=HN.out.m.cell 2;have d3:=HN.out.m.cell 3;have d4:=HN.out.m.cell 4;simp only[List.getElem?_toArray,List.getElem?_cons_zero,List.getElem?_cons_succ] at d0 d1 d2 d3 d4;have HSL:=lh hsl;clear hown4 hg4 hsl c0 c1 c2 c3 c4 s0 s1 s2))
   have hlt:g < (w4.setCell ⟨w1.heap.size+1,3,none⟩ (.slice (some ⟨g,0,none⟩) (7+1) cp)).heap.size:=by
    obtain⟨_,_,hA',h,_⟩:=HSL.out.get (k:=0) (by omega)
    cases hA'
    exact h
   have hbl:=HN.out.bel.size
   have hwf:∀ x∈aAll,(Lit.int .i64 x.1).wf=true∧(Lit.int .i64 x.2.1).wf=true∧(Lit.int .i64 x.2.2).wf=true:=by
    intro x hx
    have hall:(aAll.all fun x=>(Lit.int .i64 x.1).wf && (Lit.int .i64 x.2.1).wf && (Lit.int .i64 x.2.2).wf)=true:=by decide +kernel
    have:=List.all_eq_true.1 hall x hx
    simp only[Bool.and_eq_true] at this
    exact⟨this.1.1,this.1.2,this.2⟩
   have hsn:Sl (w4.setCell ⟨w1.heap.size+1,3,none⟩ (.slice (some ⟨g,0,none⟩) (7+1) cp)) 1 (some ⟨w1.heap.size,0,none⟩) 2 (strs aNames):=by
    refine⟨rfl,.inr ⟨_,0,rfl,HN.out.ns.lt,fun j x hx=>?_⟩⟩
    rw[HN.out.ns.cell]
    simpa [strs,aNames] using hx
   refine(Format_any (nm:=⟨#[109]⟩) (p:=1) (l:=2) aAll aNames rfl (by decide) hcp hwf HSL.out rfl (Nat.le_refl _) hsn (by decide) (by decide) (by decide) (by decide) (by decide) (by decide) (HT.out.below HN.out.bel)).mono ?_
   rintro e w5 ⟨gf,cf,rfl,hcf,hslf,hb5,_⟩
   have hlen9:(fmtL ⟨#[109]⟩ 1 2 aAll aNames aAll.length).length=9:=rfl
   rw[hlen9] at hcf hslf ⊢
   obtain⟨_,of,hAf,hbf,hcellf⟩:=hslf.get (k:=0) (by omega)
   cases hAf
   have e0:w5.cell? ⟨gf,0,none⟩=some (.string ⟨#[109,101,116,104,111,100,32,109,32,49,32,50]⟩):=by
    rw[← a_head]
    have:=hcellf 0 (.string (headB ⟨#[109]⟩ 1 2)) rfl
    simpa using this
   have e8:w5.cell? ⟨gf,8,none⟩=some (.string ⟨#[55,32,115,101,110,100,32,103,111,32,50]⟩):=by
    rw[← a_line]
    have:=hcellf 8 (.string (lineB aNames 7 (21,1,2))) rfl
    simpa using this
   have HB5:=lh (HN.out.bel.trans (hb5.mono hbl))
   have hsd5:=HN.out.sd.below hb5 HN.out.sd.lt
   have s0:w5.cell? ⟨w.heap.size,0,none⟩=some (.int .i64 21):=hsd5.cell 0
   have s1:w5.cell? ⟨w.heap.size,1,none⟩=some (.int .i64 1):=hsd5.cell 1
   have s2:w5.cell? ⟨w.heap.size,2,none⟩=some (.int .i64 2):=hsd5.cell 2
   have hz5:w.heap.size < w5.heap.size:=hsd5.lt
   have h0c:0 < cf:=by omega
   have h8c:8 < cf:=by omega
   have v1:validB 16 11 0=false:=by decide +kernel
   have v2:validB 21 1 2=true:=by decide +kernel
   have HV:=lh (And.intro v1 v2)
   clear hlt hbl hwf hsn hlen9 hslf hcellf hb5 hsd5 v1 v2 hcf d0 d1 d2 d3 d4 hcp
   go_wp2_with fail
   refine(Valid_no HV.out.1 _).mono ?_
   rintro e w6 ⟨rfl,hb6⟩
   have s0':=((bcell hb6).1 w.heap.size 0 hz5).trans s0
   have s1':=((bcell hb6).1 w.heap.size 1 hz5).trans s1
   have s2':=((bcell hb6).1 w.heap.size 2 hz5).trans s2
   have HB6:=lh (HB5.out.trans (hb6.mono (Nat.le_of_lt hz5)))
   clear hb6 s0 s1 s2 e0 e8
   go_wp2_with fail
   refine(Valid_yes' HV.out.2 _).mono ?_
   rintro e w7 ⟨rfl,hb7⟩
   go_wp2
   go_ret
   exact⟨rfl,HB6.out.trans (hb7.mono HB6.out.size)⟩
end
section
open Go.RowKit
attribute [local go_sem] Oper.semAt_some
/-- a value that reads as a row of bytes -/
def RowB (l:List Int) (v:Value) (w:World):Prop:=∃ A c,v=.slice A l.length c∧Sl w 1 A l.length (byts l)∧∀ x,A=some x→x.spot=none
theorem RowB.bl (l:List Int):∀ v w w',RowB l v w→Below w.heap.size w w'→RowB l v w':=fun v w w' ⟨A,c,h1,h2,h3⟩ hb=>⟨A,c,h1,h2.below hb,h3⟩
section
variable {w:World} {cs ds:List Cls} {A B:Option Addr} {n m c d:Nat}
set_option maxHeartbeats 8000000 in
theorem LEq_any (hC:CodeR w cs A n c) (hD:CodeR w ds B m d) (ht:Tabs w):Calls Tryd.prog 3 #[.agg #[.slice A n c],.agg #[.slice B m d]] w (YesP w true):=by
 obtain⟨W,hW⟩:∃ W,W=(w.alloc (.cells #[.slice A n c] 24)).alloc (.cells #[.slice B m d] 24):=⟨_,rfl⟩
 obtain⟨g,hg⟩:∃ g,g=w.heap.size:=⟨_,rfl⟩
 have hb0:Below w.heap.size w W:=by rw[hW];exact((Below.refl _ _).alloc (Nat.le_refl _) _).alloc (by simp) _
 have hk1:Bk W g 24 #[.slice A n c]:=by rw[hW,hg];exact(Bk.new _ _ _).alloc _
 have hk2:Bk W (g+1) 24 #[.slice B m d]:=by rw[hW,hg];have:=Bk.new (w.alloc (.cells #[.slice A n c] 24)) 24 #[.slice B m d];simpa using this
 have HC:=lh (hC.below hb0)
 have HD:=lh (hD.below hb0)
 have HT:=lh (ht.below hb0)
 have HB0:=lh hb0
 have HG:Hid (∀ w',Below W.heap.size W w'→w'.cell? ⟨g,0,none⟩=some (.slice A n c)∧w'.cell? ⟨g+1,0,none⟩=some (.slice B m d)):=lh fun w' h=>⟨((bcell h).1 _ _ hk1.lt).trans (hk1.cell 0),((bcell h).1 _ _ hk2.lt).trans (hk2.cell 0)⟩
 have HK:=lh (And.intro hk1 hk2)
 have HOK:=lh (And.intro hC.okP hD.okP)
 clear hC hD ht hb0 hk1 hk2
 go_enter Tryd.func3,Tryd.ntmps3
 go_upto_region 1 with fail
 rw[← hW,← hg]
 clear hW hg
 go_wp2_with fail
 refine(awakeB _ HT.out).mono ?_
 rintro e w1 ⟨rfl,hb1⟩
 have HB1:=lh hb1
 obtain⟨a0,_⟩:=HG.out w1 hb1
 clear hb1
 go_wp2_with fail
 refine(Few_any (most:=80) (HC.out.below HB1.out) (by omega) (by omega)).mono ?_
 rintro e w2 ⟨⟨b,rfl,hbb⟩,hb2⟩
 have HB2:=lh (HB1.out.trans (hb2.mono HB1.out.size))
 have HBB:=lh hbb
 clear hbb hb2 a0
 cases b with
 | false =>
  go_wp2_with fail
  refine(awakeB _ (HT.out.below HB2.out)).mono ?_
  rintro e w3 ⟨rfl,hb3⟩
  have HB3:=lh (HB2.out.trans (hb3.mono HB2.out.size))
  clear hb3
  go_wp2_with fail
  go_ret
  exact⟨rfl,HB0.out.trans (HB3.out.mono HB0.out.size)⟩
 | true =>
  have HF1:Hid (fewP cs 80):=lh (HBB.out rfl)
  clear HBB
  obtain⟨_,b0⟩:=HG.out w2 HB2.out
  go_wp2_with fail
  refine(Few_any (most:=80) (HD.out.below HB2.out) (by omega) (by omega)).mono ?_
  rintro e w3 ⟨⟨b,rfl,hbb⟩,hb3⟩
  have HB3:=lh (HB2.out.trans (hb3.mono HB2.out.size))
  have HB2B:=lh hbb
  clear hbb hb3 b0
  cases b with
  | false =>
   go_wp2_with fail
   refine(awakeB _ (HT.out.below HB3.out)).mono ?_
   rintro e w4 ⟨rfl,hb4⟩
   have HB4:=lh (HB3.out.trans (hb4.mono HB3.out.size))
   clear hb4
   go_wp2_with fail
   go_ret
   exact⟨rfl,HB0.out.trans (HB4.out.mono HB0.out.size)⟩
  | true =>
   have HF:=lh (And.intro (encCode_bound HOK.out.1.codeOk HF1.out) (And.intro (encCode_bound HOK.out.2.codeOk (HB2B.out rfl)) (And.intro (encCode_b8 HOK.out.1.codeOk) (encCode_b8 HOK.out.2.codeOk))))
   obtain⟨a0,b0⟩:=HG.out w3 HB3.out
   clear HF1 HB2B
   go_wp2_with fail
   obtain⟨y,hy⟩:∃ y,y=decide (cs=ds):=⟨_,rfl⟩
   have cE:=Equal_any (HC.out.below HB3.out) (HD.out.below HB3.out)
   rw[← hy] at cE
   refine cE.mono ?_
   rintro e w4 ⟨rfl,hb4⟩
   have HB4:=lh (HB3.out.trans (hb4.mono HB3.out.size))
   have hye:decide (encCode cs=encCode ds)=y:=by rw[hy,decide_eq_decide];exact enc_inj HOK.out.1.codeOk HOK.out.2.codeOk
   have HY:=lh (And.intro hy hye)
   have HK4:=lh (HK.out.1.below HB4.out HK.out.1.lt)
   have HK5:=lh (HK.out.2.below HB4.out HK.out.2.lt)
   clear cE hb4 a0 b0 hy hye
   go_upto_region 4 with fail
   refine wp_region_addsG 19 (fun i=>([[],[],[],[1,2],[0,3],[4],[5],[5],[5,7],[5],[5,9],[5,8,10],[5,6,11],[5,12],[13],[14],[14],[14,15,16],[14,17]]:List (List Nat)).getD i []) (EL [Ent.val (.bool y),Ent.val (.agg #[.slice A n c]),Ent.val (.agg #[.slice B m d]),Ent.val (.bool y),Ent.val (.bool true),Ent.val (.bool true),Ent.val (.bool y),Ent.val (.agg #[.slice A n c]),Ent.of (RowB (encCode cs)) (RowB.bl _),Ent.val (.agg #[.slice B m d]),Ent.of (RowB (encCode ds)) (RowB.bl _),Ent.val (.bool y),Ent.val (.bool true),Ent.val (.bool true),Ent.val (.bool true),Ent.val (.agg #[.slice A n c]),Ent.val (.agg #[.slice A n c]),Ent.val (.bool true),Ent.val (.bool true)]) (by kernel_rfl) (by kernel_rfl) (by kernel_rfl) (by rfl) ?_ ?_ ?_
   ·intro i hi o ho g b hgb vs v w1 hR
    rcases (show i=0 ∨ i=1 ∨ i=2 ∨ i=3 ∨ i=4 ∨ i=5 ∨ i=6 ∨ i=7 ∨ i=8 ∨ i=9 ∨ i=10 ∨ i=11 ∨ i=12 ∨ i=13 ∨ i=14 ∨ i=15 ∨ i=16 ∨ i=17 ∨ i=18 by omega) with rfl | rfl | rfl | rfl | rfl | rfl | rfl | rfl | rfl | rfl | rfl | rfl | rfl | rfl | rfl | rfl | rfl | rfl | rfl <;> cases ho <;> first | (cases hgb;exact hR) | cases hgb
   ·intro i hi o ho vs w1 hb1 hgr
    rcases (show i=0 ∨ i=1 ∨ i=2 ∨ i=3 ∨ i=4 ∨ i=5 ∨ i=6 ∨ i=7 ∨ i=8 ∨ i=9 ∨ i=10 ∨ i=11 ∨ i=12 ∨ i=13 ∨ i=14 ∨ i=15 ∨ i=16 ∨ i=17 ∨ i=18 by omega) with rfl | rfl | rfl | rfl | rfl | rfl | rfl | rfl | rfl | rfl | rfl | rfl | rfl | rfl | rfl | rfl | rfl | rfl | rfl <;> cases ho
    ·clear hgr
     change Made _ (Adds _ _ _) (Sem.run _ (execOp (Act.eval (frm _ _ _ [])) _) _)
     simp only[frm]
     go_simp
     exact adds_val rfl
    ·clear hgr
     change Made _ (Adds _ _ _) (Sem.run _ (execOp (Act.eval (frm _ _ _ [])) _) _)
     simp only[frm]
     have hbk:=HK4.out.below hb1 HK4.out.lt
     have c0:w1.cell? ⟨g,0,none⟩=some (.slice A n c):=hbk.cell 0
     clear hbk
     go_simp
     exact adds_val rfl
    ·clear hgr
     change Made _ (Adds _ _ _) (Sem.run _ (execOp (Act.eval (frm _ _ _ [])) _) _)
     simp only[frm]
     have hbk:=HK5.out.below hb1 HK5.out.lt
     have c0:w1.cell? ⟨(g+1),0,none⟩=some (.slice B m d):=hbk.cell 0
     clear hbk
     go_simp
     exact adds_val rfl
    ·have h1:vs 1=_:=hgr 1 (by decide)
     have h2:vs 2=_:=hgr 2 (by decide)
     clear hgr
     change Made _ (Adds _ _ _) (Sem.run _ (execOp (Act.eval (Act.put (Act.put (frm _ _ _ []) (some 24) (vs 2)) (some 23) (vs 1))) _) _)
     simp only[frm,h1,h2]
     have cM:=RSameC_any (HC.out.below (HB4.out.trans (hb1.mono HB4.out.size))) (HD.out.below (HB4.out.trans (hb1.mono HB4.out.size)))
     rw[← HY.out.1] at cM
     go_simp
     exact adds_below cM
    ·have h0:vs 0=_:=hgr 0 (by decide)
     have h3:vs 3=_:=hgr 3 (by decide)
     clear hgr
     change Made _ (Adds _ _ _) (Sem.run _ (execOp (Act.eval (Act.put (Act.put (frm _ _ _ []) (some 25) (vs 3)) (some 22) (vs 0))) _) _)
     simp only[frm,h0,h3]
     go_simp
     exact adds_val rfl
    ·have h4:vs 4=_:=hgr 4 (by decide)
     clear hgr
     change Made _ (Adds _ _ _) (Sem.run _ (execOp (Act.eval (Act.put (frm _ _ _ []) (some 26) (vs 4))) _) _)
     simp only[frm,h4]
     go_simp
     exact adds_val rfl
    ·have h5:vs 5=_:=hgr 5 (by decide)
     clear hgr
     change Made _ (Adds _ _ _) (Sem.run _ (execOp (Act.eval (Act.put (frm _ _ _ []) (some 27) (vs 5))) _) _)
     simp only[frm,h5]
     go_simp
     exact adds_val rfl
    ·have h5:vs 5=_:=hgr 5 (by decide)
     clear hgr
     change Made _ (Adds _ _ _) (Sem.run _ (execOp (Act.eval (Act.put (frm _ _ _ []) (some 27) (vs 5))) _) _)
     simp only[frm,h5]
     have hbk:=HK4.out.below hb1 HK4.out.lt
     have c0:w1.cell? ⟨g,0,none⟩=some (.slice A n c):=hbk.cell 0
     clear hbk
     go_simp
     exact adds_val rfl
    ·have h5:vs 5=_:=hgr 5 (by decide)
     have h7:vs 7=_:=hgr 7 (by decide)
     clear hgr
     change Made _ (Adds _ _ _) (Sem.run _ (execOp (Act.eval (Act.put (Act.put (frm _ _ _ []) (some 29) (vs 7)) (some 27) (vs 5))) _) _)
     simp only[frm,h5,h7]
     have cM:=Encode_any (HC.out.below (HB4.out.trans (hb1.mono HB4.out.size))) HF.out.1
     go_simp
     exact adds_call (hT:=RowB.bl _) (ob:=fun _=>none) cM fun e w2 ⟨v,he,ho,hb⟩=>by
      obtain⟨A9,c9,rfl,_⟩:=own_shape ho
      exact⟨_,he,⟨A9,c9,rfl,own_sl ho,own_spot ho⟩,hb,(fun k hk=>nomatch hk)⟩
    ·have h5:vs 5=_:=hgr 5 (by decide)
     clear hgr
     change Made _ (Adds _ _ _) (Sem.run _ (execOp (Act.eval (Act.put (frm _ _ _ []) (some 27) (vs 5))) _) _)
     simp only[frm,h5]
     have hbk:=HK5.out.below hb1 HK5.out.lt
     have c0:w1.cell? ⟨(g+1),0,none⟩=some (.slice B m d):=hbk.cell 0
     clear hbk
     go_simp
     exact adds_val rfl
    ·have h5:vs 5=_:=hgr 5 (by decide)
     have h9:vs 9=_:=hgr 9 (by decide)
     clear hgr
     change Made _ (Adds _ _ _) (Sem.run _ (execOp (Act.eval (Act.put (Act.put (frm _ _ _ []) (some 31) (vs 9)) (some 27) (vs 5))) _) _)
     simp only[frm,h5,h9]
     have cM:=Encode_any (HD.out.below (HB4.out.trans (hb1.mono HB4.out.size))) HF.out.2.1
     go_simp
     exact adds_call (hT:=RowB.bl _) (ob:=fun _=>none) cM fun e w2 ⟨v,he,ho,hb⟩=>by
      obtain⟨A9,c9,rfl,_⟩:=own_shape ho
      exact⟨_,he,⟨A9,c9,rfl,own_sl ho,own_spot ho⟩,hb,(fun k hk=>nomatch hk)⟩
    ·have h5:vs 5=_:=hgr 5 (by decide)
     obtain⟨A8,c8,h8,s8,p8⟩:=hgr 8 (by decide)
     obtain⟨A10,c10,h10,s10,p10⟩:=hgr 10 (by decide)
     clear hgr
     change Made _ (Adds _ _ _) (Sem.run _ (execOp (Act.eval (Act.put (Act.put (Act.put (frm _ _ _ []) (some 32) (vs 10)) (some 30) (vs 8)) (some 27) (vs 5))) _) _)
     simp only[frm,h5,h8,h10]
     have cM:=RSame_any (c:=c8) (d:=c10) s8 p8 s10 p10 HF.out.2.2.1 HF.out.2.2.2
     rw[HY.out.2] at cM
     go_simp
     exact adds_still (cM.mono fun e w2 h=>h)
    ·have h5:vs 5=_:=hgr 5 (by decide)
     have h6:vs 6=_:=hgr 6 (by decide)
     have h11:vs 11=_:=hgr 11 (by decide)
     clear hgr
     change Made _ (Adds _ _ _) (Sem.run _ (execOp (Act.eval (Act.put (Act.put (Act.put (frm _ _ _ []) (some 33) (vs 11)) (some 28) (vs 6)) (some 27) (vs 5))) _) _)
     simp only[frm,h5,h6,h11]
     go_simp
     exact adds_val rfl
    ·have h5:vs 5=_:=hgr 5 (by decide)
     have h12:vs 12=_:=hgr 12 (by decide)
     clear hgr
     change Made _ (Adds _ _ _) (Sem.run _ (execOp (Act.eval (Act.put (Act.put (frm _ _ _ []) (some 34) (vs 12)) (some 27) (vs 5))) _) _)
     simp only[frm,h5,h12]
     go_simp
     exact adds_val rfl
    ·have h13:vs 13=_:=hgr 13 (by decide)
     clear hgr
     change Made _ (Adds _ _ _) (Sem.run _ (execOp (Act.eval (Act.put (frm _ _ _ []) (some 35) (vs 13))) _) _)
     simp only[frm,h13]
     go_simp
     exact adds_val rfl
    ·have h14:vs 14=_:=hgr 14 (by decide)
     clear hgr
     change Made _ (Adds _ _ _) (Sem.run _ (execOp (Act.eval (Act.put (frm _ _ _ []) (some 36) (vs 14))) _) _)
     simp only[frm,h14]
     have hbk:=HK4.out.below hb1 HK4.out.lt
     have c0:w1.cell? ⟨g,0,none⟩=some (.slice A n c):=hbk.cell 0
     clear hbk
     go_simp
     exact adds_val rfl
    ·have h14:vs 14=_:=hgr 14 (by decide)
     clear hgr
     change Made _ (Adds _ _ _) (Sem.run _ (execOp (Act.eval (Act.put (frm _ _ _ []) (some 36) (vs 14))) _) _)
     simp only[frm,h14]
     have hbk:=HK4.out.below hb1 HK4.out.lt
     have c0:w1.cell? ⟨g,0,none⟩=some (.slice A n c):=hbk.cell 0
     clear hbk
     go_simp
     exact adds_val rfl
    ·have h14:vs 14=_:=hgr 14 (by decide)
     have h15:vs 15=_:=hgr 15 (by decide)
     have h16:vs 16=_:=hgr 16 (by decide)
     clear hgr
     change Made _ (Adds _ _ _) (Sem.run _ (execOp (Act.eval (Act.put (Act.put (Act.put (frm _ _ _ []) (some 38) (vs 16)) (some 37) (vs 15)) (some 36) (vs 14))) _) _)
     simp only[frm,h14,h15,h16]
     have cM:=Equal_any (HC.out.below (HB4.out.trans (hb1.mono HB4.out.size))) (HC.out.below (HB4.out.trans (hb1.mono HB4.out.size)))
     rw[decide_eq_true rfl] at cM
     go_simp
     exact adds_below cM
    ·have h14:vs 14=_:=hgr 14 (by decide)
     have h17:vs 17=_:=hgr 17 (by decide)
     clear hgr
     change Made _ (Adds _ _ _) (Sem.run _ (execOp (Act.eval (Act.put (Act.put (frm _ _ _ []) (some 39) (vs 17)) (some 36) (vs 14))) _) _)
     simp only[frm,h14,h17]
     go_simp
     exact adds_val rfl
   intro vs w1 hb1 hall hap
   have h18:vs 18=_:=(hall 18 (by omega)).1
   clear hall hap
   change wpList _ _ _ [_] (Act.put (Act.put (Act.put (Act.put (Act.put (Act.put (Act.put (Act.put (Act.put (Act.put (Act.put (Act.put (Act.put (Act.put (Act.put (Act.put (Act.put (Act.put (Act.put (frm _ _ _ []) (some 40) (vs 18)) (some 39) (vs 17)) (some 38) (vs 16)) (some 37) (vs 15)) (some 36) (vs 14)) (some 35) (vs 13)) (some 34) (vs 12)) (some 33) (vs 11)) (some 32) (vs 10)) (some 31) (vs 9)) (some 30) (vs 8)) (some 29) (vs 7)) (some 28) (vs 6)) (some 27) (vs 5)) (some 26) (vs 4)) (some 25) (vs 3)) (some 24) (vs 2)) (some 23) (vs 1)) (some 22) (vs 0)) _
   simp only[frm,h18]
   go_wp2_with fail
   go_ret
   exact⟨rfl,HB0.out.trans ((HB4.out.trans (hb1.mono HB4.out.size)).mono HB0.out.size)⟩
end
end
end Go.Proofs.YtmbnlccafcfbeaaDoor
