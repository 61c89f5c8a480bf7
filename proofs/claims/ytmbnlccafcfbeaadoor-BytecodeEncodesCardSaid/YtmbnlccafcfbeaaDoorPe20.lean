/- Parts of the proof: AwakeB, LawEnc. -/
import Derived.Test.YtmbnlccafcfbeaaDoorPeA
import Derived.Test.YtmbnlccafcfbeaaDoorPe16
import Derived.Test.YtmbnlccafcfbeaaDoorPe17
import Derived.Test.YtmbnlccafcfbeaaDoorPe18
import Derived.Test.YtmbnlccafcfbeaaDoorPe19
set_option linter.unusedVariables false
set_option linter.unusedSimpArgs false
set_option linter.unusedSectionVars false
set_option maxRecDepth 100000
namespace Go.Proofs.YtmbnlccafcfbeaaDoor
section
open Go.RowKit Go.Sort
theorem own_sls {w:World} {base:Nat} {e:TypeId} {s n:Nat} {v:Value} {xs:List Value} (h:w.ownsRow base e s v n xs) (hn:0 < n):∃ g cap,v=.slice (some ⟨g,0,none⟩) n cap∧n≤cap∧base≤g∧Sl w s (some ⟨g,0,none⟩) n xs:=by
 have hlt:=h.lt
 have hcl:=fun g=>h.cells (g:=g)
 obtain⟨h1,h2 | ⟨g,cap,cur,rfl,h3,_,h5,_⟩⟩:=h
 ·omega
 ·exact⟨g,cap,rfl,h5,h3,h1,.inr ⟨g,0,rfl,(hlt g rfl).2,fun j x hx=>by
   have:=hcl g rfl j x hx
   unfold Addr.add at this
   split at this
   ·next h0=>subst h0;exact this
   ·exact this⟩⟩
def aNames:List ByteArray:=[⟨#[102]⟩,⟨#[103,111]⟩]
def aCode (k:Nat):List Ins:=List.replicate k (1,0,0)
def aAll:List Ins:=aCode 7++[(21,1,2)]
theorem aCode_succ (k:Nat):codeCells (aCode k)++[Value.int .i64 1,.int .i64 0,.int .i64 0]=codeCells (aCode (k+1)):=by
 simp[aCode,codeCells,insCells,List.replicate_succ']
theorem aAll_cells:codeCells (aCode 7)++[Value.int .i64 21,.int .i64 1,.int .i64 2]=codeCells aAll:=by
 simp[aAll,codeCells,insCells]
theorem dec_small (n:Nat) (h:n < 10):dec n=⟨#[UInt8.ofNat (48+n)]⟩:=by
 unfold dec Lib.itoa
 rw[if_neg (by omega),Int.toNat_natCast,Lib.decDigits,dif_pos h]
theorem a_head:headB ⟨#[109]⟩ 1 2=⟨#[109,101,116,104,111,100,32,109,32,49,32,50]⟩:=by
 have h1:dec 1=⟨#[49]⟩:=dec_small 1 (by decide)
 have h2:dec 2=⟨#[50]⟩:=dec_small 2 (by decide)
 unfold headB
 rw[h1,h2]
 decide +kernel
theorem a_line:lineB aNames 7 (21,1,2)=⟨#[55,32,115,101,110,100,32,103,111,32,50]⟩:=by
 have h1:dec (7:Nat)=⟨#[55]⟩:=dec_small 7 (by decide)
 have h2:dec 2=⟨#[50]⟩:=dec_small 2 (by decide)
 have h3:iV (21,1,2)=true:=by decide +kernel
 unfold lineB
 rw[h1,h3]
 have h4:textB aNames (Int.toNat 21) 1 2=nameB aNames 1++spB++dec 2:=rfl
 show _++_++(if true=true then (if hasText (Int.toNat 21)=true then opName (Int.toNat 21)++spB++textB aNames (Int.toNat 21) 1 2 else _) else _)=_
 rw[h4,h2]
 decide +kernel
theorem i_ins:(Tryd.prog.info? 37).map (fun i=>(i.zero,i.size,i.bytes))=some (some (.agg #[.int .i64 0,.int .i64 0,.int .i64 0]),3,24):=by kernel_rfl
theorem cell_three_new (w:World) (x y z:Value) (t:TypeId):∀ j u,[x,y,z][j]?=some u→(w.alloc (.cells #[x,y,z] t)).cell? ((⟨w.heap.size,0,none⟩:Addr).add j)=some u:=by
 intro j u hj
 match j,hj with
 | 0,hj=>simp at hj;subst hj;simp[Addr.add]
 | 1,hj=>simp at hj;subst hj;simp[Addr.add]
 | 2,hj=>simp at hj;subst hj;simp[Addr.add]
theorem grown_setC (w:World) (g i:Nat) (v:Value):w.grownBy (w.setCell ⟨g,i,none⟩ v) (some g) :=
 ⟨rfl,rfl,rfl,by simp[World.setCell],fun k _ hk=>Below.heap_setCell _ _ _ _ (fun e=>hk (by rw[e]))⟩
structure AW (w wr:World) (H k:Nat) (c:List Ins) (v:Value):Prop where
 sd:Bk wr w.heap.size 37 #[.int .i64 21,.int .i64 1,.int .i64 2]
 ns:Bk wr H 9 #[.string ⟨#[102]⟩,.string ⟨#[103,111]⟩]
 m:Bk wr (H+1) 43 #[.string ⟨#[109]⟩,.int .i64 1,.int .i64 2,v,.slice (some ⟨H,0,none⟩) 2 2]
 own:wr.ownsRow (H+2) 37 3 v k (codeCells c)
 bel:Below w.heap.size w wr
 lt:w.heap.size < H
theorem AW.next {w wr w4:World} {H k n:Nat} {c c':List Ins} {v v':Value} {o:Obj} (h:AW w wr H k c v) (h4:w4.ownsRow (H+2) 37 3 v' n (codeCells c')) (hg:(wr.alloc o).grownBy w4 v.ownBlock):AW w (w4.setCell ⟨H+1,3,none⟩ v') H n c' v':=by
 have hne:∀ g,g < H+2→some g≠v.ownBlock:=fun g hg=>own_ne h.own hg
 have hl:=h.lt
 have hb:=h.bel.size
 refine⟨((h.sd.alloc o).grown hg (hne _ (by omega))).far (by simp;omega) _,((h.ns.alloc o).grown hg (hne _ (by omega))).far (by simp) _,?_,?_,?_,h.lt⟩
 ·exact((h.m.alloc o).grown hg (hne _ (by omega))).set 3 v'
 ·refine h4.kept (grown_setC w4 (H+1) 3 v') ?_
  rcases h4.2 with ⟨rfl,_⟩ | ⟨g,_,_,rfl,hge,_⟩
  ·exact .inl rfl
  ·refine .inr ?_
   simp[Value.ownBlock]
   omega
 ·refine((h.bel.alloc (by omega) o).grown hg (by simp;omega) fun k hk=>?_).setCell (by simp;omega) _
  have:=(h.own.lt k hk).1
  omega
set_option maxHeartbeats 4000000 in
theorem awakeB (w:World) (ht:Tabs w):Calls Tryd.prog 6 #[] w fun e w'=>e=.returned (.bool true)∧Below w.heap.size w w':=by
 have HT:=lh ht
 obtain⟨i9,hi9,hi0,hi1,hi2⟩:=info_parts i_ins
 have HI:=lh (And.intro hi9 (And.intro hi0 (And.intro hi1 hi2)))
 clear hi9 hi0 hi1 hi2 ht
 have hsd0:=Bk.new w 37 #[.int .i64 21,.int .i64 1,.int .i64 2]
 go_enter Tryd.func6,Tryd.ntmps6
 go_wp2_with fail
 refine(Effect_any 21 1 2 _).mono ?_
 rintro e w1 ⟨rfl,hb1⟩
 have hp:popsI 21 1 2=3:=by decide +kernel
 have hu:pushesI 21 1 2=0:=by decide +kernel
 rw[hp,hu]
 have hsd:=hsd0.below hb1 (by simp)
 have hbel1:=below_box hb1
 have hz:w.heap.size < w1.heap.size:=by have:=hb1.size;simp at this;omega
 have HA:Hid (AW w ((w1.alloc (.cells #[.string ⟨#[102]⟩,.string ⟨#[103,111]⟩] 9)).alloc (.cells #[.string ⟨#[109]⟩,.int .i64 1,.int .i64 2,.slice none 0 0,.slice (some ⟨w1.heap.size,0,none⟩) 2 2] 43)) w1.heap.size 0 (aCode 0) (.slice none 0 0)):=lh
  ⟨(hsd.alloc _).alloc _,(Bk.new _ _ _).alloc _,by have:=Bk.new (w1.alloc (.cells #[.string ⟨#[102]⟩,.string ⟨#[103,111]⟩] 9)) 43 #[.string ⟨#[109]⟩,.int .i64 1,.int .i64 2,.slice none 0 0,.slice (some ⟨w1.heap.size,0,none⟩) 2 2];simpa using this,World.ownsRow_nil _ _ _ _,(hbel1.alloc (by omega) _).alloc (by simp;omega) _,hz⟩
 clear hsd0 hsd hbel1 hb1 hp hu
 go_wp2_with fail
 go_loopg [14] (7) (fun q i wr=>∃ k v,i=.int .i64 (k:Nat)∧k+q=7∧AW w wr w1.heap.size k (aCode k) v)
 case atStart=>exact⟨0,_,rfl,rfl,HA.out⟩
 case round =>
  obtain⟨k,v,rfl,hkq,hA⟩:=hrel
  cases gk with
  | succ q =>
   have hk7:k < 7:=by omega
   have c3:wr.cell? ⟨w1.heap.size+1,3,none⟩=some v:=hA.m.cell 3
   have HA:=lh hA
   have hzr:w1.heap.size+1 < wr.heap.size:=hA.m.lt
   clear hA
   go_wp2_with (first | (at_builtin;refine wpList_append_own _ rfl (.tmp 17) (.tmp 19) 41 rfl (w1.heap.size+2) 37 i9 (.agg #[.int .i64 0,.int .i64 0,.int .i64 0]) 3 24 Tryd.underlying41 HI.out.1 HI.out.2.1 HI.out.2.2.1 HI.out.2.2.2 rfl (by decide) _ _ _ rfl (HA.out.own.alloc _) ⟨wr.heap.size,0,none⟩ 1 1 [.int .i64 1,.int .i64 0,.int .i64 0] rfl rfl (cell_three_new _ _ _ _ _) (by simp[Value.oneCell']) (by unfold maxLen;omega) (by omega) (by simp;omega) ?_;intro v' w4 hown4 hg4 _;rw[aCode_succ] at hown4;have HN:=lh (HA.out.next hown4 hg4);have f3:w4.frozen? ⟨w1.heap.size+1,3,none⟩=false:=(((HA.out.m.alloc _).grown hg4 (own_ne HA.out.own (by omega))).free 3);have c3':w4.cell? ⟨w1.heap.size+1,3,none⟩=some v:=(((HA.out.m.alloc _).grown hg4 (own_ne HA.out.own (by omega))).cell 3);obtain⟨g,cp,rfl,_,_⟩:=hown4.form (by omega);clear hown4 hg4))
   go_roundg q
   case measure=>omega
   case rel=>exact⟨k+1,_,by go_num,by omega,HN.out⟩
  | zero =>
   obtain rfl:k=7:=hkq
   have c0:wr.cell? ⟨w1.heap.size+1,0,none⟩=some (.string ⟨#[109]⟩):=hA.m.cell 0
   have c1:wr.cell? ⟨w1.heap.size+1,1,none⟩=some (.int .i64 1):=hA.m.cell 1
   have c2:wr.cell? ⟨w1.heap.size+1,2,none⟩=some (.int .i64 2):=hA.m.cell 2
   have c3:wr.cell? ⟨w1.heap.size+1,3,none⟩=some v:=hA.m.cell 3
   have c4:wr.cell? ⟨w1.heap.size+1,4,none⟩=some (.slice (some ⟨w1.heap.size,0,none⟩) 2 2):=hA.m.cell 4
   have s0:wr.cell? ⟨w.heap.size,0,none⟩=some (.int .i64 21):=hA.sd.cell 0
   have s1:wr.cell? ⟨w.heap.size,1,none⟩=some (.int .i64 1):=hA.sd.cell 1
   have s2:wr.cell? ⟨w.heap.size,2,none⟩=some (.int .i64 2):=hA.sd.cell 2
   have HA:=lh hA
   have hzr:w1.heap.size+1 < wr.heap.size:=hA.m.lt
   clear hA
   go_wp2_with (first | (at_builtin;refine wpList_append_own _ rfl (.tmp 24) (.tmp 26) 41 rfl (w1.heap.size+2) 37 i9 (.agg #[.int .i64 0,.int .i64 0,.int .i64 0]) 3 24 Tryd.underlying41 HI.out.1 HI.out.2.1 HI.out.2.2.1 HI.out.2.2.2 rfl (by decide) _ _ _ rfl (HA.out.own.alloc _) ⟨wr.heap.size,0,none⟩ 1 1 [.int .i64 21,.int .i64 1,.int .i64 2] rfl rfl (cell_three_new _ _ _ _ _) (by simp[Value.oneCell']) (by unfold maxLen;omega) (by omega) (by simp;omega) ?_;intro v' w4 hown4 hg4 _;rw[aAll_cells] at hown4;have HN:=lh (HA.out.next hown4 hg4);have f3:w4.frozen? ⟨w1.heap.size+1,3,none⟩=false:=(((HA.out.m.alloc _).grown hg4 (own_ne HA.out.own (by omega))).free 3);have c3':w4.cell? ⟨w1.heap.size+1,3,none⟩=some v:=(((HA.out.m.alloc _).grown hg4 (own_ne HA.out.own (by omega))).cell 3);obtain⟨g,cp,rfl,hge,_⟩:=hown4.form (by omega);obtain⟨g',cp',hgg,hcp,_,hsl⟩:=own_sls HN.out.own (by omega);cases hgg;have d0:=HN.out.m.cell 0;have d1:=HN.out.m.cell 1;have d2:=HN.out.m.cell 2;have d3:=HN.out.m.cell 3;have d4:=HN.out.m.cell 4;simp only[List.getElem?_toArray,List.getElem?_cons_zero,List.getElem?_cons_succ] at d0 d1 d2 d3 d4;have HSL:=lh hsl;clear hown4 hg4 hsl c0 c1 c2 c3 c4 s0 s1 s2))
   have hlt:g < (w4.setCell ⟨w1.heap.size+1,3,none⟩ (.slice (some ⟨g,0,none⟩) (7+1) cp)).heap.size:=by
    obtain⟨_,_,hA',h,_⟩:=HSL.out.get (k:=0) (by omega)
    cases hA'
    exact h
   have hbl:=HN.out.bel.size
   have hwf:∀ x∈aAll,(Lit.int .i64 x.1).wf=true∧(Lit.int .i64 x.2.1).wf=true∧(Lit.int .i64 x.2.2).wf=true:=by
    intro x hx
    have hall:(aAll.all fun x=>(Lit.int .i64 x.1).wf && (Lit.int .i64 x.2.1).wf && (Lit.int .i64 x.2.2).wf)=true:=by decide +kernel
    have:=List.all_eq_true.1 hall x hx
    simp only[Bool.and_eq_true] at this
    exact⟨this.1.1,this.1.2,this.2⟩
   have hsn:Sl (w4.setCell ⟨w1.heap.size+1,3,none⟩ (.slice (some ⟨g,0,none⟩) (7+1) cp)) 1 (some ⟨w1.heap.size,0,none⟩) 2 (strs aNames):=by
    refine⟨rfl,.inr ⟨_,0,rfl,HN.out.ns.lt,fun j x hx=>?_⟩⟩
    rw[HN.out.ns.cell]
    simpa [strs,aNames] using hx
   refine(Format_any (nm:=⟨#[109]⟩) (p:=1) (l:=2) aAll aNames rfl (by decide) hcp hwf HSL.out rfl (Nat.le_refl _) hsn (by decide) (by decide) (by decide) (by decide) (by decide) (by decide) (HT.out.below HN.out.bel)).mono ?_
   rintro e w5 ⟨gf,cf,rfl,hcf,hslf,hb5,_⟩
   have hlen9:(fmtL ⟨#[109]⟩ 1 2 aAll aNames aAll.length).length=9:=rfl
   rw[hlen9] at hcf hslf ⊢
   obtain⟨_,of,hAf,hbf,hcellf⟩:=hslf.get (k:=0) (by omega)
   cases hAf
   have e0:w5.cell? ⟨gf,0,none⟩=some (.string ⟨#[109,101,116,104,111,100,32,109,32,49,32,50]⟩):=by
    rw[← a_head]
    have:=hcellf 0 (.string (headB ⟨#[109]⟩ 1 2)) rfl
    simpa using this
   have e8:w5.cell? ⟨gf,8,none⟩=some (.string ⟨#[55,32,115,101,110,100,32,103,111,32,50]⟩):=by
    rw[← a_line]
    have:=hcellf 8 (.string (lineB aNames 7 (21,1,2))) rfl
    simpa using this
   have HB5:=lh (HN.out.bel.trans (hb5.mono hbl))
   have hsd5:=HN.out.sd.below hb5 HN.out.sd.lt
   have s0:w5.cell? ⟨w.heap.size,0,none⟩=some (.int .i64 21):=hsd5.cell 0
   have s1:w5.cell? ⟨w.heap.size,1,none⟩=some (.int .i64 1):=hsd5.cell 1
   have s2:w5.cell? ⟨w.heap.size,2,none⟩=some (.int .i64 2):=hsd5.cell 2
   have hz5:w.heap.size < w5.heap.size:=hsd5.lt
   have h0c:0 < cf:=by omega
   have h8c:8 < cf:=by omega
   have v1:validB 16 11 0=false:=by decide +kernel
   have v2:validB 21 1 2=true:=by decide +kernel
   have HV:=lh (And.intro v1 v2)
   clear hlt hbl hwf hsn hlen9 hslf hcellf hb5 hsd5 v1 v2 hcf d0 d1 d2 d3 d4 hcp
   go_wp2_with fail
   refine(Valid_no HV.out.1 _).mono ?_
   rintro e w6 ⟨rfl,hb6⟩
   have s0':=((bcell hb6).1 w.heap.size 0 hz5).trans s0
   have s1':=((bcell hb6).1 w.heap.size 1 hz5).trans s1
   have s2':=((bcell hb6).1 w.heap.size 2 hz5).trans s2
   have HB6:=lh (HB5.out.trans (hb6.mono (Nat.le_of_lt hz5)))
   clear hb6 s0 s1 s2 e0 e8
   go_wp2_with fail
   refine(Valid_yes' HV.out.2 _).mono ?_
   rintro e w7 ⟨rfl,hb7⟩
   go_wp2
   go_ret
   exact⟨rfl,HB6.out.trans (hb7.mono HB6.out.size)⟩
end
section
open Go.RowKit
attribute [local go_sem] Oper.semAt_some
section
variable {w:World} {cs:List Cls} {A:Option Addr} {n c:Nat}
set_option maxHeartbeats 4000000 in
theorem LEnc_any (hC:CodeR w cs A n c) (ht:Tabs w):Calls Tryd.prog 5 #[.agg #[.slice A n c]] w (YesP w true):=by
 obtain⟨W,hW⟩:∃ W,W=w.alloc (.cells #[.slice A n c] 24):=⟨_,rfl⟩
 obtain⟨g,hg⟩:∃ g,g=w.heap.size:=⟨_,rfl⟩
 have hb0:Below w.heap.size w W:=by rw[hW];exact(Below.refl _ _).alloc (Nat.le_refl _) _
 have hk0:Bk W g 24 #[.slice A n c]:=by rw[hW,hg];exact Bk.new _ _ _
 have HC:=lh (hC.below hb0)
 have HT:=lh (ht.below hb0)
 have HB0:=lh hb0
 have HG:Hid (∀ w',Below W.heap.size W w'→w'.cell? ⟨g,0,none⟩=some (.slice A n c)):=lh fun w' h=>((bcell h).1 _ _ hk0.lt).trans (hk0.cell 0)
 have HOK:=lh hC.okP
 clear hC ht hb0 hk0
 go_enter Tryd.func5,Tryd.ntmps5
 go_upto_region 1 with fail
 rw[← hW,← hg]
 clear hW hg
 go_wp2_with fail
 refine(awakeB _ HT.out).mono ?_
 rintro e w1 ⟨rfl,hb1⟩
 have HB1:=lh hb1
 have a0:=HG.out w1 hb1
 clear hb1
 go_wp2_with fail
 refine(Few_any (most:=80) (HC.out.below HB1.out) (by omega) (by omega)).mono ?_
 rintro e w2 ⟨⟨b,rfl,hbb⟩,hb2⟩
 have HB2:=lh (HB1.out.trans (hb2.mono HB1.out.size))
 have HBB:=lh hbb
 clear hbb hb2 a0
 cases b with
 | false =>
  go_wp2_with fail
  refine(awakeB _ (HT.out.below HB2.out)).mono ?_
  rintro e w3 ⟨rfl,hb3⟩
  have HB3:=lh (HB2.out.trans (hb3.mono HB2.out.size))
  clear hb3
  go_wp2_with fail
  go_ret
  exact⟨rfl,HB0.out.trans (HB3.out.mono HB0.out.size)⟩
 | true =>
  have hfew:fewP cs 80:=HBB.out rfl
  have hlen:=encCode_bound HOK.out.codeOk hfew
  have h8:=encCode_b8 HOK.out.codeOk
  have HF:=lh (And.intro hfew (And.intro hlen h8))
  have a0:=HG.out w2 HB2.out
  clear hfew hlen h8 HBB
  go_wp2_with fail
  refine(Encode_any (HC.out.below HB2.out) HF.out.2.1).mono ?_
  rintro e w3 ⟨v3,rfl,ho3,hb3⟩
  obtain⟨A3,c3,rfl,_⟩:=own_shape ho3
  have HO3:=lh ho3
  have HB3:=lh (HB2.out.trans (hb3.mono HB2.out.size))
  clear ho3 hb3 a0
  have a0:=HG.out w3 HB3.out
  go_wp2_with fail
  refine(REncode_any (HC.out.below HB3.out) HF.out.2.1).mono ?_
  rintro e w4 ⟨v4,rfl,ho4,hb4⟩
  obtain⟨A4,c4,rfl,_⟩:=own_shape ho4
  have HO4:=lh ho4
  have HB4:=lh (HB3.out.trans (hb4.mono HB3.out.size))
  have HS3:=lh (own_below HO3.out hb4)
  clear ho4 hb4 a0
  go_wp2_with fail
  have cS:=RSame_any (c:=c3) (d:=c4) (own_sl HS3.out) (own_spot HS3.out) (own_sl HO4.out) (own_spot HO4.out) HF.out.2.2 HF.out.2.2
  rw[decide_eq_true rfl] at cS
  refine cS.mono ?_
  rintro e w5 ⟨rfl,rfl⟩
  clear cS
  go_wp2_with fail
  refine(Decode_any (c:=c3) (own_sl HS3.out) HF.out.2.2 (Nat.le_trans HF.out.2.1 (by decide))).mono ?_
  rintro e w6 ⟨hb6,h6⟩
  have HB6:=lh (HB4.out.trans (hb6.mono HB4.out.size))
  clear hb6
  have HB7:Hid (∀ u:Value,Below W.heap.size W (w6.alloc (.cells #[u] 24))):=lh fun u=>HB6.out.alloc HB6.out.size _
  by_cases hw:withinP cs
  ·have hd:=dec_yes (hw.code HOK.out HF.out.1)
   rw[hd] at h6
   have h6:=h6.resolve_left (fun h=>h.1 (by simp))
   obtain⟨_,A6,c6,xs,rfl,ho6,he6⟩:=h6
   have HD:Hid (CodeR (w6.alloc (.cells #[.slice A6 cs.length c6] 24)) cs A6 cs.length c6):=lh ((codeR_of ho6 he6 HOK.out).below ((Below.refl _ _).alloc (Nat.le_refl _) _))
   have HW:=lh hw
   have a0:=HG.out _ (HB7.out (.slice A6 cs.length c6))
   have b0:(w6.alloc (.cells #[.slice A6 cs.length c6] 24)).cell? ⟨w6.heap.size,0,none⟩=some (.slice A6 cs.length c6):=(Bk.new _ _ _).cell 0
   have hlt:w6.heap.size < (w6.alloc (.cells #[.slice A6 cs.length c6] 24)).heap.size:=by simp
   have HB8:=lh (HB7.out (.slice A6 cs.length c6))
   obtain⟨w7,h7⟩:∃ w7,w7=w6.alloc (.cells #[.slice A6 cs.length c6] 24):=⟨_,rfl⟩
   obtain⟨gd,hgd⟩:∃ gd,gd=w6.heap.size:=⟨_,rfl⟩
   rw[← h7] at HD a0 b0 hlt HB8
   rw[← hgd] at b0 hlt
   clear hd ho6 he6 hw HB7
   go_upto_region 7 with fail
   rw[← h7,← hgd]
   clear h7 hgd
   go_wp2_with fail
   refine(Within_any (HC.out.below HB8.out) (x:=true) ⟨fun _=>HW.out,fun _=>rfl⟩).mono ?_
   rintro e w8 ⟨rfl,hb8⟩
   have b1:=((bcell hb8).1 gd 0 hlt).trans b0
   have HB9:=lh (HB8.out.trans (hb8.mono HB8.out.size))
   have HD9:=lh (HD.out.below hb8)
   have hlt2:=Nat.lt_of_lt_of_le hlt hb8.size
   clear a0 b0 hb8 hlt
   have a0:=HG.out _ HB9.out
   go_wp2_with fail
   have cR:=RSameC_any (HC.out.below HB9.out) HD9.out
   rw[decide_eq_true rfl] at cR
   refine cR.mono ?_
   rintro e w9 ⟨rfl,hb9⟩
   have b2:=((bcell hb9).1 gd 0 hlt2).trans b1
   have HB10:=lh (HB9.out.trans (hb9.mono HB9.out.size))
   have HD10:=lh (HD9.out.below hb9)
   clear a0 b1 hb9 hlt2 cR
   have a0:=HG.out _ HB10.out
   go_wp2_with fail
   have cE:=Equal_any (HC.out.below HB10.out) HD10.out
   rw[decide_eq_true rfl] at cE
   refine cE.mono ?_
   rintro e w10 ⟨rfl,hb10⟩
   have HB11:=lh (HB10.out.trans (hb10.mono HB10.out.size))
   clear a0 b2 hb10 cE
   go_wp2_with fail
   go_ret
   exact⟨rfl,HB0.out.trans (HB11.out.mono HB0.out.size)⟩
  ·have hd:=dec_no HOK.out HF.out.1 hw
   rw[hd] at h6
   have h6:=h6.resolve_right (fun h=>by have:=h.1;simp[Rd.bad] at this)
   obtain⟨_,rfl⟩:=h6
   have he:(if (Rd.bad 8).e=0∧(Rd.bad 8).b≠[] then (11:Int) else (Rd.bad 8).e)=8:=rfl
   rw[he]
   have HW:=lh hw
   have a0:=HG.out _ (HB7.out (.slice none 0 0))
   have b0:(w6.alloc (.cells #[.slice none 0 0] 24)).cell? ⟨w6.heap.size,0,none⟩=some (.slice none 0 0):=(Bk.new _ _ _).cell 0
   have hlt:w6.heap.size < (w6.alloc (.cells #[.slice none 0 0] 24)).heap.size:=by simp
   have HB8:=lh (HB7.out (.slice none 0 0))
   obtain⟨w7,h7⟩:∃ w7,w7=w6.alloc (.cells #[.slice none 0 0] 24):=⟨_,rfl⟩
   obtain⟨gd,hgd⟩:∃ gd,gd=w6.heap.size:=⟨_,rfl⟩
   rw[← h7] at a0 b0 hlt HB8
   rw[← hgd] at b0 hlt
   clear hd hw HB7 he
   go_upto_region 7 with fail
   rw[← h7,← hgd]
   clear h7 hgd
   go_wp2_with fail
   refine(Within_any (HC.out.below HB8.out) (x:=false) ⟨fun h=>(by cases h),fun h=>absurd h HW.out⟩).mono ?_
   rintro e w8 ⟨rfl,hb8⟩
   have b1:=((bcell hb8).1 gd 0 hlt).trans b0
   have HB9:=lh (HB8.out.trans (hb8.mono HB8.out.size))
   clear a0 b0 hb8 hlt
   go_wp2_with fail
   go_ret
   exact⟨rfl,HB0.out.trans (HB9.out.mono HB0.out.size)⟩
end
end
end Go.Proofs.YtmbnlccafcfbeaaDoor
