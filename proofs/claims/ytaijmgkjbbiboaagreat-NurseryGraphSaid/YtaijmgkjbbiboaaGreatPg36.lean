/- Parts of the proof: Graph10. -/
import Derived.Test.YtaijmgkjbbiboaaGreatPgA
import Derived.Test.YtaijmgkjbbiboaaGreatPg26
import Derived.Test.YtaijmgkjbbiboaaGreatPg32
import Derived.Test.YtaijmgkjbbiboaaGreatPg33
import Derived.Test.YtaijmgkjbbiboaaGreatPg35
set_option linter.unusedVariables false
set_option linter.unusedSimpArgs false
set_option linter.unusedSectionVars false
set_option maxRecDepth 100000
namespace Go.Proofs.YtaijmgkjbbiboaaGreat
section
open Go.RowKit Go.Sort
attribute [local go_sem] Oper.semAt_some onlyN_normal
theorem below_set3g {B g:Nat} {w w':World} (h:Below B w w') (hg:B≤g) (x y z:Value):Below B w (((w'.setCell ⟨g,0,none⟩ x).setCell ⟨g,1,none⟩ y).setCell ⟨g,2,none⟩ z):=((h.setCell (p:=⟨g,0,none⟩) hg _).setCell (p:=⟨g,1,none⟩) hg _).setCell (p:=⟨g,2,none⟩) hg _
theorem below_set2g {B g:Nat} {w w':World} (h:Below B w w') (hg:B≤g) (x y:Value):Below B w ((w'.setCell ⟨g,0,none⟩ x).setCell ⟨g,1,none⟩ y):=(h.setCell (p:=⟨g,0,none⟩) hg _).setCell (p:=⟨g,1,none⟩) hg _
section
variable {w:World} {Al A3:Option Addr} {n cl n3 c3:Nat} {limit:Int}
theorem gra10_big (h:¬ (n≤60∧n3≤20∧limit≤2000)):Calls Tryz.prog 3 #[.int .i64 limit,.slice Al n cl,.slice A3 n3 c3] w fun e w'=>e=.returned (.bool true)∧Below w.heap.size w w':=by
 have cA:=awake10_any w
 by_cases hm:60 < n ∨ 20 < n3
 ·have cM:=fun {w1:World}=>Many10_any (w:=w1) (Al:=Al) (n:=n) (cl:=cl) (r:=n3)
  rw[decide_eq_true hm] at cM
  clear h hm
  go_enter Tryz.func3,Tryz.ntmps3
  go_wp2_with fail
  refine cA.mono ?_
  rintro e w1 ⟨rfl,hb1⟩
  have HB1:=lh hb1
  clear hb1 cA
  go_wp2_with fail
  refine cM.mono ?_
  rintro e w2 ⟨rfl,rfl⟩
  clear cM
  go_wp2_with fail
  go_ret
  exact⟨rfl,HB1.out⟩
 ·have cM:=fun {w1:World}=>Many10_any (w:=w1) (Al:=Al) (n:=n) (cl:=cl) (r:=n3)
  rw[decide_eq_false hm] at cM
  have hl:2000 < limit:=by omega
  have dl:decide (limit > 2000)=true:=decide_eq_true (by omega)
  clear h hm hl
  go_enter Tryz.func3,Tryz.ntmps3
  go_wp2_with fail
  refine cA.mono ?_
  rintro e w1 ⟨rfl,hb1⟩
  have HB1:=lh hb1
  clear hb1 cA
  go_wp2_with fail
  refine cM.mono ?_
  rintro e w2 ⟨rfl,rfl⟩
  clear cM
  go_wp2_with fail
  go_ret
  exact⟨rfl,HB1.out⟩
end
section
variable {w:World} {Al A3:Option Addr} {cl n3 c3:Nat} {l:List OpV} {limit:Int}
theorem gra10_np (hl:Op10 w Al l) (hcl:l.length≤cl) (hn:l.length≤60) (hpl:l.all plO=false) (hn3:n3≤20) (hlim:limit≤2000):Calls Tryz.prog 3 #[.int .i64 limit,.slice Al l.length cl,.slice A3 n3 c3] w fun e w'=>e=.returned (.bool true)∧Below w.heap.size w w':=by
 have cA:=awake10_any w
 have cM:=fun {w1:World}=>Many10_any (w:=w1) (Al:=Al) (n:=l.length) (cl:=cl) (r:=n3)
 rw[decide_eq_false (show ¬ (60 < l.length ∨ 20 < n3) by omega)] at cM
 have dl:decide (limit > 2000)=false:=decide_eq_false (by omega)
 have cP:=fun {w1:World} (hb:Below w.heap.size w w1)=>Plain10_any (hl.below hb rfl) hcl (by omega)
 rw[hpl] at cP
 clear hl hcl hn hlim hpl
 go_enter Tryz.func3,Tryz.ntmps3
 go_wp2_with fail
 refine cA.mono ?_
 rintro e wa ⟨rfl,hba⟩
 have HBA:=lh hba
 have cP1:=cP hba
 clear hba cA cP
 go_wp2_with fail
 refine cM.mono ?_
 rintro e wb ⟨rfl,rfl⟩
 clear cM
 go_wp2_with fail
 refine cP1.mono ?_
 rintro e wc ⟨rfl,rfl⟩
 clear cP1
 go_wp2_with fail
 go_ret
 exact⟨rfl,HBA.out⟩
end
section
variable {w:World} {Al:Option Addr} {cl:Nat} {l:List OpV} {limit:Int} {chs:List Int} {Ac:Option Addr} {cc:Nat}
set_option maxHeartbeats 16000000 in
theorem gra10_main (hl:Op10 w Al l) (hcl:l.length≤cl) (hn:l.length≤60) (hpl:l.all plO=true) (h3:IS w chs Ac cc) (h3r:∀ x∈chs,-9223372036854775808≤x∧x≤9223372036854775807) (hn3:chs.length≤20) (hlim:limit≤2000):Calls Tryz.prog 3 #[.int .i64 limit,.slice Al l.length cl,.slice Ac chs.length cc] w fun e w'=>e=.returned (.bool true)∧Below w.heap.size w w':=by
 have cA:=awake10_any w
 have cM:=fun {w1:World}=>Many10_any (w:=w1) (Al:=Al) (n:=l.length) (cl:=cl) (r:=chs.length)
 rw[decide_eq_false (show ¬ (60 < l.length ∨ 20 < chs.length) by omega)] at cM
 have cO:=fun {w1:World} (hb:Below w.heap.size w w1)=>Open10_any (hl.below hb rfl) hcl (by omega) limit
 have dl:decide (limit > 2000)=false:=decide_eq_false (by omega)
 have HR0:Hid (∀ {w1:World},Below w.heap.size w w1→IS w1 chs Ac cc):=lh fun hb=>h3.below hb
 have HRU:=lh (And.intro h3r hn3)
 clear h3 h3r hn3
 have HLN:=lh (And.intro hn hlim)
 have cP:=fun {w1:World} (hb:Below w.heap.size w w1)=>Plain10_any (hl.below hb rfl) hcl (by omega)
 rw[hpl] at cP
 have HWF0:Hid (Wf10 (bld10 limit l)):=lh (Wf10.play l (Wf10.nil limit) fun o ho=>by
  refine plO_ok (List.all_eq_true.1 hpl o ho) ?_
  rcases hl with e | ⟨bb,oo,_,_,hc⟩
  ·rw[e] at ho;cases ho
  ·obtain⟨i,hi⟩:=List.getElem?_of_mem ho
   exact(hc i o hi).1.w)
 clear hl hcl hn hlim hpl
 go_enter Tryz.func3,Tryz.ntmps3
 go_wp2_with fail
 refine cA.mono ?_
 rintro e wa ⟨rfl,hba⟩
 have HBA:=lh hba
 have cO1:=cO hba
 have cP1:=cP hba
 clear hba cA cO cP
 go_wp2_with fail
 refine cM.mono ?_
 rintro e wb ⟨rfl,rfl⟩
 clear cM
 go_wp2_with fail
 refine cP1.mono ?_
 rintro e wc ⟨rfl,rfl⟩
 clear cP1
 go_wp2_with fail
 refine cO1.mono ?_
 rintro e w2 ⟨hop,hin⟩
 obtain⟨g1,g2,V1,V2,gt,bt,k,A1,u1,A2,u2,A,u,Ax,cx,Ah,ch,B1,rfl,hen⟩:=Env10.start hop (by have:=hin.cs.len;have:=HLN.out;omega)
 obtain⟨s,hs⟩:∃ s,s=bld10 limit l:=⟨_,rfl⟩
 rw[← hs] at hin hen ⊢
 have HWF:Hid (Wf10 s):=lh (by rw[hs];exact HWF0.out)
 have HIN:=lh hin
 have HEN:=lh hen
 have HXL:Hid (s.xs.length≤60∧s.cs.length≤60∧s.m.size≤40000000):=lh ⟨by have:=hin.xl;have:=HLN.out;omega,by have:=hin.cs.len;have:=HLN.out;omega,hin.size⟩
 clear hs
 clear hop hin hen cO1 HWF0
 go_upto_region 8 with fail
 obtain⟨w3,hw3⟩:∃ w3,w3=(w2.alloc (.cells #[.pointer (some ⟨g1,0,none⟩),.pointer (some ⟨g2,0,none⟩)] 29)).alloc (.cells #[.int .i64 s.m.old.base,.int .i64 s.m.old.limit,.slice A1 s.m.old.ws.length u1,.int .i64 s.m.yng.base,.int .i64 s.m.yng.limit,.slice A2 s.m.yng.ws.length u2,.slice A s.cs.length u,.slice Ax s.xs.length cx,.slice Ah s.hs.length ch] 40):=⟨_,rfl⟩
 obtain⟨bm,hbm⟩:∃ bm,bm=w2.heap.size:=⟨_,rfl⟩
 obtain⟨bx,hbx⟩:∃ bx,bx=w2.heap.size+1:=⟨_,rfl⟩
 rw[← hw3,← hbx,← hbm] at HEN
 rw[← hw3,← hbx,← hbm]
 clear hw3 hbm hbx
 have HB3:Hid (Below w.heap.size w w3):=lh (HBA.out.trans (HEN.out.bl.mono HBA.out.size))
 have cRt:=HEN.out.roots (by have:=HXL.out.1;omega) (HR0.out HB3.out) (by have:=HRU.out.2;omega) HRU.out.1
 unfold Rts10P at cRt
 have xc0:w3.cell? ⟨bx,0,none⟩=some (.int .i64 s.m.old.base):=HEN.out.hx.cell 0
 have xc1:w3.cell? ⟨bx,1,none⟩=some (.int .i64 s.m.old.limit):=HEN.out.hx.cell 1
 have xc2:w3.cell? ⟨bx,2,none⟩=some (.slice A1 s.m.old.ws.length u1):=HEN.out.hx.cell 2
 have xc3:w3.cell? ⟨bx,3,none⟩=some (.int .i64 s.m.yng.base):=HEN.out.hx.cell 3
 have xc4:w3.cell? ⟨bx,4,none⟩=some (.int .i64 s.m.yng.limit):=HEN.out.hx.cell 4
 have xc5:w3.cell? ⟨bx,5,none⟩=some (.slice A2 s.m.yng.ws.length u2):=HEN.out.hx.cell 5
 have xc6:w3.cell? ⟨bx,6,none⟩=some (.slice A s.cs.length u):=HEN.out.hx.cell 6
 have xc7:w3.cell? ⟨bx,7,none⟩=some (.slice Ax s.xs.length cx):=HEN.out.hx.cell 7
 have xc8:w3.cell? ⟨bx,8,none⟩=some (.slice Ah s.hs.length ch):=HEN.out.hx.cell 8
 obtain⟨rt,hrt⟩:∃ rt,rt=rts10 s.xs chs:=⟨_,rfl⟩
 have HRT:Hid (rt.length≤20∧∀ x∈rt,U64 x):=lh (by
  rw[hrt]
  exact⟨by unfold rts10;rw[List.length_map];exact HRU.out.2,rts10_u _ _⟩)
 have HRE:=lh hrt
 rw[← hrt] at cRt
 clear hrt
 go_wp2_with fail
 refine cRt.mono ?_
 rintro e w4 ⟨v,rfl,hown,hb4⟩
 obtain⟨Av,cv,rfl,hcv⟩:=own_shape hown
 have HE4:=lh (HEN.out.below hb4)
 have HV4:=lh (And.intro hcv hown)
 have HB4:=lh (HB3.out.trans (hb4.mono HB3.out.size))
 have HZ4:Hid (w3.heap.size≤w4.heap.size∧∀ q,colS g1 g2 V1 V2 bt q→q < w3.heap.size):=lh ⟨hb4.size,fun q hq=>HEN.out.lt hq⟩
 have cW:=RWalk_any HE4.out.rm.o
 unfold rsV at cW
 have HOL:Hid (s.m.old.objs.length≤16777216):=lh (objs_len HIN.out.ok)
 clear cRt hown hcv hb4 xc0 xc1 xc2 xc3 xc4 xc5 xc6 xc7 xc8
 have xc0:w4.cell? ⟨bx,0,none⟩=some (.int .i64 s.m.old.base):=HE4.out.hx.cell 0
 have xc1:w4.cell? ⟨bx,1,none⟩=some (.int .i64 s.m.old.limit):=HE4.out.hx.cell 1
 have xc2:w4.cell? ⟨bx,2,none⟩=some (.slice A1 s.m.old.ws.length u1):=HE4.out.hx.cell 2
 have xc3:w4.cell? ⟨bx,3,none⟩=some (.int .i64 s.m.yng.base):=HE4.out.hx.cell 3
 have xc4:w4.cell? ⟨bx,4,none⟩=some (.int .i64 s.m.yng.limit):=HE4.out.hx.cell 4
 have xc5:w4.cell? ⟨bx,5,none⟩=some (.slice A2 s.m.yng.ws.length u2):=HE4.out.hx.cell 5
 have xc6:w4.cell? ⟨bx,6,none⟩=some (.slice A s.cs.length u):=HE4.out.hx.cell 6
 have xc7:w4.cell? ⟨bx,7,none⟩=some (.slice Ax s.xs.length cx):=HE4.out.hx.cell 7
 have xc8:w4.cell? ⟨bx,8,none⟩=some (.slice Ah s.hs.length ch):=HE4.out.hx.cell 8
 go_wp2_with fail
 refine cW.mono ?_
 rintro e w5 ⟨v5,rfl,hown5,hb5⟩
 obtain⟨A5,c5,rfl,hc5⟩:=own_shape hown5
 have HE5:=lh (HE4.out.below hb5)
 have HV5:=lh (And.intro HV4.out.1 (own_local HV4.out.2 fun q hq=>hb5.block q (HV4.out.2.lt q hq).2))
 have HB5:=lh (HB4.out.trans (hb5.mono HB4.out.size))
 have HW5:=lh (And.intro hc5 hown5)
 have HZ5:Hid (w4.heap.size≤w5.heap.size):=lh hb5.size
 have cV:=Covered10_any (Ax:=Ax) (cx:=cx) (Ah:=Ah) (ch:=ch) HE5.out.rm HIN.out.ok HE5.out.rc (by have:=HXL.out.2.1;omega)
 clear cW hown5 hc5 hb5 xc0 xc1 xc2 xc3 xc4 xc5 xc6 xc7 xc8
 have xc0:w5.cell? ⟨bx,0,none⟩=some (.int .i64 s.m.old.base):=HE5.out.hx.cell 0
 have xc1:w5.cell? ⟨bx,1,none⟩=some (.int .i64 s.m.old.limit):=HE5.out.hx.cell 1
 have xc2:w5.cell? ⟨bx,2,none⟩=some (.slice A1 s.m.old.ws.length u1):=HE5.out.hx.cell 2
 have xc3:w5.cell? ⟨bx,3,none⟩=some (.int .i64 s.m.yng.base):=HE5.out.hx.cell 3
 have xc4:w5.cell? ⟨bx,4,none⟩=some (.int .i64 s.m.yng.limit):=HE5.out.hx.cell 4
 have xc5:w5.cell? ⟨bx,5,none⟩=some (.slice A2 s.m.yng.ws.length u2):=HE5.out.hx.cell 5
 have xc6:w5.cell? ⟨bx,6,none⟩=some (.slice A s.cs.length u):=HE5.out.hx.cell 6
 have xc7:w5.cell? ⟨bx,7,none⟩=some (.slice Ax s.xs.length cx):=HE5.out.hx.cell 7
 have xc8:w5.cell? ⟨bx,8,none⟩=some (.slice Ah s.hs.length ch):=HE5.out.hx.cell 8
 by_cases hcv:(s.m.crossing (cardIn s.cs)).length=(s.m.crossing fun _=>true).length
 case neg =>
  rw[decide_eq_false hcv] at cV
  clear hcv
  go_wp2_with fail
  refine cV.mono ?_
  rintro e w9 ⟨rfl,hb9⟩
  have HB9:=lh (HB5.out.trans (hb9.mono HB5.out.size))
  clear cV hb9
  go_wp2_with fail
  go_ret
  exact⟨rfl,HB9.out⟩
 case pos =>
  rw[decide_eq_true hcv] at cV
  have HCV:=lh (covered_mem hcv)
  clear hcv
  go_wp2_with fail
  refine cV.mono ?_
  rintro e w6 ⟨rfl,hb6⟩
  have HE6:=lh (HE5.out.below hb6)
  have HB6:=lh (HB5.out.trans (hb6.mono HB5.out.size))
  have HV6:=lh (And.intro HV5.out.1 (own_local HV5.out.2 fun q hq=>hb6.block q (HV5.out.2.lt q hq).2))
  have HW6:=lh (And.intro HW5.out.1 (own_local HW5.out.2 fun q hq=>hb6.block q (HW5.out.2.lt q hq).2))
  have cK:=RChk_any HE6.out.rm.o
  clear cV hb6 xc0 xc1 xc2 xc3 xc4 xc5 xc6 xc7 xc8
  have xc0:w6.cell? ⟨bx,0,none⟩=some (.int .i64 s.m.old.base):=HE6.out.hx.cell 0
  have xc1:w6.cell? ⟨bx,1,none⟩=some (.int .i64 s.m.old.limit):=HE6.out.hx.cell 1
  have xc2:w6.cell? ⟨bx,2,none⟩=some (.slice A1 s.m.old.ws.length u1):=HE6.out.hx.cell 2
  have xc3:w6.cell? ⟨bx,3,none⟩=some (.int .i64 s.m.yng.base):=HE6.out.hx.cell 3
  have xc4:w6.cell? ⟨bx,4,none⟩=some (.int .i64 s.m.yng.limit):=HE6.out.hx.cell 4
  have xc5:w6.cell? ⟨bx,5,none⟩=some (.slice A2 s.m.yng.ws.length u2):=HE6.out.hx.cell 5
  have xc6:w6.cell? ⟨bx,6,none⟩=some (.slice A s.cs.length u):=HE6.out.hx.cell 6
  have xc7:w6.cell? ⟨bx,7,none⟩=some (.slice Ax s.xs.length cx):=HE6.out.hx.cell 7
  have xc8:w6.cell? ⟨bx,8,none⟩=some (.slice Ah s.hs.length ch):=HE6.out.hx.cell 8
  by_cases hck:s.m.old.chk=0
  case neg =>
   have hck2:s.m.old.chk=11:=by
    unfold Spc.chk at hck ⊢
    split
    ·rename_i hh
     rw[if_pos hh] at hck
     exact absurd rfl hck
    ·rfl
   rw[hck2] at cK
   clear hck hck2
   go_wp2_with fail
   refine cK.mono ?_
   rintro e wt ⟨rfl,hbt⟩
   have HBT:=lh (HB6.out.trans (hbt.mono HB6.out.size))
   clear cK hbt
   go_wp2_with fail
   go_ret
   exact⟨rfl,HBT.out⟩
  case pos =>
   rw[hck] at cK
   clear hck
   go_wp2_with fail
   refine cK.mono ?_
   rintro e w7 ⟨rfl,hb7⟩
   have HE7:=lh (HE6.out.below hb7)
   have HB7:=lh (HB6.out.trans (hb7.mono HB6.out.size))
   have HV7:=lh (And.intro HV6.out.1 (own_local HV6.out.2 fun q hq=>hb7.block q (HV6.out.2.lt q hq).2))
   have HW7:=lh (And.intro HW6.out.1 (own_local HW6.out.2 fun q hq=>hb7.block q (HW6.out.2.lt q hq).2))
   clear cK hb7 xc0 xc1 xc2 xc3 xc4 xc5 xc6 xc7 xc8
   have cC:=HE7.out.collect (own_sl HV7.out.2) HV7.out.1 (by have:=HRT.out.1;omega) HRT.out.2 (fun b o e=>by
    have h1:=HV7.out.2.lt b (by rw[e];rfl)
    refine⟨h1.2,fun e'=>?_⟩
    have h2:=HZ4.out.2 b e'
    omega) HXL.out.2.2
   obtain⟨Q1,hQ1⟩:∃ Q1,Q1=ColP w7 B1 B1 g1 g2 gt bt k V1 V2 (s.m.collect s.m.yng.chk s.cs rt):=⟨_,rfl⟩
   rw[← hQ1] at cC
   have mc0:w7.cell? ⟨bm,0,none⟩=some (.pointer (some ⟨g1,0,none⟩)):=HE7.out.hm.cell 0
   have mc1:w7.cell? ⟨bm,1,none⟩=some (.pointer (some ⟨g2,0,none⟩)):=HE7.out.hm.cell 1
   go_wp2_with fail
   refine cC.mono ?_
   rintro e w8 hcp
   rw[hQ1] at hcp
   clear cC mc0 mc1 hQ1
   by_cases he:(s.m.collect s.m.yng.chk s.cs rt).e=0
   case neg =>
    obtain⟨v8,V1',V2',k',rfl,ho8,hen8,_,_⟩:=HE7.out.col hcp
    have HB8:=lh (HBA.out.trans (hen8.bl.mono HBA.out.size))
    obtain⟨C,hC⟩:∃ C,C=s.m.collect s.m.yng.chk s.cs rt:=⟨_,rfl⟩
    rw[← hC] at he ⊢ ho8
    obtain⟨A8,c8,rfl,_⟩:=own_shape ho8
    have de:decide (C.e≠0)=true:=decide_eq_true he
    have de2:(C.e == 0)=false:=by simpa using he
    have de3:(C.e != 0)=true:=by simpa using he
    clear he hC hcp hen8 ho8
    go_wp2_with fail
    go_ret
    exact⟨rfl,HB8.out⟩
   case pos =>
    obtain⟨L,U,Z,hf,_,hck,hc⟩:=collect_0 HIN.out.ok he
    rw[hc] at hcp
    obtain⟨v8,V1',V2',k',rfl,ho8,hen8,_,hk8⟩:=HE7.out.col hcp
    dsimp only at hen8 ho8 ⊢
    have HG:Hid (Gra s rt L U Z):=lh ⟨hf,HWF.out,HCV.out⟩
    obtain⟨M,hM⟩:∃ M,M=(s.m.mid U Z).emp:=⟨_,rfl⟩
    rw[← hM] at hen8
    obtain⟨nw,hnw⟩:∃ nw,nw=rt.map (s.m.mvd L (s.m.plc s.m.old.top L)):=⟨_,rfl⟩
    rw[← hnw] at ho8
    have HNW:Hid (nw.length=rt.length∧∀ (j:Nat) (x:Int),rt[j]?=some x→∃ y,nw[j]?=some y∧U64 y∧Cmp s L M x y):=lh (by
     rw[hnw]
     refine⟨by rw[List.length_map],fun j x hx=>⟨s.m.mvd L (s.m.plc s.m.old.top L) x,by rw[List.getElem?_map,hx];rfl,Mm.mvd_u _ _ _ (HRT.out.2 x (List.mem_of_getElem? hx)),?_⟩⟩
     rw[hM]
     exact HG.out.root (List.mem_of_getElem? hx) HRE.out)
    obtain⟨A8,c8,rfl,hc8⟩:=own_shape ho8
    have HE8:=lh hen8
    have HB8:=lh (HBA.out.trans (hen8.bl.mono HBA.out.size))
    have hno:∀ q,w3.heap.size≤q→¬ colS g1 g2 V1 V2 bt q:=fun q hq e'=>by have:=HZ4.out.2 q e';omega
    have HV8:=lh (And.intro HV7.out.1 (own_sl (own_kp HV7.out.2 hk8 fun q hq=>hno q (by have:=(HV7.out.2.lt q hq).1;omega))))
    have HW8:=lh (And.intro HW7.out.1 (own_sl (own_kp HW7.out.2 hk8 fun q hq=>hno q (by have:=(HW7.out.2.lt q hq).1;have:=HZ4.out.1;omega))))
    have hnl:nw.length=rt.length:=HNW.out.1
    have HN8:=lh (And.intro hc8 (own_sl ho8))
    rw[hnl] at HN8 ⊢
    have HMM:=lh hM
    have HSZ:=lh HXL.out.2.2
    clear he hc hcp hen8 hf hM hnw ho8 hc8 hck hno hk8 hnl
    go_wp2_with fail
    have HOP:Hid ((w8.alloc (.cells #[] 62)).ownsRow w8.heap.size 62 2 (.slice (some ⟨w8.heap.size,0,none⟩) 0 0) 0 (PrC (s.to L) [])):=lh (ownEmpty 2 (Bk.new _ _ _) (Nat.le_refl _))
    have HBP:Hid (Below w8.heap.size w8 (w8.alloc (.cells #[] 62))):=lh ((Below.refl _ _).alloc (Nat.le_refl _) _)
    have hrl:rt.length≤20:=HRT.out.1
    go_loopw [10,17,18] (fun ok v ix wr=>∃ (j:Nat) (K:List Int),ix=.int .i64 (j:Int)∧ok=.bool true∧j≤rt.length∧wr.ownsRow w8.heap.size 62 2 v K.length (PrC (s.to L) K)∧Prs s L K∧Below w8.heap.size w8 wr) (fun _ _ ix _=>rt.length - (intOf ix).toNat)
    case atStart=>exact⟨0,[],rfl,rfl,Nat.zero_le _,HOP.out,⟨by simp,by simp⟩,HBP.out⟩
    case round =>
     clear HOP HBP
     obtain⟨j,K,rfl,rfl,hj,hown,hprs,hb⟩:=hrel
     have HOW:=lh hown
     have HPR:=lh hprs
     have HBL:=lh hb
     obtain⟨Ak,ck,rfl,hck⟩:=own_shape hown
     have hkl:K.length≤40000000:=Nat.le_trans (HG.out.few hprs.nd hprs.gd) HSZ.out
     clear hown hprs hb
     by_cases hlt:j < rt.length
     ·have HEL:=lh (HE8.out.below HBL.out)
      have hx:rt[j]?=some rt[j]:=List.getElem?_eq_getElem hlt
      obtain⟨y,hy,hyu,hcmp⟩:=HNW.out.2 j _ hx
      have hxu:=HRT.out.2 _ (List.mem_of_getElem? hx)
      obtain⟨b1,o1,hA1,hbl1,hc1⟩:=(HV8.out.2.below HBL.out).2.resolve_left (by omega)
      obtain⟨b2,o2,hA2,hbl2,hc2⟩:=(HN8.out.2.below HBL.out).2.resolve_left (by omega)
      have e1:wr.cell? ⟨b1,o1+j,none⟩=some (.int .u64 rt[j]):=hc1 j _ (wds_get hx)
      have e2:wr.cell? ⟨b2,o2+j,none⟩=some (.int .u64 y):=hc2 j _ (wds_get hy)
      subst hA1 hA2
      generalize rt[j]=x at *
      have hcv:=HV8.out.1
      have hcn:=HN8.out.1
      have h1j:j < cv:=by omega
      have h2j:j < c8:=by omega
      have HCE:=lh (And.intro hbl1 (And.intro e1 (And.intro hbl2 e2)))
      have HXX:=lh HEL.out.hx
      have HMX:=lh HEL.out.hm
      have HCMP:=lh (And.intro hcmp (And.intro hxu hyu))
      clear hx hy hyu hcmp hxu hbl1 hbl2 hc1 hc2 e1 e2
      go_upto_region 19 with fail
      refine wp_region_first 12 (fun i=>([[],[0],[],[],[],[],[4,5],[6],[],[],[8,9],[10]]:List (List Nat)).getD i []) (EL [Ent.val (.pointer (some ⟨bx,0,none⟩)),Ent.val (.agg #[.int .i64 s.m.old.base,.int .i64 s.m.old.limit,.slice A1 s.m.old.ws.length u1,.int .i64 s.m.yng.base,.int .i64 s.m.yng.limit,.slice A2 s.m.yng.ws.length u2]),Ent.val (.agg #[.pointer (some ⟨g1,0,none⟩),.pointer (some ⟨g2,0,none⟩)]),Ent.val (.slice Ak K.length ck),Ent.val (.slice (some ⟨b1,o1,none⟩) rt.length cv),Ent.val (.int .i64 (j:Int)),Ent.val (.pointer (some ⟨b1,o1+j,none⟩)),Ent.val (.int .u64 x),Ent.val (.slice (some ⟨b2,o2,none⟩) rt.length c8),Ent.val (.int .i64 (j:Int)),Ent.val (.pointer (some ⟨b2,o2+j,none⟩)),Ent.val (.int .u64 y)]) rfl (by kernel_rfl) (by kernel_rfl) (by kernel_rfl) (by rfl) ?_ ?_
      ·intro i hi o ho vs w1 hb1 hgr
       rcases (show i=0 ∨ i=1 ∨ i=2 ∨ i=3 ∨ i=4 ∨ i=5 ∨ i=6 ∨ i=7 ∨ i=8 ∨ i=9 ∨ i=10 ∨ i=11 by omega) with rfl | rfl | rfl | rfl | rfl | rfl | rfl | rfl | rfl | rfl | rfl | rfl <;> cases ho
       ·clear hgr
        change Made _ (Adds _ _ _) (Sem.run _ (execOp (Act.eval (frm _ _ _ [])) _) _)
        simp only[frm]
        go_simp
        exact adds_val rfl
       ·have h0:vs 0=_:=hgr 0 (by decide)
        clear hgr
        change Made _ (Adds _ _ _) (Sem.run _ (execOp (Act.eval (Act.put (frm _ _ _ []) (some 112) (vs 0))) _) _)
        simp only[frm,h0]
        have hbk:=HXX.out.below hb1 HXX.out.lt
        have c0:w1.cell? ⟨bx,0,none⟩=some (.int .i64 s.m.old.base):=hbk.cell 0
        have c1:w1.cell? ⟨bx,1,none⟩=some (.int .i64 s.m.old.limit):=hbk.cell 1
        have c2:w1.cell? ⟨bx,2,none⟩=some (.slice A1 s.m.old.ws.length u1):=hbk.cell 2
        have c3:w1.cell? ⟨bx,3,none⟩=some (.int .i64 s.m.yng.base):=hbk.cell 3
        have c4:w1.cell? ⟨bx,4,none⟩=some (.int .i64 s.m.yng.limit):=hbk.cell 4
        have c5:w1.cell? ⟨bx,5,none⟩=some (.slice A2 s.m.yng.ws.length u2):=hbk.cell 5
        clear hbk
        go_simp
        exact adds_val rfl
       ·clear hgr
        change Made _ (Adds _ _ _) (Sem.run _ (execOp (Act.eval (frm _ _ _ [])) _) _)
        simp only[frm]
        have hbk:=HMX.out.below hb1 HMX.out.lt
        have c0:w1.cell? ⟨bm,0,none⟩=some (.pointer (some ⟨g1,0,none⟩)):=hbk.cell 0
        have c1:w1.cell? ⟨bm,1,none⟩=some (.pointer (some ⟨g2,0,none⟩)):=hbk.cell 1
        clear hbk
        go_simp
        exact adds_val rfl
       ·clear hgr
        change Made _ (Adds _ _ _) (Sem.run _ (execOp (Act.eval (frm _ _ _ [])) _) _)
        simp only[frm]
        go_simp
        exact adds_val rfl
       ·clear hgr
        change Made _ (Adds _ _ _) (Sem.run _ (execOp (Act.eval (frm _ _ _ [])) _) _)
        simp only[frm]
        go_simp
        exact adds_val rfl
       ·clear hgr
        change Made _ (Adds _ _ _) (Sem.run _ (execOp (Act.eval (frm _ _ _ [])) _) _)
        simp only[frm]
        go_simp
        exact adds_val rfl
       ·have h4:vs 4=_:=hgr 4 (by decide)
        have h5:vs 5=_:=hgr 5 (by decide)
        clear hgr
        change Made _ (Adds _ _ _) (Sem.run _ (execOp (Act.eval (Act.put (Act.put (frm _ _ _ []) (some 117) (vs 5)) (some 116) (vs 4))) _) _)
        simp only[frm,h4,h5]
        go_simp
        exact adds_val rfl
       ·have h6:vs 6=_:=hgr 6 (by decide)
        clear hgr
        change Made _ (Adds _ _ _) (Sem.run _ (execOp (Act.eval (Act.put (frm _ _ _ []) (some 118) (vs 6))) _) _)
        simp only[frm,h6]
        have e4:w1.cell? ⟨b1,o1+j,none⟩=some (.int .u64 x):=((bcell hb1).1 _ _ HCE.out.1).trans HCE.out.2.1
        go_simp
        exact adds_val rfl
       ·clear hgr
        change Made _ (Adds _ _ _) (Sem.run _ (execOp (Act.eval (frm _ _ _ [])) _) _)
        simp only[frm]
        go_simp
        exact adds_val rfl
       ·clear hgr
        change Made _ (Adds _ _ _) (Sem.run _ (execOp (Act.eval (frm _ _ _ [])) _) _)
        simp only[frm]
        go_simp
        exact adds_val rfl
       ·have h8:vs 8=_:=hgr 8 (by decide)
        have h9:vs 9=_:=hgr 9 (by decide)
        clear hgr
        change Made _ (Adds _ _ _) (Sem.run _ (execOp (Act.eval (Act.put (Act.put (frm _ _ _ []) (some 121) (vs 9)) (some 120) (vs 8))) _) _)
        simp only[frm,h8,h9]
        go_simp
        exact adds_val rfl
       ·have h10:vs 10=_:=hgr 10 (by decide)
        clear hgr
        change Made _ (Adds _ _ _) (Sem.run _ (execOp (Act.eval (Act.put (frm _ _ _ []) (some 122) (vs 10))) _) _)
        simp only[frm,h10]
        have e4:w1.cell? ⟨b2,o2+j,none⟩=some (.int .u64 y):=((bcell hb1).1 _ _ HCE.out.2.2.1).trans HCE.out.2.2.2
        go_simp
        exact adds_val rfl
      intro vs w1 hb1 hall hap
      have h0:vs 0=_:=(hall 0 (by omega)).1
      have h1:vs 1=_:=(hall 1 (by omega)).1
      have h2:vs 2=_:=(hall 2 (by omega)).1
      have h3:vs 3=_:=(hall 3 (by omega)).1
      have h4:vs 4=_:=(hall 4 (by omega)).1
      have h5:vs 5=_:=(hall 5 (by omega)).1
      have h6:vs 6=_:=(hall 6 (by omega)).1
      have h7:vs 7=_:=(hall 7 (by omega)).1
      have h8:vs 8=_:=(hall 8 (by omega)).1
      have h9:vs 9=_:=(hall 9 (by omega)).1
      have h10:vs 10=_:=(hall 10 (by omega)).1
      have h11:vs 11=_:=(hall 11 (by omega)).1
      clear hall hap
      change wpList _ _ _ [_] (Act.put (Act.put (Act.put (Act.put (Act.put (Act.put (Act.put (Act.put (Act.put (Act.put (Act.put (Act.put (frm _ _ _ []) (some 123) (vs 11)) (some 122) (vs 10)) (some 121) (vs 9)) (some 120) (vs 8)) (some 119) (vs 7)) (some 118) (vs 6)) (some 117) (vs 5)) (some 116) (vs 4)) (some 115) (vs 3)) (some 114) (vs 2)) (some 113) (vs 1)) (some 112) (vs 0)) _
      simp only[frm,h0,h1,h2,h3,h4,h5,h6,h7,h8,h9,h10,h11]
      have HED:=lh (HEL.out.below hb1)
      have HWB:=lh (HBL.out.trans (hb1.mono HBL.out.size))
      have HOX:=lh (own_local HOW.out fun q hq=>hb1.block q (HOW.out.lt q hq).2)
      have cC:Calls Tryz.prog 18 #[.agg #[.int .i64 s.m.old.base,.int .i64 s.m.old.limit,.slice A1 s.m.old.ws.length u1,.int .i64 s.m.yng.base,.int .i64 s.m.yng.limit,.slice A2 s.m.yng.ws.length u2],.agg #[.pointer (some ⟨g1,0,none⟩),.pointer (some ⟨g2,0,none⟩)],.slice Ak K.length ck,.int .u64 x,.int .u64 y] w1 (CmpP10 w8.heap.size w1 (.slice Ak K.length ck) s L K):=Compare10_any HG.out HED.out.rm HED.out.mr HOX.out HWB.out.size HPR.out HCMP.out.1 HCMP.out.2.1 HCMP.out.2.2 HSZ.out
      clear hb1 HXX HMX HCE HEL HOW
      go_wp2_with fail
      rename_i hKK
      refine cC.mono ?_
      rintro e w4 ⟨v9,K9,rfl,ho9,hk9,hv9,hp9,_⟩
      have HO9:=lh ho9
      have HP9:=lh hp9
      have HB9:Hid (Below w8.heap.size w8 w4):=lh (hk9.toBelow HWB.out HWB.out.size fun q hq=>(HOX.out.lt q hq).1)
      obtain⟨A9,c9,rfl,_⟩:=own_shape ho9
      clear cC ho9 hk9 hv9 hp9
      refine hKK _ _ ?_
      clear hKK
      refine phase2_open (m:=13) (by decide) ?_
      refine wpAny_go [13] (by kernel_rfl) (by simp) ?_
      intro i hi
      obtain rfl:i=13:=by simpa using hi
      clear hi
      refine⟨_,.tuple #[.slice A9 K9.length c9,.bool true],rfl,rfl,rfl,?_⟩
      refine wpAny_go [14,15] (by kernel_rfl) (by simp) ?_
      intro i hi
      rcases (show i=14 ∨ i=15 by simpa using hi) with rfl | rfl
      ·clear hi
       refine⟨_,.slice A9 K9.length c9,rfl,rfl,rfl,?_⟩
       refine wpAny_go [15,16] (by kernel_rfl) (by simp) ?_
       intro i hi
       rcases (show i=15 ∨ i=16 by simpa using hi) with rfl | rfl
       ·clear hi
        refine⟨_,.bool true,rfl,rfl,rfl,?_⟩
        refine wpAny_go [16] (by kernel_rfl) (by simp) ?_
        intro i hi
        obtain rfl:i=16:=by simpa using hi
        clear hi
        refine⟨_,.slice A9 K9.length c9,rfl,rfl,rfl,?_⟩
        refine wpAny_go [17] (by kernel_rfl) (by simp) ?_
        intro i hi
        obtain rfl:i=17:=by simpa using hi
        clear hi
        refine⟨_,.bool true,rfl,rfl,rfl,?_⟩
        refine wpAny_fin (by kernel_rfl) ?_
        simp only[Act.put,List.setIfInBounds_toArray,List.set_cons_succ,List.set_cons_zero]
        go_wp2_with fail
        go_roundw
        case rel=>exact⟨j+1,K9,by go_num,rfl,by omega,HO9.out,HP9.out,HB9.out⟩
        case measure=>simp[intOf];omega
       ·clear hi
        refine⟨_,.slice A9 K9.length c9,rfl,rfl,rfl,?_⟩
        refine wpAny_go [15] (by kernel_rfl) (by simp) ?_
        intro i hi
        obtain rfl:i=15:=by simpa using hi
        clear hi
        refine⟨_,.bool true,rfl,rfl,rfl,?_⟩
        refine wpAny_go [17] (by kernel_rfl) (by simp) ?_
        intro i hi
        obtain rfl:i=17:=by simpa using hi
        clear hi
        refine⟨_,.bool true,rfl,rfl,rfl,?_⟩
        refine wpAny_fin (by kernel_rfl) ?_
        simp only[Act.put,List.setIfInBounds_toArray,List.set_cons_succ,List.set_cons_zero]
        go_wp2_with fail
        go_roundw
        case rel=>exact⟨j+1,K9,by go_num,rfl,by omega,HO9.out,HP9.out,HB9.out⟩
        case measure=>simp[intOf];omega
      ·clear hi
       refine⟨_,.bool true,rfl,rfl,rfl,?_⟩
       refine wpAny_go [14] (by kernel_rfl) (by simp) ?_
       intro i hi
       obtain rfl:i=14:=by simpa using hi
       clear hi
       refine⟨_,.slice A9 K9.length c9,rfl,rfl,rfl,?_⟩
       refine wpAny_go [16] (by kernel_rfl) (by simp) ?_
       intro i hi
       obtain rfl:i=16:=by simpa using hi
       clear hi
       refine⟨_,.slice A9 K9.length c9,rfl,rfl,rfl,?_⟩
       refine wpAny_go [17] (by kernel_rfl) (by simp) ?_
       intro i hi
       obtain rfl:i=17:=by simpa using hi
       clear hi
       refine⟨_,.bool true,rfl,rfl,rfl,?_⟩
       refine wpAny_fin (by kernel_rfl) ?_
       simp only[Act.put,List.setIfInBounds_toArray,List.set_cons_succ,List.set_cons_zero]
       go_wp2_with fail
       go_roundw
       case rel=>exact⟨j+1,K9,by go_num,rfl,by omega,HO9.out,HP9.out,HB9.out⟩
       case measure=>simp[intOf];omega
     ·go_wp2_with fail
      clear hlt hj
      have HBL1:=lh HBL.out
      go_loopw [10,17,19] (fun ok v ix wr=>∃ (j:Nat) (K:List Int),ix=.int .i64 (j:Int)∧ok=.bool true∧j≤s.m.old.objs.length∧wr.ownsRow w8.heap.size 62 2 v K.length (PrC (s.to L) K)∧Prs s L K∧Below w8.heap.size w8 wr) (fun _ _ ix _=>s.m.old.objs.length - (intOf ix).toNat)
      case atStart=>exact⟨0,K,rfl,rfl,Nat.zero_le _,HOW.out,HPR.out,HBL.out⟩
      case round =>
       clear HOW HPR HBL hck hkl
       obtain⟨j,K,rfl,rfl,hj,hown,hprs,hb⟩:=hrel
       have HOW:=lh hown
       have HPR:=lh hprs
       have HBL:=lh hb
       obtain⟨Ak,ck,rfl,hck⟩:=own_shape hown
       have hkl:K.length≤40000000:=Nat.le_trans (HG.out.few hprs.nd hprs.gd) HSZ.out
       have hol:=HOL.out
       clear hown hprs hb
       by_cases hlt:j < s.m.old.objs.length
       ·have HEL:=lh (HE8.out.below HBL.out)
        have hx:s.m.old.objs[j]?=some s.m.old.objs[j]:=List.getElem?_eq_getElem hlt
        obtain⟨ha0,ha1,hcmp⟩:=HG.out.before (List.mem_of_getElem? hx)
        rw[← HMM.out] at hcmp
        obtain⟨b1,o1,hA1,hbl1,hc1⟩:=(HW8.out.2.below HBL.out).2.resolve_left (by omega)
        have e1:wr.cell? ⟨b1,o1+j,none⟩=some (.int .i64 s.m.old.objs[j]):=hc1 j _ (ints_get hx)
        subst hA1
        generalize s.m.old.objs[j]=a at *
        have cF:=fun w=>RFromAddress_any a w
        have hin:inA a=true:=decide_eq_true (by omega)
        unfold frA at cF
        rw[if_pos hin] at cF
        have hfr:frW a=adW a:=by unfold frW;first | rw[if_pos hin] | rfl
        have hxu:U64 (frW a):=frW_u a
        rw[← hfr] at cF
        generalize frW a=x at *
        have cC:Calls Tryz.prog 18 #[.agg #[.int .i64 s.m.old.base,.int .i64 s.m.old.limit,.slice A1 s.m.old.ws.length u1,.int .i64 s.m.yng.base,.int .i64 s.m.yng.limit,.slice A2 s.m.yng.ws.length u2],.agg #[.pointer (some ⟨g1,0,none⟩),.pointer (some ⟨g2,0,none⟩)],.slice Ak K.length ck,.int .u64 x,.int .u64 x] wr (CmpP10 w8.heap.size wr (.slice Ak K.length ck) s L K):=Compare10_any HG.out HEL.out.rm HEL.out.mr HOW.out HBL.out.size HPR.out hcmp hxu hxu HSZ.out
        have hcv:=HW8.out.1
        have h1j:j < c5:=by omega
        have mc0:wr.cell? ⟨bm,0,none⟩=some (.pointer (some ⟨g1,0,none⟩)):=HEL.out.hm.cell 0
        have mc1:wr.cell? ⟨bm,1,none⟩=some (.pointer (some ⟨g2,0,none⟩)):=HEL.out.hm.cell 1
        have xc0:wr.cell? ⟨bx,0,none⟩=some (.int .i64 s.m.old.base):=HEL.out.hx.cell 0
        have xc1:wr.cell? ⟨bx,1,none⟩=some (.int .i64 s.m.old.limit):=HEL.out.hx.cell 1
        have xc2:wr.cell? ⟨bx,2,none⟩=some (.slice A1 s.m.old.ws.length u1):=HEL.out.hx.cell 2
        have xc3:wr.cell? ⟨bx,3,none⟩=some (.int .i64 s.m.yng.base):=HEL.out.hx.cell 3
        have xc4:wr.cell? ⟨bx,4,none⟩=some (.int .i64 s.m.yng.limit):=HEL.out.hx.cell 4
        have xc5:wr.cell? ⟨bx,5,none⟩=some (.slice A2 s.m.yng.ws.length u2):=HEL.out.hx.cell 5
        have xc6:wr.cell? ⟨bx,6,none⟩=some (.slice A s.cs.length u):=HEL.out.hx.cell 6
        have xc7:wr.cell? ⟨bx,7,none⟩=some (.slice Ax s.xs.length cx):=HEL.out.hx.cell 7
        have xc8:wr.cell? ⟨bx,8,none⟩=some (.slice Ah s.hs.length ch):=HEL.out.hx.cell 8
        clear hx ha0 ha1 hcmp hxu hbl1 hc1 hin hfr
        go_wp2_with fail
        refine(cF _).mono ?_
        rintro e w9 ⟨rfl,rfl⟩
        clear cF
        go_wp2_with fail
        refine cC.mono ?_
        rintro e w9 ⟨v9,K9,rfl,ho9,hk9,hv9,hp9,_⟩
        have HO9:=lh ho9
        have HP9:=lh hp9
        have HB9:Hid (Below w8.heap.size w8 w9):=lh (hk9.toBelow HBL.out HBL.out.size fun q hq=>(HOW.out.lt q hq).1)
        obtain⟨A9,c9,rfl,_⟩:=own_shape ho9
        clear cC ho9 hk9 hv9 hp9 mc0 mc1 xc0 xc1 xc2 xc3 xc4 xc5 xc6 xc7 xc8 e1
        go_wp2_with fail
        go_roundw
        case rel=>exact⟨j+1,K9,by go_num,rfl,by omega,HO9.out,HP9.out,HB9.out⟩
        case measure=>simp[intOf];omega
       ·go_wp2_with fail
        clear hlt hj
        have HBL2:=lh HBL.out
        go_loopw [10,17,22] (fun ok v ix wr=>∃ (i:Nat) (K:List Int),ix=.int .i64 (i:Int)∧ok=.bool true∧i≤K.length∧wr.ownsRow w8.heap.size 62 2 v K.length (PrC (s.to L) K)∧Prs s L K∧Below w8.heap.size w8 wr) (fun _ _ ix _=>s.m.size+1 - (intOf ix).toNat)
        case atStart=>exact⟨0,K,rfl,rfl,Nat.zero_le _,HOW.out,HPR.out,HBL.out⟩
        case round =>
         clear HOW HPR HBL hck hkl
         obtain⟨i,K,rfl,rfl,hi,hown,hprs,hb⟩:=hrel
         have HOW:=lh hown
         have HPR:=lh hprs
         have HBL:=lh hb
         obtain⟨Ak,ck,rfl,hck⟩:=own_shape hown
         have hks:K.length≤s.m.size:=HG.out.few hprs.nd hprs.gd
         have hkl:K.length≤40000000:=Nat.le_trans hks HSZ.out
         have HKS:=lh hks
         clear hown hprs hb hks
         by_cases hlt:i < K.length
         ·have HEL:=lh (HE8.out.below HBL.out)
          have hx:K[i]?=some K[i]:=List.getElem?_eq_getElem hlt
          have hgd:=HPR.out.gd _ (List.mem_of_getElem? hx)
          have h0:=HG.out.hd hgd.mem
          have hhead:=HG.out.head hgd
          rw[← HMM.out] at hhead
          have hpc:=PrC_get (s.to L) hx
          obtain⟨bb,oo,hA,hbl,hcc⟩:=(own_sl HOW.out).2.resolve_left (by omega)
          have e0:=hcc _ _ hpc.1
          have e1':=hcc _ _ hpc.2
          have e1:wr.cell? ⟨bb,oo+i*2+1,none⟩=some (.int .i64 (s.to L K[i])):=by rw[show oo+i*2+1=oo+(i*2+1) by omega];exact e1'
          have HXK:=lh hx
          have HGD:=lh hgd
          subst hA
          generalize K[i]=r at *
          have hrg:=hdr_rg HIN.out.ok h0
          obtain⟨t,ht⟩:∃ t,t=s.to L r:=⟨_,rfl⟩
          rw[← ht] at hhead e1
          have HT:=lh ht
          have HRG:Hid (0≤r∧r≤4294967295∧0≤t∧t < 16777216):=lh ⟨by omega,by omega,hhead.2.2.1,hhead.2.2.2⟩
          have HCE:=lh (And.intro hbl (And.intro e0 e1))
          have hid2:M.idOf t=s.m.idOf r:=by unfold Mm.idOf;rw[hhead.2.1]
          have HH:=lh hhead.1
          have HI2:=lh hid2
          have H0:=lh h0
          have hic:i < ck:=by omega
          have hv:=Mm.hdr_valid h0
          have hbd:=vH_bound hv
          have hwh:wH (s.m.hdr r).2=2+max 2 (s.m.hdr r).2.f:=by unfold wH;rw[if_pos hv];omega
          have HCH:Hid (∀ w',Below wr.heap.size wr w'→Calls Tryz.prog 20 #[.agg #[.int .i64 s.m.old.base,.int .i64 s.m.old.limit,.slice A1 s.m.old.ws.length u1,.int .i64 s.m.yng.base,.int .i64 s.m.yng.limit,.slice A2 s.m.yng.ws.length u2],.int .i64 r] w' fun e w''=>e=.returned (.tuple #[.agg #[.int .i64 (s.m.hdr r).2.k,.int .i64 (s.m.hdr r).2.c,.int .i64 (s.m.hdr r).2.f],.int .i64 0])∧Below w'.heap.size w' w''):=lh fun w' hb'=>RHeader_yes (HEL.out.below hb').rm r H0.out
          have HCG:Hid (∀ w',Below wr.heap.size wr w'→Calls Tryz.prog 21 #[.agg #[.pointer (some ⟨g1,0,none⟩),.pointer (some ⟨g2,0,none⟩)],.int .i64 t] w' fun e w''=>e=.returned (.tuple #[.agg #[.int .i64 (s.m.hdr r).2.k,.int .i64 (s.m.hdr r).2.c,.int .i64 (s.m.hdr r).2.f],.int .i64 0])∧Below w'.heap.size w' w''):=lh fun w' hb'=>by
           have h:=MHeader_yes (HEL.out.below hb').mr t (by rw[HH.out];exact H0.out)
           rw[HH.out] at h
           exact h
          have HCI:Hid (∀ w',Below wr.heap.size wr w'→Calls Tryz.prog 22 #[.agg #[.int .i64 s.m.old.base,.int .i64 s.m.old.limit,.slice A1 s.m.old.ws.length u1,.int .i64 s.m.yng.base,.int .i64 s.m.yng.limit,.slice A2 s.m.yng.ws.length u2],.int .i64 r] w' fun e w''=>e=.returned (.tuple #[.agg #[.int .i64 (s.m.idOf r).m,.int .i64 (s.m.idOf r).s],.int .i64 0])∧Below w'.heap.size w' w''):=lh fun w' hb'=>RID_yes (HEL.out.below hb').rm HIN.out.ok H0.out (by have:=HRG.out;omega)
          have HCJ:Hid (∀ w',Below wr.heap.size wr w'→Calls Tryz.prog 23 #[.agg #[.pointer (some ⟨g1,0,none⟩),.pointer (some ⟨g2,0,none⟩)],.int .i64 t] w' fun e w''=>e=.returned (.tuple #[.agg #[.int .i64 (s.m.idOf r).m,.int .i64 (s.m.idOf r).s],.int .i64 0])∧Below w'.heap.size w' w''):=lh fun w' hb'=>by
           have h:=MID_yes (HEL.out.below hb').mr (a:=t) (by rw[HH.out];exact H0.out) (by have:=HRG.out;omega)
           rw[HI2.out] at h
           exact h
          have HWD:Hid (∀ j:Nat,(j:Int) < max 2 (s.m.hdr r).2.f→∃ x y,s.m.at_ (r+2+(j:Int))=some x∧M.at_ (t+2+(j:Int))=some y∧((j:Int) < slotN (s.m.hdr r).2→Cmp s L M x y)∧(slotN (s.m.hdr r).2≤(j:Int)→x=y)):=lh fun j hj=>by
           have h:=HG.out.words HGD.out (j:=j) (by rw[hwh];omega)
           rw[← HMM.out,← HT.out] at h
           exact h
          obtain⟨⟨er,hk,hc_,hf⟩,hhd⟩:∃ q:Int × Hdr,q=s.m.hdr r:=⟨_,rfl⟩
          obtain⟨⟨im,is⟩,hid⟩:∃ q:Id,q=s.m.idOf r:=⟨_,rfl⟩
          rw[← hhd] at hbd hwh HWD
          simp only[← hhd] at HCH HCG
          simp only[← hid] at HCI HCJ
          dsimp only at hbd hwh HWD HCH HCG HCI HCJ
          have HFB:Hid (0≤hf∧hf≤30):=lh ⟨by omega,by omega⟩
          have HX0:=lh HEL.out.hx
          have HM0:=lh HEL.out.hm
          have HCS:=lh fun w=>RSlots_any ⟨hk,hc_,hf⟩ w
          have HLT:=lh hlt
          clear hx hgd h0 hhead hpc hbl hcc e0 e1' e1 hrg ht hid2 hv hbd hwh hhd hid HH HI2 H0 hlt
          go_upto_region 28 with fail
          refine wp_region_addsF0 12 (fun i=>([[],[0],[],[],[2,3],[4],[5],[1,6],[7],[8],[8],[]]:List (List Nat)).getD i []) [10] (EL [Ent.val (.pointer (some ⟨bx,0,none⟩)),Ent.val (.agg #[.int .i64 s.m.old.base,.int .i64 s.m.old.limit,.slice A1 s.m.old.ws.length u1,.int .i64 s.m.yng.base,.int .i64 s.m.yng.limit,.slice A2 s.m.yng.ws.length u2]),Ent.val (.slice (some ⟨bb,oo,none⟩) K.length ck),Ent.val (.int .i64 (i:Int)),Ent.val (.pointer (some ⟨bb,oo+i*2,none⟩)),Ent.val (.pointer (some ⟨bb,oo+i*2,none⟩)),Ent.val (.int .i64 r),Ent.val (.tuple #[.agg #[.int .i64 hk,.int .i64 hc_,.int .i64 hf],.int .i64 0]),Ent.val (.tuple #[.agg #[.int .i64 hk,.int .i64 hc_,.int .i64 hf],.int .i64 0]),Ent.val (.agg #[.int .i64 hk,.int .i64 hc_,.int .i64 hf]),Ent.val (.int .i64 0),Ent.blk 58 #[.int .i64 0,.int .i64 0,.int .i64 0]]) (by kernel_rfl) (by kernel_rfl) (by kernel_rfl) (by kernel_rfl) (by kernel_rfl) (by rfl) ?_ ?_
          ·intro i hi o ho vs wx1 hb1 hgr
           rcases (show i=0 ∨ i=1 ∨ i=2 ∨ i=3 ∨ i=4 ∨ i=5 ∨ i=6 ∨ i=7 ∨ i=8 ∨ i=9 ∨ i=10 ∨ i=11 by omega) with rfl | rfl | rfl | rfl | rfl | rfl | rfl | rfl | rfl | rfl | rfl | rfl <;> cases ho
           ·clear hgr
            change Made _ (Adds _ _ _) (Sem.run _ (execOp (Act.eval (frm _ _ _ [])) _) _)
            simp only[frm]
            go_simp
            exact adds_val rfl
           ·have h0:vs 0=_:=hgr 0 (by decide)
            clear hgr
            change Made _ (Adds _ _ _) (Sem.run _ (execOp (Act.eval (Act.put (frm _ _ _ []) (some 164) (vs 0))) _) _)
            simp only[frm,h0]
            have hbk:=HX0.out.below hb1 HX0.out.lt
            have c0:wx1.cell? ⟨bx,0,none⟩=some (.int .i64 s.m.old.base):=hbk.cell 0
            have c1:wx1.cell? ⟨bx,1,none⟩=some (.int .i64 s.m.old.limit):=hbk.cell 1
            have c2:wx1.cell? ⟨bx,2,none⟩=some (.slice A1 s.m.old.ws.length u1):=hbk.cell 2
            have c3:wx1.cell? ⟨bx,3,none⟩=some (.int .i64 s.m.yng.base):=hbk.cell 3
            have c4:wx1.cell? ⟨bx,4,none⟩=some (.int .i64 s.m.yng.limit):=hbk.cell 4
            have c5:wx1.cell? ⟨bx,5,none⟩=some (.slice A2 s.m.yng.ws.length u2):=hbk.cell 5
            clear hbk
            go_simp
            exact adds_val rfl
           ·clear hgr
            change Made _ (Adds _ _ _) (Sem.run _ (execOp (Act.eval (frm _ _ _ [])) _) _)
            simp only[frm]
            go_simp
            exact adds_val rfl
           ·clear hgr
            change Made _ (Adds _ _ _) (Sem.run _ (execOp (Act.eval (frm _ _ _ [])) _) _)
            simp only[frm]
            go_simp
            exact adds_val rfl
           ·have h2:vs 2=_:=hgr 2 (by decide)
            have h3:vs 3=_:=hgr 3 (by decide)
            clear hgr
            change Made _ (Adds _ _ _) (Sem.run _ (execOp (Act.eval (Act.put (Act.put (frm _ _ _ []) (some 167) (vs 3)) (some 166) (vs 2))) _) _)
            simp only[frm,h2,h3]
            go_simp
            exact adds_val rfl
           ·have h4:vs 4=_:=hgr 4 (by decide)
            clear hgr
            change Made _ (Adds _ _ _) (Sem.run _ (execOp (Act.eval (Act.put (frm _ _ _ []) (some 168) (vs 4))) _) _)
            simp only[frm,h4]
            go_simp
            exact adds_val rfl
           ·have h5:vs 5=_:=hgr 5 (by decide)
            clear hgr
            change Made _ (Adds _ _ _) (Sem.run _ (execOp (Act.eval (Act.put (frm _ _ _ []) (some 169) (vs 5))) _) _)
            simp only[frm,h5]
            have e4:wx1.cell? ⟨bb,oo+i*2,none⟩=some (.int .i64 r):=((bcell hb1).1 _ _ HCE.out.1).trans HCE.out.2.1
            go_simp
            exact adds_val rfl
           ·have h1:vs 1=_:=hgr 1 (by decide)
            have h6:vs 6=_:=hgr 6 (by decide)
            clear hgr
            change Made _ (Adds _ _ _) (Sem.run _ (execOp (Act.eval (Act.put (Act.put (frm _ _ _ []) (some 170) (vs 6)) (some 165) (vs 1))) _) _)
            simp only[frm,h1,h6]
            have cM:=HCH.out _ hb1
            go_simp
            exact adds_below cM
           ·have h7:vs 7=_:=hgr 7 (by decide)
            clear hgr
            change Made _ (Adds _ _ _) (Sem.run _ (execOp (Act.eval (Act.put (frm _ _ _ []) (some 171) (vs 7))) _) _)
            simp only[frm,h7]
            go_simp
            exact adds_val rfl
           ·have h8:vs 8=_:=hgr 8 (by decide)
            clear hgr
            change Made _ (Adds _ _ _) (Sem.run _ (execOp (Act.eval (Act.put (frm _ _ _ []) (some 163) (vs 8))) _) _)
            simp only[frm,h8]
            go_simp
            exact adds_val rfl
           ·have h8:vs 8=_:=hgr 8 (by decide)
            clear hgr
            change Made _ (Adds _ _ _) (Sem.run _ (execOp (Act.eval (Act.put (frm _ _ _ []) (some 163) (vs 8))) _) _)
            simp only[frm,h8]
            go_simp
            exact adds_val rfl
           ·clear hgr
            change Made _ (Adds _ _ _) (Sem.run _ (execOp (Act.eval (frm _ _ _ [])) _) _)
            simp only[frm]
            go_simp
            exact adds_blk
          intro vs wx1 hb1 hall hap
          obtain⟨⟨g11,h11,k11⟩,q11⟩:=hall 11 (by omega)
          have r11:wr.heap.size≤g11∧g11 < wx1.heap.size:=q11 g11 (by rw[h11];rfl)
          clear q11
          have h9:vs 9=_:=(hall 9 (by omega)).1
          have h10:vs 10=_:=(hall 10 (by omega)).1
          clear hall hap
          change wpList _ _ _ [_,_] (Act.put (Act.put (Act.put (Act.put (Act.put (Act.put (Act.put (Act.put (Act.put (Act.put (Act.put (Act.put (frm _ _ _ []) (some 23) (vs 11)) (some 173) (vs 10)) (some 172) (vs 9)) (some 163) (vs 8)) (some 171) (vs 7)) (some 170) (vs 6)) (some 169) (vs 5)) (some 168) (vs 4)) (some 167) (vs 3)) (some 166) (vs 2)) (some 165) (vs 1)) (some 164) (vs 0)) _
          simp only[frm,h9,h10,h11]
          have HB9:=lh hb1
          have HK9:=lh k11
          have hr10:=r11
          have d0:wx1.cell? ⟨g11,0,none⟩=some (.int .i64 0):=k11.cell 0
          have d1:wx1.cell? ⟨g11,1,none⟩=some (.int .i64 0):=k11.cell 1
          have d2:wx1.cell? ⟨g11,2,none⟩=some (.int .i64 0):=k11.cell 2
          have f0:=k11.free 0
          have f1:=k11.free 1
          have f2:=k11.free 2
          clear hb1 k11 r11 h9 h10 h11
          go_wp2_with fail
          have hbz:Below wr.heap.size wr (((wx1.setCell ⟨g11,0,none⟩ (.int .i64 hk)).setCell ⟨g11,1,none⟩ (.int .i64 hc_)).setCell ⟨g11,2,none⟩ (.int .i64 hf)):=below_set3g HB9.out (by omega) _ _ _
          have HKZ:=lh (HK9.out.set3 (.int .i64 hk) (.int .i64 hc_) (.int .i64 hf))
          have HBZ1:=lh (hbz)
          have HXA0:=lh (HX0.out.below hbz HX0.out.lt)
          have HMA0:=lh (HM0.out.below hbz HM0.out.lt)
          have HCE0:=lh (And.intro (Nat.lt_of_lt_of_le HCE.out.1 hbz.size) (And.intro (((bcell hbz).1 _ _ HCE.out.1).trans HCE.out.2.1) (((bcell hbz).1 _ _ HCE.out.1).trans HCE.out.2.2)))
          clear hbz HB9 HK9 hr10 d0 d1 d2 f0 f1 f2
          obtain⟨gq0,hgq⟩:∃ gq,gq=g11:=⟨_,rfl⟩
          generalize (((wx1.setCell ⟨g11,0,none⟩ (.int .i64 hk)).setCell ⟨g11,1,none⟩ (.int .i64 hc_)).setCell ⟨g11,2,none⟩ (.int .i64 hf))=wy1 at *
          rw[← hgq] at HKZ ⊢
          clear hgq
          have HKY0:=lh HKZ.out
          clear HKZ
          try rw[onlyN_normal]
          go_upto_region 29 with fail
          refine wp_region_addsF0 11 (fun i=>([[],[],[],[1,2],[3],[4],[0,5],[6],[7],[7],[]]:List (List Nat)).getD i []) [9] (EL [Ent.val (.agg #[.pointer (some ⟨g1,0,none⟩),.pointer (some ⟨g2,0,none⟩)]),Ent.val (.slice (some ⟨bb,oo,none⟩) K.length ck),Ent.val (.int .i64 (i:Int)),Ent.val (.pointer (some ⟨bb,oo+i*2,none⟩)),Ent.val (.pointer (some ⟨bb,oo+i*2+1,none⟩)),Ent.val (.int .i64 t),Ent.val (.tuple #[.agg #[.int .i64 hk,.int .i64 hc_,.int .i64 hf],.int .i64 0]),Ent.val (.tuple #[.agg #[.int .i64 hk,.int .i64 hc_,.int .i64 hf],.int .i64 0]),Ent.val (.agg #[.int .i64 hk,.int .i64 hc_,.int .i64 hf]),Ent.val (.int .i64 0),Ent.blk 58 #[.int .i64 0,.int .i64 0,.int .i64 0]]) (by kernel_rfl) (by kernel_rfl) (by kernel_rfl) (by kernel_rfl) (by kernel_rfl) (by rfl) ?_ ?_
          ·intro i hi o ho vs wx2 hb1 hgr
           rcases (show i=0 ∨ i=1 ∨ i=2 ∨ i=3 ∨ i=4 ∨ i=5 ∨ i=6 ∨ i=7 ∨ i=8 ∨ i=9 ∨ i=10 by omega) with rfl | rfl | rfl | rfl | rfl | rfl | rfl | rfl | rfl | rfl | rfl <;> cases ho
           ·clear hgr
            change Made _ (Adds _ _ _) (Sem.run _ (execOp (Act.eval (frm _ _ _ [])) _) _)
            simp only[frm]
            have hbk:=HMA0.out.below hb1 HMA0.out.lt
            have c0:wx2.cell? ⟨bm,0,none⟩=some (.pointer (some ⟨g1,0,none⟩)):=hbk.cell 0
            have c1:wx2.cell? ⟨bm,1,none⟩=some (.pointer (some ⟨g2,0,none⟩)):=hbk.cell 1
            clear hbk
            go_simp
            exact adds_val rfl
           ·clear hgr
            change Made _ (Adds _ _ _) (Sem.run _ (execOp (Act.eval (frm _ _ _ [])) _) _)
            simp only[frm]
            go_simp
            exact adds_val rfl
           ·clear hgr
            change Made _ (Adds _ _ _) (Sem.run _ (execOp (Act.eval (frm _ _ _ [])) _) _)
            simp only[frm]
            go_simp
            exact adds_val rfl
           ·have h1:vs 1=_:=hgr 1 (by decide)
            have h2:vs 2=_:=hgr 2 (by decide)
            clear hgr
            change Made _ (Adds _ _ _) (Sem.run _ (execOp (Act.eval (Act.put (Act.put (frm _ _ _ []) (some 177) (vs 2)) (some 176) (vs 1))) _) _)
            simp only[frm,h1,h2]
            go_simp
            exact adds_val rfl
           ·have h3:vs 3=_:=hgr 3 (by decide)
            clear hgr
            change Made _ (Adds _ _ _) (Sem.run _ (execOp (Act.eval (Act.put (frm _ _ _ []) (some 178) (vs 3))) _) _)
            simp only[frm,h3]
            go_simp
            exact adds_val rfl
           ·have h4:vs 4=_:=hgr 4 (by decide)
            clear hgr
            change Made _ (Adds _ _ _) (Sem.run _ (execOp (Act.eval (Act.put (frm _ _ _ []) (some 179) (vs 4))) _) _)
            simp only[frm,h4]
            have e4:wx2.cell? ⟨bb,oo+i*2+1,none⟩=some (.int .i64 t):=((bcell hb1).1 _ _ HCE0.out.1).trans HCE0.out.2.2
            go_simp
            exact adds_val rfl
           ·have h0:vs 0=_:=hgr 0 (by decide)
            have h5:vs 5=_:=hgr 5 (by decide)
            clear hgr
            change Made _ (Adds _ _ _) (Sem.run _ (execOp (Act.eval (Act.put (Act.put (frm _ _ _ []) (some 180) (vs 5)) (some 175) (vs 0))) _) _)
            simp only[frm,h0,h5]
            have cM:=HCG.out _ (HBZ1.out.trans (hb1.mono HBZ1.out.size))
            go_simp
            exact adds_below cM
           ·have h6:vs 6=_:=hgr 6 (by decide)
            clear hgr
            change Made _ (Adds _ _ _) (Sem.run _ (execOp (Act.eval (Act.put (frm _ _ _ []) (some 181) (vs 6))) _) _)
            simp only[frm,h6]
            go_simp
            exact adds_val rfl
           ·have h7:vs 7=_:=hgr 7 (by decide)
            clear hgr
            change Made _ (Adds _ _ _) (Sem.run _ (execOp (Act.eval (Act.put (frm _ _ _ []) (some 174) (vs 7))) _) _)
            simp only[frm,h7]
            go_simp
            exact adds_val rfl
           ·have h7:vs 7=_:=hgr 7 (by decide)
            clear hgr
            change Made _ (Adds _ _ _) (Sem.run _ (execOp (Act.eval (Act.put (frm _ _ _ []) (some 174) (vs 7))) _) _)
            simp only[frm,h7]
            go_simp
            exact adds_val rfl
           ·clear hgr
            change Made _ (Adds _ _ _) (Sem.run _ (execOp (Act.eval (frm _ _ _ [])) _) _)
            simp only[frm]
            go_simp
            exact adds_blk
          intro vs wx2 hb1 hall hap
          obtain⟨⟨g10,h10,k10⟩,q10⟩:=hall 10 (by omega)
          have r10:wy1.heap.size≤g10∧g10 < wx2.heap.size:=q10 g10 (by rw[h10];rfl)
          clear q10
          have h8:vs 8=_:=(hall 8 (by omega)).1
          have h9:vs 9=_:=(hall 9 (by omega)).1
          clear hall hap
          change wpList _ _ _ [_,_] (Act.put (Act.put (Act.put (Act.put (Act.put (Act.put (Act.put (Act.put (Act.put (Act.put (Act.put (frm _ _ _ []) (some 25) (vs 10)) (some 183) (vs 9)) (some 182) (vs 8)) (some 174) (vs 7)) (some 181) (vs 6)) (some 180) (vs 5)) (some 179) (vs 4)) (some 178) (vs 3)) (some 177) (vs 2)) (some 176) (vs 1)) (some 175) (vs 0)) _
          simp only[frm,h8,h9,h10]
          have HB9:=lh hb1
          have HK9:=lh k10
          have hr10:=r10
          have d0:wx2.cell? ⟨g10,0,none⟩=some (.int .i64 0):=k10.cell 0
          have d1:wx2.cell? ⟨g10,1,none⟩=some (.int .i64 0):=k10.cell 1
          have d2:wx2.cell? ⟨g10,2,none⟩=some (.int .i64 0):=k10.cell 2
          have f0:=k10.free 0
          have f1:=k10.free 1
          have f2:=k10.free 2
          clear hb1 k10 r10 h8 h9 h10
          go_wp2_with fail
          have hbz:Below wy1.heap.size wy1 (((wx2.setCell ⟨g10,0,none⟩ (.int .i64 hk)).setCell ⟨g10,1,none⟩ (.int .i64 hc_)).setCell ⟨g10,2,none⟩ (.int .i64 hf)):=below_set3g HB9.out (by omega) _ _ _
          have HKZ:=lh (HK9.out.set3 (.int .i64 hk) (.int .i64 hc_) (.int .i64 hf))
          have HBZ2:=lh (HBZ1.out.trans (hbz.mono HBZ1.out.size))
          have HXA1:=lh (HXA0.out.below hbz HXA0.out.lt)
          have HMA1:=lh (HMA0.out.below hbz HMA0.out.lt)
          have HCE1:=lh (And.intro (Nat.lt_of_lt_of_le HCE0.out.1 hbz.size) (And.intro (((bcell hbz).1 _ _ HCE0.out.1).trans HCE0.out.2.1) (((bcell hbz).1 _ _ HCE0.out.1).trans HCE0.out.2.2)))
          have HKY0_:=lh (HKY0.out.below hbz HKY0.out.lt)
          clear hbz HB9 HK9 hr10 d0 d1 d2 f0 f1 f2 HXA0 HMA0 HCE0 HBZ1 HKY0
          have HKY0:=lh HKY0_.out
          clear HKY0_
          obtain⟨gq1,hgq⟩:∃ gq,gq=g10:=⟨_,rfl⟩
          generalize (((wx2.setCell ⟨g10,0,none⟩ (.int .i64 hk)).setCell ⟨g10,1,none⟩ (.int .i64 hc_)).setCell ⟨g10,2,none⟩ (.int .i64 hf))=wy2 at *
          rw[← hgq] at HKZ ⊢
          clear hgq
          have HKY1:=lh HKZ.out
          clear HKZ
          try rw[onlyN_normal]
          go_upto_region 30 with fail
          refine wp_region_addsF0 12 (fun i=>([[],[0],[],[],[2,3],[4],[5],[1,6],[7],[8],[8],[]]:List (List Nat)).getD i []) [10] (EL [Ent.val (.pointer (some ⟨bx,0,none⟩)),Ent.val (.agg #[.int .i64 s.m.old.base,.int .i64 s.m.old.limit,.slice A1 s.m.old.ws.length u1,.int .i64 s.m.yng.base,.int .i64 s.m.yng.limit,.slice A2 s.m.yng.ws.length u2]),Ent.val (.slice (some ⟨bb,oo,none⟩) K.length ck),Ent.val (.int .i64 (i:Int)),Ent.val (.pointer (some ⟨bb,oo+i*2,none⟩)),Ent.val (.pointer (some ⟨bb,oo+i*2,none⟩)),Ent.val (.int .i64 r),Ent.val (.tuple #[.agg #[.int .i64 im,.int .i64 is],.int .i64 0]),Ent.val (.tuple #[.agg #[.int .i64 im,.int .i64 is],.int .i64 0]),Ent.val (.agg #[.int .i64 im,.int .i64 is]),Ent.val (.int .i64 0),Ent.blk 65 #[.int .i64 0,.int .i64 0]]) (by kernel_rfl) (by kernel_rfl) (by kernel_rfl) (by kernel_rfl) (by kernel_rfl) (by rfl) ?_ ?_
          ·intro i hi o ho vs wx3 hb1 hgr
           rcases (show i=0 ∨ i=1 ∨ i=2 ∨ i=3 ∨ i=4 ∨ i=5 ∨ i=6 ∨ i=7 ∨ i=8 ∨ i=9 ∨ i=10 ∨ i=11 by omega) with rfl | rfl | rfl | rfl | rfl | rfl | rfl | rfl | rfl | rfl | rfl | rfl <;> cases ho
           ·clear hgr
            change Made _ (Adds _ _ _) (Sem.run _ (execOp (Act.eval (frm _ _ _ [])) _) _)
            simp only[frm]
            go_simp
            exact adds_val rfl
           ·have h0:vs 0=_:=hgr 0 (by decide)
            clear hgr
            change Made _ (Adds _ _ _) (Sem.run _ (execOp (Act.eval (Act.put (frm _ _ _ []) (some 185) (vs 0))) _) _)
            simp only[frm,h0]
            have hbk:=HXA1.out.below hb1 HXA1.out.lt
            have c0:wx3.cell? ⟨bx,0,none⟩=some (.int .i64 s.m.old.base):=hbk.cell 0
            have c1:wx3.cell? ⟨bx,1,none⟩=some (.int .i64 s.m.old.limit):=hbk.cell 1
            have c2:wx3.cell? ⟨bx,2,none⟩=some (.slice A1 s.m.old.ws.length u1):=hbk.cell 2
            have c3:wx3.cell? ⟨bx,3,none⟩=some (.int .i64 s.m.yng.base):=hbk.cell 3
            have c4:wx3.cell? ⟨bx,4,none⟩=some (.int .i64 s.m.yng.limit):=hbk.cell 4
            have c5:wx3.cell? ⟨bx,5,none⟩=some (.slice A2 s.m.yng.ws.length u2):=hbk.cell 5
            clear hbk
            go_simp
            exact adds_val rfl
           ·clear hgr
            change Made _ (Adds _ _ _) (Sem.run _ (execOp (Act.eval (frm _ _ _ [])) _) _)
            simp only[frm]
            go_simp
            exact adds_val rfl
           ·clear hgr
            change Made _ (Adds _ _ _) (Sem.run _ (execOp (Act.eval (frm _ _ _ [])) _) _)
            simp only[frm]
            go_simp
            exact adds_val rfl
           ·have h2:vs 2=_:=hgr 2 (by decide)
            have h3:vs 3=_:=hgr 3 (by decide)
            clear hgr
            change Made _ (Adds _ _ _) (Sem.run _ (execOp (Act.eval (Act.put (Act.put (frm _ _ _ []) (some 188) (vs 3)) (some 187) (vs 2))) _) _)
            simp only[frm,h2,h3]
            go_simp
            exact adds_val rfl
           ·have h4:vs 4=_:=hgr 4 (by decide)
            clear hgr
            change Made _ (Adds _ _ _) (Sem.run _ (execOp (Act.eval (Act.put (frm _ _ _ []) (some 189) (vs 4))) _) _)
            simp only[frm,h4]
            go_simp
            exact adds_val rfl
           ·have h5:vs 5=_:=hgr 5 (by decide)
            clear hgr
            change Made _ (Adds _ _ _) (Sem.run _ (execOp (Act.eval (Act.put (frm _ _ _ []) (some 190) (vs 5))) _) _)
            simp only[frm,h5]
            have e4:wx3.cell? ⟨bb,oo+i*2,none⟩=some (.int .i64 r):=((bcell hb1).1 _ _ HCE1.out.1).trans HCE1.out.2.1
            go_simp
            exact adds_val rfl
           ·have h1:vs 1=_:=hgr 1 (by decide)
            have h6:vs 6=_:=hgr 6 (by decide)
            clear hgr
            change Made _ (Adds _ _ _) (Sem.run _ (execOp (Act.eval (Act.put (Act.put (frm _ _ _ []) (some 191) (vs 6)) (some 186) (vs 1))) _) _)
            simp only[frm,h1,h6]
            have cM:=HCI.out _ (HBZ2.out.trans (hb1.mono HBZ2.out.size))
            go_simp
            exact adds_below cM
           ·have h7:vs 7=_:=hgr 7 (by decide)
            clear hgr
            change Made _ (Adds _ _ _) (Sem.run _ (execOp (Act.eval (Act.put (frm _ _ _ []) (some 192) (vs 7))) _) _)
            simp only[frm,h7]
            go_simp
            exact adds_val rfl
           ·have h8:vs 8=_:=hgr 8 (by decide)
            clear hgr
            change Made _ (Adds _ _ _) (Sem.run _ (execOp (Act.eval (Act.put (frm _ _ _ []) (some 184) (vs 8))) _) _)
            simp only[frm,h8]
            go_simp
            exact adds_val rfl
           ·have h8:vs 8=_:=hgr 8 (by decide)
            clear hgr
            change Made _ (Adds _ _ _) (Sem.run _ (execOp (Act.eval (Act.put (frm _ _ _ []) (some 184) (vs 8))) _) _)
            simp only[frm,h8]
            go_simp
            exact adds_val rfl
           ·clear hgr
            change Made _ (Adds _ _ _) (Sem.run _ (execOp (Act.eval (frm _ _ _ [])) _) _)
            simp only[frm]
            go_simp
            exact adds_blk
          intro vs wx3 hb1 hall hap
          obtain⟨⟨g11,h11,k11⟩,q11⟩:=hall 11 (by omega)
          have r11:wy2.heap.size≤g11∧g11 < wx3.heap.size:=q11 g11 (by rw[h11];rfl)
          clear q11
          have h9:vs 9=_:=(hall 9 (by omega)).1
          have h10:vs 10=_:=(hall 10 (by omega)).1
          clear hall hap
          change wpList _ _ _ [_,_] (Act.put (Act.put (Act.put (Act.put (Act.put (Act.put (Act.put (Act.put (Act.put (Act.put (Act.put (Act.put (frm _ _ _ []) (some 27) (vs 11)) (some 194) (vs 10)) (some 193) (vs 9)) (some 184) (vs 8)) (some 192) (vs 7)) (some 191) (vs 6)) (some 190) (vs 5)) (some 189) (vs 4)) (some 188) (vs 3)) (some 187) (vs 2)) (some 186) (vs 1)) (some 185) (vs 0)) _
          simp only[frm,h9,h10,h11]
          have HB9:=lh hb1
          have HK9:=lh k11
          have hr10:=r11
          have d0:wx3.cell? ⟨g11,0,none⟩=some (.int .i64 0):=k11.cell 0
          have d1:wx3.cell? ⟨g11,1,none⟩=some (.int .i64 0):=k11.cell 1
          have f0:=k11.free 0
          have f1:=k11.free 1
          clear hb1 k11 r11 h9 h10 h11
          go_wp2_with fail
          have hbz:Below wy2.heap.size wy2 ((wx3.setCell ⟨g11,0,none⟩ (.int .i64 im)).setCell ⟨g11,1,none⟩ (.int .i64 is)):=below_set2g HB9.out (by omega) _ _
          have HKZ:=lh ((HK9.out.set 0 (.int .i64 im)).set 1 (.int .i64 is))
          have HBZ3:=lh (HBZ2.out.trans (hbz.mono HBZ2.out.size))
          have HXA2:=lh (HXA1.out.below hbz HXA1.out.lt)
          have HMA2:=lh (HMA1.out.below hbz HMA1.out.lt)
          have HCE2:=lh (And.intro (Nat.lt_of_lt_of_le HCE1.out.1 hbz.size) (And.intro (((bcell hbz).1 _ _ HCE1.out.1).trans HCE1.out.2.1) (((bcell hbz).1 _ _ HCE1.out.1).trans HCE1.out.2.2)))
          have HKY0_:=lh (HKY0.out.below hbz HKY0.out.lt)
          have HKY1_:=lh (HKY1.out.below hbz HKY1.out.lt)
          clear hbz HB9 HK9 hr10 d0 d1 f0 f1 HXA1 HMA1 HCE1 HBZ2 HKY0 HKY1
          have HKY0:=lh HKY0_.out
          clear HKY0_
          have HKY1:=lh HKY1_.out
          clear HKY1_
          obtain⟨gq2,hgq⟩:∃ gq,gq=g11:=⟨_,rfl⟩
          generalize ((wx3.setCell ⟨g11,0,none⟩ (.int .i64 im)).setCell ⟨g11,1,none⟩ (.int .i64 is))=wy3 at *
          rw[← hgq] at HKZ ⊢
          clear hgq
          have HKY2:=lh HKZ.out
          clear HKZ
          try rw[onlyN_normal]
          go_upto_region 31 with fail
          refine wp_region_addsF0 11 (fun i=>([[],[],[],[1,2],[3],[4],[0,5],[6],[7],[7],[]]:List (List Nat)).getD i []) [9] (EL [Ent.val (.agg #[.pointer (some ⟨g1,0,none⟩),.pointer (some ⟨g2,0,none⟩)]),Ent.val (.slice (some ⟨bb,oo,none⟩) K.length ck),Ent.val (.int .i64 (i:Int)),Ent.val (.pointer (some ⟨bb,oo+i*2,none⟩)),Ent.val (.pointer (some ⟨bb,oo+i*2+1,none⟩)),Ent.val (.int .i64 t),Ent.val (.tuple #[.agg #[.int .i64 im,.int .i64 is],.int .i64 0]),Ent.val (.tuple #[.agg #[.int .i64 im,.int .i64 is],.int .i64 0]),Ent.val (.agg #[.int .i64 im,.int .i64 is]),Ent.val (.int .i64 0),Ent.blk 65 #[.int .i64 0,.int .i64 0]]) (by kernel_rfl) (by kernel_rfl) (by kernel_rfl) (by kernel_rfl) (by kernel_rfl) (by rfl) ?_ ?_
          ·intro i hi o ho vs wx4 hb1 hgr
           rcases (show i=0 ∨ i=1 ∨ i=2 ∨ i=3 ∨ i=4 ∨ i=5 ∨ i=6 ∨ i=7 ∨ i=8 ∨ i=9 ∨ i=10 by omega) with rfl | rfl | rfl | rfl | rfl | rfl | rfl | rfl | rfl | rfl | rfl <;> cases ho
           ·clear hgr
            change Made _ (Adds _ _ _) (Sem.run _ (execOp (Act.eval (frm _ _ _ [])) _) _)
            simp only[frm]
            have hbk:=HMA2.out.below hb1 HMA2.out.lt
            have c0:wx4.cell? ⟨bm,0,none⟩=some (.pointer (some ⟨g1,0,none⟩)):=hbk.cell 0
            have c1:wx4.cell? ⟨bm,1,none⟩=some (.pointer (some ⟨g2,0,none⟩)):=hbk.cell 1
            clear hbk
            go_simp
            exact adds_val rfl
           ·clear hgr
            change Made _ (Adds _ _ _) (Sem.run _ (execOp (Act.eval (frm _ _ _ [])) _) _)
            simp only[frm]
            go_simp
            exact adds_val rfl
           ·clear hgr
            change Made _ (Adds _ _ _) (Sem.run _ (execOp (Act.eval (frm _ _ _ [])) _) _)
            simp only[frm]
            go_simp
            exact adds_val rfl
           ·have h1:vs 1=_:=hgr 1 (by decide)
            have h2:vs 2=_:=hgr 2 (by decide)
            clear hgr
            change Made _ (Adds _ _ _) (Sem.run _ (execOp (Act.eval (Act.put (Act.put (frm _ _ _ []) (some 198) (vs 2)) (some 197) (vs 1))) _) _)
            simp only[frm,h1,h2]
            go_simp
            exact adds_val rfl
           ·have h3:vs 3=_:=hgr 3 (by decide)
            clear hgr
            change Made _ (Adds _ _ _) (Sem.run _ (execOp (Act.eval (Act.put (frm _ _ _ []) (some 199) (vs 3))) _) _)
            simp only[frm,h3]
            go_simp
            exact adds_val rfl
           ·have h4:vs 4=_:=hgr 4 (by decide)
            clear hgr
            change Made _ (Adds _ _ _) (Sem.run _ (execOp (Act.eval (Act.put (frm _ _ _ []) (some 200) (vs 4))) _) _)
            simp only[frm,h4]
            have e4:wx4.cell? ⟨bb,oo+i*2+1,none⟩=some (.int .i64 t):=((bcell hb1).1 _ _ HCE2.out.1).trans HCE2.out.2.2
            go_simp
            exact adds_val rfl
           ·have h0:vs 0=_:=hgr 0 (by decide)
            have h5:vs 5=_:=hgr 5 (by decide)
            clear hgr
            change Made _ (Adds _ _ _) (Sem.run _ (execOp (Act.eval (Act.put (Act.put (frm _ _ _ []) (some 201) (vs 5)) (some 196) (vs 0))) _) _)
            simp only[frm,h0,h5]
            have cM:=HCJ.out _ (HBZ3.out.trans (hb1.mono HBZ3.out.size))
            go_simp
            exact adds_below cM
           ·have h6:vs 6=_:=hgr 6 (by decide)
            clear hgr
            change Made _ (Adds _ _ _) (Sem.run _ (execOp (Act.eval (Act.put (frm _ _ _ []) (some 202) (vs 6))) _) _)
            simp only[frm,h6]
            go_simp
            exact adds_val rfl
           ·have h7:vs 7=_:=hgr 7 (by decide)
            clear hgr
            change Made _ (Adds _ _ _) (Sem.run _ (execOp (Act.eval (Act.put (frm _ _ _ []) (some 195) (vs 7))) _) _)
            simp only[frm,h7]
            go_simp
            exact adds_val rfl
           ·have h7:vs 7=_:=hgr 7 (by decide)
            clear hgr
            change Made _ (Adds _ _ _) (Sem.run _ (execOp (Act.eval (Act.put (frm _ _ _ []) (some 195) (vs 7))) _) _)
            simp only[frm,h7]
            go_simp
            exact adds_val rfl
           ·clear hgr
            change Made _ (Adds _ _ _) (Sem.run _ (execOp (Act.eval (frm _ _ _ [])) _) _)
            simp only[frm]
            go_simp
            exact adds_blk
          intro vs wx4 hb1 hall hap
          obtain⟨⟨g10,h10,k10⟩,q10⟩:=hall 10 (by omega)
          have r10:wy3.heap.size≤g10∧g10 < wx4.heap.size:=q10 g10 (by rw[h10];rfl)
          clear q10
          have h8:vs 8=_:=(hall 8 (by omega)).1
          have h9:vs 9=_:=(hall 9 (by omega)).1
          clear hall hap
          change wpList _ _ _ [_,_] (Act.put (Act.put (Act.put (Act.put (Act.put (Act.put (Act.put (Act.put (Act.put (Act.put (Act.put (frm _ _ _ []) (some 29) (vs 10)) (some 204) (vs 9)) (some 203) (vs 8)) (some 195) (vs 7)) (some 202) (vs 6)) (some 201) (vs 5)) (some 200) (vs 4)) (some 199) (vs 3)) (some 198) (vs 2)) (some 197) (vs 1)) (some 196) (vs 0)) _
          simp only[frm,h8,h9,h10]
          have HB9:=lh hb1
          have HK9:=lh k10
          have hr10:=r10
          have d0:wx4.cell? ⟨g10,0,none⟩=some (.int .i64 0):=k10.cell 0
          have d1:wx4.cell? ⟨g10,1,none⟩=some (.int .i64 0):=k10.cell 1
          have f0:=k10.free 0
          have f1:=k10.free 1
          clear hb1 k10 r10 h8 h9 h10
          go_wp2_with fail
          have hbz:Below wy3.heap.size wy3 ((wx4.setCell ⟨g10,0,none⟩ (.int .i64 im)).setCell ⟨g10,1,none⟩ (.int .i64 is)):=below_set2g HB9.out (by omega) _ _
          have HKZ:=lh ((HK9.out.set 0 (.int .i64 im)).set 1 (.int .i64 is))
          have HBZ4:=lh (HBZ3.out.trans (hbz.mono HBZ3.out.size))
          have HXA3:=lh (HXA2.out.below hbz HXA2.out.lt)
          have HMA3:=lh (HMA2.out.below hbz HMA2.out.lt)
          have HCE3:=lh (And.intro (Nat.lt_of_lt_of_le HCE2.out.1 hbz.size) (And.intro (((bcell hbz).1 _ _ HCE2.out.1).trans HCE2.out.2.1) (((bcell hbz).1 _ _ HCE2.out.1).trans HCE2.out.2.2)))
          have HKY0_:=lh (HKY0.out.below hbz HKY0.out.lt)
          have HKY1_:=lh (HKY1.out.below hbz HKY1.out.lt)
          have HKY2_:=lh (HKY2.out.below hbz HKY2.out.lt)
          clear hbz HB9 HK9 hr10 d0 d1 f0 f1 HXA2 HMA2 HCE2 HBZ3 HKY0 HKY1 HKY2
          have HKY0:=lh HKY0_.out
          clear HKY0_
          have HKY1:=lh HKY1_.out
          clear HKY1_
          have HKY2:=lh HKY2_.out
          clear HKY2_
          obtain⟨gq3,hgq⟩:∃ gq,gq=g10:=⟨_,rfl⟩
          generalize ((wx4.setCell ⟨g10,0,none⟩ (.int .i64 im)).setCell ⟨g10,1,none⟩ (.int .i64 is))=wy4 at *
          rw[← hgq] at HKZ ⊢
          clear hgq
          have HKY3:=lh HKZ.out
          clear HKZ
          try rw[onlyN_normal]
          have HEF:=lh (HEL.out.below HBZ4.out)
          have HCEF:=lh (And.intro (Nat.lt_of_lt_of_le HCE.out.1 HBZ4.out.size) (And.intro (((bcell HBZ4.out).1 _ _ HCE.out.1).trans HCE.out.2.1) (((bcell HBZ4.out).1 _ _ HCE.out.1).trans HCE.out.2.2)))
          have HBF:=lh (HBL.out.trans (HBZ4.out.mono HBL.out.size))
          have HOF:=lh (own_local HOW.out fun q hq=>HBZ4.out.block q (HOW.out.lt q hq).2)
          have k00:wy4.cell? ⟨gq0,0,none⟩=some (.int .i64 hk):=HKY0.out.cell 0
          have k01:wy4.cell? ⟨gq0,1,none⟩=some (.int .i64 hc_):=HKY0.out.cell 1
          have k02:wy4.cell? ⟨gq0,2,none⟩=some (.int .i64 hf):=HKY0.out.cell 2
          have k10:wy4.cell? ⟨gq1,0,none⟩=some (.int .i64 hk):=HKY1.out.cell 0
          have k11:wy4.cell? ⟨gq1,1,none⟩=some (.int .i64 hc_):=HKY1.out.cell 1
          have k12:wy4.cell? ⟨gq1,2,none⟩=some (.int .i64 hf):=HKY1.out.cell 2
          have k20:wy4.cell? ⟨gq2,0,none⟩=some (.int .i64 im):=HKY2.out.cell 0
          have k21:wy4.cell? ⟨gq2,1,none⟩=some (.int .i64 is):=HKY2.out.cell 1
          have k30:wy4.cell? ⟨gq3,0,none⟩=some (.int .i64 im):=HKY3.out.cell 0
          have k31:wy4.cell? ⟨gq3,1,none⟩=some (.int .i64 is):=HKY3.out.cell 1
          clear HXA3 HMA3 HCE3 HCH HCG HCI HCJ HX0 HM0
          go_wp2_with fail
          have hfb:=HFB.out
          obtain⟨mx,hmx⟩:∃ mx,mx=max 2 hf:=⟨_,rfl⟩
          have hmb:2≤mx∧mx≤30:=by omega
          have HMX:=lh hmx
          rw[← hmx] at HWD ⊢
          obtain⟨sn,hsn⟩:∃ sn,sn=slotN ⟨hk,hc_,hf⟩:=⟨_,rfl⟩
          rw[← hsn] at HWD
          simp only[← hsn] at HCS
          have HOFK:=lh (own_local HOF.out fun q hq=>rfl)
          have HPRF:=lh HPR.out
          clear hmx hsn hfb
          go_loopw [10,17,32] (fun ok v ix wr=>∃ (q:Nat) (K2:List Int),ix=.int .i64 (q:Int)∧ok=.bool true∧(q:Int)≤mx∧wr.ownsRow w8.heap.size 62 2 v K2.length (PrC (s.to L) K2)∧Prs s L K2∧(∃ T,K2=K++T)∧Below w8.heap.size w8 wr∧Bk wr gq0 58 #[.int .i64 hk,.int .i64 hc_,.int .i64 hf]) (fun _ _ ix _=>(mx - intOf ix).toNat)
          case atStart=>exact⟨0,K,rfl,rfl,by omega,HOF.out,HPR.out,⟨[],by simp⟩,HBF.out,HKY0.out⟩
          case round =>
           clear HOF HBF HEF HCEF HKY0 HKY1 HKY2 HKY3 k00 k01 k02 k10 k11 k12 k20 k21 k30 k31
           obtain⟨q,K2,rfl,rfl,hq,hown,hprs,⟨T2,hT2⟩,hb,hk0⟩:=hrel
           have HOW2:=lh hown
           have HPR2:=lh hprs
           have HBR:=lh hb
           have HK0:=lh hk0
           have HT2:=lh hT2
           obtain⟨Ak2,ck2,rfl,hck2⟩:=own_shape hown
           have hks2:K2.length≤s.m.size:=HG.out.few hprs.nd hprs.gd
           have hkl2:K2.length≤40000000:=Nat.le_trans hks2 HSZ.out
           have HKS2:=lh hks2
           clear hown hprs hb hk0 hT2 hks2
           by_cases hlt:(q:Int) < mx
           ·obtain⟨x,y,hx,hy,hc1,hc2⟩:=HWD.out q hlt
            have hxk:K2[i]?=some r:=by rw[HT2.out,List.getElem?_append_left HLT.out];exact HXK.out
            have hik:i < K2.length:=(List.getElem?_eq_some_iff.1 hxk).1
            have hpc:=PrC_get (s.to L) hxk
            rw[← HT.out] at hpc
            obtain⟨b2,o2,hA,hbl,hcc⟩:=(own_sl HOW2.out).2.resolve_left (by omega)
            have e0:wr.cell? ⟨b2,o2+i*2,none⟩=some (.int .i64 r):=hcc _ _ hpc.1
            have e1':=hcc _ _ hpc.2
            have e1:wr.cell? ⟨b2,o2+i*2+1,none⟩=some (.int .i64 t):=by rw[show o2+i*2+1=o2+(i*2+1) by omega];exact e1'
            subst hA
            have hic2:i < ck2:=by omega
            have HER:=lh (HE8.out.below HBR.out)
            have hxu:U64 x:=HIN.out.ok.at_u hx
            have hyu:U64 y:=HER.out.mr.ok.at_u hy
            have hrg:=HRG.out
            have hw1:IntKind.i64.wrap (r+2)=r+2:=IntWalk.i64_in _ (by omega)
            have hw2:IntKind.i64.wrap (r+2+(q:Int))=r+2+(q:Int):=IntWalk.i64_in _ (by omega)
            have hw3:IntKind.i64.wrap (t+2)=t+2:=IntWalk.i64_in _ (by omega)
            have hw4:IntKind.i64.wrap (t+2+(q:Int))=t+2+(q:Int):=IntWalk.i64_in _ (by omega)
            have HW34:=lh (And.intro hw3 hw4)
            have HCE2:=lh (And.intro hbl (And.intro e0 e1))
            have HXY:=lh (And.intro hxu hyu)
            have HC12:=lh (And.intro hc1 hc2)
            have HY:=lh hy
            have cL:=fun dd os=>Calls.regrown_of (w:=wr) (RLoad_any (HER.out.below (below_regrown wr dd os)).rm (r+2+(q:Int)))
            rw[hx] at cL
            unfold rmV atV at cL
            dsimp only at cL
            have xc0:wr.cell? ⟨bx,0,none⟩=some (.int .i64 s.m.old.base):=HER.out.hx.cell 0
            have xc1:wr.cell? ⟨bx,1,none⟩=some (.int .i64 s.m.old.limit):=HER.out.hx.cell 1
            have xc2:wr.cell? ⟨bx,2,none⟩=some (.slice A1 s.m.old.ws.length u1):=HER.out.hx.cell 2
            have xc3:wr.cell? ⟨bx,3,none⟩=some (.int .i64 s.m.yng.base):=HER.out.hx.cell 3
            have xc4:wr.cell? ⟨bx,4,none⟩=some (.int .i64 s.m.yng.limit):=HER.out.hx.cell 4
            have xc5:wr.cell? ⟨bx,5,none⟩=some (.slice A2 s.m.yng.ws.length u2):=HER.out.hx.cell 5
            have xk0:=cell_regrown xc0
            have xk1:=cell_regrown xc1
            have xk2:=cell_regrown xc2
            have xk3:=cell_regrown xc3
            have xk4:=cell_regrown xc4
            have xk5:=cell_regrown xc5
            have ke0:=cell_regrown e0
            have HQL:=lh hlt
            clear hx hy hc1 hc2 hxk hpc hbl hcc e1' e1 hxu hyu hw3 hw4 hlt
            go_upto_region 38 with fail
            refine wp_region_quiet_below (by kernel_rfl) (by kernel_rfl) ?_
            repeat (first | go_big_quiet_step ((go_at_call 24;exact cL _ _)) | quiet_step ((go_at_call 24;exact cL _ _)))
            refine wpQuiet_nil ?_
            intro w5 hw'
            have hb5:=quiet_below_one hw'
            have HB5_:=lh (HBR.out.trans (hb5.mono HBR.out.size))
            have HES:=lh (HER.out.below hb5)
            have HOW5:=lh (own_local HOW2.out fun q hq=>hb5.block q (HOW2.out.lt q hq).2)
            have HK05:=lh (HK0.out.below hb5 HK0.out.lt)
            have e0:w5.cell? ⟨b2,o2+i*2,none⟩=some (.int .i64 r):=((bcell hb5).1 _ _ HCE2.out.1).trans HCE2.out.2.1
            have e1:w5.cell? ⟨b2,o2+i*2+1,none⟩=some (.int .i64 t):=((bcell hb5).1 _ _ HCE2.out.1).trans HCE2.out.2.2
            have HCE5:=lh (And.intro (Nat.lt_of_lt_of_le HCE2.out.1 hb5.size) (And.intro e0 e1))
            have cM:=fun dd os=>Calls.regrown_of (w:=w5) (MLoad_of (HES.out.below (below_regrown w5 dd os)).mr (t+2+(q:Int)))
            rw[HY.out] at cM
            unfold atV at cM
            dsimp only at cM
            have hw3:=HW34.out.1
            have hw4:=HW34.out.2
            clear hw' hb5 cL xk0 xk1 xk2 xk3 xk4 xk5 ke0 hw1 hw2 xc0 xc1 xc2 xc3 xc4 xc5 e0 HOW2 HK0 HBR HER HCE2
            have mc0:w5.cell? ⟨bm,0,none⟩=some (.pointer (some ⟨g1,0,none⟩)):=HES.out.hm.cell 0
            have mc1:w5.cell? ⟨bm,1,none⟩=some (.pointer (some ⟨g2,0,none⟩)):=HES.out.hm.cell 1
            have mk0:=cell_regrown mc0
            have mk1:=cell_regrown mc1
            have ke1:=cell_regrown e1
            go_upto_region 39 with fail
            refine wp_region_quiet_below (by kernel_rfl) (by kernel_rfl) ?_
            repeat (first | go_big_quiet_step ((go_at_call 25;exact cM _ _)) | quiet_step ((go_at_call 25;exact cM _ _)))
            refine wpQuiet_nil ?_
            intro w6_ hw'
            have hb5:=quiet_below_one hw'
            have HB6_:=lh (HB5_.out.trans (hb5.mono HB5_.out.size))
            have HET:=lh (HES.out.below hb5)
            have HOW6:=lh (own_local HOW5.out fun q hq=>hb5.block q (HOW5.out.lt q hq).2)
            have hk06:=HK05.out.below hb5 HK05.out.lt
            have HK06:=lh hk06
            have a0:w6_.cell? ⟨gq0,0,none⟩=some (.int .i64 hk):=hk06.cell 0
            have a1:w6_.cell? ⟨gq0,1,none⟩=some (.int .i64 hc_):=hk06.cell 1
            have a2:w6_.cell? ⟨gq0,2,none⟩=some (.int .i64 hf):=hk06.cell 2
            have cS:=HCS.out w6_
            clear hw' hb5 cM ke1 mk0 mk1 mc0 mc1 hw3 hw4 e1 HB5_ HES HOW5 HK05 HCE5 hk06
            go_wp2_with fail
            refine cS.mono ?_
            rintro e w7_ ⟨rfl,hb7⟩
            have HB7_:=lh (HB6_.out.trans (hb7.mono HB6_.out.size))
            have HEU:=lh (HET.out.below hb7)
            have HOW7:=lh (own_local HOW6.out fun q hq=>hb7.block q (HOW6.out.lt q hq).2)
            have HK07:=lh (HK06.out.below hb7 HK06.out.lt)
            clear cS hb7 a0 a1 a2 HB6_ HET HOW6 HK06
            by_cases hqs:(q:Int) < sn
            ·have cC:Calls Tryz.prog 18 #[.agg #[.int .i64 s.m.old.base,.int .i64 s.m.old.limit,.slice A1 s.m.old.ws.length u1,.int .i64 s.m.yng.base,.int .i64 s.m.yng.limit,.slice A2 s.m.yng.ws.length u2],.agg #[.pointer (some ⟨g1,0,none⟩),.pointer (some ⟨g2,0,none⟩)],.slice (some ⟨b2,o2,none⟩) K2.length ck2,.int .u64 x,.int .u64 y] w7_ (CmpP10 w8.heap.size w7_ (.slice (some ⟨b2,o2,none⟩) K2.length ck2) s L K2):=Compare10_any HG.out HEU.out.rm HEU.out.mr HOW7.out HB7_.out.size HPR2.out (HC12.out.1 hqs) HXY.out.1 HXY.out.2 HSZ.out
             have xc0:w7_.cell? ⟨bx,0,none⟩=some (.int .i64 s.m.old.base):=HEU.out.hx.cell 0
             have xc1:w7_.cell? ⟨bx,1,none⟩=some (.int .i64 s.m.old.limit):=HEU.out.hx.cell 1
             have xc2:w7_.cell? ⟨bx,2,none⟩=some (.slice A1 s.m.old.ws.length u1):=HEU.out.hx.cell 2
             have xc3:w7_.cell? ⟨bx,3,none⟩=some (.int .i64 s.m.yng.base):=HEU.out.hx.cell 3
             have xc4:w7_.cell? ⟨bx,4,none⟩=some (.int .i64 s.m.yng.limit):=HEU.out.hx.cell 4
             have xc5:w7_.cell? ⟨bx,5,none⟩=some (.slice A2 s.m.yng.ws.length u2):=HEU.out.hx.cell 5
             have mc0:w7_.cell? ⟨bm,0,none⟩=some (.pointer (some ⟨g1,0,none⟩)):=HEU.out.hm.cell 0
             have mc1:w7_.cell? ⟨bm,1,none⟩=some (.pointer (some ⟨g2,0,none⟩)):=HEU.out.hm.cell 1
             go_wp2_with fail
             refine cC.mono ?_
             rintro e w9 ⟨v9,K9,rfl,ho9,hk9,hv9,hp9,⟨T9,hT9⟩⟩
             have HO9:=lh ho9
             have HP9:=lh hp9
             have HB9:Hid (Below w8.heap.size w8 w9):=lh (hk9.toBelow HB7_.out HB7_.out.size fun q hq=>(HOW7.out.lt q hq).1)
             have HK09:=lh (HK07.out.kp hk9 fun e=>ownRow_bk HOW7.out HK07.out (by decide) e)
             have HT9:Hid (∃ T,K9=K++T):=lh ⟨T2++T9,by rw[hT9,HT2.out,List.append_assoc]⟩
             obtain⟨A9,c9,rfl,_⟩:=own_shape ho9
             have hlt:=HQL.out
             clear cC ho9 hk9 hv9 hp9 xc0 xc1 xc2 xc3 xc4 xc5 mc0 mc1 hT9
             go_wp2_with fail
             go_roundw
             case rel=>exact⟨q+1,K9,by go_num,rfl,by omega,HO9.out,HP9.out,HT9.out,HB9.out,HK09.out⟩
             case measure=>simp[intOf];omega
            ·obtain rfl:=HC12.out.2 (by omega)
             have hlt:=HQL.out
             go_wp2_with fail
             go_roundw
             case rel=>exact⟨q+1,K2,by go_num,rfl,by omega,HOW7.out,HPR2.out,⟨T2,HT2.out⟩,HB7_.out,HK07.out⟩
             case measure=>simp[intOf];omega
           ·go_wp2_with fail
            go_roundw
            case rel=>exact⟨i+1,K2,by go_num,rfl,by rw[HT2.out,List.length_append];have:=HLT.out;omega,HOW2.out,HPR2.out,HBR.out⟩
            case measure=>have h1:=HKS.out;have h2:=HLT.out;simp[intOf];omega
         ·go_wp2_with fail
          go_ret
          exact⟨rfl,HB8.out.trans (HBL.out.mono HB8.out.size)⟩
theorem gra10_any (hl:Op10 w Al l) (hcl:l.length≤cl) (h3:IS w chs Ac cc) (h3r:∀ x∈chs,-9223372036854775808≤x∧x≤9223372036854775807):Calls Tryz.prog 3 #[.int .i64 limit,.slice Al l.length cl,.slice Ac chs.length cc] w fun e w'=>e=.returned (.bool true)∧Below w.heap.size w w':=by
 by_cases h:l.length≤60∧chs.length≤20∧limit≤2000
 ·cases hpl:l.all plO with
  | true=>exact gra10_main hl hcl h.1 hpl h3 h3r h.2.1 h.2.2
  | false=>exact gra10_np hl hcl h.1 hpl h.2.1 h.2.2
 ·exact gra10_big h
end
end
end Go.Proofs.YtaijmgkjbbiboaaGreat
