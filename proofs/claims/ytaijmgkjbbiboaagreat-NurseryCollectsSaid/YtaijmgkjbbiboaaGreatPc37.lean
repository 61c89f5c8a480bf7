/- Parts of the proof: Col10. -/
import Derived.Test.YtaijmgkjbbiboaaGreatPcA
import Derived.Test.YtaijmgkjbbiboaaGreatPc34
import Derived.Test.YtaijmgkjbbiboaaGreatPc35
import Derived.Test.YtaijmgkjbbiboaaGreatPc36
set_option linter.unusedVariables false
set_option linter.unusedSimpArgs false
set_option linter.unusedSectionVars false
set_option maxRecDepth 100000
namespace Go.Proofs.YtaijmgkjbbiboaaGreat
section
open Go.RowKit Go.Sort
attribute [local go_sem] Oper.semAt_some onlyN_normal
theorem collect_csI {m:Mm} {chk:Int} {cs roots:List Int} {n:Nat} (h:CsI cs n):CsI (m.collect chk cs roots).cs n:=by
 unfold Mm.collect
 split
 ·exact h
 ·split
  ·exact h
  ·exact CsI.nil.mono (Nat.zero_le _)
theorem collect_outl (m:Mm) (chk:Int) (cs roots:List Int):(m.collect chk cs roots).out.length≤roots.length:=by
 unfold Mm.collect
 split
 ·exact Nat.zero_le _
 ·split
  ·exact Nat.zero_le _
  ·show(roots.map _).length≤_
   rw[List.length_map]
   exact Nat.le_refl _
section
variable {w:World} {Al A3:Option Addr} {n cl n3 c3:Nat} {limit:Int}
theorem col10_big (h:¬ (n≤60∧n3≤20∧limit≤2000)):Calls Tryz.prog 5 #[.int .i64 limit,.slice Al n cl,.slice A3 n3 c3] w fun e w'=>e=.returned (.bool true)∧Below w.heap.size w w':=by
 have cA:=awake10_any w
 by_cases hm:60 < n ∨ 20 < n3
 ·have cM:=fun {w1:World}=>Many10_any (w:=w1) (Al:=Al) (n:=n) (cl:=cl) (r:=n3)
  rw[decide_eq_true hm] at cM
  clear h hm
  go_enter Tryz.func5,Tryz.ntmps5
  go_wp2_with fail
  refine cA.mono ?_
  rintro e w1 ⟨rfl,hb1⟩
  have HB1:=lh hb1
  clear hb1 cA
  go_wp2_with fail
  refine cM.mono ?_
  rintro e w2 ⟨rfl,rfl⟩
  clear cM
  go_wp2_with fail
  go_ret
  exact⟨rfl,HB1.out⟩
 ·have cM:=fun {w1:World}=>Many10_any (w:=w1) (Al:=Al) (n:=n) (cl:=cl) (r:=n3)
  rw[decide_eq_false hm] at cM
  have hl:2000 < limit:=by omega
  have dl:decide (limit > 2000)=true:=decide_eq_true (by omega)
  clear h hm hl
  go_enter Tryz.func5,Tryz.ntmps5
  go_wp2_with fail
  refine cA.mono ?_
  rintro e w1 ⟨rfl,hb1⟩
  have HB1:=lh hb1
  clear hb1 cA
  go_wp2_with fail
  refine cM.mono ?_
  rintro e w2 ⟨rfl,rfl⟩
  clear cM
  go_wp2_with fail
  go_ret
  exact⟨rfl,HB1.out⟩
end
section
variable {w:World} {Al:Option Addr} {cl:Nat} {l:List OpV} {limit:Int} {roots:List Int} {Ar:Option Addr} {cr:Nat}
set_option maxHeartbeats 16000000 in
theorem col10_main (hl:Op10 w Al l) (hcl:l.length≤cl) (hn:l.length≤60) (h3:Sl w 1 Ar roots.length (wds roots)) (h3c:roots.length≤cr) (h3u:∀ x∈roots,U64 x) (h3b:∀ b o,Ar=some ⟨b,o,none⟩→b < w.heap.size) (hn3:roots.length≤20) (hlim:limit≤2000):Calls Tryz.prog 5 #[.int .i64 limit,.slice Al l.length cl,.slice Ar roots.length cr] w fun e w'=>e=.returned (.bool true)∧Below w.heap.size w w':=by
 have cA:=awake10_any w
 have cM:=fun {w1:World}=>Many10_any (w:=w1) (Al:=Al) (n:=l.length) (cl:=cl) (r:=roots.length)
 rw[decide_eq_false (show ¬ (60 < l.length ∨ 20 < roots.length) by omega)] at cM
 have cO:=fun {w1:World} (hb:Below w.heap.size w w1)=>Open10_any (hl.below hb rfl) hcl (by omega) limit
 have dl:decide (limit > 2000)=false:=decide_eq_false (by omega)
 have h3':=h3
 have HR0:Hid (∀ {w1:World},Below w.heap.size w w1→Sl w1 1 Ar roots.length (wds roots)∧∀ b o,Ar=some ⟨b,o,none⟩→b < w.heap.size):=lh fun hb=>⟨h3.below hb,h3b⟩
 have HRU:=lh (And.intro h3c (And.intro h3u hn3))
 clear h3 h3' h3c h3u h3b hn3
 have HLN:=lh (And.intro hn hlim)
 clear hl hcl hn hlim
 go_enter Tryz.func5,Tryz.ntmps5
 go_wp2_with fail
 refine cA.mono ?_
 rintro e wa ⟨rfl,hba⟩
 have HBA:=lh hba
 have cO1:=cO hba
 clear hba cA cO
 go_wp2_with fail
 refine cM.mono ?_
 rintro e wb ⟨rfl,rfl⟩
 clear cM
 go_wp2_with fail
 refine cO1.mono ?_
 rintro e w2 ⟨hop,hin⟩
 obtain⟨g1,g2,V1,V2,gt,bt,k,A1,u1,A2,u2,A,u,Ax,cx,Ah,ch,B1,rfl,hen⟩:=Env10.start hop (by have:=hin.cs.len;have:=HLN.out;omega)
 obtain⟨s,hs⟩:∃ s,s=bld10 limit l:=⟨_,rfl⟩
 rw[← hs] at hin hen ⊢
 have HIN:=lh hin
 have HEN:=lh hen
 have HXL:Hid (s.xs.length≤60∧s.cs.length≤60∧s.m.size≤40000000):=lh ⟨by have:=hin.xl;have:=HLN.out;omega,by have:=hin.cs.len;have:=HLN.out;omega,hin.size⟩
 clear hs
 clear hop hin hen cO1
 go_upto_region 8 with fail
 obtain⟨w3,hw3⟩:∃ w3,w3=(w2.alloc (.cells #[.pointer (some ⟨g1,0,none⟩),.pointer (some ⟨g2,0,none⟩)] 29)).alloc (.cells #[.int .i64 s.m.old.base,.int .i64 s.m.old.limit,.slice A1 s.m.old.ws.length u1,.int .i64 s.m.yng.base,.int .i64 s.m.yng.limit,.slice A2 s.m.yng.ws.length u2,.slice A s.cs.length u,.slice Ax s.xs.length cx,.slice Ah s.hs.length ch] 40):=⟨_,rfl⟩
 obtain⟨bm,hbm⟩:∃ bm,bm=w2.heap.size:=⟨_,rfl⟩
 obtain⟨bx,hbx⟩:∃ bx,bx=w2.heap.size+1:=⟨_,rfl⟩
 rw[← hw3,← hbx,← hbm] at HEN
 rw[← hw3,← hbx,← hbm]
 clear hw3 hbm hbx
 have HB3:Hid (Below w.heap.size w w3):=lh (HBA.out.trans (HEN.out.bl.mono HBA.out.size))
 have hs3:=HR0.out HB3.out
 have cC:=HEN.out.collect hs3.1 HRU.out.1 (by have:=HRU.out.2.2;omega) HRU.out.2.1 (fun b o e=>⟨Nat.lt_of_lt_of_le (hs3.2 b o e) HB3.out.size,fun e'=>by
  have h1:=HEN.out.ge e'
  have h2:=HEN.out.h0
  have h3:=hs3.2 b o e
  have h4:=HBA.out.size
  omega⟩) HXL.out.2.2
 obtain⟨Q1,hQ1⟩:∃ Q1,Q1=ColP w3 B1 B1 g1 g2 gt bt k V1 V2 (s.m.collect s.m.yng.chk s.cs roots):=⟨_,rfl⟩
 rw[← hQ1] at cC
 clear hs3
 have mc0:w3.cell? ⟨bm,0,none⟩=some (.pointer (some ⟨g1,0,none⟩)):=HEN.out.hm.cell 0
 have mc1:w3.cell? ⟨bm,1,none⟩=some (.pointer (some ⟨g2,0,none⟩)):=HEN.out.hm.cell 1
 go_wp2_with fail
 refine cC.mono ?_
 rintro e w6 hcp
 rw[hQ1] at hcp
 obtain⟨v6,V1',V2',k',rfl,ho6,hen6,_,_⟩:=HEN.out.col hcp
 have HCI:Hid (CsI (s.m.collect s.m.yng.chk s.cs roots).cs l.length):=lh (collect_csI HIN.out.cs)
 have hcol:=collect_outl s.m s.m.yng.chk s.cs roots
 have HB6:Hid (Below w.heap.size w w6):=lh (HBA.out.trans (hen6.bl.mono HBA.out.size))
 have hs6:=HR0.out HB6.out
 have cR:=RCollect_any hen6.rm HIN.out.ok hen6.rc (by have:=HXL.out.2.1;omega) hs6.1 HRU.out.1 HRU.out.2.1 (fun b o e=>Nat.lt_of_lt_of_le (hs6.2 b o e) HB6.out.size) HXL.out.2.2 (by have:=HRU.out.2.2;omega)
 obtain⟨C,hC⟩:∃ C,C=s.m.collect s.m.yng.chk s.cs roots:=⟨_,rfl⟩
 rw[← hC] at ho6 hen6 HCI hcol cR ⊢
 obtain⟨A6,c6,rfl,hc6⟩:=own_shape ho6
 have HE6:=lh hen6
 have HO6:=lh (And.intro hc6 ho6)
 have hol:C.out.length≤20:=Nat.le_trans hcol HRU.out.2.2
 have HOL:=lh hol
 clear cC mc0 mc1 hQ1 hcp ho6 hen6 hcol hs6 hC hc6 hol
 have xc0:w6.cell? ⟨bx,0,none⟩=some (.int .i64 s.m.old.base):=HE6.out.hx.cell 0
 have xc1:w6.cell? ⟨bx,1,none⟩=some (.int .i64 s.m.old.limit):=HE6.out.hx.cell 1
 have xc2:w6.cell? ⟨bx,2,none⟩=some (.slice A1 s.m.old.ws.length u1):=HE6.out.hx.cell 2
 have xc3:w6.cell? ⟨bx,3,none⟩=some (.int .i64 s.m.yng.base):=HE6.out.hx.cell 3
 have xc4:w6.cell? ⟨bx,4,none⟩=some (.int .i64 s.m.yng.limit):=HE6.out.hx.cell 4
 have xc5:w6.cell? ⟨bx,5,none⟩=some (.slice A2 s.m.yng.ws.length u2):=HE6.out.hx.cell 5
 have xc6:w6.cell? ⟨bx,6,none⟩=some (.slice A s.cs.length u):=HE6.out.hx.cell 6
 go_wp2_with fail
 refine cR.mono ?_
 rintro e w7 ⟨R1,r1,R2,r2,R,rr,v7,rfl,hrm,hrc,ho7,hb7⟩
 obtain⟨A7,c7,rfl,hc7⟩:=own_shape ho7
 have HRM:=lh hrm
 have HRC:=lh hrc
 have HO7:=lh (And.intro hc7 ho7)
 have HE7:=lh (HE6.out.below hb7)
 have HP7:=lh (own_local HO6.out.2 fun q hq=>hb7.block q (HO6.out.2.lt q hq).2)
 clear cR xc0 xc1 xc2 xc3 xc4 xc5 xc6 hrm hrc ho7 hb7 hc7
 go_upto_region 10 with fail
 have hb8:Below w7.heap.size w7 ((w7.alloc (.cells #[.int .i64 C.m.old.base,.int .i64 C.m.old.limit,.slice R1 C.m.old.ws.length r1,.int .i64 C.m.yng.base,.int .i64 C.m.yng.limit,.slice R2 C.m.yng.ws.length r2] 35)).alloc (.cells #[.slice R C.cs.length rr] 37)):=((Below.refl _ _).alloc (Nat.le_refl _) _).alloc (by simp) _
 have HK14:Hid (Bk ((w7.alloc (.cells #[.int .i64 C.m.old.base,.int .i64 C.m.old.limit,.slice R1 C.m.old.ws.length r1,.int .i64 C.m.yng.base,.int .i64 C.m.yng.limit,.slice R2 C.m.yng.ws.length r2] 35)).alloc (.cells #[.slice R C.cs.length rr] 37)) w7.heap.size 35 #[.int .i64 C.m.old.base,.int .i64 C.m.old.limit,.slice R1 C.m.old.ws.length r1,.int .i64 C.m.yng.base,.int .i64 C.m.yng.limit,.slice R2 C.m.yng.ws.length r2]):=lh (Bk.alloc (Bk.new _ _ _) _)
 have HK15:Hid (Bk ((w7.alloc (.cells #[.int .i64 C.m.old.base,.int .i64 C.m.old.limit,.slice R1 C.m.old.ws.length r1,.int .i64 C.m.yng.base,.int .i64 C.m.yng.limit,.slice R2 C.m.yng.ws.length r2] 35)).alloc (.cells #[.slice R C.cs.length rr] 37)) (w7.heap.size+1) 37 #[.slice R C.cs.length rr]):=lh (Bk.here _ _ _ (by simp))
 have HE8:=lh (HE7.out.below hb8)
 have HRM8:=lh (HRM.out.below hb8)
 have HRC8:=lh (HRC.out.below hb8)
 have hs1:=(own_sl HP7.out).below hb8
 have hs2:=(own_sl HO7.out.2).below hb8
 clear hb8 HE7 HRM HRC
 generalize ((w7.alloc (.cells #[.int .i64 C.m.old.base,.int .i64 C.m.old.limit,.slice R1 C.m.old.ws.length r1,.int .i64 C.m.yng.base,.int .i64 C.m.yng.limit,.slice R2 C.m.yng.ws.length r2] 35)).alloc (.cells #[.slice R C.cs.length rr] 37))=w8 at *
 obtain⟨g14,hg14⟩:∃ g,g=w7.heap.size:=⟨_,rfl⟩
 obtain⟨g15,hg15⟩:∃ g,g=w7.heap.size+1:=⟨_,rfl⟩
 rw[← hg15] at HK15
 rw[← hg14] at HK14
 rw[← hg15,← hg14]
 clear hg14 hg15
 have HB8:=lh (HBA.out.trans (HE8.out.bl.mono HBA.out.size))
 have cW:=Words_b (w:=w8) (l:=C.out) (by have:=HOL.out;omega) HO6.out.1 HO7.out.1 hs1 hs2
 clear hs1 hs2
 obtain⟨ce,hce⟩:∃ ce,ce=C.e:=⟨_,rfl⟩
 obtain⟨cn,hcn⟩:∃ cn,cn=C.n:=⟨_,rfl⟩
 rw[← hce,← hcn]
 clear hce hcn
 go_wp2_with fail
 refine cW.mono ?_
 rintro e w9 ⟨rfl,hb9⟩
 have HE9:=lh (HE8.out.below hb9)
 have HB9:=lh (HB8.out.trans (hb9.mono HB8.out.size))
 have hk14:=HK14.out.below hb9 HK14.out.lt
 have hk15:=HK15.out.below hb9 HK15.out.lt
 have cS:=Same10_any HE9.out.mr HE9.out.cr (HRM8.out.below hb9) (HRC8.out.below hb9) HCI.out (by have:=HLN.out;omega)
 have mc0:w9.cell? ⟨bm,0,none⟩=some (.pointer (some ⟨g1,0,none⟩)):=HE9.out.hm.cell 0
 have mc1:w9.cell? ⟨bm,1,none⟩=some (.pointer (some ⟨g2,0,none⟩)):=HE9.out.hm.cell 1
 have r0_:w9.cell? ⟨g14,0,none⟩=some (.int .i64 C.m.old.base):=hk14.cell 0
 have r1_:w9.cell? ⟨g14,1,none⟩=some (.int .i64 C.m.old.limit):=hk14.cell 1
 have r2_:w9.cell? ⟨g14,2,none⟩=some (.slice R1 C.m.old.ws.length r1):=hk14.cell 2
 have r3_:w9.cell? ⟨g14,3,none⟩=some (.int .i64 C.m.yng.base):=hk14.cell 3
 have r4_:w9.cell? ⟨g14,4,none⟩=some (.int .i64 C.m.yng.limit):=hk14.cell 4
 have r5_:w9.cell? ⟨g14,5,none⟩=some (.slice R2 C.m.yng.ws.length r2):=hk14.cell 5
 have s0:w9.cell? ⟨g15,0,none⟩=some (.slice R C.cs.length rr):=hk15.cell 0
 clear cW hb9 hk14 hk15
 go_wp2_with fail
 refine cS.mono ?_
 rintro e w10 ⟨rfl,hb10⟩
 have HB10:=lh (HB9.out.trans (hb10.mono HB9.out.size))
 clear cS hb10
 go_wp2_with fail
 go_ret
 exact⟨rfl,HB10.out⟩
theorem col10_any (hl:Op10 w Al l) (hcl:l.length≤cl) (h3:Sl w 1 Ar roots.length (wds roots)) (h3c:roots.length≤cr) (h3u:∀ x∈roots,U64 x) (h3b:∀ b o,Ar=some ⟨b,o,none⟩→b < w.heap.size):Calls Tryz.prog 5 #[.int .i64 limit,.slice Al l.length cl,.slice Ar roots.length cr] w fun e w'=>e=.returned (.bool true)∧Below w.heap.size w w':=by
 by_cases h:l.length≤60∧roots.length≤20∧limit≤2000
 ·exact col10_main hl hcl h.1 h3 h3c h3u h3b h.2.1 h.2.2
 ·exact col10_big h
end
end
end Go.Proofs.YtaijmgkjbbiboaaGreat
