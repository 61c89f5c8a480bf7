/- Parts of the proof: RcT. -/
import Derived.Laws.EntriesVeiled
import Derived.Test.YtmbnlccafcfbeaaGreatDoorPdA
import Derived.Test.YtmbnlccafcfbeaaGreatDoorPd21
set_option linter.unusedVariables false
set_option linter.unusedSimpArgs false
set_option linter.unusedSectionVars false
set_option maxRecDepth 100000
namespace Go.Proofs.YtmbnlccafcfbeaaGreatDoor
section
open Go.RowKit
attribute [local go_sem] Oper.semAt_some
def RetB (v:Value) (w:World) (e:Ending) (w':World):Prop:=e=.returned v∧Below w.heap.size w w'
theorem bkset4 {w:World} {g:Nat} {t:TypeId} {u0 u1 u2 u3:Value} (h:Bk w g t #[u0,u1,u2,u3]) (v0 v1 v2 v3:Value):Bk (((((w).setCell ⟨g,0,none⟩ (v0)).setCell ⟨g,1,none⟩ (v1)).setCell ⟨g,2,none⟩ (v2)).setCell ⟨g,3,none⟩ (v3)) g t #[v0,v1,v2,v3]:=by
 simpa using ((((h.set 0 (v0)).set 1 (v1)).set 2 (v2)).set 3 (v3))
theorem kpset4 {w:World} {g:Nat} (v0 v1 v2 v3:Value):Kp (fun k=>k=g) w (((((w).setCell ⟨g,0,none⟩ (v0)).setCell ⟨g,1,none⟩ (v1)).setCell ⟨g,2,none⟩ (v2)).setCell ⟨g,3,none⟩ (v3)) :=
 ((((Kp.refl _ _).trans (Kp.setCell (S:=fun k=>k=g) _ ⟨g,0,none⟩ v0 rfl) (fun _ _ h=>h)).trans (Kp.setCell (S:=fun k=>k=g) _ ⟨g,1,none⟩ v1 rfl) (fun _ _ h=>h)).trans (Kp.setCell (S:=fun k=>k=g) _ ⟨g,2,none⟩ v2 rfl) (fun _ _ h=>h)).trans (Kp.setCell (S:=fun k=>k=g) _ ⟨g,3,none⟩ v3 rfl) (fun _ _ h=>h)
set_option maxHeartbeats 2000000 in
theorem asking_any (w:World) (s:ByteArray):Calls Tryz.prog 106 #[.string s] w (RetB (.agg #[.string s,.func (.func 143) #[] #[],.func (.func 144) #[] #[],.func (.func 145) #[] #[]]) w):=by
 obtain⟨W,hW⟩:∃ W,W=w.alloc (.cells #[.string ⟨#[]⟩,.nilFunc,.nilFunc,.nilFunc] 68):=⟨_,rfl⟩
 obtain⟨g,hg⟩:∃ g,g=w.heap.size:=⟨_,rfl⟩
 have hb0:Below w.heap.size w W:=by rw[hW];exact below_one _ _
 have hk0:Bk W g 68 #[.string ⟨#[]⟩,.nilFunc,.nilFunc,.nilFunc]:=by rw[hW,hg];exact Bk.new _ _ _
 have a0:W.cell? ⟨g,0,none⟩=some (.string ⟨#[]⟩):=hk0.cell 0
 have a1:W.cell? ⟨g,1,none⟩=some (.nilFunc):=hk0.cell 1
 have a2:W.cell? ⟨g,2,none⟩=some (.nilFunc):=hk0.cell 2
 have a3:W.cell? ⟨g,3,none⟩=some (.nilFunc):=hk0.cell 3
 have e0:∀ j,W.frozen? ⟨g,j,none⟩=false:=fun j=>hk0.free j
 have HB0:=lh hb0
 have HK0:=lh hk0
 have HG:=lh hg
 clear hb0 hk0
 go_enter Tryz.func106,Tryz.ntmps106
 go_upto_region 1 with fail
 rw[← hW,← hg]
 clear hW hg
 go_wp2_with fail
 clear a0 a1 a2 a3
 try simp only[Exit.inBlock,Exit.then]
 have hbk:=bkset4 HK0.out (.string s) (.func (.func 143) #[] #[]) (.func (.func 144) #[] #[]) (.func (.func 145) #[] #[])
 have r0:=hbk.cell 0
 have r1:=hbk.cell 1
 have r2:=hbk.cell 2
 have r3:=hbk.cell 3
 simp only[List.getElem?_toArray,List.getElem?_cons_zero,List.getElem?_cons_succ] at r0 r1 r2 r3
 refine bodyPost_ret (v:=.agg #[.string s,.func (.func 143) #[] #[],.func (.func 144) #[] #[],.func (.func 145) #[] #[]]) (by simp[results,Tryz.results106,r0,r1,r2,r3,go_sem]) rfl ?_
 exact⟨rfl,(kpset4 (g:=g) _ _ _ _).toBelow HB0.out HB0.out.size fun k e=>by have:=HG.out;omega⟩
set_option maxHeartbeats 2000000 in
theorem telling_any (w:World) (s:ByteArray):Calls Tryz.prog 107 #[.string s] w (RetB (.agg #[.string s,.func (.func 146) #[] #[],.func (.func 147) #[] #[],.func (.func 148) #[] #[]]) w):=by
 obtain⟨W,hW⟩:∃ W,W=w.alloc (.cells #[.string ⟨#[]⟩,.nilFunc,.nilFunc,.nilFunc] 68):=⟨_,rfl⟩
 obtain⟨g,hg⟩:∃ g,g=w.heap.size:=⟨_,rfl⟩
 have hb0:Below w.heap.size w W:=by rw[hW];exact below_one _ _
 have hk0:Bk W g 68 #[.string ⟨#[]⟩,.nilFunc,.nilFunc,.nilFunc]:=by rw[hW,hg];exact Bk.new _ _ _
 have a0:W.cell? ⟨g,0,none⟩=some (.string ⟨#[]⟩):=hk0.cell 0
 have a1:W.cell? ⟨g,1,none⟩=some (.nilFunc):=hk0.cell 1
 have a2:W.cell? ⟨g,2,none⟩=some (.nilFunc):=hk0.cell 2
 have a3:W.cell? ⟨g,3,none⟩=some (.nilFunc):=hk0.cell 3
 have e0:∀ j,W.frozen? ⟨g,j,none⟩=false:=fun j=>hk0.free j
 have HB0:=lh hb0
 have HK0:=lh hk0
 have HG:=lh hg
 clear hb0 hk0
 go_enter Tryz.func107,Tryz.ntmps107
 go_upto_region 1 with fail
 rw[← hW,← hg]
 clear hW hg
 go_wp2_with fail
 clear a0 a1 a2 a3
 try simp only[Exit.inBlock,Exit.then]
 have hbk:=bkset4 HK0.out (.string s) (.func (.func 146) #[] #[]) (.func (.func 147) #[] #[]) (.func (.func 148) #[] #[])
 have r0:=hbk.cell 0
 have r1:=hbk.cell 1
 have r2:=hbk.cell 2
 have r3:=hbk.cell 3
 simp only[List.getElem?_toArray,List.getElem?_cons_zero,List.getElem?_cons_succ] at r0 r1 r2 r3
 refine bodyPost_ret (v:=.agg #[.string s,.func (.func 146) #[] #[],.func (.func 147) #[] #[],.func (.func 148) #[] #[]]) (by simp[results,Tryz.results107,r0,r1,r2,r3,go_sem]) rfl ?_
 exact⟨rfl,(kpset4 (g:=g) _ _ _ _).toBelow HB0.out HB0.out.size fun k e=>by have:=HG.out;omega⟩
set_option maxHeartbeats 2000000 in
theorem tracing_any (w:World) (s:ByteArray):Calls Tryz.prog 108 #[.string s] w (RetB (.agg #[.string s,.func (.func 149) #[] #[],.func (.func 89) #[] #[],.func (.func 150) #[] #[]]) w):=by
 obtain⟨W,hW⟩:∃ W,W=w.alloc (.cells #[.string ⟨#[]⟩,.nilFunc,.nilFunc,.nilFunc] 68):=⟨_,rfl⟩
 obtain⟨g,hg⟩:∃ g,g=w.heap.size:=⟨_,rfl⟩
 have hb0:Below w.heap.size w W:=by rw[hW];exact below_one _ _
 have hk0:Bk W g 68 #[.string ⟨#[]⟩,.nilFunc,.nilFunc,.nilFunc]:=by rw[hW,hg];exact Bk.new _ _ _
 have a0:W.cell? ⟨g,0,none⟩=some (.string ⟨#[]⟩):=hk0.cell 0
 have a1:W.cell? ⟨g,1,none⟩=some (.nilFunc):=hk0.cell 1
 have a2:W.cell? ⟨g,2,none⟩=some (.nilFunc):=hk0.cell 2
 have a3:W.cell? ⟨g,3,none⟩=some (.nilFunc):=hk0.cell 3
 have e0:∀ j,W.frozen? ⟨g,j,none⟩=false:=fun j=>hk0.free j
 have HB0:=lh hb0
 have HK0:=lh hk0
 have HG:=lh hg
 clear hb0 hk0
 go_enter Tryz.func108,Tryz.ntmps108
 go_upto_region 1 with fail
 rw[← hW,← hg]
 clear hW hg
 go_wp2_with fail
 clear a0 a1 a2 a3
 try simp only[Exit.inBlock,Exit.then]
 have hbk:=bkset4 HK0.out (.string s) (.func (.func 149) #[] #[]) (.func (.func 89) #[] #[]) (.func (.func 150) #[] #[])
 have r0:=hbk.cell 0
 have r1:=hbk.cell 1
 have r2:=hbk.cell 2
 have r3:=hbk.cell 3
 simp only[List.getElem?_toArray,List.getElem?_cons_zero,List.getElem?_cons_succ] at r0 r1 r2 r3
 refine bodyPost_ret (v:=.agg #[.string s,.func (.func 149) #[] #[],.func (.func 89) #[] #[],.func (.func 150) #[] #[]]) (by simp[results,Tryz.results108,r0,r1,r2,r3,go_sem]) rfl ?_
 exact⟨rfl,(kpset4 (g:=g) _ _ _ _).toBelow HB0.out HB0.out.size fun k e=>by have:=HG.out;omega⟩
set_option maxHeartbeats 2000000 in
theorem bare_any (w:World) (s:ByteArray):Calls Tryz.prog 109 #[.string s] w (RetB (.agg #[.string s,.func (.func 151) #[] #[],.func (.func 152) #[] #[],.func (.func 153) #[] #[]]) w):=by
 obtain⟨W,hW⟩:∃ W,W=w.alloc (.cells #[.string ⟨#[]⟩,.nilFunc,.nilFunc,.nilFunc] 68):=⟨_,rfl⟩
 obtain⟨g,hg⟩:∃ g,g=w.heap.size:=⟨_,rfl⟩
 have hb0:Below w.heap.size w W:=by rw[hW];exact below_one _ _
 have hk0:Bk W g 68 #[.string ⟨#[]⟩,.nilFunc,.nilFunc,.nilFunc]:=by rw[hW,hg];exact Bk.new _ _ _
 have a0:W.cell? ⟨g,0,none⟩=some (.string ⟨#[]⟩):=hk0.cell 0
 have a1:W.cell? ⟨g,1,none⟩=some (.nilFunc):=hk0.cell 1
 have a2:W.cell? ⟨g,2,none⟩=some (.nilFunc):=hk0.cell 2
 have a3:W.cell? ⟨g,3,none⟩=some (.nilFunc):=hk0.cell 3
 have e0:∀ j,W.frozen? ⟨g,j,none⟩=false:=fun j=>hk0.free j
 have HB0:=lh hb0
 have HK0:=lh hk0
 have HG:=lh hg
 clear hb0 hk0
 go_enter Tryz.func109,Tryz.ntmps109
 go_upto_region 1 with fail
 rw[← hW,← hg]
 clear hW hg
 go_wp2_with fail
 clear a0 a1 a2 a3
 try simp only[Exit.inBlock,Exit.then]
 have hbk:=bkset4 HK0.out (.string s) (.func (.func 151) #[] #[]) (.func (.func 152) #[] #[]) (.func (.func 153) #[] #[])
 have r0:=hbk.cell 0
 have r1:=hbk.cell 1
 have r2:=hbk.cell 2
 have r3:=hbk.cell 3
 simp only[List.getElem?_toArray,List.getElem?_cons_zero,List.getElem?_cons_succ] at r0 r1 r2 r3
 refine bodyPost_ret (v:=.agg #[.string s,.func (.func 151) #[] #[],.func (.func 152) #[] #[],.func (.func 153) #[] #[]]) (by simp[results,Tryz.results109,r0,r1,r2,r3,go_sem]) rfl ?_
 exact⟨rfl,(kpset4 (g:=g) _ _ _ _).toBelow HB0.out HB0.out.size fun k e=>by have:=HG.out;omega⟩
def ktab:List Value:=[.string ⟨#[100,101,108,105,118,101,114]⟩,.func (.func 72) #[] #[],.func (.func 73) #[] #[],.func (.func 75) #[] #[],.string ⟨#[109,111,118,101]⟩,.func (.func 79) #[] #[],.func (.func 80) #[] #[],.func (.func 82) #[] #[],.string ⟨#[102,101,116,99,104]⟩,.func (.func 143) #[] #[],.func (.func 144) #[] #[],.func (.func 145) #[] #[],.string ⟨#[97,115,107]⟩,.func (.func 143) #[] #[],.func (.func 144) #[] #[],.func (.func 145) #[] #[],.string ⟨#[97,108,105,118,101]⟩,.func (.func 146) #[] #[],.func (.func 147) #[] #[],.func (.func 148) #[] #[],.string ⟨#[100,101,97,100]⟩,.func (.func 84) #[] #[],.func (.func 85) #[] #[],.func (.func 86) #[] #[],.string ⟨#[108,111,99,97,116,101]⟩,.func (.func 143) #[] #[],.func (.func 144) #[] #[],.func (.func 145) #[] #[],.string ⟨#[108,111,99,97,116,101,100]⟩,.func (.func 146) #[] #[],.func (.func 147) #[] #[],.func (.func 148) #[] #[],.string ⟨#[113,117,101,114,121]⟩,.func (.func 87) #[] #[],.func (.func 88) #[] #[],.func (.func 90) #[] #[],.string ⟨#[97,110,115,119,101,114]⟩,.func (.func 92) #[] #[],.func (.func 93) #[] #[],.func (.func 95) #[] #[],.string ⟨#[99,111,110,102,105,114,109]⟩,.func (.func 96) #[] #[],.func (.func 97) #[] #[],.func (.func 99) #[] #[],.string ⟨#[97,103,114,101,101]⟩,.func (.func 149) #[] #[],.func (.func 89) #[] #[],.func (.func 150) #[] #[],.string ⟨#[114,101,102,117,115,101]⟩,.func (.func 149) #[] #[],.func (.func 89) #[] #[],.func (.func 150) #[] #[],.string ⟨#[99,111,109,109,105,116]⟩,.func (.func 149) #[] #[],.func (.func 89) #[] #[],.func (.func 150) #[] #[],.string ⟨#[97,98,111,114,116]⟩,.func (.func 149) #[] #[],.func (.func 89) #[] #[],.func (.func 150) #[] #[],.string ⟨#[108,101,97,118,105,110,103]⟩,.func (.func 151) #[] #[],.func (.func 152) #[] #[],.func (.func 153) #[] #[],.string ⟨#[103,111,111,100,98,121,101]⟩,.func (.func 151) #[] #[],.func (.func 152) #[] #[],.func (.func 153) #[] #[],.string ⟨#[114,111,111,116]⟩,.func (.func 100) #[] #[],.func (.func 101) #[] #[],.func (.func 104) #[] #[]]
set_option maxHeartbeats 16000000 in
theorem kinds_any (w:World):Calls Tryz.prog 47 #[] w fun e w'=>∃ b,e=.returned (.slice (some ⟨b,0,none⟩) 18 18)∧Below w.heap.size w w'∧Bk w' b 68 ktab.toArray:=by
 obtain⟨x0,hx0⟩:∃ x0,x0=w.alloc (.cells #[.string ⟨#[100,101,108,105,118,101,114]⟩,.func (.func 72) #[] #[],.func (.func 73) #[] #[],.func (.func 75) #[] #[]] 68):=⟨_,rfl⟩
 obtain⟨k0,hk0⟩:∃ k0,k0=w.heap.size:=⟨_,rfl⟩
 have hb0:Below w.heap.size w x0:=by rw[hx0];exact below_one _ _
 have hq0:Bk x0 k0 68 #[.string ⟨#[100,101,108,105,118,101,114]⟩,.func (.func 72) #[] #[],.func (.func 73) #[] #[],.func (.func 75) #[] #[]]:=by rw[hx0,hk0];exact Bk.new _ _ _
 have hz0:w.heap.size≤x0.heap.size:=hb0.size
 obtain⟨x1,hx1⟩:∃ x1,x1=x0.alloc (.cells #[.string ⟨#[109,111,118,101]⟩,.func (.func 79) #[] #[],.func (.func 80) #[] #[],.func (.func 82) #[] #[]] 68):=⟨_,rfl⟩
 obtain⟨k1,hk1⟩:∃ k1,k1=x0.heap.size:=⟨_,rfl⟩
 have hb1:Below x0.heap.size x0 x1:=by rw[hx1];exact below_one _ _
 have hq1:Bk x1 k1 68 #[.string ⟨#[109,111,118,101]⟩,.func (.func 79) #[] #[],.func (.func 80) #[] #[],.func (.func 82) #[] #[]]:=by rw[hx1,hk1];exact Bk.new _ _ _
 have hz1:x0.heap.size≤x1.heap.size:=hb1.size
 obtain⟨x2,hx2⟩:∃ x2,x2=x1.alloc (.cells #[.string ⟨#[100,101,97,100]⟩,.func (.func 84) #[] #[],.func (.func 85) #[] #[],.func (.func 86) #[] #[]] 68):=⟨_,rfl⟩
 obtain⟨k2,hk2⟩:∃ k2,k2=x1.heap.size:=⟨_,rfl⟩
 have hb2:Below x1.heap.size x1 x2:=by rw[hx2];exact below_one _ _
 have hq2:Bk x2 k2 68 #[.string ⟨#[100,101,97,100]⟩,.func (.func 84) #[] #[],.func (.func 85) #[] #[],.func (.func 86) #[] #[]]:=by rw[hx2,hk2];exact Bk.new _ _ _
 have hz2:x1.heap.size≤x2.heap.size:=hb2.size
 obtain⟨x3,hx3⟩:∃ x3,x3=x2.alloc (.cells #[.string ⟨#[113,117,101,114,121]⟩,.func (.func 87) #[] #[],.func (.func 88) #[] #[],.func (.func 90) #[] #[]] 68):=⟨_,rfl⟩
 obtain⟨k3,hk3⟩:∃ k3,k3=x2.heap.size:=⟨_,rfl⟩
 have hb3:Below x2.heap.size x2 x3:=by rw[hx3];exact below_one _ _
 have hq3:Bk x3 k3 68 #[.string ⟨#[113,117,101,114,121]⟩,.func (.func 87) #[] #[],.func (.func 88) #[] #[],.func (.func 90) #[] #[]]:=by rw[hx3,hk3];exact Bk.new _ _ _
 have hz3:x2.heap.size≤x3.heap.size:=hb3.size
 obtain⟨x4,hx4⟩:∃ x4,x4=x3.alloc (.cells #[.string ⟨#[97,110,115,119,101,114]⟩,.func (.func 92) #[] #[],.func (.func 93) #[] #[],.func (.func 95) #[] #[]] 68):=⟨_,rfl⟩
 obtain⟨k4,hk4⟩:∃ k4,k4=x3.heap.size:=⟨_,rfl⟩
 have hb4:Below x3.heap.size x3 x4:=by rw[hx4];exact below_one _ _
 have hq4:Bk x4 k4 68 #[.string ⟨#[97,110,115,119,101,114]⟩,.func (.func 92) #[] #[],.func (.func 93) #[] #[],.func (.func 95) #[] #[]]:=by rw[hx4,hk4];exact Bk.new _ _ _
 have hz4:x3.heap.size≤x4.heap.size:=hb4.size
 obtain⟨x5,hx5⟩:∃ x5,x5=x4.alloc (.cells #[.string ⟨#[99,111,110,102,105,114,109]⟩,.func (.func 96) #[] #[],.func (.func 97) #[] #[],.func (.func 99) #[] #[]] 68):=⟨_,rfl⟩
 obtain⟨k5,hk5⟩:∃ k5,k5=x4.heap.size:=⟨_,rfl⟩
 have hb5:Below x4.heap.size x4 x5:=by rw[hx5];exact below_one _ _
 have hq5:Bk x5 k5 68 #[.string ⟨#[99,111,110,102,105,114,109]⟩,.func (.func 96) #[] #[],.func (.func 97) #[] #[],.func (.func 99) #[] #[]]:=by rw[hx5,hk5];exact Bk.new _ _ _
 have hz5:x4.heap.size≤x5.heap.size:=hb5.size
 obtain⟨x6,hx6⟩:∃ x6,x6=x5.alloc (.cells #[.string ⟨#[114,111,111,116]⟩,.func (.func 100) #[] #[],.func (.func 101) #[] #[],.func (.func 104) #[] #[]] 68):=⟨_,rfl⟩
 obtain⟨k6,hk6⟩:∃ k6,k6=x5.heap.size:=⟨_,rfl⟩
 have hb6:Below x5.heap.size x5 x6:=by rw[hx6];exact below_one _ _
 have hq6:Bk x6 k6 68 #[.string ⟨#[114,111,111,116]⟩,.func (.func 100) #[] #[],.func (.func 101) #[] #[],.func (.func 104) #[] #[]]:=by rw[hx6,hk6];exact Bk.new _ _ _
 have hz6:x5.heap.size≤x6.heap.size:=hb6.size
 have Hq0:=lh (((((((hq0).below hb1 (hq0).lt).below hb2 ((hq0).below hb1 (hq0).lt).lt).below hb3 (((hq0).below hb1 (hq0).lt).below hb2 ((hq0).below hb1 (hq0).lt).lt).lt).below hb4 ((((hq0).below hb1 (hq0).lt).below hb2 ((hq0).below hb1 (hq0).lt).lt).below hb3 (((hq0).below hb1 (hq0).lt).below hb2 ((hq0).below hb1 (hq0).lt).lt).lt).lt).below hb5 (((((hq0).below hb1 (hq0).lt).below hb2 ((hq0).below hb1 (hq0).lt).lt).below hb3 (((hq0).below hb1 (hq0).lt).below hb2 ((hq0).below hb1 (hq0).lt).lt).lt).below hb4 ((((hq0).below hb1 (hq0).lt).below hb2 ((hq0).below hb1 (hq0).lt).lt).below hb3 (((hq0).below hb1 (hq0).lt).below hb2 ((hq0).below hb1 (hq0).lt).lt).lt).lt).lt).below hb6 ((((((hq0).below hb1 (hq0).lt).below hb2 ((hq0).below hb1 (hq0).lt).lt).below hb3 (((hq0).below hb1 (hq0).lt).below hb2 ((hq0).below hb1 (hq0).lt).lt).lt).below hb4 ((((hq0).below hb1 (hq0).lt).below hb2 ((hq0).below hb1 (hq0).lt).lt).below hb3 (((hq0).below hb1 (hq0).lt).below hb2 ((hq0).below hb1 (hq0).lt).lt).lt).lt).below hb5 (((((hq0).below hb1 (hq0).lt).below hb2 ((hq0).below hb1 (hq0).lt).lt).below hb3 (((hq0).below hb1 (hq0).lt).below hb2 ((hq0).below hb1 (hq0).lt).lt).lt).below hb4 ((((hq0).below hb1 (hq0).lt).below hb2 ((hq0).below hb1 (hq0).lt).lt).below hb3 (((hq0).below hb1 (hq0).lt).below hb2 ((hq0).below hb1 (hq0).lt).lt).lt).lt).lt).lt)
 have Hq1:=lh ((((((hq1).below hb2 (hq1).lt).below hb3 ((hq1).below hb2 (hq1).lt).lt).below hb4 (((hq1).below hb2 (hq1).lt).below hb3 ((hq1).below hb2 (hq1).lt).lt).lt).below hb5 ((((hq1).below hb2 (hq1).lt).below hb3 ((hq1).below hb2 (hq1).lt).lt).below hb4 (((hq1).below hb2 (hq1).lt).below hb3 ((hq1).below hb2 (hq1).lt).lt).lt).lt).below hb6 (((((hq1).below hb2 (hq1).lt).below hb3 ((hq1).below hb2 (hq1).lt).lt).below hb4 (((hq1).below hb2 (hq1).lt).below hb3 ((hq1).below hb2 (hq1).lt).lt).lt).below hb5 ((((hq1).below hb2 (hq1).lt).below hb3 ((hq1).below hb2 (hq1).lt).lt).below hb4 (((hq1).below hb2 (hq1).lt).below hb3 ((hq1).below hb2 (hq1).lt).lt).lt).lt).lt)
 have Hq2:=lh (((((hq2).below hb3 (hq2).lt).below hb4 ((hq2).below hb3 (hq2).lt).lt).below hb5 (((hq2).below hb3 (hq2).lt).below hb4 ((hq2).below hb3 (hq2).lt).lt).lt).below hb6 ((((hq2).below hb3 (hq2).lt).below hb4 ((hq2).below hb3 (hq2).lt).lt).below hb5 (((hq2).below hb3 (hq2).lt).below hb4 ((hq2).below hb3 (hq2).lt).lt).lt).lt)
 have Hq3:=lh ((((hq3).below hb4 (hq3).lt).below hb5 ((hq3).below hb4 (hq3).lt).lt).below hb6 (((hq3).below hb4 (hq3).lt).below hb5 ((hq3).below hb4 (hq3).lt).lt).lt)
 have Hq4:=lh (((hq4).below hb5 (hq4).lt).below hb6 ((hq4).below hb5 (hq4).lt).lt)
 have Hq5:=lh ((hq5).below hb6 (hq5).lt)
 have Hq6:=lh (hq6)
 have HB:=lh (((((((hb0).trans (hb1.mono (by omega))).trans (hb2.mono (by omega))).trans (hb3.mono (by omega))).trans (hb4.mono (by omega))).trans (hb5.mono (by omega))).trans (hb6.mono (by omega)))
 clear hb0 hq0 hz0 hb1 hq1 hz1 hb2 hq2 hz2 hb3 hq3 hz3 hb4 hq4 hz4 hb5 hq5 hz5 hb6 hq6 hz6
 go_enter Tryz.func47,Tryz.ntmps47
 go_upto_region 8 with fail
 have e1:k0+1=k1:=by rw[hk1,hk0,hx0];simp
 have e2:k1+1=k2:=by rw[hk2,hk1,hx1];simp
 have e3:k2+1=k3:=by rw[hk3,hk2,hx2];simp
 have e4:k3+1=k4:=by rw[hk4,hk3,hx3];simp
 have e5:k4+1=k5:=by rw[hk5,hk4,hx4];simp
 have e6:k5+1=k6:=by rw[hk6,hk5,hx5];simp
 rw[← hx0,← hx1,← hx2,← hx3,← hx4,← hx5,← hx6,← hk0,e1,e2,e3,e4,e5,e6]
 clear hx0 hk0 hx1 hk1 hx2 hk2 hx3 hk3 hx4 hk4 hx5 hk5 hx6 hk6 e1 e2 e3 e4 e5 e6
 refine wp_region_adds0 18 (fun i=>([[],[],[],[],[],[],[],[],[],[],[],[],[],[],[],[],[],[]]:List (List Nat)).getD i []) (EL [Ent.val (.agg #[.string ⟨#[100,101,108,105,118,101,114]⟩,.func (.func 72) #[] #[],.func (.func 73) #[] #[],.func (.func 75) #[] #[]]),Ent.val (.agg #[.string ⟨#[109,111,118,101]⟩,.func (.func 79) #[] #[],.func (.func 80) #[] #[],.func (.func 82) #[] #[]]),Ent.val (.agg #[.string ⟨#[102,101,116,99,104]⟩,.func (.func 143) #[] #[],.func (.func 144) #[] #[],.func (.func 145) #[] #[]]),Ent.val (.agg #[.string ⟨#[97,115,107]⟩,.func (.func 143) #[] #[],.func (.func 144) #[] #[],.func (.func 145) #[] #[]]),Ent.val (.agg #[.string ⟨#[97,108,105,118,101]⟩,.func (.func 146) #[] #[],.func (.func 147) #[] #[],.func (.func 148) #[] #[]]),Ent.val (.agg #[.string ⟨#[100,101,97,100]⟩,.func (.func 84) #[] #[],.func (.func 85) #[] #[],.func (.func 86) #[] #[]]),Ent.val (.agg #[.string ⟨#[108,111,99,97,116,101]⟩,.func (.func 143) #[] #[],.func (.func 144) #[] #[],.func (.func 145) #[] #[]]),Ent.val (.agg #[.string ⟨#[108,111,99,97,116,101,100]⟩,.func (.func 146) #[] #[],.func (.func 147) #[] #[],.func (.func 148) #[] #[]]),Ent.val (.agg #[.string ⟨#[113,117,101,114,121]⟩,.func (.func 87) #[] #[],.func (.func 88) #[] #[],.func (.func 90) #[] #[]]),Ent.val (.agg #[.string ⟨#[97,110,115,119,101,114]⟩,.func (.func 92) #[] #[],.func (.func 93) #[] #[],.func (.func 95) #[] #[]]),Ent.val (.agg #[.string ⟨#[99,111,110,102,105,114,109]⟩,.func (.func 96) #[] #[],.func (.func 97) #[] #[],.func (.func 99) #[] #[]]),Ent.val (.agg #[.string ⟨#[97,103,114,101,101]⟩,.func (.func 149) #[] #[],.func (.func 89) #[] #[],.func (.func 150) #[] #[]]),Ent.val (.agg #[.string ⟨#[114,101,102,117,115,101]⟩,.func (.func 149) #[] #[],.func (.func 89) #[] #[],.func (.func 150) #[] #[]]),Ent.val (.agg #[.string ⟨#[99,111,109,109,105,116]⟩,.func (.func 149) #[] #[],.func (.func 89) #[] #[],.func (.func 150) #[] #[]]),Ent.val (.agg #[.string ⟨#[97,98,111,114,116]⟩,.func (.func 149) #[] #[],.func (.func 89) #[] #[],.func (.func 150) #[] #[]]),Ent.val (.agg #[.string ⟨#[108,101,97,118,105,110,103]⟩,.func (.func 151) #[] #[],.func (.func 152) #[] #[],.func (.func 153) #[] #[]]),Ent.val (.agg #[.string ⟨#[103,111,111,100,98,121,101]⟩,.func (.func 151) #[] #[],.func (.func 152) #[] #[],.func (.func 153) #[] #[]]),Ent.val (.agg #[.string ⟨#[114,111,111,116]⟩,.func (.func 100) #[] #[],.func (.func 101) #[] #[],.func (.func 104) #[] #[]])]) (by kernel_rfl) (by kernel_rfl) (by kernel_rfl) (by kernel_rfl) (by rfl) ?_ ?_
 ·intro i hi o ho vs w1 hb1 hgr
  rcases (show i=0 ∨ i=1 ∨ i=2 ∨ i=3 ∨ i=4 ∨ i=5 ∨ i=6 ∨ i=7 ∨ i=8 ∨ i=9 ∨ i=10 ∨ i=11 ∨ i=12 ∨ i=13 ∨ i=14 ∨ i=15 ∨ i=16 ∨ i=17 by omega) with rfl | rfl | rfl | rfl | rfl | rfl | rfl | rfl | rfl | rfl | rfl | rfl | rfl | rfl | rfl | rfl | rfl | rfl <;> cases ho
  ·clear hgr
   change Made _ (Adds _ _ _) (Sem.run _ (execOp (Act.eval (frm _ _ _ [])) _) _)
   simp only[frm]
   have hbk:=Hq0.out.below hb1 Hq0.out.lt
   have c0:w1.cell? ⟨k0,0,none⟩=some (.string ⟨#[100,101,108,105,118,101,114]⟩):=hbk.cell 0
   have c1:w1.cell? ⟨k0,1,none⟩=some (.func (.func 72) #[] #[]):=hbk.cell 1
   have c2:w1.cell? ⟨k0,2,none⟩=some (.func (.func 73) #[] #[]):=hbk.cell 2
   have c3:w1.cell? ⟨k0,3,none⟩=some (.func (.func 75) #[] #[]):=hbk.cell 3
   clear hbk
   go_simp
   exact adds_val rfl
  ·clear hgr
   change Made _ (Adds _ _ _) (Sem.run _ (execOp (Act.eval (frm _ _ _ [])) _) _)
   simp only[frm]
   have hbk:=Hq1.out.below hb1 Hq1.out.lt
   have c0:w1.cell? ⟨k1,0,none⟩=some (.string ⟨#[109,111,118,101]⟩):=hbk.cell 0
   have c1:w1.cell? ⟨k1,1,none⟩=some (.func (.func 79) #[] #[]):=hbk.cell 1
   have c2:w1.cell? ⟨k1,2,none⟩=some (.func (.func 80) #[] #[]):=hbk.cell 2
   have c3:w1.cell? ⟨k1,3,none⟩=some (.func (.func 82) #[] #[]):=hbk.cell 3
   clear hbk
   go_simp
   exact adds_val rfl
  ·clear hgr
   change Made _ (Adds _ _ _) (Sem.run _ (execOp (Act.eval (frm _ _ _ [])) _) _)
   simp only[frm]
   have cM:=asking_any w1 ⟨#[102,101,116,99,104]⟩
   go_simp
   exact adds_below cM
  ·clear hgr
   change Made _ (Adds _ _ _) (Sem.run _ (execOp (Act.eval (frm _ _ _ [])) _) _)
   simp only[frm]
   have cM:=asking_any w1 ⟨#[97,115,107]⟩
   go_simp
   exact adds_below cM
  ·clear hgr
   change Made _ (Adds _ _ _) (Sem.run _ (execOp (Act.eval (frm _ _ _ [])) _) _)
   simp only[frm]
   have cM:=telling_any w1 ⟨#[97,108,105,118,101]⟩
   go_simp
   exact adds_below cM
  ·clear hgr
   change Made _ (Adds _ _ _) (Sem.run _ (execOp (Act.eval (frm _ _ _ [])) _) _)
   simp only[frm]
   have hbk:=Hq2.out.below hb1 Hq2.out.lt
   have c0:w1.cell? ⟨k2,0,none⟩=some (.string ⟨#[100,101,97,100]⟩):=hbk.cell 0
   have c1:w1.cell? ⟨k2,1,none⟩=some (.func (.func 84) #[] #[]):=hbk.cell 1
   have c2:w1.cell? ⟨k2,2,none⟩=some (.func (.func 85) #[] #[]):=hbk.cell 2
   have c3:w1.cell? ⟨k2,3,none⟩=some (.func (.func 86) #[] #[]):=hbk.cell 3
   clear hbk
   go_simp
   exact adds_val rfl
  ·clear hgr
   change Made _ (Adds _ _ _) (Sem.run _ (execOp (Act.eval (frm _ _ _ [])) _) _)
   simp only[frm]
   have cM:=asking_any w1 ⟨#[108,111,99,97,116,101]⟩
   go_simp
   exact adds_below cM
  ·clear hgr
   change Made _ (Adds _ _ _) (Sem.run _ (execOp (Act.eval (frm _ _ _ [])) _) _)
   simp only[frm]
   have cM:=telling_any w1 ⟨#[108,111,99,97,116,101,100]⟩
   go_simp
   exact adds_below cM
  ·clear hgr
   change Made _ (Adds _ _ _) (Sem.run _ (execOp (Act.eval (frm _ _ _ [])) _) _)
   simp only[frm]
   have hbk:=Hq3.out.below hb1 Hq3.out.lt
   have c0:w1.cell? ⟨k3,0,none⟩=some (.string ⟨#[113,117,101,114,121]⟩):=hbk.cell 0
   have c1:w1.cell? ⟨k3,1,none⟩=some (.func (.func 87) #[] #[]):=hbk.cell 1
   have c2:w1.cell? ⟨k3,2,none⟩=some (.func (.func 88) #[] #[]):=hbk.cell 2
   have c3:w1.cell? ⟨k3,3,none⟩=some (.func (.func 90) #[] #[]):=hbk.cell 3
   clear hbk
   go_simp
   exact adds_val rfl
  ·clear hgr
   change Made _ (Adds _ _ _) (Sem.run _ (execOp (Act.eval (frm _ _ _ [])) _) _)
   simp only[frm]
   have hbk:=Hq4.out.below hb1 Hq4.out.lt
   have c0:w1.cell? ⟨k4,0,none⟩=some (.string ⟨#[97,110,115,119,101,114]⟩):=hbk.cell 0
   have c1:w1.cell? ⟨k4,1,none⟩=some (.func (.func 92) #[] #[]):=hbk.cell 1
   have c2:w1.cell? ⟨k4,2,none⟩=some (.func (.func 93) #[] #[]):=hbk.cell 2
   have c3:w1.cell? ⟨k4,3,none⟩=some (.func (.func 95) #[] #[]):=hbk.cell 3
   clear hbk
   go_simp
   exact adds_val rfl
  ·clear hgr
   change Made _ (Adds _ _ _) (Sem.run _ (execOp (Act.eval (frm _ _ _ [])) _) _)
   simp only[frm]
   have hbk:=Hq5.out.below hb1 Hq5.out.lt
   have c0:w1.cell? ⟨k5,0,none⟩=some (.string ⟨#[99,111,110,102,105,114,109]⟩):=hbk.cell 0
   have c1:w1.cell? ⟨k5,1,none⟩=some (.func (.func 96) #[] #[]):=hbk.cell 1
   have c2:w1.cell? ⟨k5,2,none⟩=some (.func (.func 97) #[] #[]):=hbk.cell 2
   have c3:w1.cell? ⟨k5,3,none⟩=some (.func (.func 99) #[] #[]):=hbk.cell 3
   clear hbk
   go_simp
   exact adds_val rfl
  ·clear hgr
   change Made _ (Adds _ _ _) (Sem.run _ (execOp (Act.eval (frm _ _ _ [])) _) _)
   simp only[frm]
   have cM:=tracing_any w1 ⟨#[97,103,114,101,101]⟩
   go_simp
   exact adds_below cM
  ·clear hgr
   change Made _ (Adds _ _ _) (Sem.run _ (execOp (Act.eval (frm _ _ _ [])) _) _)
   simp only[frm]
   have cM:=tracing_any w1 ⟨#[114,101,102,117,115,101]⟩
   go_simp
   exact adds_below cM
  ·clear hgr
   change Made _ (Adds _ _ _) (Sem.run _ (execOp (Act.eval (frm _ _ _ [])) _) _)
   simp only[frm]
   have cM:=tracing_any w1 ⟨#[99,111,109,109,105,116]⟩
   go_simp
   exact adds_below cM
  ·clear hgr
   change Made _ (Adds _ _ _) (Sem.run _ (execOp (Act.eval (frm _ _ _ [])) _) _)
   simp only[frm]
   have cM:=tracing_any w1 ⟨#[97,98,111,114,116]⟩
   go_simp
   exact adds_below cM
  ·clear hgr
   change Made _ (Adds _ _ _) (Sem.run _ (execOp (Act.eval (frm _ _ _ [])) _) _)
   simp only[frm]
   have cM:=bare_any w1 ⟨#[108,101,97,118,105,110,103]⟩
   go_simp
   exact adds_below cM
  ·clear hgr
   change Made _ (Adds _ _ _) (Sem.run _ (execOp (Act.eval (frm _ _ _ [])) _) _)
   simp only[frm]
   have cM:=bare_any w1 ⟨#[103,111,111,100,98,121,101]⟩
   go_simp
   exact adds_below cM
  ·clear hgr
   change Made _ (Adds _ _ _) (Sem.run _ (execOp (Act.eval (frm _ _ _ [])) _) _)
   simp only[frm]
   have hbk:=Hq6.out.below hb1 Hq6.out.lt
   have c0:w1.cell? ⟨k6,0,none⟩=some (.string ⟨#[114,111,111,116]⟩):=hbk.cell 0
   have c1:w1.cell? ⟨k6,1,none⟩=some (.func (.func 100) #[] #[]):=hbk.cell 1
   have c2:w1.cell? ⟨k6,2,none⟩=some (.func (.func 101) #[] #[]):=hbk.cell 2
   have c3:w1.cell? ⟨k6,3,none⟩=some (.func (.func 104) #[] #[]):=hbk.cell 3
   clear hbk
   go_simp
   exact adds_val rfl
 intro vs w1 hb1 hall hap
 have h0:vs 0=_:=(hall 0 (by omega)).1
 have h1:vs 1=_:=(hall 1 (by omega)).1
 have h2:vs 2=_:=(hall 2 (by omega)).1
 have h3:vs 3=_:=(hall 3 (by omega)).1
 have h4:vs 4=_:=(hall 4 (by omega)).1
 have h5:vs 5=_:=(hall 5 (by omega)).1
 have h6:vs 6=_:=(hall 6 (by omega)).1
 have h7:vs 7=_:=(hall 7 (by omega)).1
 have h8:vs 8=_:=(hall 8 (by omega)).1
 have h9:vs 9=_:=(hall 9 (by omega)).1
 have h10:vs 10=_:=(hall 10 (by omega)).1
 have h11:vs 11=_:=(hall 11 (by omega)).1
 have h12:vs 12=_:=(hall 12 (by omega)).1
 have h13:vs 13=_:=(hall 13 (by omega)).1
 have h14:vs 14=_:=(hall 14 (by omega)).1
 have h15:vs 15=_:=(hall 15 (by omega)).1
 have h16:vs 16=_:=(hall 16 (by omega)).1
 have h17:vs 17=_:=(hall 17 (by omega)).1
 clear hall hap
 change wpList _ _ _ [_,_] (Act.put (Act.put (Act.put (Act.put (Act.put (Act.put (Act.put (Act.put (Act.put (Act.put (Act.put (Act.put (Act.put (Act.put (Act.put (Act.put (Act.put (Act.put (frm _ _ _ []) (some 32) (vs 17)) (some 31) (vs 16)) (some 30) (vs 15)) (some 29) (vs 14)) (some 28) (vs 13)) (some 27) (vs 12)) (some 26) (vs 11)) (some 25) (vs 10)) (some 24) (vs 9)) (some 23) (vs 8)) (some 22) (vs 7)) (some 21) (vs 6)) (some 20) (vs 5)) (some 19) (vs 4)) (some 18) (vs 3)) (some 17) (vs 2)) (some 16) (vs 1)) (some 15) (vs 0)) _
 simp only[frm,h0,h1,h2,h3,h4,h5,h6,h7,h8,h9,h10,h11,h12,h13,h14,h15,h16,h17]
 go_wp2_with fail
 go_ret
 have hb2:=HB.out.trans (hb1.mono HB.out.size)
 exact⟨_,rfl,hb2.trans ((below_one _ _).mono hb2.size),Bk.new _ _ _⟩
def kS (k:Nat):ByteArray:=([⟨#[100,101,108,105,118,101,114]⟩,⟨#[109,111,118,101]⟩,⟨#[102,101,116,99,104]⟩,⟨#[97,115,107]⟩,⟨#[97,108,105,118,101]⟩,⟨#[100,101,97,100]⟩,⟨#[108,111,99,97,116,101]⟩,⟨#[108,111,99,97,116,101,100]⟩,⟨#[113,117,101,114,121]⟩,⟨#[97,110,115,119,101,114]⟩,⟨#[99,111,110,102,105,114,109]⟩,⟨#[97,103,114,101,101]⟩,⟨#[114,101,102,117,115,101]⟩,⟨#[99,111,109,109,105,116]⟩,⟨#[97,98,111,114,116]⟩,⟨#[108,101,97,118,105,110,103]⟩,⟨#[103,111,111,100,98,121,101]⟩,⟨#[114,111,111,116]⟩]:List ByteArray).getD k ⟨#[]⟩
def kA (k:Nat):Nat:=([72,79,143,143,146,84,143,146,87,92,96,149,149,149,149,151,151,100]:List Nat).getD k 0
def kB (k:Nat):Nat:=([73,80,144,144,147,85,144,147,88,93,97,89,89,89,89,152,152,101]:List Nat).getD k 0
def kC (k:Nat):Nat:=([75,82,145,145,148,86,145,148,90,95,99,150,150,150,150,153,153,104]:List Nat).getD k 0
def kV (k:Nat):Value:=.agg #[.string (kS k),.func (.func (kA k)) #[] #[],.func (.func (kB k)) #[] #[],.func (.func (kC k)) #[] #[]]
theorem ktab_get {k:Nat} (h:k < 18):ktab.toArray[k*4]?=some (.string (kS k))∧ktab.toArray[k*4+1]?=some (.func (.func (kA k)) #[] #[])∧ktab.toArray[k*4+2]?=some (.func (.func (kB k)) #[] #[])∧ktab.toArray[k*4+3]?=some (.func (.func (kC k)) #[] #[]):=by
 rcases (show k=0 ∨ k=1 ∨ k=2 ∨ k=3 ∨ k=4 ∨ k=5 ∨ k=6 ∨ k=7 ∨ k=8 ∨ k=9 ∨ k=10 ∨ k=11 ∨ k=12 ∨ k=13 ∨ k=14 ∨ k=15 ∨ k=16 ∨ k=17 by omega) with rfl | rfl | rfl | rfl | rfl | rfl | rfl | rfl | rfl | rfl | rfl | rfl | rfl | rfl | rfl | rfl | rfl | rfl <;> exact⟨rfl,rfl,rfl,rfl⟩
set_option maxHeartbeats 4000000 in
theorem find_in (w:World) {k:Nat} (hk:k < 18):Calls Tryz.prog 26 #[.int .i64 k] w (RetB (.tuple #[kV k,.bool true]) w):=by
 obtain⟨W,hW⟩:∃ W,W=w.alloc (.cells #[.string ⟨#[]⟩,.nilFunc,.nilFunc,.nilFunc] 68):=⟨_,rfl⟩
 obtain⟨g,hg⟩:∃ g,g=w.heap.size:=⟨_,rfl⟩
 have hb0:Below w.heap.size w W:=by rw[hW];exact below_one _ _
 have hk0:Bk W g 68 #[.string ⟨#[]⟩,.nilFunc,.nilFunc,.nilFunc]:=by rw[hW,hg];exact Bk.new _ _ _
 have HB0:=lh hb0
 have HK0:=lh hk0
 have HG:=lh hg
 have cK:=kinds_any W
 clear hb0 hk0
 go_enter Tryz.func26,Tryz.ntmps26
 go_upto_region 1 with fail
 rw[← hW,← hg]
 clear hW hg
 go_wp2_with fail
 refine cK.mono ?_
 rintro e w1 ⟨b,rfl,hb1,hq1⟩
 have HB1:=lh (HB0.out.trans (hb1.mono HB0.out.size))
 have HK1:=lh (HK0.out.below hb1 HK0.out.lt)
 have a0:w1.cell? ⟨g,0,none⟩=some (.string ⟨#[]⟩):=HK1.out.cell 0
 have a1:w1.cell? ⟨g,1,none⟩=some (.nilFunc):=HK1.out.cell 1
 have a2:w1.cell? ⟨g,2,none⟩=some (.nilFunc):=HK1.out.cell 2
 have a3:w1.cell? ⟨g,3,none⟩=some (.nilFunc):=HK1.out.cell 3
 have e0:∀ j,w1.frozen? ⟨g,j,none⟩=false:=fun j=>HK1.out.free j
 obtain⟨t0,t1,t2,t3⟩:=ktab_get hk
 have c0:w1.cell? ⟨b,k*4,none⟩=some (.string (kS k)):=(hq1.cell (k*4)).trans t0
 have c1:w1.cell? ⟨b,k*4+1,none⟩=some (.func (.func (kA k)) #[] #[]):=(hq1.cell (k*4+1)).trans t1
 have c2:w1.cell? ⟨b,k*4+2,none⟩=some (.func (.func (kB k)) #[] #[]):=(hq1.cell (k*4+2)).trans t2
 have c3:w1.cell? ⟨b,k*4+3,none⟩=some (.func (.func (kC k)) #[] #[]):=(hq1.cell (k*4+3)).trans t3
 have q0:decide ((k:Int) < 0)=false:=decide_eq_false (by omega)
 have q1:decide ((k:Int) ≥ 18)=false:=decide_eq_false (by omega)
 clear hb1 hq1 cK t0 t1 t2 t3
 go_wp2_with fail
 clear a0 a1 a2 a3 c0 c1 c2 c3
 try simp only[Exit.inBlock,Exit.then]
 have hbk:=bkset4 HK1.out (.string (kS k)) (.func (.func (kA k)) #[] #[]) (.func (.func (kB k)) #[] #[]) (.func (.func (kC k)) #[] #[])
 have r0:=hbk.cell 0
 have r1:=hbk.cell 1
 have r2:=hbk.cell 2
 have r3:=hbk.cell 3
 simp only[List.getElem?_toArray,List.getElem?_cons_zero,List.getElem?_cons_succ] at r0 r1 r2 r3
 refine bodyPost_ret (v:=.tuple #[.agg #[.string (kS k),.func (.func (kA k)) #[] #[],.func (.func (kB k)) #[] #[],.func (.func (kC k)) #[] #[]],.bool true]) (by simp[results,Tryz.results26,r0,r1,r2,r3,go_sem]) rfl ?_
 exact⟨rfl,(kpset4 (g:=g) _ _ _ _).toBelow HB1.out HB1.out.size fun k e=>by have:=HG.out;omega⟩
set_option maxHeartbeats 4000000 in
theorem find_out (w:World) {n:Int} (hn:n < 0 ∨ 18≤n):Calls Tryz.prog 26 #[.int .i64 n] w (RetB (.tuple #[.agg #[.string ⟨#[]⟩,.nilFunc,.nilFunc,.nilFunc],.bool false]) w):=by
 obtain⟨W,hW⟩:∃ W,W=w.alloc (.cells #[.string ⟨#[]⟩,.nilFunc,.nilFunc,.nilFunc] 68):=⟨_,rfl⟩
 obtain⟨g,hg⟩:∃ g,g=w.heap.size:=⟨_,rfl⟩
 have hb0:Below w.heap.size w W:=by rw[hW];exact below_one _ _
 have hk0:Bk W g 68 #[.string ⟨#[]⟩,.nilFunc,.nilFunc,.nilFunc]:=by rw[hW,hg];exact Bk.new _ _ _
 have HB0:=lh hb0
 have HK0:=lh hk0
 have HG:=lh hg
 have cK:=kinds_any W
 clear hb0 hk0
 go_enter Tryz.func26,Tryz.ntmps26
 go_upto_region 1 with fail
 rw[← hW,← hg]
 clear hW hg
 go_wp2_with fail
 refine cK.mono ?_
 rintro e w1 ⟨b,rfl,hb1,hq1⟩
 have HB1:=lh (HB0.out.trans (hb1.mono HB0.out.size))
 have HK1:=lh (HK0.out.below hb1 HK0.out.lt)
 have a0:w1.cell? ⟨g,0,none⟩=some (.string ⟨#[]⟩):=HK1.out.cell 0
 have a1:w1.cell? ⟨g,1,none⟩=some (.nilFunc):=HK1.out.cell 1
 have a2:w1.cell? ⟨g,2,none⟩=some (.nilFunc):=HK1.out.cell 2
 have a3:w1.cell? ⟨g,3,none⟩=some (.nilFunc):=HK1.out.cell 3
 have e0:∀ j,w1.frozen? ⟨g,j,none⟩=false:=fun j=>HK1.out.free j
 clear hb1 hq1 cK
 by_cases h0:n < 0
 ·have q0:decide (n < 0)=true:=decide_eq_true h0
  go_wp2_with fail
  clear a0 a1 a2 a3
  try simp only[Exit.inBlock,Exit.then]
  have hbk:=bkset4 HK1.out (.string ⟨#[]⟩) (.nilFunc) (.nilFunc) (.nilFunc)
  have r0:=hbk.cell 0
  have r1:=hbk.cell 1
  have r2:=hbk.cell 2
  have r3:=hbk.cell 3
  simp only[List.getElem?_toArray,List.getElem?_cons_zero,List.getElem?_cons_succ] at r0 r1 r2 r3
  refine bodyPost_ret (v:=.tuple #[.agg #[.string ⟨#[]⟩,.nilFunc,.nilFunc,.nilFunc],.bool false]) (by simp[results,Tryz.results26,r0,r1,r2,r3,go_sem]) rfl ?_
  exact⟨rfl,(kpset4 (g:=g) _ _ _ _).toBelow HB1.out HB1.out.size fun k e=>by have:=HG.out;omega⟩
 ·have q0:decide (n < 0)=false:=decide_eq_false h0
  have q1:decide (n ≥ 18)=true:=decide_eq_true (by omega)
  go_wp2_with fail
  clear a0 a1 a2 a3
  try simp only[Exit.inBlock,Exit.then]
  have hbk:=bkset4 HK1.out (.string ⟨#[]⟩) (.nilFunc) (.nilFunc) (.nilFunc)
  have r0:=hbk.cell 0
  have r1:=hbk.cell 1
  have r2:=hbk.cell 2
  have r3:=hbk.cell 3
  simp only[List.getElem?_toArray,List.getElem?_cons_zero,List.getElem?_cons_succ] at r0 r1 r2 r3
  refine bodyPost_ret (v:=.tuple #[.agg #[.string ⟨#[]⟩,.nilFunc,.nilFunc,.nilFunc],.bool false]) (by simp[results,Tryz.results26,r0,r1,r2,r3,go_sem]) rfl ?_
  exact⟨rfl,(kpset4 (g:=g) _ _ _ _).toBelow HB1.out HB1.out.size fun k e=>by have:=HG.out;omega⟩
end
end Go.Proofs.YtmbnlccafcfbeaaGreatDoor
