/- Parts of the proof: Dec4. -/
import Derived.Test.YtmbnlccafcfbeaaDoorPeA
import Derived.Test.YtmbnlccafcfbeaaDoorPe11
set_option linter.unusedVariables false
set_option linter.unusedSimpArgs false
set_option linter.unusedSectionVars false
set_option maxRecDepth 100000
namespace Go.Proofs.YtmbnlccafcfbeaaDoor
section
open Go.RowKit
attribute [local go_sem] Oper.semAt_some
def DecP (w:World) (cs:List Cls) (er:Int) (e:Ending) (w':World):Prop :=
 Below w.heap.size w w'∧((er≠0∧e=.returned (.tuple #[.agg #[.slice none 0 0],.int .i64 er])) ∨ (er=0∧∃ A c xs,e=.returned (.tuple #[.agg #[.slice A cs.length c],.int .i64 0])∧w'.ownsRow 0 48 4 (.slice A cs.length c) cs.length xs∧Els ClsO 4 w' cs xs))
/-- the state in the innermost loop -/
def DS (g bb m B:Nat) (W7:World) (cells:Array Value) (V:Value) (n:Nat) (cs:List Value) (r:Rd) (w:World):Prop:=RdX w g bb r∧Bk w m 43 cells∧w.ownsRow B 37 3 V n cs∧Kp (fun k=>k=g ∨ k=m) W7 w
theorem DS.read {g bb m B n:Nat} {W7 w w':World} {cells:Array Value} {V:Value} {cs:List Value} {r r':Rd} (h:DS g bb m B W7 cells V n cs r w) (hx:RdX w' g bb r') (hk:Kp (fun k=>k=g) w w') (hm:m≠g):DS g bb m B W7 cells V n cs r' w' :=
 ⟨hx,h.2.1.kp hk hm,own_kpT h.2.2.1 hk fun k e=>(by subst e;obtain⟨c,hc⟩:=h.1.bkx;exact⟨_,c,hc,by decide⟩),h.2.2.2.trans hk fun k _ h=>.inl h⟩
def SQ (zo za zb:Int) (D0 D1 D2 D3:World→Prop) (D4 D5:Value→World→Prop) (D6:World→Prop) (l:List Value) (w:World):Prop:=match l with
 | []=>D0 w
 | [u]=>u=.int .i64 zo∧D1 w
 | [u,v]=>(u=.int .i64 zo∧v=.int .i64 za)∧D2 w
 | [u,v,x]=>(u=.int .i64 zo∧v=.int .i64 za∧x=.int .i64 zb)∧D3 w
 | [_,_,_,y]=>D4 y w
 | [_,_,_,_,z]=>D5 z w
 | _=>D6 w
theorem rd_chain {w:World} {g bb:Nat} {v:Value} {r:Rd} {T:Value→World→Prop} {f:FuncId} {args:Array Value} {P:Program} (h:Calls P f args w (RdP w g bb v r)) (hT:∀ w',RdX w' g bb r→Kp (fun k=>k=g) w w'→T v w'):Made P T (.ok (.enter f args) w) :=
 made_call (h.mono fun e w' ⟨he,h1,h2⟩=>⟨v,he,hT w' h1 h2⟩)
section
variable {w:World} {A:Option Addr} {c:Nat} {b:List Int}
set_option maxHeartbeats 16000000 in
theorem Decode_any (h:Sl w 1 A b.length (byts b)) (h8:B8 b) (hl:b.length≤4294967296):Calls Tryd.prog 12 #[.slice A b.length c] w (DecP w (decCode ⟨b,0⟩).1 (if (decCode ⟨b,0⟩).2.e=0∧(decCode ⟨b,0⟩).2.b≠[] then 11 else (decCode ⟨b,0⟩).2.e)):=by
 obtain⟨ds,hds⟩:∃ ds,ds=(decCode ⟨b,0⟩).1:=⟨_,rfl⟩
 obtain⟨er,her⟩:∃ er,er=(if (decCode ⟨b,0⟩).2.e=0∧(decCode ⟨b,0⟩).2.b≠[] then 11 else (decCode ⟨b,0⟩).2.e):=⟨_,rfl⟩
 rw[← hds,← her]
 have HDS:=lh (And.intro hds her)
 clear hds her
 have hdec:decCode ⟨b,0⟩=rep decCls ((Rd.mk b 0).count 60).2 ((Rd.mk b 0).count 60).1.toNat:=rfl
 have hcl:=Rd.count_len (most:=60) (r:=⟨b,0⟩) h8
 have hcm:=Rd.count_le (r:=⟨b,0⟩) (most:=60) (by decide)
 obtain⟨q1,hq1⟩:∃ q1,q1=(Rd.mk b 0).count 60:=⟨_,rfl⟩
 rw[← hq1] at hdec hcl hcm
 obtain⟨n1',r1⟩:=q1
 dsimp only at hdec hcl hcm
 obtain⟨n1,rfl⟩:=Int.eq_ofNat_of_zero_le hcl.1
 rw[Int.toNat_natCast] at hdec
 rw[hdec] at HDS
 have hn1:n1≤60:=by omega
 have HQ1:=lh hq1
 clear hdec hcl hcm hq1
 obtain⟨w0,hw0⟩:∃ w0,w0=w.alloc (.cells #[.slice none 0 0] 24):=⟨_,rfl⟩
 have hb0:Below w.heap.size w w0:=by rw[hw0];exact(Below.refl _ _).alloc (Nat.le_refl _) _
 have hr0:Bk w0 w.heap.size 24 #[.slice none 0 0]:=by rw[hw0];exact Bk.new _ _ _
 have hz0:w0.heap.size=w.heap.size+1:=by rw[hw0];simp
 have cN:=NewReader_any (c:=c) (h.below hb0) h8 (by omega) (by omega)
 have H0:=lh (And.intro hb0 (And.intro hr0 hz0))
 clear h h8 hl hb0 hr0 hz0
 go_enter Tryd.func12,Tryd.ntmps12
 go_upto_region 1 with fail
 rw[← hw0]
 clear hw0
 go_wp2_with fail
 refine cN.mono ?_
 rintro e w1 ⟨g,bb,rfl,hbg,hwg,hx1,hb1⟩
 obtain⟨w2,hw2⟩:∃ w2,w2=w1.alloc (.cells #[.slice none 0 0] 24):=⟨_,rfl⟩
 obtain⟨q,hq⟩:∃ q,q=w1.heap.size:=⟨_,rfl⟩
 have hb2:Below w1.heap.size w1 w2:=by rw[hw2];exact(Below.refl _ _).alloc (Nat.le_refl _) _
 have hc2:Bk w2 q 24 #[.slice none 0 0]:=by rw[hw2,hq];exact Bk.new _ _ _
 have hx2:=hx1.below hb2
 have hgl:g < w1.heap.size:=by
  obtain⟨A,c,h⟩:=hx1
  exact h.bk.lt
 have hz2:w2.heap.size=w1.heap.size+1:=by rw[hw2];simp
 have cC:=Count_any hx2 (by omega) (show(0:Int)≤60 by decide) (by decide)
 have hr2:=(H0.out.2.1.below hb1 H0.out.2.1.lt).below hb2 (by have:=H0.out.2.2;omega)
 have HB2:Hid (Below w.heap.size w w2):=lh (H0.out.1.trans ((hb1.trans (hb2.mono (by omega))).mono (by have:=H0.out.2.2;omega)))
 have HC2:=lh (And.intro hc2 hr2)
 have HN2:Hid (w.heap.size < g∧bb < g∧g < q∧q < w2.heap.size):=lh (by have:=H0.out.2.2;omega)
 clear cN hx1 hx2 hb1 hb2 hr2 hc2 hwg hbg hgl hz2 H0
 go_upto_region 3 with fail
 rw[← hw2,← hq]
 clear hw2 hq
 go_wp2_with fail
 refine cC.mono ?_
 rintro e w3 ⟨rfl,hx3,hk3⟩
 rw[← HQ1.out] at hx3 ⊢
 have HI3:Hid (RdX w3 g bb r1∧Bk w3 q 24 #[.slice none 0 0]∧Bk w3 w.heap.size 24 #[.slice none 0 0]∧Below w.heap.size w w3∧w2.heap.size≤w3.heap.size):=lh
  ⟨hx3,HC2.out.1.kp hk3 (by have:=HN2.out;omega),HC2.out.2.kp hk3 (by have:=HN2.out;omega),hk3.toBelow HB2.out HB2.out.size fun k hk=>by have:=HN2.out;omega,hk3.size⟩
 clear cC hx3 hk3 HQ1 HB2 HC2
 go_wp2_with fail
 go_loopw [13] (fun ix wr=>∃ (j:Nat) (V:Option Addr) (cv:Nat) (xs:List Value),ix=.int .i64 (j:Int)∧j≤n1∧RdX wr g bb (rep decCls r1 j).2∧Bk wr q 24 #[.slice V j cv]∧wr.ownsRow w2.heap.size 48 4 (.slice V j cv) j xs∧Els ClsO 4 wr (rep decCls r1 j).1 xs∧Bk wr w.heap.size 24 #[.slice none 0 0]∧Below w.heap.size w wr∧w2.heap.size≤wr.heap.size) (fun ix _=>n1 - (intOf ix).toNat)
 case atStart=>exact⟨0,none,0,[],rfl,Nat.zero_le _,HI3.out.1,HI3.out.2.1,World.ownsRow_nil _ _ _ _,Els.nil _ _ _,HI3.out.2.2.1,HI3.out.2.2.2.1,HI3.out.2.2.2.2⟩
 case round =>
  clear HI3
  obtain⟨j,V,cv,xs,rfl,hj,hx,hq,ho,he,hr,hbl,hz⟩:=hrel
  by_cases hlt:j < n1
  ·have HJ:=lh (And.intro hq (And.intro ho (And.intro he (And.intro hr (And.intro hbl hz)))))
   have hbb:=Nat.lt_of_lt_of_le (show bb < w2.heap.size by have:=HN2.out;omega) hz
   have cS:=String_any hx hbb
   have h8j:=hx.b8
   have HGJ:=lh hx.bkx
   obtain⟨rj,hrj⟩:∃ rj,rj=(rep decCls r1 j).2:=⟨_,rfl⟩
   rw[← hrj] at cS h8j
   have hdc:decCls rj=(⟨(rj.text 4096).1,(rj.text 4096).2.bool.1,((rj.text 4096).2.bool.2.list 30 (Rd.text 4096)).1,(((rj.text 4096).2.bool.2.list 30 (Rd.text 4096)).2.list 30 decMth).1⟩,(((rj.text 4096).2.bool.2.list 30 (Rd.text 4096)).2.list 30 decMth).2):=rfl
   obtain⟨⟨nm,ra⟩,hra⟩:∃ p,p=rj.text 4096:=⟨_,rfl⟩
   rw[← hra] at cS hdc
   dsimp only at cS hdc
   obtain⟨⟨ac,rb⟩,hrb⟩:∃ p,p=ra.bool:=⟨_,rfl⟩
   rw[← hrb] at hdc
   dsimp only at hdc
   obtain⟨⟨fl,rf⟩,hrf⟩:∃ p,p=rb.list 30 (Rd.text 4096):=⟨_,rfl⟩
   rw[← hrf] at hdc
   dsimp only at hdc
   have HRB:=lh (And.intro hrb hrf)
   have HRJ:=lh hrj
   have HDC:=lh hdc
   clear hra hrb hrf hdc h8j
   obtain⟨wj,hwj⟩:∃ wj,wj=wr:=⟨_,rfl⟩
   subst hwj
   clear hx hq ho he hr hbl hz hrj
   go_wp2_with fail
   refine cS.mono ?_
   rintro e wa ⟨rfl,hxa,hka⟩
   have cB:=Bool_any hxa (Nat.lt_of_lt_of_le hbb hka.size)
   rw[← HRB.out.1] at cB
   dsimp only at cB
   have HKA:=lh hka
   clear cS hxa hka
   go_wp2_with fail
   refine cB.mono ?_
   rintro e wb ⟨rfl,hxb,hkb⟩
   have HKB:Hid (Kp (fun k=>k=g) wj wb):=lh (HKA.out.trans hkb fun _ _ h=>h)
   have cF:=stringsOf_any hxb (Nat.lt_of_lt_of_le hbb HKB.out.size) (show(0:Int)≤30 by decide) (by decide)
   rw[← HRB.out.2] at cF
   dsimp only at cF
   clear cB hxb hkb HKA
   go_wp2_with fail
   refine cF.mono ?_
   rintro e wc ⟨F0,rfl,hxc,hkc,hoF⟩
   obtain⟨FA,Fc,rfl,hFc⟩:=own_shape hoF
   have HKC:Hid (Kp (fun k=>k=g) wj wc):=lh (HKB.out.trans hkc fun _ _ h=>h)
   have HXC:=lh (And.intro hxc hoF)
   clear cF hxc hkc hoF HKB
   go_upto_region 6 with fail
   obtain⟨wd,hwd⟩:∃ wd,wd=wc.alloc (.cells #[.string nm,.bool ac,.slice FA fl.length Fc,.slice none 0 0] 48):=⟨_,rfl⟩
   obtain⟨x,hx⟩:∃ x,x=wc.heap.size:=⟨_,rfl⟩
   have hbd:Below wc.heap.size wc wd:=by rw[hwd];exact(Below.refl _ _).alloc (Nat.le_refl _) _
   have hxd:Bk wd x 48 #[.string nm,.bool ac,.slice FA fl.length Fc,.slice none 0 0]:=by rw[hwd,hx];exact Bk.new _ _ _
   have hzd:wd.heap.size=x+1:=by rw[hwd,hx];simp
   rw[← hwd,← hx]
   have HKD:Hid (Kp (fun k=>k=g) wj wd):=lh (HKC.out.belowTo hbd)
   have hxx:=HXC.out.1.below hbd
   have hFo:=own_below HXC.out.2 hbd
   have hxs:wj.heap.size≤x:=by rw[hx];exact HKC.out.size
   have HN4:Hid (g < x∧bb < x∧q < x∧w.heap.size < x):=lh (by have:=HN2.out;have:=HJ.out.2.2.2.2.2;omega)
   clear hbd hwd hx HXC HKC HRB
   have hgd:=hxx.bkx
   have cD:=Count_any hxx (by have:=HN4.out;omega) (show(0:Int)≤30 by decide) (by decide)
   have hcl:=Rd.count_len (most:=30) hxx.b8
   have hcm:=Rd.count_le (r:=rf) (most:=30) (by decide)
   have hld:rf.list 30 decMth=rep decMth (rf.count 30).2 (rf.count 30).1.toNat:=rfl
   have hdc:=HDC.out
   obtain⟨⟨n2',r2⟩,hq2⟩:∃ p,p=rf.count 30:=⟨_,rfl⟩
   rw[← hq2] at cD hcl hcm hld
   dsimp only at cD hcl hcm hld
   obtain⟨n2,rfl⟩:=Int.eq_ofNat_of_zero_le hcl.1
   rw[Int.toNat_natCast] at hld
   rw[hld] at hdc
   have hn2:n2≤30:=by omega
   have HDC2:=lh hdc
   have HXD:=lh (And.intro hxd hFo)
   clear hxx hcl hcm hld hdc hq2 HDC hxd hFo
   go_wp2_with fail
   refine cD.mono ?_
   rintro e w5 ⟨rfl,hx5,hk5⟩
   have hxd5:=HXD.out.1.kp hk5 (fun e=>by have:=HN4.out;omega)
   have hF5:=own_kpT HXD.out.2 hk5 fun k e=>(by
    subst e
    obtain⟨cs,hcs⟩:=hgd
    exact⟨_,cs,hcs,by decide⟩)
   have HK5:Hid (Kp (fun k=>k=g) wj w5):=lh (HKD.out.trans hk5 fun _ _ h=>h)
   have HX5:=lh (And.intro hx5 (And.intro hxd5 hF5))
   have hz5:=hk5.size
   clear cD hx5 hk5 hxd5 hF5 HKD HXD hgd
   go_wp2_with fail
   go_loopw [24] (fun ix wr=>∃ (k:Nat) (U:Option Addr) (cu:Nat) (ys:List Value),ix=.int .i64 (k:Int)∧k≤n2∧RdX wr g bb (rep decMth r2 k).2∧Bk wr x 48 #[.string nm,.bool ac,.slice FA fl.length Fc,.slice U k cu]∧wr.ownsRow w5.heap.size 43 5 (.slice U k cu) k ys∧Els MthO 5 wr (rep decMth r2 k).1 ys∧Kp (fun k=>k=g ∨ k=x) w5 wr) (fun ix _=>n2 - (intOf ix).toNat)
   case atStart=>exact⟨0,none,0,[],rfl,Nat.zero_le _,HX5.out.1,HX5.out.2.1,World.ownsRow_nil _ _ _ _,Els.nil _ _ _,Kp.refl _ _⟩
   case round =>
    have HLT:=lh hlt
    clear hlt
    obtain⟨k,U,cu,ys,rfl,hk,hx,hq,ho,he,hkp⟩:=hrel
    by_cases hlt:k < n2
    ·have HK:=lh (And.intro hq (And.intro ho (And.intro he hkp)))
     have hgw:g < w5.heap.size∧bb < w5.heap.size∧x < w5.heap.size∧w5.heap.size≤wr.heap.size:=by have:=HN4.out;have:=hkp.size;omega
     have HGW:=lh hgw
     have cS:=String_any hx (by omega)
     have hgk:=hx.bkx
     have HGK:=lh hgk
     obtain⟨rk,hrk⟩:∃ rk,rk=(rep decMth r2 k).2:=⟨_,rfl⟩
     rw[← hrk] at cS
     have hdm:decMth rk=(⟨(rk.text 4096).1,(rk.text 4096).2.i.1,(rk.text 4096).2.i.2.i.1,((rk.text 4096).2.i.2.i.2.list 4000 decIns).1,(((rk.text 4096).2.i.2.i.2.list 4000 decIns).2.list 1024 (Rd.text 4096)).1⟩,(((rk.text 4096).2.i.2.i.2.list 4000 decIns).2.list 1024 (Rd.text 4096)).2):=rfl
     obtain⟨⟨mn,rma⟩,hra⟩:∃ p,p=rk.text 4096:=⟨_,rfl⟩
     rw[← hra] at cS hdm
     dsimp only at cS hdm
     obtain⟨⟨mp,rmb⟩,hrb⟩:∃ p,p=rma.i:=⟨_,rfl⟩
     rw[← hrb] at hdm
     dsimp only at hdm
     obtain⟨⟨ml,rmc⟩,hrc⟩:∃ p,p=rmb.i:=⟨_,rfl⟩
     rw[← hrc] at hdm
     dsimp only at hdm
     have HRM:=lh (And.intro hrb hrc)
     have HRK:=lh hrk
     obtain⟨wk,hwk⟩:∃ wk,wk=wr:=⟨_,rfl⟩
     subst hwk
     clear hra hrb hrc hx hq ho he hkp hgk hrk hgw
     go_wp2_with fail
     refine cS.mono ?_
     rintro e wa ⟨rfl,hxa,hka⟩
     have cI:=Int_any hxa (by have:=HGW.out;have:=hka.size;omega)
     rw[← HRM.out.1] at cI
     dsimp only at cI
     have HKA:=lh hka
     clear cS hxa hka
     go_wp2_with fail
     refine cI.mono ?_
     rintro e wb ⟨rfl,hxb,hkb⟩
     have HKB:Hid (Kp (fun k=>k=g) wk wb):=lh (HKA.out.trans hkb fun _ _ h=>h)
     have cJ:=Int_any hxb (by have:=HGW.out;have:=HKB.out.size;omega)
     rw[← HRM.out.2] at cJ
     dsimp only at cJ
     clear cI hxb hkb HKA
     go_wp2_with fail
     refine cJ.mono ?_
     rintro e wc ⟨rfl,hxc,hkc⟩
     have HKC:Hid (Kp (fun k=>k=g) wk wc):=lh (HKB.out.trans hkc fun _ _ h=>h)
     have HXC:=lh hxc
     clear cJ hxc hkc HKB
     go_upto_region 9 with fail
     obtain⟨wd,hwd⟩:∃ wd,wd=wc.alloc (.cells #[.string mn,.int .i64 mp,.int .i64 ml,.slice none 0 0,.slice none 0 0] 43):=⟨_,rfl⟩
     obtain⟨m,hm⟩:∃ m,m=wc.heap.size:=⟨_,rfl⟩
     have hbd:Below wc.heap.size wc wd:=by rw[hwd];exact(Below.refl _ _).alloc (Nat.le_refl _) _
     have hmd:Bk wd m 43 #[.string mn,.int .i64 mp,.int .i64 ml,.slice none 0 0,.slice none 0 0]:=by rw[hwd,hm];exact Bk.new _ _ _
     have hzd:wd.heap.size=m+1:=by rw[hwd,hm];simp
     rw[← hwd,← hm]
     have HKD:Hid (Kp (fun k=>k=g) wk wd):=lh (HKC.out.belowTo hbd)
     have hxx:=HXC.out.below hbd
     have hms:wk.heap.size≤m:=by rw[hm];exact HKC.out.size
     have HN6:Hid (g < m∧bb < m∧x < m∧wk.heap.size≤m∧wd.heap.size=m+1):=lh (by have:=HGW.out;omega)
     clear hbd hwd hm HXC HKC HRM hzd hms
     have cD:=Count_any hxx (by have:=HN6.out;omega) (show(0:Int)≤4000 by decide) (by decide)
     have hcl:=Rd.count_len (most:=4000) hxx.b8
     have hcm:=Rd.count_le (r:=rmc) (most:=4000) (by decide)
     have hld:rmc.list 4000 decIns=rep decIns (rmc.count 4000).2 (rmc.count 4000).1.toNat:=rfl
     obtain⟨⟨n3',r3⟩,hq3⟩:∃ p,p=rmc.count 4000:=⟨_,rfl⟩
     rw[← hq3] at cD hcl hcm hld
     dsimp only at cD hcl hcm hld
     obtain⟨n3,rfl⟩:=Int.eq_ofNat_of_zero_le hcl.1
     rw[Int.toNat_natCast] at hld
     rw[hld] at hdm
     have hn3:n3≤4000:=by omega
     have HDM:=lh hdm
     have HMD:=lh hmd
     clear hxx hcl hcm hld hdm hq3 hmd
     go_wp2_with fail
     refine cD.mono ?_
     rintro e w7 ⟨rfl,hx7,hk7⟩
     have hmd7:=HMD.out.kp hk7 (fun e=>by have:=HN6.out;omega)
     have HK7:Hid (Kp (fun k=>k=g) wk w7):=lh (HKD.out.trans hk7 fun _ _ h=>h)
     have HX7:=lh (And.intro hx7 hmd7)
     have HZ7:Hid (m < w7.heap.size):=lh (by have:=hk7.size;have:=HN6.out;omega)
     clear cD hx7 hk7 hmd7 HKD HMD
     go_wp2_with fail
     go_loopw [35] (fun ix wr=>∃ (i:Nat) (T:Option Addr) (ct:Nat),ix=.int .i64 (i:Int)∧i≤n3∧RdX wr g bb (rep decIns r3 i).2∧Bk wr m 43 #[.string mn,.int .i64 mp,.int .i64 ml,.slice T i ct,.slice none 0 0]∧wr.ownsRow w7.heap.size 37 3 (.slice T i ct) i (codeCells (rep decIns r3 i).1)∧Kp (fun k=>k=g ∨ k=m) w7 wr) (fun ix _=>n3 - (intOf ix).toNat)
     case atStart=>exact⟨0,none,0,rfl,Nat.zero_le _,HX7.out.1,HX7.out.2,World.ownsRow_nil _ _ _ _,Kp.refl _ _⟩
     case round =>
      clear HX7
      obtain⟨i,T,ct,rfl,hi,hx,hq,ho,hkp⟩:=hrel
      by_cases hlt3:i < n3
      ·have HI:=lh (And.intro hx (And.intro hq (And.intro ho hkp)))
       clear hx hq ho hkp
       go_upto_region 11 with fail
       obtain⟨ri,hri⟩:∃ ri,ri=(rep decIns r3 i).2:=⟨_,rfl⟩
       have hdi:decIns ri=((ri.i.1,ri.i.2.i.1,ri.i.2.i.2.i.1),ri.i.2.i.2.i.2):=rfl
       obtain⟨⟨zo,ro⟩,hzo⟩:∃ p,p=ri.i:=⟨_,rfl⟩
       rw[← hzo] at hdi
       dsimp only at hdi
       obtain⟨⟨za,rga⟩,hza⟩:∃ p,p=ro.i:=⟨_,rfl⟩
       rw[← hza] at hdi
       dsimp only at hdi
       obtain⟨⟨zb,rgb⟩,hzb⟩:∃ p,p=rga.i:=⟨_,rfl⟩
       rw[← hzb] at hdi
       dsimp only at hdi
       rw[← hri] at HI
       have HDI:=lh (And.intro hdi hri)
       have HZ:=lh (And.intro hzo (And.intro hza hzb))
       obtain⟨CC,hCC⟩:∃ CC,CC=codeCells (rep decIns r3 i).1:=⟨_,rfl⟩
       rw[← hCC] at HI
       have HCC:=lh hCC
       clear hri hdi hzo hza hzb hCC
       have HWZ:Hid (∀ w',Kp (fun k=>k=g ∨ k=m) w7 w'→bb < w'.heap.size∧w7.heap.size≤w'.heap.size∧m≠g):=lh fun w' hk=>by have:=hk.size;have:=HZ7.out;have:=HN6.out;omega
       obtain⟨i5,hi5,hz0,hz1,hz2⟩:=info_parts i_insD
       have HIN:=lh (And.intro hi5 (And.intro hz0 (And.intro hz1 hz2)))
       clear hi5 hz0 hz1 hz2
       refine wp_seq 13 (fun i=>([[],[0],[],[2],[],[4],[],[6],[3,5,7],[8],[1,9],[],[10,11]]:List (List Nat)).getD i []) [3,5,7,9,10,12] (fun i=>([6,4,6,0,6,0,6,0,3,0,0,6,0]:List Nat).getD i 0) (fun j=>([.pointer (some ⟨m,3,none⟩),.slice T i ct,.pointer (some ⟨g,0,none⟩),.bool false,.pointer (some ⟨g,0,none⟩),.bool false,.pointer (some ⟨g,0,none⟩),.bool false,.agg #[Value.int .i64 zo,Value.int .i64 za,Value.int .i64 zb],.bool false,.bool false,.pointer (some ⟨m,3,none⟩),.bool false]:List Value).getD j (.bool false))
        (SQ zo za zb (DS g bb m w7.heap.size w7 #[.string mn,.int .i64 mp,.int .i64 ml,.slice T i ct,.slice none 0 0] (.slice T i ct) i CC ri) (DS g bb m w7.heap.size w7 #[.string mn,.int .i64 mp,.int .i64 ml,.slice T i ct,.slice none 0 0] (.slice T i ct) i CC ro) (DS g bb m w7.heap.size w7 #[.string mn,.int .i64 mp,.int .i64 ml,.slice T i ct,.slice none 0 0] (.slice T i ct) i CC rga) (DS g bb m w7.heap.size w7 #[.string mn,.int .i64 mp,.int .i64 ml,.slice T i ct,.slice none 0 0] (.slice T i ct) i CC rgb) (fun y w=>DS g bb m w7.heap.size w7 #[.string mn,.int .i64 mp,.int .i64 ml,.slice T i ct,.slice none 0 0] (.slice T i ct) i CC rgb w∧∃ kk,y=.slice (some ⟨kk,0,none⟩) 1 1∧Sl w 3 (some ⟨kk,0,none⟩) 1 [.int .i64 zo,.int .i64 za,.int .i64 zb]) (fun z w=>∃ T' ct',z=.slice T' (i+1) ct'∧DS g bb m w7.heap.size w7 #[.string mn,.int .i64 mp,.int .i64 ml,.slice T i ct,.slice none 0 0] z (i+1) (CC++[Value.int .i64 zo,Value.int .i64 za,Value.int .i64 zb]) rgb w) (fun w=>∃ T' ct',DS g bb m w7.heap.size w7 #[.string mn,.int .i64 mp,.int .i64 ml,.slice T' (i+1) ct',.slice none 0 0] (.slice T' (i+1) ct') (i+1) (CC++[Value.int .i64 zo,Value.int .i64 za,Value.int .i64 zb]) rgb w)) rfl (by kernel_rfl) (by rfl) (by kernel_rfl) ?_ ?_ ?_ ?_
       ·have hkd:Kp (fun _=>False) wr wr.drew:=(Kp.refl (fun _=>False) wr).drew
        show DS g bb m w7.heap.size w7 #[.string mn,.int .i64 mp,.int .i64 ml,.slice T i ct,.slice none 0 0] (.slice T i ct) i CC ri wr.drew
        exact⟨HI.out.1.kp hkd (fun h=>h) (fun h=>h),HI.out.2.1.kp hkd (fun h=>h),own_kp HI.out.2.2.1 hkd (fun _ _ h=>h),HI.out.2.2.2.drew⟩
       ·intro p hp hn o ho k vs w1 hk hlow hS hvs
        rcases (show p=0 ∨ p=1 ∨ p=2 ∨ p=3 ∨ p=4 ∨ p=5 ∨ p=6 ∨ p=7 ∨ p=8 ∨ p=9 ∨ p=10 ∨ p=11 ∨ p=12 by omega) with rfl | rfl | rfl | rfl | rfl | rfl | rfl | rfl | rfl | rfl | rfl | rfl | rfl <;> cases ho
        ·clear hS hvs hlow
         change Sem.run _ (execOp (Act.eval (frm _ _ _ [])) _) _=_
         simp only[frm]
         go_simp
        ·have h0:vs 0=.pointer (some ⟨m,3,none⟩):=hvs 0 (by decide) (by decide)
         have hmb:Bk w1 m 43 #[.string mn,.int .i64 mp,.int .i64 ml,.slice T i ct,.slice none 0 0]:=by
          change k≤4 at hk
          rcases (show k=0 ∨ k=1 ∨ k=2 ∨ k=3 ∨ k=4 by omega) with rfl | rfl | rfl | rfl | rfl
          ·exact(show DS g bb m w7.heap.size w7 #[.string mn,.int .i64 mp,.int .i64 ml,.slice T i ct,.slice none 0 0] (.slice T i ct) i CC ri w1 from hS).2.1
          ·exact(show _∧DS g bb m w7.heap.size w7 #[.string mn,.int .i64 mp,.int .i64 ml,.slice T i ct,.slice none 0 0] (.slice T i ct) i CC ro w1 from hS).2.2.1
          ·exact(show _∧DS g bb m w7.heap.size w7 #[.string mn,.int .i64 mp,.int .i64 ml,.slice T i ct,.slice none 0 0] (.slice T i ct) i CC rga w1 from hS).2.2.1
          ·exact(show _∧DS g bb m w7.heap.size w7 #[.string mn,.int .i64 mp,.int .i64 ml,.slice T i ct,.slice none 0 0] (.slice T i ct) i CC rgb w1 from hS).2.2.1
          ·exact(show DS g bb m w7.heap.size w7 #[.string mn,.int .i64 mp,.int .i64 ml,.slice T i ct,.slice none 0 0] (.slice T i ct) i CC rgb w1∧_ from hS).1.2.1
         have c3:w1.cell? ⟨m,3,none⟩=some (.slice T i ct):=hmb.cell 3
         clear hS hvs hlow hmb
         change Sem.run _ (execOp (Act.eval (Act.put (frm _ _ _ []) (some 37) (vs 0))) _) _=_
         simp only[frm,h0]
         go_simp
        ·clear hS hvs hlow
         change Sem.run _ (execOp (Act.eval (frm _ _ _ [])) _) _=_
         simp only[frm]
         go_simp
        ·exact absurd (by decide) hn
        ·clear hS hvs hlow
         change Sem.run _ (execOp (Act.eval (frm _ _ _ [])) _) _=_
         simp only[frm]
         go_simp
        ·exact absurd (by decide) hn
        ·clear hS hvs hlow
         change Sem.run _ (execOp (Act.eval (frm _ _ _ [])) _) _=_
         simp only[frm]
         go_simp
        ·exact absurd (by decide) hn
        ·change k≤3 at hk
         have h2:=hlow 2 (by decide) (by decide)
         obtain rfl:k=3:=by omega
         have hv:vs 3=.int .i64 zo∧vs 5=.int .i64 za∧vs 7=.int .i64 zb:=(show _∧DS g bb m w7.heap.size w7 #[.string mn,.int .i64 mp,.int .i64 ml,.slice T i ct,.slice none 0 0] (.slice T i ct) i CC rgb w1 from hS).1
         obtain⟨v3,v5,v7⟩:=hv
         clear hS hvs hlow
         change Sem.run _ (execOp (Act.eval (Act.put (Act.put (Act.put (frm _ _ _ []) (some 44) (vs 7)) (some 42) (vs 5)) (some 40) (vs 3))) _) _=_
         simp only[frm,v3,v5,v7]
         go_simp
        ·exact absurd (by decide) hn
        ·exact absurd (by decide) hn
        ·clear hS hvs hlow
         change Sem.run _ (execOp (Act.eval (frm _ _ _ [])) _) _=_
         simp only[frm]
         go_simp
        ·exact absurd (by decide) hn
       ·intro p hp o ho vs w1 hS hvs
        rcases (show p=0 ∨ p=1 ∨ p=2 ∨ p=3 ∨ p=4 ∨ p=5 by change p < 6 at hp;omega) with rfl | rfl | rfl | rfl | rfl | rfl <;> cases ho
        ·have hD:DS g bb m w7.heap.size w7 #[.string mn,.int .i64 mp,.int .i64 ml,.slice T i ct,.slice none 0 0] (.slice T i ct) i CC ri w1:=hS
         have h2:vs 2=.pointer (some ⟨g,0,none⟩):=hvs 2 (by decide) (by decide)
         have cM:=Int_any hD.1 (HWZ.out _ hD.2.2.2).1
         rw[← HZ.out.1] at cM
         have HD:=lh hD
         show Made _ (fun v w'=>v=.int .i64 zo∧DS g bb m w7.heap.size w7 #[.string mn,.int .i64 mp,.int .i64 ml,.slice T i ct,.slice none 0 0] (.slice T i ct) i CC ro w') _
         change Made _ _ (Sem.run _ (execOp (Act.eval (Act.put (frm _ _ _ []) (some 39) (vs 2))) _) _)
         simp only[frm,h2]
         clear hS hvs hD h2
         go_simp
         exact rd_chain cM fun w' hx hk=>⟨rfl,HD.out.read hx hk (HWZ.out _ HD.out.2.2.2).2.2⟩
        ·have hD:vs 3=.int .i64 zo∧DS g bb m w7.heap.size w7 #[.string mn,.int .i64 mp,.int .i64 ml,.slice T i ct,.slice none 0 0] (.slice T i ct) i CC ro w1:=hS
         have h2:vs 4=.pointer (some ⟨g,0,none⟩):=hvs 4 (by decide) (by decide)
         have cM:=Int_any hD.2.1 (HWZ.out _ hD.2.2.2.2).1
         rw[← HZ.out.2.1] at cM
         have HD:=lh hD
         show Made _ (fun v w'=>(vs 3=.int .i64 zo∧v=.int .i64 za)∧DS g bb m w7.heap.size w7 #[.string mn,.int .i64 mp,.int .i64 ml,.slice T i ct,.slice none 0 0] (.slice T i ct) i CC rga w') _
         change Made _ _ (Sem.run _ (execOp (Act.eval (Act.put (frm _ _ _ []) (some 41) (vs 4))) _) _)
         simp only[frm,h2]
         clear hS hvs hD h2
         go_simp
         exact rd_chain cM fun w' hx hk=>⟨⟨HD.out.1,rfl⟩,HD.out.2.read hx hk (HWZ.out _ HD.out.2.2.2.2).2.2⟩
        ·have hD:(vs 3=.int .i64 zo∧vs 5=.int .i64 za)∧DS g bb m w7.heap.size w7 #[.string mn,.int .i64 mp,.int .i64 ml,.slice T i ct,.slice none 0 0] (.slice T i ct) i CC rga w1:=hS
         have h2:vs 6=.pointer (some ⟨g,0,none⟩):=hvs 6 (by decide) (by decide)
         have cM:=Int_any hD.2.1 (HWZ.out _ hD.2.2.2.2).1
         rw[← HZ.out.2.2] at cM
         have HD:=lh hD
         show Made _ (fun v w'=>(vs 3=.int .i64 zo∧vs 5=.int .i64 za∧v=.int .i64 zb)∧DS g bb m w7.heap.size w7 #[.string mn,.int .i64 mp,.int .i64 ml,.slice T i ct,.slice none 0 0] (.slice T i ct) i CC rgb w') _
         change Made _ _ (Sem.run _ (execOp (Act.eval (Act.put (frm _ _ _ []) (some 43) (vs 6))) _) _)
         simp only[frm,h2]
         clear hS hvs hD h2
         go_simp
         exact rd_chain cM fun w' hx hk=>⟨⟨HD.out.1.1,HD.out.1.2,rfl⟩,HD.out.2.read hx hk (HWZ.out _ HD.out.2.2.2.2).2.2⟩
        ·have hD:(vs 3=.int .i64 zo∧vs 5=.int .i64 za∧vs 7=.int .i64 zb)∧DS g bb m w7.heap.size w7 #[.string mn,.int .i64 mp,.int .i64 ml,.slice T i ct,.slice none 0 0] (.slice T i ct) i CC rgb w1:=hS
         have h2:vs 8=.agg #[Value.int .i64 zo,Value.int .i64 za,Value.int .i64 zb]:=hvs 8 (by decide) (by decide)
         have HD:=lh hD
         show Made _ (fun v w'=>DS g bb m w7.heap.size w7 #[.string mn,.int .i64 mp,.int .i64 ml,.slice T i ct,.slice none 0 0] (.slice T i ct) i CC rgb w'∧∃ kk,v=.slice (some ⟨kk,0,none⟩) 1 1∧Sl w' 3 (some ⟨kk,0,none⟩) 1 [.int .i64 zo,.int .i64 za,.int .i64 zb]) _
         change Made _ _ (Sem.run _ (execOp (Act.eval (Act.put (frm _ _ _ []) (some 45) (vs 8))) _) _)
         simp only[frm,h2]
         clear hS hvs hD h2
         go_simp
         have hb:Below w1.heap.size w1 (w1.alloc (.cells #[Value.int .i64 zo,Value.int .i64 za,Value.int .i64 zb] 37)):=(Below.refl _ _).alloc (Nat.le_refl _) _
         exact made_ok ⟨⟨HD.out.2.1.below hb,HD.out.2.2.1.below hb HD.out.2.2.1.lt,own_below HD.out.2.2.2.1 hb,HD.out.2.2.2.2.belowTo hb⟩,_,rfl,Sl.one (w:=w1) 37 #[Value.int .i64 zo,Value.int .i64 za,Value.int .i64 zb] (by simp)⟩
        ·obtain⟨hD,kk,h9,hs⟩:DS g bb m w7.heap.size w7 #[.string mn,.int .i64 mp,.int .i64 ml,.slice T i ct,.slice none 0 0] (.slice T i ct) i CC rgb w1∧∃ kk,vs 9=.slice (some ⟨kk,0,none⟩) 1 1∧Sl w1 3 (some ⟨kk,0,none⟩) 1 [Value.int .i64 zo,Value.int .i64 za,Value.int .i64 zb]:=hS
         have h1:vs 1=.slice T i ct:=hvs 1 (by decide) (by decide)
         have HD:=lh hD
         have HSS:=lh hs
         show Made _ (fun z w'=>∃ T' ct',z=.slice T' (i+1) ct'∧DS g bb m w7.heap.size w7 #[.string mn,.int .i64 mp,.int .i64 ml,.slice T i ct,.slice none 0 0] z (i+1) (CC++[Value.int .i64 zo,Value.int .i64 za,Value.int .i64 zb]) rgb w') _
         change Made _ _ (Sem.run _ (execOp (Act.eval (Act.put (Act.put (frm _ _ _ []) (some 46) (vs 9)) (some 38) (vs 1))) _) _)
         simp only[frm,h1,h9]
         clear hvs hD h1 h9 hs
         refine made_append (.tmp 38) (.tmp 46) 41 rfl Tryd.underlying41 HIN.out.1 HIN.out.2.1 HIN.out.2.2.1 HIN.out.2.2.2 rfl (by decide) rfl HD.out.2.2.1 rfl HSS.out (one3 _ _ _) (by unfold maxLen;omega) (by omega) (HWZ.out _ HD.out.2.2.2).2.1 ?_
         intro v' w' ho' hg' h4'
         obtain⟨T',ct',rfl,_⟩:=own_shape ho'
         have hgk:=Kp.of_grown (S:=fun q=>(Value.slice T i ct).ownBlock=some q) hg' fun q hq=>hq
         have hub:∀ q,(Value.slice T i ct).ownBlock=some q→w7.heap.size≤q:=fun q hq=>(HD.out.2.2.1.lt q hq).1
         refine⟨T',ct',rfl,HD.out.1.kp hgk (fun e=>by have:=hub _ e;have:=HZ7.out;have:=HN6.out;omega) (fun e=>by have:=hub _ e;have:=HZ7.out;have:=HN6.out;omega),HD.out.2.1.grown hg' (fun e=>by have:=hub _ e.symm;have:=HZ7.out;omega),ho',HD.out.2.2.2.grown hg' hub⟩
        ·obtain⟨T',ct',h10,hD⟩:∃ T' ct',vs 10=.slice T' (i+1) ct'∧DS g bb m w7.heap.size w7 #[.string mn,.int .i64 mp,.int .i64 ml,.slice T i ct,.slice none 0 0] (vs 10) (i+1) (CC++[Value.int .i64 zo,Value.int .i64 za,Value.int .i64 zb]) rgb w1:=hS
         rw[h10] at hD
         have h11:vs 11=.pointer (some ⟨m,3,none⟩):=hvs 11 (by decide) (by decide)
         have HD:=lh hD
         have c3:w1.cell? ⟨m,3,none⟩=some (.slice T i ct):=hD.2.1.cell 3
         have cf:w1.frozen? ⟨m,3,none⟩=false:=hD.2.1.free 3
         show Made _ (fun v w'=>∃ T' ct',DS g bb m w7.heap.size w7 #[.string mn,.int .i64 mp,.int .i64 ml,.slice T' (i+1) ct',.slice none 0 0] (.slice T' (i+1) ct') (i+1) (CC++[Value.int .i64 zo,Value.int .i64 za,Value.int .i64 zb]) rgb w') _
         change Made _ _ (Sem.run _ (execOp (Act.eval (Act.put (Act.put (frm _ _ _ []) (some 48) (vs 11)) (some 47) (vs 10))) _) _)
         simp only[frm,h10,h11]
         clear hvs hD h10 h11
         go_simp
         have hk3:Kp (fun q=>q=m) w1 (w1.setCell ⟨m,3,none⟩ (.slice T' (i+1) ct')):=Kp.setCell (S:=fun q=>q=m) w1 ⟨m,3,none⟩ _ rfl
         exact made_skip ⟨T',ct',HD.out.1.kp hk3 (fun e=>by have:=HN6.out;omega) (fun e=>by have:=HN6.out;omega),HD.out.2.1.set 3 _,own_kpT HD.out.2.2.1 hk3 (fun q e=>(by subst e;exact⟨_,_,HD.out.2.1,by decide⟩)),HD.out.2.2.2.trans hk3 fun q _ h=>.inr h⟩
       ·intro vs w1 hS hvs
        obtain⟨T',ct',hD⟩:∃ T' ct',DS g bb m w7.heap.size w7 #[.string mn,.int .i64 mp,.int .i64 ml,.slice T' (i+1) ct',.slice none 0 0] (.slice T' (i+1) ct') (i+1) (CC++[Value.int .i64 zo,Value.int .i64 za,Value.int .i64 zb]) rgb w1:=hS
        have HD:=lh hD
        clear hvs hD
        change wpList _ _ _ [] (Act.put (Act.put (Act.put (Act.put (Act.put (Act.put (Act.put (Act.put (Act.put (Act.put (Act.put (Act.put (Act.put (frm _ _ _ []) none (vs 12)) (some 48) (vs 11)) (some 47) (vs 10)) (some 46) (vs 9)) (some 45) (vs 8)) (some 44) (vs 7)) (some 43) (vs 6)) (some 42) (vs 5)) (some 41) (vs 4)) (some 40) (vs 3)) (some 39) (vs 2)) (some 38) (vs 1)) (some 37) (vs 0)) _
        simp only[frm]
        generalize vs 0=z0
        generalize vs 1=z1
        generalize vs 2=z2
        generalize vs 3=z3
        generalize vs 4=z4
        generalize vs 5=z5
        generalize vs 6=z6
        generalize vs 7=z7
        generalize vs 8=z8
        generalize vs 9=z9
        generalize vs 10=z10
        generalize vs 11=z11
        generalize vs 12=z12
        go_wp2_with fail
        go_roundw
        case rel =>
         have e1:rep decIns r3 (i+1)=((rep decIns r3 i).1++[(decIns ri).1],(decIns ri).2):=by rw[HDI.out.2];rfl
         rw[HDI.out.1] at e1
         refine⟨i+1,T',ct',by go_num,hlt3,by rw[e1];exact HD.out.1,HD.out.2.1,?_,HD.out.2.2.2⟩
         have e2:codeCells (rep decIns r3 (i+1)).1=CC++[Value.int .i64 zo,Value.int .i64 za,Value.int .i64 zb]:=by
          rw[e1,HCC.out]
          unfold codeCells
          rw[List.flatMap_append]
          rfl
         rw[e2]
         exact HD.out.2.2.1
        case measure=>simp[intOf];omega
      ·obtain rfl:i=n3:=by omega
       have hxk:=hkp.size
       have cN:=stringsOf_any hx (by have:=HZ7.out;have:=HN6.out;omega) (show(0:Int)≤1024 by decide) (by decide)
       have hgr:=hx.bkx
       have HM:=lh (And.intro hq (And.intro ho (And.intro hkp hgr)))
       clear hx hq ho hkp hxk hgr hlt3 hi
       go_wp2_with fail
       refine cN.mono ?_
       rintro e w8 ⟨N0,rfl,hx8,hk8,hoN⟩
       obtain⟨NA,Nc,rfl,hNc⟩:=own_shape hoN
       obtain⟨cg,hcg⟩:=HM.out.2.2.2
       have hm8:=HM.out.1.kp hk8 (fun e=>by have:=HN6.out;omega)
       have hT8:=own_kpT HM.out.2.1 hk8 fun k e=>(by subst e;exact⟨_,cg,hcg,by decide⟩)
       have hK8:Kp (fun k=>k=g) wk w8:=HK7.out.trans (HM.out.2.2.1.trans hk8 fun k _ h=>.inl h) fun k hk h=>h.resolve_right (by have:=HN6.out;omega)
       have HW8:=lh (And.intro hx8 (And.intro hm8 (And.intro hT8 (And.intro hoN hK8))))
       have m4:w8.cell? ⟨m,4,none⟩=some (.slice none 0 0):=hm8.cell 4
       have mf:w8.frozen? ⟨m,4,none⟩=false:=hm8.free 4
       clear cN hx8 hk8 hm8 hT8 hK8 hoN hcg
       go_upto_region 14 with fail
       obtain⟨nl,hnl⟩:∃ nl,nl=(Rd.list 1024 (Rd.text 4096) (rep decIns r3 i).2).1:=⟨_,rfl⟩
       rw[← hnl] at HW8 ⊢
       obtain⟨w9,hw9⟩:∃ w9,w9=w8.setCell ⟨m,4,none⟩ (.slice NA nl.length Nc):=⟨_,rfl⟩
       rw[← hw9]
       have hk9:Kp (fun k=>k=m) w8 w9:=by rw[hw9];exact Kp.setCell (S:=fun k=>k=m) w8 ⟨m,4,none⟩ _ rfl
       have hx9:=HW8.out.1.kp hk9 (fun e=>by have:=HN6.out;omega) (fun e=>by have:=HN6.out;omega)
       have hm9:Bk w9 m 43 #[.string mn,.int .i64 mp,.int .i64 ml,.slice T i ct,.slice NA nl.length Nc]:=by rw[hw9];exact HW8.out.2.1.set 4 _
       have hT9:=own_kpT HW8.out.2.2.1 hk9 fun k e=>(by subst e;exact⟨_,_,HW8.out.2.1,by decide⟩)
       have hN9:=own_kpT HW8.out.2.2.2.1 hk9 fun k e=>(by subst e;exact⟨_,_,HW8.out.2.1,by decide⟩)
       have hK9:Kp (fun k=>k=g) wk w9:=HW8.out.2.2.2.2.trans hk9 fun k hk h=>by have:=HN6.out;omega
       have hb9:Bk w9 x 48 _:=HK.out.1.kp hK9 (fun e=>by have:=HN4.out;omega)
       have hU9:=own_kp HK.out.2.1 hK9 fun k hk e=>by have:=(HK.out.2.1.lt k hk).1;have:=HGW.out;omega
       have hE9:=HK.out.2.2.1.mono fun y r hy=>hy.kp hK9 fun k e=>(by subst e;obtain⟨cs,hcs⟩:=HGK.out;exact⟨_,cs,hcs,by decide,by decide⟩)
       have hM9:MthO w9 ⟨mn,mp,ml,(rep decIns r3 i).1,nl⟩ [.string mn,.int .i64 mp,.int .i64 ml,.slice T i ct,.slice NA nl.length Nc]:=by
        refine⟨T,ct,NA,Nc,?_,?_,own_base hN9 (Nat.zero_le _)⟩
        ·dsimp only;rw[rep_len]
        ·dsimp only;rw[rep_len];exact own_base hT9 (Nat.zero_le _)
       have hb10:Below w9.heap.size w9 (w9.alloc (.cells #[.string mn,.int .i64 mp,.int .i64 ml,.slice T i ct,.slice NA nl.length Nc] 43)):=(Below.refl _ _).alloc (Nat.le_refl _) _
       have x3:w9.cell? ⟨x,3,none⟩=some (.slice U k cu):=hb9.cell 3
       have m0:w9.cell? ⟨m,0,none⟩=some (.string mn):=hm9.cell 0
       have m1:w9.cell? ⟨m,1,none⟩=some (.int .i64 mp):=hm9.cell 1
       have m2:w9.cell? ⟨m,2,none⟩=some (.int .i64 ml):=hm9.cell 2
       have m3:w9.cell? ⟨m,3,none⟩=some (.slice T i ct):=hm9.cell 3
       have m5:w9.cell? ⟨m,4,none⟩=some (.slice NA nl.length Nc):=hm9.cell 4
       have HU10:=lh (own_below hU9 hb10)
       have HS10:=lh (Sl.one (w:=w9) 43 #[.string mn,.int .i64 mp,.int .i64 ml,.slice T i ct,.slice NA nl.length Nc] (by simp))
       have HX10:=lh (hb9.below hb10 hb9.lt)
       have HR10:=lh (hx9.below hb10)
       have HE9:=lh (And.intro hE9 (And.intro hM9 (And.intro hK9 (And.intro hU9 hb9))))
       have hz10:w5.heap.size≤(w9.alloc (.cells #[.string mn,.int .i64 mp,.int .i64 ml,.slice T i ct,.slice NA nl.length Nc] 43)).heap.size:=by have:=HGW.out;have:=hK9.size;have:=hb10.size;omega
       have HB10:=lh hb10
       have HNL:=lh hnl
       clear hw9 hk9 hx9 hm9 hT9 hN9 hK9 hb9 hU9 hE9 hM9 hb10 m4 mf HM HW8 hnl
       obtain⟨i5,hi5,hz0,hz1,hz2⟩:=info_parts i_mthD
       have HI:=lh (And.intro hi5 (And.intro hz0 (And.intro hz1 hz2)))
       clear hi5 hz0 hz1 hz2
       go_wp2_with (at_builtin;refine wpList_app rfl (.tmp 54) (.tmp 56) 46 rfl Tryd.underlying46 HI.out.1 HI.out.2.1 HI.out.2.2.1 HI.out.2.2.2 rfl (by decide) (n:=k) (xs:=ys) rfl HU10.out (A:=some ⟨w9.heap.size,0,none⟩) (m:=1) (c:=1) (news:=[.string mn,.int .i64 mp,.int .i64 ml,.slice T i ct,.slice NA nl.length Nc]) rfl HS10.out (one5 _ _ _ _ _ _ _ _ _) (by unfold maxLen;omega) (by omega) hz10 ?_;intro v11 w11 ho11 hg11 h411;obtain⟨U2,cu2,rfl,hcu2⟩:=own_shape ho11;have hx11:=HX10.out.grown hg11 (fun e=>by have:=(HU10.out.lt _ e.symm).1;have:=HGW.out;omega);have x4:w11.cell? ⟨x,3,none⟩=some (.slice U k cu):=hx11.cell 3;have xf:w11.frozen? ⟨x,3,none⟩=false:=hx11.free 3;have H11:=lh (And.intro ho11 (And.intro hg11 hx11));clear ho11 hg11 h411 hx11)
       go_roundw
       case rel =>
        have hk12:Kp (fun k=>k=x) w11 (w11.setCell ⟨x,3,none⟩ (.slice U2 (k+1) cu2)):=Kp.setCell (S:=fun k=>k=x) w11 ⟨x,3,none⟩ _ rfl
        have hg11k:=Kp.of_grown (S:=fun q=>(Value.slice U k cu).ownBlock=some q) H11.out.2.1 fun q hq=>hq
        have hub:∀ q,(Value.slice U k cu).ownBlock=some q→w5.heap.size≤q:=fun q hq=>(HU10.out.lt q hq).1
        have hR12:=(HR10.out.kp hg11k (fun e=>by have:=hub _ e;have:=HGW.out;omega) (fun e=>by have:=hub _ e;have:=HGW.out;omega)).kp hk12 (fun e=>by have:=HN4.out;omega) (fun e=>by have:=HN4.out;omega)
        have hX12:=H11.out.2.2.set 3 (.slice U2 (k+1) cu2)
        have hO12:=own_kpT H11.out.1 hk12 fun k e=>(by subst e;exact⟨_,_,H11.out.2.2,by decide⟩)
        have hK912:Kp (fun q=>(Value.slice U k cu).ownBlock=some q ∨ q=x) w9 (w11.setCell ⟨x,3,none⟩ (.slice U2 (k+1) cu2)):=((Kp.of_below (S:=fun q=>(Value.slice U k cu).ownBlock=some q ∨ q=x) HB10.out).trans hg11k fun q _ h=>.inl h).trans hk12 fun q _ h=>.inr h
        have hS9:∀ q,((Value.slice U k cu).ownBlock=some q ∨ q=x)→∃ t cs,Bk w9 q t cs∧t≠37∧t≠9:=fun q h=>h.elim (fun h=>let ⟨cs,hcs⟩:=own_bk HE9.out.2.2.2.1 h;⟨_,cs,hcs,by decide,by decide⟩) fun h=>(by subst h;exact⟨_,_,HE9.out.2.2.2.2,by decide,by decide⟩)
        have hE12:=(HE9.out.1.mono fun y r hy=>hy.kp hK912 hS9).snoc (HE9.out.2.1.kp hK912 hS9) rfl
        have e1:rep decMth r2 (k+1)=((rep decMth r2 k).1++[(decMth rk).1],(decMth rk).2):=by rw[HRK.out];rfl
        rw[HDM.out,← HNL.out] at e1
        exact⟨k+1,U2,cu2,_,by go_num,hlt,by rw[e1];exact hR12,hX12,hO12,by rw[e1];exact hE12,(HK.out.2.2.2.trans HE9.out.2.2.1 fun q _ h=>.inl h).trans hK912 fun q hq h=>h.elim (fun h=>by have:=hub q h;omega) .inr⟩
       case measure=>simp[intOf];omega
    ·obtain rfl:k=n2:=by omega
     have hKw:Kp (fun q=>q=g) wj wr:=HK5.out.trans hkp fun q hq h=>h.resolve_right (by omega)
     have hq9:=HJ.out.1.kp hKw (fun e=>by have:=HN2.out;omega)
     have hU9:=own_kp HJ.out.2.1 hKw fun q hq e=>by have:=(HJ.out.2.1.lt q hq).1;have:=HN2.out;omega
     have hE9:=HJ.out.2.2.1.mono fun y r hy=>hy.kp hKw fun q e=>(by subst e;obtain⟨cs,hcs⟩:=HGJ.out;exact⟨_,cs,hcs,by decide,by decide,by decide⟩)
     have hr9:=HJ.out.2.2.2.1.kp hKw (fun e=>by have:=HN2.out;omega)
     have hbl9:=hKw.toBelow HJ.out.2.2.2.2.1 HJ.out.2.2.2.2.1.size fun q e=>by have:=HN2.out;omega
     have hS5:∀ q,(q=g ∨ q=x)→∃ t cs,Bk w5 q t cs∧t≠9:=fun q h=>h.elim (fun h=>(by subst h;obtain⟨cs,hcs⟩:=HX5.out.1.bkx;exact⟨_,cs,hcs,by decide⟩)) fun h=>(by subst h;exact⟨_,_,HX5.out.2.1,by decide⟩)
     have hF9:=own_kpT HX5.out.2.2 hkp hS5
     have hC9:ClsO wr ⟨nm,ac,fl,(rep decMth r2 k).1⟩ [.string nm,.bool ac,.slice FA fl.length Fc,.slice U k cu]:=by
      refine⟨FA,Fc,U,cu,ys,?_,own_base hF9 (Nat.zero_le _),?_,he⟩
      ·dsimp only;rw[rep_len]
      ·dsimp only;rw[rep_len];exact own_base ho (Nat.zero_le _)
     have hb10:Below wr.heap.size wr (wr.alloc (.cells #[.string nm,.bool ac,.slice FA fl.length Fc,.slice U k cu] 48)):=(Below.refl _ _).alloc (Nat.le_refl _) _
     have q0:wr.cell? ⟨q,0,none⟩=some (.slice V j cv):=hq9.cell 0
     have m0:wr.cell? ⟨x,0,none⟩=some (.string nm):=hq.cell 0
     have m1:wr.cell? ⟨x,1,none⟩=some (.bool ac):=hq.cell 1
     have m2:wr.cell? ⟨x,2,none⟩=some (.slice FA fl.length Fc):=hq.cell 2
     have m3:wr.cell? ⟨x,3,none⟩=some (.slice U k cu):=hq.cell 3
     have HU10:=lh (own_below hU9 hb10)
     have HS10:=lh (Sl.one (w:=wr) 48 #[.string nm,.bool ac,.slice FA fl.length Fc,.slice U k cu] (by simp))
     have HX10:=lh (hq9.below hb10 hq9.lt)
     have HR10:=lh (hx.below hb10)
     have HE9:=lh (And.intro hE9 (And.intro hC9 (And.intro hU9 (And.intro hq9 (And.intro hr9 hbl9)))))
     have hz10:w2.heap.size≤(wr.alloc (.cells #[.string nm,.bool ac,.slice FA fl.length Fc,.slice U k cu] 48)).heap.size:=by have:=HJ.out.2.2.2.2.2;have:=hKw.size;have:=hb10.size;omega
     have HB10:=lh hb10
     have HSZ:=lh (show w2.heap.size≤wr.heap.size by have:=HJ.out.2.2.2.2.2;have:=hKw.size;omega)
     clear hKw hq9 hU9 hE9 hr9 hbl9 hS5 hF9 hC9 hb10 hx hq ho he hkp hk hlt HX5 HK5 HJ
     obtain⟨i5,hi5,hz0,hz1,hz2⟩:=info_parts i_clsD
     have HI:=lh (And.intro hi5 (And.intro hz0 (And.intro hz1 hz2)))
     clear hi5 hz0 hz1 hz2
     go_wp2_with (at_builtin;refine wpList_app rfl (.tmp 61) (.tmp 63) 22 rfl Tryd.underlying22 HI.out.1 HI.out.2.1 HI.out.2.2.1 HI.out.2.2.2 rfl (by decide) (n:=j) (xs:=xs) rfl HU10.out (A:=some ⟨wr.heap.size,0,none⟩) (m:=1) (c:=1) (news:=[.string nm,.bool ac,.slice FA fl.length Fc,.slice U k cu]) rfl HS10.out (one4 _ _ _ _ _ _ _ _) (by unfold maxLen;omega) (by omega) hz10 ?_;intro v11 w11 ho11 hg11 h411;obtain⟨U2,cu2,rfl,hcu2⟩:=own_shape ho11;have hx11:=HX10.out.grown hg11 (fun e=>by have:=(HU10.out.lt _ e.symm).1;have:=HN2.out;omega);have x4:w11.cell? ⟨q,0,none⟩=some (.slice V j cv):=hx11.cell 0;have xf:w11.frozen? ⟨q,0,none⟩=false:=hx11.free 0;have H11:=lh (And.intro ho11 (And.intro hg11 hx11));clear ho11 hg11 h411 hx11)
     go_roundw
     case rel =>
      have hk12:Kp (fun k=>k=q) w11 (w11.setCell ⟨q,0,none⟩ (.slice U2 (j+1) cu2)):=Kp.setCell (S:=fun k=>k=q) w11 ⟨q,0,none⟩ _ rfl
      have hg11k:=Kp.of_grown (S:=fun q=>(Value.slice V j cv).ownBlock=some q) H11.out.2.1 fun q hq=>hq
      have hub:∀ q,(Value.slice V j cv).ownBlock=some q→w2.heap.size≤q:=fun q hq=>(HU10.out.lt q hq).1
      have hR12:=(HR10.out.kp hg11k (fun e=>by have:=hub _ e;have:=HN2.out;omega) (fun e=>by have:=hub _ e;have:=HN2.out;omega)).kp hk12 (fun e=>by have:=HN2.out;omega) (fun e=>by have:=HN2.out;omega)
      have hX12:=H11.out.2.2.set 0 (.slice U2 (j+1) cu2)
      have hO12:=own_kpT H11.out.1 hk12 fun k e=>(by subst e;exact⟨_,_,H11.out.2.2,by decide⟩)
      have hK912:Kp (fun p=>(Value.slice V j cv).ownBlock=some p ∨ p=q) wr (w11.setCell ⟨q,0,none⟩ (.slice U2 (j+1) cu2)):=((Kp.of_below (S:=fun p=>(Value.slice V j cv).ownBlock=some p ∨ p=q) HB10.out).trans hg11k fun q _ h=>.inl h).trans hk12 fun q _ h=>.inr h
      have hS9:∀ p,((Value.slice V j cv).ownBlock=some p ∨ p=q)→∃ t cs,Bk wr p t cs∧t≠37∧t≠9∧t≠43:=fun q h=>h.elim (fun h=>let ⟨cs,hcs⟩:=own_bk HE9.out.2.2.1 h;⟨_,cs,hcs,by decide,by decide,by decide⟩) fun h=>(by subst h;exact⟨_,_,HE9.out.2.2.2.1,by decide,by decide,by decide⟩)
      have hE12:=(HE9.out.1.mono fun y r hy=>hy.kp hK912 hS9).snoc (HE9.out.2.1.kp hK912 hS9) rfl
      have e1:rep decCls r1 (j+1)=((rep decCls r1 j).1++[(decCls rj).1],(decCls rj).2):=by rw[HRJ.out];rfl
      rw[HDC2.out] at e1
      exact⟨j+1,U2,cu2,_,by go_num,HLT.out,by rw[e1];exact hR12,hX12,hO12,by rw[e1];exact hE12,HE9.out.2.2.2.2.1.kp hK912 (fun h=>h.elim (fun e=>by have:=hub _ e;have:=HN2.out;omega) (fun e=>by have:=HN2.out;omega)),hK912.toBelow HE9.out.2.2.2.2.2 HE9.out.2.2.2.2.2.size (fun p h=>h.elim (fun e=>by have:=hub _ e;have:=HN2.out;omega) (fun e=>by have:=HN2.out;omega)),Nat.le_trans HSZ.out hK912.size⟩
     case measure=>simp[intOf];have:=HLT.out;omega
  ·obtain rfl:j=n1:=by omega
   have cD:=Done_any hx
   rw[← HDS.out.2] at cD
   have r0:wr.cell? ⟨w.heap.size,0,none⟩=some (.slice none 0 0):=hr.cell 0
   have rf:wr.frozen? ⟨w.heap.size,0,none⟩=false:=hr.free 0
   have q0:wr.cell? ⟨q,0,none⟩=some (.slice V j cv):=hq.cell 0
   have HE:=lh (And.intro ho (And.intro he (And.intro hr hbl)))
   have hset:∀ u:Value,Kp (fun k=>k=w.heap.size) wr (wr.setCell ⟨w.heap.size,0,none⟩ u):=fun u=>Kp.setCell (S:=fun k=>k=w.heap.size) wr ⟨w.heap.size,0,none⟩ _ rfl
   have HSET:Hid (∀ u:Value,Below w.heap.size w (wr.setCell ⟨w.heap.size,0,none⟩ u)):=lh fun u=>(hset u).toBelow hbl hbl.size fun k e=>by omega
   have HS2:=lh hset
   clear hx hq ho he hr hbl hz hset hlt hj
   go_wp2_with fail
   refine cD.mono ?_
   rintro e w' ⟨rfl,rfl⟩
   clear cD
   by_cases hz:er=0
   ·subst hz
    go_wp2_with fail
    try simp only[Exit.inBlock,Exit.then]
    have rr:(wr.setCell ⟨w.heap.size,0,none⟩ (.slice V j cv)).cell? ⟨w.heap.size,0,none⟩=some (.slice V j cv):=(HE.out.2.2.1.set 0 (.slice V j cv)).cell 0
    refine bodyPost_ret (v:=.tuple #[.agg #[.slice V j cv],.int .i64 0]) (by simp[results,Tryd.results12,rr,go_sem]) rfl ?_
    have hl:ds.length=j:=by rw[HDS.out.1,rep_len]
    refine⟨HSET.out _,.inr ⟨rfl,V,cv,xs,by rw[hl],?_,?_⟩⟩
    ·rw[hl]
     exact own_base (own_kpT HE.out.1 (HS2.out _) fun k e=>(by subst e;exact⟨_,_,HE.out.2.2.1,by decide⟩)) (Nat.zero_le _)
    ·rw[HDS.out.1]
     exact HE.out.2.1.mono fun y r hy=>hy.kp (HS2.out _) fun k e=>(by subst e;exact⟨_,_,HE.out.2.2.1,by decide,by decide,by decide⟩)
   ·have d0:(er != 0)=true:=by simpa using hz
    have HZ:=lh hz
    clear hz
    go_wp2_with fail
    try simp only[Exit.inBlock,Exit.then]
    have rr:(wr.setCell ⟨w.heap.size,0,none⟩ (.slice none 0 0)).cell? ⟨w.heap.size,0,none⟩=some (.slice none 0 0):=(HE.out.2.2.1.set 0 (.slice none 0 0)).cell 0
    refine bodyPost_ret (v:=.tuple #[.agg #[.slice none 0 0],.int .i64 er]) (by simp[results,Tryd.results12,rr,go_sem]) rfl ?_
    exact⟨HSET.out _,.inl ⟨HZ.out,rfl⟩⟩
end
end
end Go.Proofs.YtmbnlccafcfbeaaDoor
