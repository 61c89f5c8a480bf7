/- Parts of the proof: RcK. -/
import Derived.Test.YtmbnlccafcfbeaaGreatDoorPeA
import Derived.Test.YtmbnlccafcfbeaaGreatDoorPe23
set_option linter.unusedVariables false
set_option linter.unusedSimpArgs false
set_option linter.unusedSectionVars false
set_option maxRecDepth 100000
namespace Go.Proofs.YtmbnlccafcfbeaaGreatDoor
section
open Go.RowKit
attribute [local go_sem] Oper.semAt_some
def putZ:Array Value→Nat→List Value→Array Value
 | Z,_,[]=>Z
 | Z,o,v::l=>putZ (Z.setIfInBounds o v) (o+1) l
def KeepP (g:Nat) (Z:Array Value) (w:World) (e:Ending) (w':World):Prop:=e=.returned (.tuple #[])∧Bk w' g 42 Z∧Kp (fun k=>k=g) w w'
theorem bz_keep4 {w:World} {g:Nat} {t:TypeId} {Z:Array Value} (h:Bk w g t Z) (v0 v1 v2 v3 v4 v5 v6 v7:Value):Bk (((((((((w).setCell ⟨g,4,none⟩ v0).setCell ⟨g,5,none⟩ v1).setCell ⟨g,6,none⟩ v2).setCell ⟨g,7,none⟩ v3).setCell ⟨g,8,none⟩ v4).setCell ⟨g,9,none⟩ v5).setCell ⟨g,10,none⟩ v6).setCell ⟨g,11,none⟩ v7) g t (putZ Z 4 [v0,v1,v2,v3,v4,v5,v6,v7]):=((((((((h.set 4 v0).set 5 v1).set 6 v2).set 7 v3).set 8 v4).set 9 v5).set 10 v6).set 11 v7)
theorem kz_keep4 {w:World} {g:Nat} (v0 v1 v2 v3 v4 v5 v6 v7:Value):Kp (fun k=>k=g) w (((((((((w).setCell ⟨g,4,none⟩ v0).setCell ⟨g,5,none⟩ v1).setCell ⟨g,6,none⟩ v2).setCell ⟨g,7,none⟩ v3).setCell ⟨g,8,none⟩ v4).setCell ⟨g,9,none⟩ v5).setCell ⟨g,10,none⟩ v6).setCell ⟨g,11,none⟩ v7):=((((((((Kp.refl _ _).trans (Kp.setCell (S:=fun k=>k=g) _ ⟨g,4,none⟩ v0 rfl) (fun _ _ h=>h)).trans (Kp.setCell (S:=fun k=>k=g) _ ⟨g,5,none⟩ v1 rfl) (fun _ _ h=>h)).trans (Kp.setCell (S:=fun k=>k=g) _ ⟨g,6,none⟩ v2 rfl) (fun _ _ h=>h)).trans (Kp.setCell (S:=fun k=>k=g) _ ⟨g,7,none⟩ v3 rfl) (fun _ _ h=>h)).trans (Kp.setCell (S:=fun k=>k=g) _ ⟨g,8,none⟩ v4 rfl) (fun _ _ h=>h)).trans (Kp.setCell (S:=fun k=>k=g) _ ⟨g,9,none⟩ v5 rfl) (fun _ _ h=>h)).trans (Kp.setCell (S:=fun k=>k=g) _ ⟨g,10,none⟩ v6 rfl) (fun _ _ h=>h)).trans (Kp.setCell (S:=fun k=>k=g) _ ⟨g,11,none⟩ v7 rfl) (fun _ _ h=>h)
set_option maxHeartbeats 4000000 in
theorem keep4 {w:World} (x:Ms) {A1 A2 A3 A4 A5 A6 A7 A8:Option Addr} {c1 c2 c3 c4 c5 c6 c7 c8:Nat} {M Z:Array Value} (hM:M=#[.int .i64 x.kind,.int .u64 x.number,.int .i64 x.asker,.string x.name,.int .i64 x.ref.kind,.int .i64 x.ref.int,.int .i64 x.ref.owner,.int .u64 x.ref.number,.int .i64 x.ref.idm,.int .i64 x.ref.ids,.int .i64 x.ref.cls,.bool x.ref.weak,.int .i64 x.letter.idm,.int .i64 x.letter.ids,.string x.letter.meth,.slice A1 x.letter.args.length c1,.int .u64 x.parcel.number,.int .i64 x.parcel.idm,.int .i64 x.parcel.ids,.int .i64 x.parcel.kind,.int .i64 x.parcel.cls,.slice A2 x.parcel.fields.length c2,.slice A3 x.parcel.mail.length c3,.slice A4 x.parcel.watches.length c4,.int .i64 x.tm,.int .i64 x.ts,.int .i64 x.answer.machine,.int .i64 x.answer.owner,.int .u64 x.answer.number,.int .i64 x.answer.epoch,.bool x.answer.known,.bool x.answer.rooted,.int .i64 x.answer.last,.slice A5 x.answer.inset.length c5,.int .i64 x.claim.machine,.int .i64 x.claim.epoch,.slice A6 x.claim.stubs.length c6,.slice A7 x.claim.scions.length c7,.slice A8 x.claim.checks.length c8]) {g5:Nat} (hz:Bk w g5 42 Z) (hs:Z.size=39):Calls Tryz.prog 146 #[.pointer (some ⟨g5,0,none⟩),.agg M] w (KeepP g5 (putZ Z 4 [.int .i64 x.ref.kind,.int .i64 x.ref.int,.int .i64 x.ref.owner,.int .u64 x.ref.number,.int .i64 x.ref.idm,.int .i64 x.ref.ids,.int .i64 x.ref.cls,.bool x.ref.weak]) w):=by
 have HM:=lh hM
 clear hM
 obtain⟨W,hW⟩:∃ W,W=w.alloc (.cells M 42):=⟨_,rfl⟩
 obtain⟨g,hg⟩:∃ g,g=w.heap.size:=⟨_,rfl⟩
 have hb0:Below w.heap.size w W:=by rw[hW];exact below_one _ _
 have hk0:Bk W g 42 M:=by rw[hW,hg];exact Bk.new _ _ _
 have hz0:=hz.below hb0 hz.lt
 have a4:W.cell? ⟨g,4,none⟩=some (.int .i64 x.ref.kind):=(hk0.cell 4).trans (by rw[HM.out];rfl)
 obtain⟨u4,hu4⟩:∃ u,W.cell? ⟨g5,4,none⟩=some u:=⟨_,(hz0.cell 4).trans (Array.getElem?_eq_getElem (by rw[hs];decide))⟩
 have a5:W.cell? ⟨g,5,none⟩=some (.int .i64 x.ref.int):=(hk0.cell 5).trans (by rw[HM.out];rfl)
 obtain⟨u5,hu5⟩:∃ u,W.cell? ⟨g5,5,none⟩=some u:=⟨_,(hz0.cell 5).trans (Array.getElem?_eq_getElem (by rw[hs];decide))⟩
 have a6:W.cell? ⟨g,6,none⟩=some (.int .i64 x.ref.owner):=(hk0.cell 6).trans (by rw[HM.out];rfl)
 obtain⟨u6,hu6⟩:∃ u,W.cell? ⟨g5,6,none⟩=some u:=⟨_,(hz0.cell 6).trans (Array.getElem?_eq_getElem (by rw[hs];decide))⟩
 have a7:W.cell? ⟨g,7,none⟩=some (.int .u64 x.ref.number):=(hk0.cell 7).trans (by rw[HM.out];rfl)
 obtain⟨u7,hu7⟩:∃ u,W.cell? ⟨g5,7,none⟩=some u:=⟨_,(hz0.cell 7).trans (Array.getElem?_eq_getElem (by rw[hs];decide))⟩
 have a8:W.cell? ⟨g,8,none⟩=some (.int .i64 x.ref.idm):=(hk0.cell 8).trans (by rw[HM.out];rfl)
 obtain⟨u8,hu8⟩:∃ u,W.cell? ⟨g5,8,none⟩=some u:=⟨_,(hz0.cell 8).trans (Array.getElem?_eq_getElem (by rw[hs];decide))⟩
 have a9:W.cell? ⟨g,9,none⟩=some (.int .i64 x.ref.ids):=(hk0.cell 9).trans (by rw[HM.out];rfl)
 obtain⟨u9,hu9⟩:∃ u,W.cell? ⟨g5,9,none⟩=some u:=⟨_,(hz0.cell 9).trans (Array.getElem?_eq_getElem (by rw[hs];decide))⟩
 have a10:W.cell? ⟨g,10,none⟩=some (.int .i64 x.ref.cls):=(hk0.cell 10).trans (by rw[HM.out];rfl)
 obtain⟨u10,hu10⟩:∃ u,W.cell? ⟨g5,10,none⟩=some u:=⟨_,(hz0.cell 10).trans (Array.getElem?_eq_getElem (by rw[hs];decide))⟩
 have a11:W.cell? ⟨g,11,none⟩=some (.bool x.ref.weak):=(hk0.cell 11).trans (by rw[HM.out];rfl)
 obtain⟨u11,hu11⟩:∃ u,W.cell? ⟨g5,11,none⟩=some u:=⟨_,(hz0.cell 11).trans (Array.getElem?_eq_getElem (by rw[hs];decide))⟩
 have e0:∀ j,W.frozen? ⟨g5,j,none⟩=false:=fun j=>hz0.free j
 have HZ0:=lh hz0
 have HKP:Hid (Kp (fun k=>k=g5) w W):=lh (Kp.of_below hb0)
 clear hb0 hk0 hz hz0 hs
 go_enter Tryz.func146,Tryz.ntmps146
 go_upto_region 1 with fail
 rw[← hW,← hg]
 clear hW hg
 go_wp2_with fail
 go_end0
 exact⟨rfl,bz_keep4 HZ0.out _ _ _ _ _ _ _ _,HKP.out.trans (kz_keep4 _ _ _ _ _ _ _ _) (fun _ _ h=>h)⟩
theorem bz_keep11 {w:World} {g:Nat} {t:TypeId} {Z:Array Value} (h:Bk w g t Z) (v0 v1:Value):Bk (((w).setCell ⟨g,24,none⟩ v0).setCell ⟨g,25,none⟩ v1) g t (putZ Z 24 [v0,v1]):=((h.set 24 v0).set 25 v1)
theorem kz_keep11 {w:World} {g:Nat} (v0 v1:Value):Kp (fun k=>k=g) w (((w).setCell ⟨g,24,none⟩ v0).setCell ⟨g,25,none⟩ v1):=((Kp.refl _ _).trans (Kp.setCell (S:=fun k=>k=g) _ ⟨g,24,none⟩ v0 rfl) (fun _ _ h=>h)).trans (Kp.setCell (S:=fun k=>k=g) _ ⟨g,25,none⟩ v1 rfl) (fun _ _ h=>h)
set_option maxHeartbeats 4000000 in
theorem keep11 {w:World} (x:Ms) {A1 A2 A3 A4 A5 A6 A7 A8:Option Addr} {c1 c2 c3 c4 c5 c6 c7 c8:Nat} {M Z:Array Value} (hM:M=#[.int .i64 x.kind,.int .u64 x.number,.int .i64 x.asker,.string x.name,.int .i64 x.ref.kind,.int .i64 x.ref.int,.int .i64 x.ref.owner,.int .u64 x.ref.number,.int .i64 x.ref.idm,.int .i64 x.ref.ids,.int .i64 x.ref.cls,.bool x.ref.weak,.int .i64 x.letter.idm,.int .i64 x.letter.ids,.string x.letter.meth,.slice A1 x.letter.args.length c1,.int .u64 x.parcel.number,.int .i64 x.parcel.idm,.int .i64 x.parcel.ids,.int .i64 x.parcel.kind,.int .i64 x.parcel.cls,.slice A2 x.parcel.fields.length c2,.slice A3 x.parcel.mail.length c3,.slice A4 x.parcel.watches.length c4,.int .i64 x.tm,.int .i64 x.ts,.int .i64 x.answer.machine,.int .i64 x.answer.owner,.int .u64 x.answer.number,.int .i64 x.answer.epoch,.bool x.answer.known,.bool x.answer.rooted,.int .i64 x.answer.last,.slice A5 x.answer.inset.length c5,.int .i64 x.claim.machine,.int .i64 x.claim.epoch,.slice A6 x.claim.stubs.length c6,.slice A7 x.claim.scions.length c7,.slice A8 x.claim.checks.length c8]) {g5:Nat} (hz:Bk w g5 42 Z) (hs:Z.size=39):Calls Tryz.prog 149 #[.pointer (some ⟨g5,0,none⟩),.agg M] w (KeepP g5 (putZ Z 24 [.int .i64 x.tm,.int .i64 x.ts]) w):=by
 have HM:=lh hM
 clear hM
 obtain⟨W,hW⟩:∃ W,W=w.alloc (.cells M 42):=⟨_,rfl⟩
 obtain⟨g,hg⟩:∃ g,g=w.heap.size:=⟨_,rfl⟩
 have hb0:Below w.heap.size w W:=by rw[hW];exact below_one _ _
 have hk0:Bk W g 42 M:=by rw[hW,hg];exact Bk.new _ _ _
 have hz0:=hz.below hb0 hz.lt
 have a24:W.cell? ⟨g,24,none⟩=some (.int .i64 x.tm):=(hk0.cell 24).trans (by rw[HM.out];rfl)
 obtain⟨u24,hu24⟩:∃ u,W.cell? ⟨g5,24,none⟩=some u:=⟨_,(hz0.cell 24).trans (Array.getElem?_eq_getElem (by rw[hs];decide))⟩
 have a25:W.cell? ⟨g,25,none⟩=some (.int .i64 x.ts):=(hk0.cell 25).trans (by rw[HM.out];rfl)
 obtain⟨u25,hu25⟩:∃ u,W.cell? ⟨g5,25,none⟩=some u:=⟨_,(hz0.cell 25).trans (Array.getElem?_eq_getElem (by rw[hs];decide))⟩
 have e0:∀ j,W.frozen? ⟨g5,j,none⟩=false:=fun j=>hz0.free j
 have HZ0:=lh hz0
 have HKP:Hid (Kp (fun k=>k=g5) w W):=lh (Kp.of_below hb0)
 clear hb0 hk0 hz hz0 hs
 go_enter Tryz.func149,Tryz.ntmps149
 go_upto_region 1 with fail
 rw[← hW,← hg]
 clear hW hg
 go_wp2_with fail
 go_end0
 exact⟨rfl,bz_keep11 HZ0.out _ _,HKP.out.trans (kz_keep11 _ _) (fun _ _ h=>h)⟩
theorem bz_keep1 {w:World} {g:Nat} {t:TypeId} {Z:Array Value} (h:Bk w g t Z) (v0 v1 v2 v3 v4 v5 v6 v7:Value):Bk (((((((((w).setCell ⟨g,16,none⟩ v0).setCell ⟨g,17,none⟩ v1).setCell ⟨g,18,none⟩ v2).setCell ⟨g,19,none⟩ v3).setCell ⟨g,20,none⟩ v4).setCell ⟨g,21,none⟩ v5).setCell ⟨g,22,none⟩ v6).setCell ⟨g,23,none⟩ v7) g t (putZ Z 16 [v0,v1,v2,v3,v4,v5,v6,v7]):=((((((((h.set 16 v0).set 17 v1).set 18 v2).set 19 v3).set 20 v4).set 21 v5).set 22 v6).set 23 v7)
theorem kz_keep1 {w:World} {g:Nat} (v0 v1 v2 v3 v4 v5 v6 v7:Value):Kp (fun k=>k=g) w (((((((((w).setCell ⟨g,16,none⟩ v0).setCell ⟨g,17,none⟩ v1).setCell ⟨g,18,none⟩ v2).setCell ⟨g,19,none⟩ v3).setCell ⟨g,20,none⟩ v4).setCell ⟨g,21,none⟩ v5).setCell ⟨g,22,none⟩ v6).setCell ⟨g,23,none⟩ v7):=((((((((Kp.refl _ _).trans (Kp.setCell (S:=fun k=>k=g) _ ⟨g,16,none⟩ v0 rfl) (fun _ _ h=>h)).trans (Kp.setCell (S:=fun k=>k=g) _ ⟨g,17,none⟩ v1 rfl) (fun _ _ h=>h)).trans (Kp.setCell (S:=fun k=>k=g) _ ⟨g,18,none⟩ v2 rfl) (fun _ _ h=>h)).trans (Kp.setCell (S:=fun k=>k=g) _ ⟨g,19,none⟩ v3 rfl) (fun _ _ h=>h)).trans (Kp.setCell (S:=fun k=>k=g) _ ⟨g,20,none⟩ v4 rfl) (fun _ _ h=>h)).trans (Kp.setCell (S:=fun k=>k=g) _ ⟨g,21,none⟩ v5 rfl) (fun _ _ h=>h)).trans (Kp.setCell (S:=fun k=>k=g) _ ⟨g,22,none⟩ v6 rfl) (fun _ _ h=>h)).trans (Kp.setCell (S:=fun k=>k=g) _ ⟨g,23,none⟩ v7 rfl) (fun _ _ h=>h)
set_option maxHeartbeats 4000000 in
theorem keep1 {w:World} (x:Ms) {A1 A2 A3 A4 A5 A6 A7 A8:Option Addr} {c1 c2 c3 c4 c5 c6 c7 c8:Nat} {M Z:Array Value} (hM:M=#[.int .i64 x.kind,.int .u64 x.number,.int .i64 x.asker,.string x.name,.int .i64 x.ref.kind,.int .i64 x.ref.int,.int .i64 x.ref.owner,.int .u64 x.ref.number,.int .i64 x.ref.idm,.int .i64 x.ref.ids,.int .i64 x.ref.cls,.bool x.ref.weak,.int .i64 x.letter.idm,.int .i64 x.letter.ids,.string x.letter.meth,.slice A1 x.letter.args.length c1,.int .u64 x.parcel.number,.int .i64 x.parcel.idm,.int .i64 x.parcel.ids,.int .i64 x.parcel.kind,.int .i64 x.parcel.cls,.slice A2 x.parcel.fields.length c2,.slice A3 x.parcel.mail.length c3,.slice A4 x.parcel.watches.length c4,.int .i64 x.tm,.int .i64 x.ts,.int .i64 x.answer.machine,.int .i64 x.answer.owner,.int .u64 x.answer.number,.int .i64 x.answer.epoch,.bool x.answer.known,.bool x.answer.rooted,.int .i64 x.answer.last,.slice A5 x.answer.inset.length c5,.int .i64 x.claim.machine,.int .i64 x.claim.epoch,.slice A6 x.claim.stubs.length c6,.slice A7 x.claim.scions.length c7,.slice A8 x.claim.checks.length c8]) {g5:Nat} (hz:Bk w g5 42 Z) (hs:Z.size=39):Calls Tryz.prog 79 #[.pointer (some ⟨g5,0,none⟩),.agg M] w (KeepP g5 (putZ Z 16 [.int .u64 x.parcel.number,.int .i64 x.parcel.idm,.int .i64 x.parcel.ids,.int .i64 x.parcel.kind,.int .i64 x.parcel.cls,.slice A2 x.parcel.fields.length c2,.slice A3 x.parcel.mail.length c3,.slice A4 x.parcel.watches.length c4]) w):=by
 have HM:=lh hM
 clear hM
 obtain⟨W,hW⟩:∃ W,W=w.alloc (.cells M 42):=⟨_,rfl⟩
 obtain⟨g,hg⟩:∃ g,g=w.heap.size:=⟨_,rfl⟩
 have hb0:Below w.heap.size w W:=by rw[hW];exact below_one _ _
 have hk0:Bk W g 42 M:=by rw[hW,hg];exact Bk.new _ _ _
 have hz0:=hz.below hb0 hz.lt
 have a16:W.cell? ⟨g,16,none⟩=some (.int .u64 x.parcel.number):=(hk0.cell 16).trans (by rw[HM.out];rfl)
 obtain⟨u16,hu16⟩:∃ u,W.cell? ⟨g5,16,none⟩=some u:=⟨_,(hz0.cell 16).trans (Array.getElem?_eq_getElem (by rw[hs];decide))⟩
 have a17:W.cell? ⟨g,17,none⟩=some (.int .i64 x.parcel.idm):=(hk0.cell 17).trans (by rw[HM.out];rfl)
 obtain⟨u17,hu17⟩:∃ u,W.cell? ⟨g5,17,none⟩=some u:=⟨_,(hz0.cell 17).trans (Array.getElem?_eq_getElem (by rw[hs];decide))⟩
 have a18:W.cell? ⟨g,18,none⟩=some (.int .i64 x.parcel.ids):=(hk0.cell 18).trans (by rw[HM.out];rfl)
 obtain⟨u18,hu18⟩:∃ u,W.cell? ⟨g5,18,none⟩=some u:=⟨_,(hz0.cell 18).trans (Array.getElem?_eq_getElem (by rw[hs];decide))⟩
 have a19:W.cell? ⟨g,19,none⟩=some (.int .i64 x.parcel.kind):=(hk0.cell 19).trans (by rw[HM.out];rfl)
 obtain⟨u19,hu19⟩:∃ u,W.cell? ⟨g5,19,none⟩=some u:=⟨_,(hz0.cell 19).trans (Array.getElem?_eq_getElem (by rw[hs];decide))⟩
 have a20:W.cell? ⟨g,20,none⟩=some (.int .i64 x.parcel.cls):=(hk0.cell 20).trans (by rw[HM.out];rfl)
 obtain⟨u20,hu20⟩:∃ u,W.cell? ⟨g5,20,none⟩=some u:=⟨_,(hz0.cell 20).trans (Array.getElem?_eq_getElem (by rw[hs];decide))⟩
 have a21:W.cell? ⟨g,21,none⟩=some (.slice A2 x.parcel.fields.length c2):=(hk0.cell 21).trans (by rw[HM.out];rfl)
 obtain⟨u21,hu21⟩:∃ u,W.cell? ⟨g5,21,none⟩=some u:=⟨_,(hz0.cell 21).trans (Array.getElem?_eq_getElem (by rw[hs];decide))⟩
 have a22:W.cell? ⟨g,22,none⟩=some (.slice A3 x.parcel.mail.length c3):=(hk0.cell 22).trans (by rw[HM.out];rfl)
 obtain⟨u22,hu22⟩:∃ u,W.cell? ⟨g5,22,none⟩=some u:=⟨_,(hz0.cell 22).trans (Array.getElem?_eq_getElem (by rw[hs];decide))⟩
 have a23:W.cell? ⟨g,23,none⟩=some (.slice A4 x.parcel.watches.length c4):=(hk0.cell 23).trans (by rw[HM.out];rfl)
 obtain⟨u23,hu23⟩:∃ u,W.cell? ⟨g5,23,none⟩=some u:=⟨_,(hz0.cell 23).trans (Array.getElem?_eq_getElem (by rw[hs];decide))⟩
 have e0:∀ j,W.frozen? ⟨g5,j,none⟩=false:=fun j=>hz0.free j
 have HZ0:=lh hz0
 have HKP:Hid (Kp (fun k=>k=g5) w W):=lh (Kp.of_below hb0)
 clear hb0 hk0 hz hz0 hs
 go_enter Tryz.func79,Tryz.ntmps79
 go_upto_region 1 with fail
 rw[← hW,← hg]
 clear hW hg
 go_wp2_with fail
 go_end0
 exact⟨rfl,bz_keep1 HZ0.out _ _ _ _ _ _ _ _,HKP.out.trans (kz_keep1 _ _ _ _ _ _ _ _) (fun _ _ h=>h)⟩
theorem bz_keep5 {w:World} {g:Nat} {t:TypeId} {Z:Array Value} (h:Bk w g t Z) (v0:Value):Bk ((w).setCell ⟨g,1,none⟩ v0) g t (putZ Z 1 [v0]):=(h.set 1 v0)
theorem kz_keep5 {w:World} {g:Nat} (v0:Value):Kp (fun k=>k=g) w ((w).setCell ⟨g,1,none⟩ v0):=(Kp.refl _ _).trans (Kp.setCell (S:=fun k=>k=g) _ ⟨g,1,none⟩ v0 rfl) (fun _ _ h=>h)
set_option maxHeartbeats 4000000 in
theorem keep5 {w:World} (x:Ms) {A1 A2 A3 A4 A5 A6 A7 A8:Option Addr} {c1 c2 c3 c4 c5 c6 c7 c8:Nat} {M Z:Array Value} (hM:M=#[.int .i64 x.kind,.int .u64 x.number,.int .i64 x.asker,.string x.name,.int .i64 x.ref.kind,.int .i64 x.ref.int,.int .i64 x.ref.owner,.int .u64 x.ref.number,.int .i64 x.ref.idm,.int .i64 x.ref.ids,.int .i64 x.ref.cls,.bool x.ref.weak,.int .i64 x.letter.idm,.int .i64 x.letter.ids,.string x.letter.meth,.slice A1 x.letter.args.length c1,.int .u64 x.parcel.number,.int .i64 x.parcel.idm,.int .i64 x.parcel.ids,.int .i64 x.parcel.kind,.int .i64 x.parcel.cls,.slice A2 x.parcel.fields.length c2,.slice A3 x.parcel.mail.length c3,.slice A4 x.parcel.watches.length c4,.int .i64 x.tm,.int .i64 x.ts,.int .i64 x.answer.machine,.int .i64 x.answer.owner,.int .u64 x.answer.number,.int .i64 x.answer.epoch,.bool x.answer.known,.bool x.answer.rooted,.int .i64 x.answer.last,.slice A5 x.answer.inset.length c5,.int .i64 x.claim.machine,.int .i64 x.claim.epoch,.slice A6 x.claim.stubs.length c6,.slice A7 x.claim.scions.length c7,.slice A8 x.claim.checks.length c8]) {g5:Nat} (hz:Bk w g5 42 Z) (hs:Z.size=39):Calls Tryz.prog 84 #[.pointer (some ⟨g5,0,none⟩),.agg M] w (KeepP g5 (putZ Z 1 [.int .u64 x.number]) w):=by
 have HM:=lh hM
 clear hM
 obtain⟨W,hW⟩:∃ W,W=w.alloc (.cells M 42):=⟨_,rfl⟩
 obtain⟨g,hg⟩:∃ g,g=w.heap.size:=⟨_,rfl⟩
 have hb0:Below w.heap.size w W:=by rw[hW];exact below_one _ _
 have hk0:Bk W g 42 M:=by rw[hW,hg];exact Bk.new _ _ _
 have hz0:=hz.below hb0 hz.lt
 have a1:W.cell? ⟨g,1,none⟩=some (.int .u64 x.number):=(hk0.cell 1).trans (by rw[HM.out];rfl)
 obtain⟨u1,hu1⟩:∃ u,W.cell? ⟨g5,1,none⟩=some u:=⟨_,(hz0.cell 1).trans (Array.getElem?_eq_getElem (by rw[hs];decide))⟩
 have e0:∀ j,W.frozen? ⟨g5,j,none⟩=false:=fun j=>hz0.free j
 have HZ0:=lh hz0
 have HKP:Hid (Kp (fun k=>k=g5) w W):=lh (Kp.of_below hb0)
 clear hb0 hk0 hz hz0 hs
 go_enter Tryz.func84,Tryz.ntmps84
 go_upto_region 1 with fail
 rw[← hW,← hg]
 clear hW hg
 go_wp2_with fail
 go_end0
 exact⟨rfl,bz_keep5 HZ0.out _,HKP.out.trans (kz_keep5 _) (fun _ _ h=>h)⟩
theorem keep15 {w:World} {M Z:Array Value} {g5:Nat} (hz:Bk w g5 42 Z):Calls Tryz.prog 151 #[.pointer (some ⟨g5,0,none⟩),.agg M] w (KeepP g5 Z w):=by
 have HK:Hid (KeepP g5 Z w (.returned (.tuple #[])) (w.alloc (.cells M 42))):=lh ⟨rfl,hz.below (below_one _ _) hz.lt,Kp.of_below (below_one _ _)⟩
 clear hz
 go_enter Tryz.func151,Tryz.ntmps151
 go_wp2_with fail
 go_end0
 exact HK.out
end
end Go.Proofs.YtmbnlccafcfbeaaGreatDoor
