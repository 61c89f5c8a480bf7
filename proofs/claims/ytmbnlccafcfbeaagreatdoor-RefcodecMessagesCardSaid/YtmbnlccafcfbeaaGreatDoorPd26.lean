/- Parts of the proof: RcN, RcO, RcQ, RcO2, RcR. -/
import Derived.Test.YtmbnlccafcfbeaaGreatDoorPdA
import Derived.Test.YtmbnlccafcfbeaaGreatDoorPd25
set_option linter.unusedVariables false
set_option linter.unusedSimpArgs false
set_option linter.unusedSectionVars false
set_option maxRecDepth 100000
namespace Go.Proofs.YtmbnlccafcfbeaaGreatDoor
section
open Go.RowKit
def kindOnly (x:Ms):Ms:={ Ms.zero with kind:=x.kind }
def onlyM (k:Nat) (x:Ms):Ms :=
 match k with
 | 0=>{ kindOnly x with number:=x.number,letter:=x.letter }
 | 1=>{ kindOnly x with parcel:=x.parcel }
 | 2=>{ kindOnly x with number:=x.number,asker:=x.asker }
 | 3=>{ kindOnly x with number:=x.number,asker:=x.asker }
 | 4=>{ kindOnly x with ref:=x.ref }
 | 5=>{ kindOnly x with number:=x.number }
 | 6=>{ kindOnly x with number:=x.number,asker:=x.asker }
 | 7=>{ kindOnly x with ref:=x.ref }
 | 8=>{ kindOnly x with tm:=x.tm,ts:=x.ts,number:=x.number,asker:=x.asker }
 | 9=>{ kindOnly x with tm:=x.tm,ts:=x.ts,answer:=x.answer }
 | 10=>{ kindOnly x with tm:=x.tm,ts:=x.ts,claim:=x.claim }
 | 11=>{ kindOnly x with tm:=x.tm,ts:=x.ts }
 | 12=>{ kindOnly x with tm:=x.tm,ts:=x.ts }
 | 13=>{ kindOnly x with tm:=x.tm,ts:=x.ts }
 | 14=>{ kindOnly x with tm:=x.tm,ts:=x.ts }
 | 15=>kindOnly x
 | 16=>kindOnly x
 | 17=>{ kindOnly x with name:=x.name,ref:=x.ref }
 | _=>kindOnly x
def zeroC (x:Ms):Array Value:=#[.int .i64 x.kind,.int .u64 0,.int .i64 0,.string ⟨#[]⟩,.int .i64 0,.int .i64 0,.int .i64 0,.int .u64 0,.int .i64 0,.int .i64 0,.int .i64 0,.bool false,.int .i64 0,.int .i64 0,.string ⟨#[]⟩,.slice none 0 0,.int .u64 0,.int .i64 0,.int .i64 0,.int .i64 0,.int .i64 0,.slice none 0 0,.slice none 0 0,.slice none 0 0,.int .i64 0,.int .i64 0,.int .i64 0,.int .i64 0,.int .u64 0,.int .i64 0,.bool false,.bool false,.int .i64 0,.slice none 0 0,.int .i64 0,.int .i64 0,.slice none 0 0,.slice none 0 0,.slice none 0 0]
theorem LsR.tnil {α:Type} {R:Rel α} {tE:TypeId} {sz:Nat} {N:Nat→Prop} {w:World}:LsR R tE sz true N w none 0 ([]:List α):=by
 unfold LsR
 rw[if_pos rfl]
 exact⟨Nat.le_refl _,by simp,.inl rfl⟩
theorem row0 (x:Ms) {A1 A2 A3 A4 A5 A6 A7 A8:Option Addr} {c1 c2 c3 c4 c5 c6 c7 c8:Nat}:putZ (putZ (zeroC x) 1 [.int .u64 x.number]) 12 [.int .i64 x.letter.idm,.int .i64 x.letter.ids,.string x.letter.meth,.slice A1 x.letter.args.length c1]=#[.int .i64 x.kind,.int .u64 x.number,.int .i64 0,.string ⟨#[]⟩,.int .i64 0,.int .i64 0,.int .i64 0,.int .u64 0,.int .i64 0,.int .i64 0,.int .i64 0,.bool false,.int .i64 x.letter.idm,.int .i64 x.letter.ids,.string x.letter.meth,.slice A1 x.letter.args.length c1,.int .u64 0,.int .i64 0,.int .i64 0,.int .i64 0,.int .i64 0,.slice none 0 0,.slice none 0 0,.slice none 0 0,.int .i64 0,.int .i64 0,.int .i64 0,.int .i64 0,.int .u64 0,.int .i64 0,.bool false,.bool false,.int .i64 0,.slice none 0 0,.int .i64 0,.int .i64 0,.slice none 0 0,.slice none 0 0,.slice none 0 0]:=by
 unfold zeroC putZ
 simp only[putZ,List.setIfInBounds_toArray,List.set_cons_succ,List.set_cons_zero]
theorem row1 (x:Ms) {A1 A2 A3 A4 A5 A6 A7 A8:Option Addr} {c1 c2 c3 c4 c5 c6 c7 c8:Nat}:putZ (zeroC x) 16 [.int .u64 x.parcel.number,.int .i64 x.parcel.idm,.int .i64 x.parcel.ids,.int .i64 x.parcel.kind,.int .i64 x.parcel.cls,.slice A2 x.parcel.fields.length c2,.slice A3 x.parcel.mail.length c3,.slice A4 x.parcel.watches.length c4]=#[.int .i64 x.kind,.int .u64 0,.int .i64 0,.string ⟨#[]⟩,.int .i64 0,.int .i64 0,.int .i64 0,.int .u64 0,.int .i64 0,.int .i64 0,.int .i64 0,.bool false,.int .i64 0,.int .i64 0,.string ⟨#[]⟩,.slice none 0 0,.int .u64 x.parcel.number,.int .i64 x.parcel.idm,.int .i64 x.parcel.ids,.int .i64 x.parcel.kind,.int .i64 x.parcel.cls,.slice A2 x.parcel.fields.length c2,.slice A3 x.parcel.mail.length c3,.slice A4 x.parcel.watches.length c4,.int .i64 0,.int .i64 0,.int .i64 0,.int .i64 0,.int .u64 0,.int .i64 0,.bool false,.bool false,.int .i64 0,.slice none 0 0,.int .i64 0,.int .i64 0,.slice none 0 0,.slice none 0 0,.slice none 0 0]:=by
 unfold zeroC putZ
 simp only[putZ,List.setIfInBounds_toArray,List.set_cons_succ,List.set_cons_zero]
theorem row2 (x:Ms) {A1 A2 A3 A4 A5 A6 A7 A8:Option Addr} {c1 c2 c3 c4 c5 c6 c7 c8:Nat}:putZ (putZ (zeroC x) 1 [.int .u64 x.number]) 2 [.int .i64 x.asker]=#[.int .i64 x.kind,.int .u64 x.number,.int .i64 x.asker,.string ⟨#[]⟩,.int .i64 0,.int .i64 0,.int .i64 0,.int .u64 0,.int .i64 0,.int .i64 0,.int .i64 0,.bool false,.int .i64 0,.int .i64 0,.string ⟨#[]⟩,.slice none 0 0,.int .u64 0,.int .i64 0,.int .i64 0,.int .i64 0,.int .i64 0,.slice none 0 0,.slice none 0 0,.slice none 0 0,.int .i64 0,.int .i64 0,.int .i64 0,.int .i64 0,.int .u64 0,.int .i64 0,.bool false,.bool false,.int .i64 0,.slice none 0 0,.int .i64 0,.int .i64 0,.slice none 0 0,.slice none 0 0,.slice none 0 0]:=by
 unfold zeroC putZ
 simp only[putZ,List.setIfInBounds_toArray,List.set_cons_succ,List.set_cons_zero]
theorem row4 (x:Ms) {A1 A2 A3 A4 A5 A6 A7 A8:Option Addr} {c1 c2 c3 c4 c5 c6 c7 c8:Nat}:putZ (zeroC x) 4 [.int .i64 x.ref.kind,.int .i64 x.ref.int,.int .i64 x.ref.owner,.int .u64 x.ref.number,.int .i64 x.ref.idm,.int .i64 x.ref.ids,.int .i64 x.ref.cls,.bool x.ref.weak]=#[.int .i64 x.kind,.int .u64 0,.int .i64 0,.string ⟨#[]⟩,.int .i64 x.ref.kind,.int .i64 x.ref.int,.int .i64 x.ref.owner,.int .u64 x.ref.number,.int .i64 x.ref.idm,.int .i64 x.ref.ids,.int .i64 x.ref.cls,.bool x.ref.weak,.int .i64 0,.int .i64 0,.string ⟨#[]⟩,.slice none 0 0,.int .u64 0,.int .i64 0,.int .i64 0,.int .i64 0,.int .i64 0,.slice none 0 0,.slice none 0 0,.slice none 0 0,.int .i64 0,.int .i64 0,.int .i64 0,.int .i64 0,.int .u64 0,.int .i64 0,.bool false,.bool false,.int .i64 0,.slice none 0 0,.int .i64 0,.int .i64 0,.slice none 0 0,.slice none 0 0,.slice none 0 0]:=by
 unfold zeroC putZ
 simp only[putZ,List.setIfInBounds_toArray,List.set_cons_succ,List.set_cons_zero]
theorem row5 (x:Ms) {A1 A2 A3 A4 A5 A6 A7 A8:Option Addr} {c1 c2 c3 c4 c5 c6 c7 c8:Nat}:putZ (zeroC x) 1 [.int .u64 x.number]=#[.int .i64 x.kind,.int .u64 x.number,.int .i64 0,.string ⟨#[]⟩,.int .i64 0,.int .i64 0,.int .i64 0,.int .u64 0,.int .i64 0,.int .i64 0,.int .i64 0,.bool false,.int .i64 0,.int .i64 0,.string ⟨#[]⟩,.slice none 0 0,.int .u64 0,.int .i64 0,.int .i64 0,.int .i64 0,.int .i64 0,.slice none 0 0,.slice none 0 0,.slice none 0 0,.int .i64 0,.int .i64 0,.int .i64 0,.int .i64 0,.int .u64 0,.int .i64 0,.bool false,.bool false,.int .i64 0,.slice none 0 0,.int .i64 0,.int .i64 0,.slice none 0 0,.slice none 0 0,.slice none 0 0]:=by
 unfold zeroC putZ
 simp only[putZ,List.setIfInBounds_toArray,List.set_cons_succ,List.set_cons_zero]
theorem row8 (x:Ms) {A1 A2 A3 A4 A5 A6 A7 A8:Option Addr} {c1 c2 c3 c4 c5 c6 c7 c8:Nat}:putZ (putZ (putZ (zeroC x) 24 [.int .i64 x.tm,.int .i64 x.ts]) 1 [.int .u64 x.number]) 2 [.int .i64 x.asker]=#[.int .i64 x.kind,.int .u64 x.number,.int .i64 x.asker,.string ⟨#[]⟩,.int .i64 0,.int .i64 0,.int .i64 0,.int .u64 0,.int .i64 0,.int .i64 0,.int .i64 0,.bool false,.int .i64 0,.int .i64 0,.string ⟨#[]⟩,.slice none 0 0,.int .u64 0,.int .i64 0,.int .i64 0,.int .i64 0,.int .i64 0,.slice none 0 0,.slice none 0 0,.slice none 0 0,.int .i64 x.tm,.int .i64 x.ts,.int .i64 0,.int .i64 0,.int .u64 0,.int .i64 0,.bool false,.bool false,.int .i64 0,.slice none 0 0,.int .i64 0,.int .i64 0,.slice none 0 0,.slice none 0 0,.slice none 0 0]:=by
 unfold zeroC putZ
 simp only[putZ,List.setIfInBounds_toArray,List.set_cons_succ,List.set_cons_zero]
theorem row9 (x:Ms) {A1 A2 A3 A4 A5 A6 A7 A8:Option Addr} {c1 c2 c3 c4 c5 c6 c7 c8:Nat}:putZ (putZ (zeroC x) 24 [.int .i64 x.tm,.int .i64 x.ts]) 26 [.int .i64 x.answer.machine,.int .i64 x.answer.owner,.int .u64 x.answer.number,.int .i64 x.answer.epoch,.bool x.answer.known,.bool x.answer.rooted,.int .i64 x.answer.last,.slice A5 x.answer.inset.length c5]=#[.int .i64 x.kind,.int .u64 0,.int .i64 0,.string ⟨#[]⟩,.int .i64 0,.int .i64 0,.int .i64 0,.int .u64 0,.int .i64 0,.int .i64 0,.int .i64 0,.bool false,.int .i64 0,.int .i64 0,.string ⟨#[]⟩,.slice none 0 0,.int .u64 0,.int .i64 0,.int .i64 0,.int .i64 0,.int .i64 0,.slice none 0 0,.slice none 0 0,.slice none 0 0,.int .i64 x.tm,.int .i64 x.ts,.int .i64 x.answer.machine,.int .i64 x.answer.owner,.int .u64 x.answer.number,.int .i64 x.answer.epoch,.bool x.answer.known,.bool x.answer.rooted,.int .i64 x.answer.last,.slice A5 x.answer.inset.length c5,.int .i64 0,.int .i64 0,.slice none 0 0,.slice none 0 0,.slice none 0 0]:=by
 unfold zeroC putZ
 simp only[putZ,List.setIfInBounds_toArray,List.set_cons_succ,List.set_cons_zero]
theorem row10 (x:Ms) {A1 A2 A3 A4 A5 A6 A7 A8:Option Addr} {c1 c2 c3 c4 c5 c6 c7 c8:Nat}:putZ (putZ (zeroC x) 24 [.int .i64 x.tm,.int .i64 x.ts]) 34 [.int .i64 x.claim.machine,.int .i64 x.claim.epoch,.slice A6 x.claim.stubs.length c6,.slice A7 x.claim.scions.length c7,.slice A8 x.claim.checks.length c8]=#[.int .i64 x.kind,.int .u64 0,.int .i64 0,.string ⟨#[]⟩,.int .i64 0,.int .i64 0,.int .i64 0,.int .u64 0,.int .i64 0,.int .i64 0,.int .i64 0,.bool false,.int .i64 0,.int .i64 0,.string ⟨#[]⟩,.slice none 0 0,.int .u64 0,.int .i64 0,.int .i64 0,.int .i64 0,.int .i64 0,.slice none 0 0,.slice none 0 0,.slice none 0 0,.int .i64 x.tm,.int .i64 x.ts,.int .i64 0,.int .i64 0,.int .u64 0,.int .i64 0,.bool false,.bool false,.int .i64 0,.slice none 0 0,.int .i64 x.claim.machine,.int .i64 x.claim.epoch,.slice A6 x.claim.stubs.length c6,.slice A7 x.claim.scions.length c7,.slice A8 x.claim.checks.length c8]:=by
 unfold zeroC putZ
 simp only[putZ,List.setIfInBounds_toArray,List.set_cons_succ,List.set_cons_zero]
theorem row11 (x:Ms) {A1 A2 A3 A4 A5 A6 A7 A8:Option Addr} {c1 c2 c3 c4 c5 c6 c7 c8:Nat}:putZ (zeroC x) 24 [.int .i64 x.tm,.int .i64 x.ts]=#[.int .i64 x.kind,.int .u64 0,.int .i64 0,.string ⟨#[]⟩,.int .i64 0,.int .i64 0,.int .i64 0,.int .u64 0,.int .i64 0,.int .i64 0,.int .i64 0,.bool false,.int .i64 0,.int .i64 0,.string ⟨#[]⟩,.slice none 0 0,.int .u64 0,.int .i64 0,.int .i64 0,.int .i64 0,.int .i64 0,.slice none 0 0,.slice none 0 0,.slice none 0 0,.int .i64 x.tm,.int .i64 x.ts,.int .i64 0,.int .i64 0,.int .u64 0,.int .i64 0,.bool false,.bool false,.int .i64 0,.slice none 0 0,.int .i64 0,.int .i64 0,.slice none 0 0,.slice none 0 0,.slice none 0 0]:=by
 unfold zeroC putZ
 simp only[putZ,List.setIfInBounds_toArray,List.set_cons_succ,List.set_cons_zero]
theorem row17 (x:Ms) {A1 A2 A3 A4 A5 A6 A7 A8:Option Addr} {c1 c2 c3 c4 c5 c6 c7 c8:Nat}:putZ (putZ (zeroC x) 3 [.string x.name]) 4 [.int .i64 x.ref.kind,.int .i64 x.ref.int,.int .i64 x.ref.owner,.int .u64 x.ref.number,.int .i64 x.ref.idm,.int .i64 x.ref.ids,.int .i64 x.ref.cls,.bool x.ref.weak]=#[.int .i64 x.kind,.int .u64 0,.int .i64 0,.string x.name,.int .i64 x.ref.kind,.int .i64 x.ref.int,.int .i64 x.ref.owner,.int .u64 x.ref.number,.int .i64 x.ref.idm,.int .i64 x.ref.ids,.int .i64 x.ref.cls,.bool x.ref.weak,.int .i64 0,.int .i64 0,.string ⟨#[]⟩,.slice none 0 0,.int .u64 0,.int .i64 0,.int .i64 0,.int .i64 0,.int .i64 0,.slice none 0 0,.slice none 0 0,.slice none 0 0,.int .i64 0,.int .i64 0,.int .i64 0,.int .i64 0,.int .u64 0,.int .i64 0,.bool false,.bool false,.int .i64 0,.slice none 0 0,.int .i64 0,.int .i64 0,.slice none 0 0,.slice none 0 0,.slice none 0 0]:=by
 unfold zeroC putZ
 simp only[putZ,List.setIfInBounds_toArray,List.set_cons_succ,List.set_cons_zero]
set_option maxHeartbeats 4000000 in
theorem keep_any {w:World} {x:Ms} {r:List Value} {B g5:Nat} (h:MsR true (fun k=>k < B) w x r) (hB:B≤g5) (hz:Bk w g5 42 (zeroC x)) {k:Nat} (hk:k < 18) :
  Calls Tryz.prog (kA k) #[.pointer (some ⟨g5,0,none⟩),.agg r.toArray] w fun e w'=>e=.returned (.tuple #[])∧Kp (fun k=>k=g5) w w'∧∃ r',Bk w' g5 42 r'.toArray∧MsR true (fun k=>k < B) w' (onlyM k x) r':=by
 have hS:∀ {w':World},Kp (fun k=>k=g5) w w'→Kp (fun k=>¬ k < B) w w':=fun hk=>hk.mono fun k _ e=>by omega
 obtain⟨A1,c1,A2,c2,A3,c3,A4,c4,A5,c5,A6,c6,A7,c7,A8,c8,rfl,h1,h2,h3,h4,h5,h6,h7,h8⟩:=h
 rcases (show k=0 ∨ k=1 ∨ k=2 ∨ k=3 ∨ k=4 ∨ k=5 ∨ k=6 ∨ k=7 ∨ k=8 ∨ k=9 ∨ k=10 ∨ k=11 ∨ k=12 ∨ k=13 ∨ k=14 ∨ k=15 ∨ k=16 ∨ k=17 by omega) with rfl | rfl | rfl | rfl | rfl | rfl | rfl | rfl | rfl | rfl | rfl | rfl | rfl | rfl | rfl | rfl | rfl | rfl
 ·refine(keep0 (A1:=A1) (A2:=A2) (A3:=A3) (A4:=A4) (A5:=A5) (A6:=A6) (A7:=A7) (A8:=A8) (c1:=c1) (c2:=c2) (c3:=c3) (c4:=c4) (c5:=c5) (c6:=c6) (c7:=c7) (c8:=c8) x rfl hz rfl).mono fun e w2 ⟨he,hb,hkp⟩=>⟨he,hkp,[.int .i64 x.kind,.int .u64 x.number,.int .i64 0,.string ⟨#[]⟩,.int .i64 0,.int .i64 0,.int .i64 0,.int .u64 0,.int .i64 0,.int .i64 0,.int .i64 0,.bool false,.int .i64 x.letter.idm,.int .i64 x.letter.ids,.string x.letter.meth,.slice A1 x.letter.args.length c1,.int .u64 0,.int .i64 0,.int .i64 0,.int .i64 0,.int .i64 0,.slice none 0 0,.slice none 0 0,.slice none 0 0,.int .i64 0,.int .i64 0,.int .i64 0,.int .i64 0,.int .u64 0,.int .i64 0,.bool false,.bool false,.int .i64 0,.slice none 0 0,.int .i64 0,.int .i64 0,.slice none 0 0,.slice none 0 0,.slice none 0 0],?_,A1,c1,none,0,none,0,none,0,none,0,none,0,none,0,none,0,rfl,h1.wr (flat_rk rfC) (hS hkp),LsR.tnil,LsR.tnil,LsR.tnil,LsR.tnil,LsR.tnil,LsR.tnil,LsR.tnil⟩
  exact by rw[row0 (A1:=A1) (A2:=A2) (A3:=A3) (A4:=A4) (A5:=A5) (A6:=A6) (A7:=A7) (A8:=A8) (c1:=c1) (c2:=c2) (c3:=c3) (c4:=c4) (c5:=c5) (c6:=c6) (c7:=c7) (c8:=c8) x] at hb;exact hb
 ·refine(keep1 (A1:=A1) (A2:=A2) (A3:=A3) (A4:=A4) (A5:=A5) (A6:=A6) (A7:=A7) (A8:=A8) (c1:=c1) (c2:=c2) (c3:=c3) (c4:=c4) (c5:=c5) (c6:=c6) (c7:=c7) (c8:=c8) x rfl hz rfl).mono fun e w2 ⟨he,hb,hkp⟩=>⟨he,hkp,[.int .i64 x.kind,.int .u64 0,.int .i64 0,.string ⟨#[]⟩,.int .i64 0,.int .i64 0,.int .i64 0,.int .u64 0,.int .i64 0,.int .i64 0,.int .i64 0,.bool false,.int .i64 0,.int .i64 0,.string ⟨#[]⟩,.slice none 0 0,.int .u64 x.parcel.number,.int .i64 x.parcel.idm,.int .i64 x.parcel.ids,.int .i64 x.parcel.kind,.int .i64 x.parcel.cls,.slice A2 x.parcel.fields.length c2,.slice A3 x.parcel.mail.length c3,.slice A4 x.parcel.watches.length c4,.int .i64 0,.int .i64 0,.int .i64 0,.int .i64 0,.int .u64 0,.int .i64 0,.bool false,.bool false,.int .i64 0,.slice none 0 0,.int .i64 0,.int .i64 0,.slice none 0 0,.slice none 0 0,.slice none 0 0],?_,none,0,A2,c2,A3,c3,A4,c4,none,0,none,0,none,0,none,0,rfl,LsR.tnil,h2.wr (flat_rk rfC) (hS hkp),h3.wr ltR_rk (hS hkp),h4.wr (flat_rk waC) (hS hkp),LsR.tnil,LsR.tnil,LsR.tnil,LsR.tnil⟩
  exact by rw[row1 (A1:=A1) (A2:=A2) (A3:=A3) (A4:=A4) (A5:=A5) (A6:=A6) (A7:=A7) (A8:=A8) (c1:=c1) (c2:=c2) (c3:=c3) (c4:=c4) (c5:=c5) (c6:=c6) (c7:=c7) (c8:=c8) x] at hb;exact hb
 ·refine(keep2 (A1:=A1) (A2:=A2) (A3:=A3) (A4:=A4) (A5:=A5) (A6:=A6) (A7:=A7) (A8:=A8) (c1:=c1) (c2:=c2) (c3:=c3) (c4:=c4) (c5:=c5) (c6:=c6) (c7:=c7) (c8:=c8) x rfl hz rfl).mono fun e w2 ⟨he,hb,hkp⟩=>⟨he,hkp,[.int .i64 x.kind,.int .u64 x.number,.int .i64 x.asker,.string ⟨#[]⟩,.int .i64 0,.int .i64 0,.int .i64 0,.int .u64 0,.int .i64 0,.int .i64 0,.int .i64 0,.bool false,.int .i64 0,.int .i64 0,.string ⟨#[]⟩,.slice none 0 0,.int .u64 0,.int .i64 0,.int .i64 0,.int .i64 0,.int .i64 0,.slice none 0 0,.slice none 0 0,.slice none 0 0,.int .i64 0,.int .i64 0,.int .i64 0,.int .i64 0,.int .u64 0,.int .i64 0,.bool false,.bool false,.int .i64 0,.slice none 0 0,.int .i64 0,.int .i64 0,.slice none 0 0,.slice none 0 0,.slice none 0 0],?_,none,0,none,0,none,0,none,0,none,0,none,0,none,0,none,0,rfl,LsR.tnil,LsR.tnil,LsR.tnil,LsR.tnil,LsR.tnil,LsR.tnil,LsR.tnil,LsR.tnil⟩
  exact by rw[row2 (A1:=A1) (A2:=A2) (A3:=A3) (A4:=A4) (A5:=A5) (A6:=A6) (A7:=A7) (A8:=A8) (c1:=c1) (c2:=c2) (c3:=c3) (c4:=c4) (c5:=c5) (c6:=c6) (c7:=c7) (c8:=c8) x] at hb;exact hb
 ·refine(keep2 (A1:=A1) (A2:=A2) (A3:=A3) (A4:=A4) (A5:=A5) (A6:=A6) (A7:=A7) (A8:=A8) (c1:=c1) (c2:=c2) (c3:=c3) (c4:=c4) (c5:=c5) (c6:=c6) (c7:=c7) (c8:=c8) x rfl hz rfl).mono fun e w2 ⟨he,hb,hkp⟩=>⟨he,hkp,[.int .i64 x.kind,.int .u64 x.number,.int .i64 x.asker,.string ⟨#[]⟩,.int .i64 0,.int .i64 0,.int .i64 0,.int .u64 0,.int .i64 0,.int .i64 0,.int .i64 0,.bool false,.int .i64 0,.int .i64 0,.string ⟨#[]⟩,.slice none 0 0,.int .u64 0,.int .i64 0,.int .i64 0,.int .i64 0,.int .i64 0,.slice none 0 0,.slice none 0 0,.slice none 0 0,.int .i64 0,.int .i64 0,.int .i64 0,.int .i64 0,.int .u64 0,.int .i64 0,.bool false,.bool false,.int .i64 0,.slice none 0 0,.int .i64 0,.int .i64 0,.slice none 0 0,.slice none 0 0,.slice none 0 0],?_,none,0,none,0,none,0,none,0,none,0,none,0,none,0,none,0,rfl,LsR.tnil,LsR.tnil,LsR.tnil,LsR.tnil,LsR.tnil,LsR.tnil,LsR.tnil,LsR.tnil⟩
  exact by rw[row2 (A1:=A1) (A2:=A2) (A3:=A3) (A4:=A4) (A5:=A5) (A6:=A6) (A7:=A7) (A8:=A8) (c1:=c1) (c2:=c2) (c3:=c3) (c4:=c4) (c5:=c5) (c6:=c6) (c7:=c7) (c8:=c8) x] at hb;exact hb
 ·refine(keep4 (A1:=A1) (A2:=A2) (A3:=A3) (A4:=A4) (A5:=A5) (A6:=A6) (A7:=A7) (A8:=A8) (c1:=c1) (c2:=c2) (c3:=c3) (c4:=c4) (c5:=c5) (c6:=c6) (c7:=c7) (c8:=c8) x rfl hz rfl).mono fun e w2 ⟨he,hb,hkp⟩=>⟨he,hkp,[.int .i64 x.kind,.int .u64 0,.int .i64 0,.string ⟨#[]⟩,.int .i64 x.ref.kind,.int .i64 x.ref.int,.int .i64 x.ref.owner,.int .u64 x.ref.number,.int .i64 x.ref.idm,.int .i64 x.ref.ids,.int .i64 x.ref.cls,.bool x.ref.weak,.int .i64 0,.int .i64 0,.string ⟨#[]⟩,.slice none 0 0,.int .u64 0,.int .i64 0,.int .i64 0,.int .i64 0,.int .i64 0,.slice none 0 0,.slice none 0 0,.slice none 0 0,.int .i64 0,.int .i64 0,.int .i64 0,.int .i64 0,.int .u64 0,.int .i64 0,.bool false,.bool false,.int .i64 0,.slice none 0 0,.int .i64 0,.int .i64 0,.slice none 0 0,.slice none 0 0,.slice none 0 0],?_,none,0,none,0,none,0,none,0,none,0,none,0,none,0,none,0,rfl,LsR.tnil,LsR.tnil,LsR.tnil,LsR.tnil,LsR.tnil,LsR.tnil,LsR.tnil,LsR.tnil⟩
  exact by rw[row4 (A1:=A1) (A2:=A2) (A3:=A3) (A4:=A4) (A5:=A5) (A6:=A6) (A7:=A7) (A8:=A8) (c1:=c1) (c2:=c2) (c3:=c3) (c4:=c4) (c5:=c5) (c6:=c6) (c7:=c7) (c8:=c8) x] at hb;exact hb
 ·refine(keep5 (A1:=A1) (A2:=A2) (A3:=A3) (A4:=A4) (A5:=A5) (A6:=A6) (A7:=A7) (A8:=A8) (c1:=c1) (c2:=c2) (c3:=c3) (c4:=c4) (c5:=c5) (c6:=c6) (c7:=c7) (c8:=c8) x rfl hz rfl).mono fun e w2 ⟨he,hb,hkp⟩=>⟨he,hkp,[.int .i64 x.kind,.int .u64 x.number,.int .i64 0,.string ⟨#[]⟩,.int .i64 0,.int .i64 0,.int .i64 0,.int .u64 0,.int .i64 0,.int .i64 0,.int .i64 0,.bool false,.int .i64 0,.int .i64 0,.string ⟨#[]⟩,.slice none 0 0,.int .u64 0,.int .i64 0,.int .i64 0,.int .i64 0,.int .i64 0,.slice none 0 0,.slice none 0 0,.slice none 0 0,.int .i64 0,.int .i64 0,.int .i64 0,.int .i64 0,.int .u64 0,.int .i64 0,.bool false,.bool false,.int .i64 0,.slice none 0 0,.int .i64 0,.int .i64 0,.slice none 0 0,.slice none 0 0,.slice none 0 0],?_,none,0,none,0,none,0,none,0,none,0,none,0,none,0,none,0,rfl,LsR.tnil,LsR.tnil,LsR.tnil,LsR.tnil,LsR.tnil,LsR.tnil,LsR.tnil,LsR.tnil⟩
  exact by rw[row5 (A1:=A1) (A2:=A2) (A3:=A3) (A4:=A4) (A5:=A5) (A6:=A6) (A7:=A7) (A8:=A8) (c1:=c1) (c2:=c2) (c3:=c3) (c4:=c4) (c5:=c5) (c6:=c6) (c7:=c7) (c8:=c8) x] at hb;exact hb
 ·refine(keep2 (A1:=A1) (A2:=A2) (A3:=A3) (A4:=A4) (A5:=A5) (A6:=A6) (A7:=A7) (A8:=A8) (c1:=c1) (c2:=c2) (c3:=c3) (c4:=c4) (c5:=c5) (c6:=c6) (c7:=c7) (c8:=c8) x rfl hz rfl).mono fun e w2 ⟨he,hb,hkp⟩=>⟨he,hkp,[.int .i64 x.kind,.int .u64 x.number,.int .i64 x.asker,.string ⟨#[]⟩,.int .i64 0,.int .i64 0,.int .i64 0,.int .u64 0,.int .i64 0,.int .i64 0,.int .i64 0,.bool false,.int .i64 0,.int .i64 0,.string ⟨#[]⟩,.slice none 0 0,.int .u64 0,.int .i64 0,.int .i64 0,.int .i64 0,.int .i64 0,.slice none 0 0,.slice none 0 0,.slice none 0 0,.int .i64 0,.int .i64 0,.int .i64 0,.int .i64 0,.int .u64 0,.int .i64 0,.bool false,.bool false,.int .i64 0,.slice none 0 0,.int .i64 0,.int .i64 0,.slice none 0 0,.slice none 0 0,.slice none 0 0],?_,none,0,none,0,none,0,none,0,none,0,none,0,none,0,none,0,rfl,LsR.tnil,LsR.tnil,LsR.tnil,LsR.tnil,LsR.tnil,LsR.tnil,LsR.tnil,LsR.tnil⟩
  exact by rw[row2 (A1:=A1) (A2:=A2) (A3:=A3) (A4:=A4) (A5:=A5) (A6:=A6) (A7:=A7) (A8:=A8) (c1:=c1) (c2:=c2) (c3:=c3) (c4:=c4) (c5:=c5) (c6:=c6) (c7:=c7) (c8:=c8) x] at hb;exact hb
 ·refine(keep4 (A1:=A1) (A2:=A2) (A3:=A3) (A4:=A4) (A5:=A5) (A6:=A6) (A7:=A7) (A8:=A8) (c1:=c1) (c2:=c2) (c3:=c3) (c4:=c4) (c5:=c5) (c6:=c6) (c7:=c7) (c8:=c8) x rfl hz rfl).mono fun e w2 ⟨he,hb,hkp⟩=>⟨he,hkp,[.int .i64 x.kind,.int .u64 0,.int .i64 0,.string ⟨#[]⟩,.int .i64 x.ref.kind,.int .i64 x.ref.int,.int .i64 x.ref.owner,.int .u64 x.ref.number,.int .i64 x.ref.idm,.int .i64 x.ref.ids,.int .i64 x.ref.cls,.bool x.ref.weak,.int .i64 0,.int .i64 0,.string ⟨#[]⟩,.slice none 0 0,.int .u64 0,.int .i64 0,.int .i64 0,.int .i64 0,.int .i64 0,.slice none 0 0,.slice none 0 0,.slice none 0 0,.int .i64 0,.int .i64 0,.int .i64 0,.int .i64 0,.int .u64 0,.int .i64 0,.bool false,.bool false,.int .i64 0,.slice none 0 0,.int .i64 0,.int .i64 0,.slice none 0 0,.slice none 0 0,.slice none 0 0],?_,none,0,none,0,none,0,none,0,none,0,none,0,none,0,none,0,rfl,LsR.tnil,LsR.tnil,LsR.tnil,LsR.tnil,LsR.tnil,LsR.tnil,LsR.tnil,LsR.tnil⟩
  exact by rw[row4 (A1:=A1) (A2:=A2) (A3:=A3) (A4:=A4) (A5:=A5) (A6:=A6) (A7:=A7) (A8:=A8) (c1:=c1) (c2:=c2) (c3:=c3) (c4:=c4) (c5:=c5) (c6:=c6) (c7:=c7) (c8:=c8) x] at hb;exact hb
 ·refine(keep8 (A1:=A1) (A2:=A2) (A3:=A3) (A4:=A4) (A5:=A5) (A6:=A6) (A7:=A7) (A8:=A8) (c1:=c1) (c2:=c2) (c3:=c3) (c4:=c4) (c5:=c5) (c6:=c6) (c7:=c7) (c8:=c8) x rfl hz rfl).mono fun e w2 ⟨he,hb,hkp⟩=>⟨he,hkp,[.int .i64 x.kind,.int .u64 x.number,.int .i64 x.asker,.string ⟨#[]⟩,.int .i64 0,.int .i64 0,.int .i64 0,.int .u64 0,.int .i64 0,.int .i64 0,.int .i64 0,.bool false,.int .i64 0,.int .i64 0,.string ⟨#[]⟩,.slice none 0 0,.int .u64 0,.int .i64 0,.int .i64 0,.int .i64 0,.int .i64 0,.slice none 0 0,.slice none 0 0,.slice none 0 0,.int .i64 x.tm,.int .i64 x.ts,.int .i64 0,.int .i64 0,.int .u64 0,.int .i64 0,.bool false,.bool false,.int .i64 0,.slice none 0 0,.int .i64 0,.int .i64 0,.slice none 0 0,.slice none 0 0,.slice none 0 0],?_,none,0,none,0,none,0,none,0,none,0,none,0,none,0,none,0,rfl,LsR.tnil,LsR.tnil,LsR.tnil,LsR.tnil,LsR.tnil,LsR.tnil,LsR.tnil,LsR.tnil⟩
  exact by rw[row8 (A1:=A1) (A2:=A2) (A3:=A3) (A4:=A4) (A5:=A5) (A6:=A6) (A7:=A7) (A8:=A8) (c1:=c1) (c2:=c2) (c3:=c3) (c4:=c4) (c5:=c5) (c6:=c6) (c7:=c7) (c8:=c8) x] at hb;exact hb
 ·refine(keep9 (A1:=A1) (A2:=A2) (A3:=A3) (A4:=A4) (A5:=A5) (A6:=A6) (A7:=A7) (A8:=A8) (c1:=c1) (c2:=c2) (c3:=c3) (c4:=c4) (c5:=c5) (c6:=c6) (c7:=c7) (c8:=c8) x rfl hz rfl).mono fun e w2 ⟨he,hb,hkp⟩=>⟨he,hkp,[.int .i64 x.kind,.int .u64 0,.int .i64 0,.string ⟨#[]⟩,.int .i64 0,.int .i64 0,.int .i64 0,.int .u64 0,.int .i64 0,.int .i64 0,.int .i64 0,.bool false,.int .i64 0,.int .i64 0,.string ⟨#[]⟩,.slice none 0 0,.int .u64 0,.int .i64 0,.int .i64 0,.int .i64 0,.int .i64 0,.slice none 0 0,.slice none 0 0,.slice none 0 0,.int .i64 x.tm,.int .i64 x.ts,.int .i64 x.answer.machine,.int .i64 x.answer.owner,.int .u64 x.answer.number,.int .i64 x.answer.epoch,.bool x.answer.known,.bool x.answer.rooted,.int .i64 x.answer.last,.slice A5 x.answer.inset.length c5,.int .i64 0,.int .i64 0,.slice none 0 0,.slice none 0 0,.slice none 0 0],?_,none,0,none,0,none,0,none,0,A5,c5,none,0,none,0,none,0,rfl,LsR.tnil,LsR.tnil,LsR.tnil,LsR.tnil,h5.wr (flat_rk inC) (hS hkp),LsR.tnil,LsR.tnil,LsR.tnil⟩
  exact by rw[row9 (A1:=A1) (A2:=A2) (A3:=A3) (A4:=A4) (A5:=A5) (A6:=A6) (A7:=A7) (A8:=A8) (c1:=c1) (c2:=c2) (c3:=c3) (c4:=c4) (c5:=c5) (c6:=c6) (c7:=c7) (c8:=c8) x] at hb;exact hb
 ·refine(keep10 (A1:=A1) (A2:=A2) (A3:=A3) (A4:=A4) (A5:=A5) (A6:=A6) (A7:=A7) (A8:=A8) (c1:=c1) (c2:=c2) (c3:=c3) (c4:=c4) (c5:=c5) (c6:=c6) (c7:=c7) (c8:=c8) x rfl hz rfl).mono fun e w2 ⟨he,hb,hkp⟩=>⟨he,hkp,[.int .i64 x.kind,.int .u64 0,.int .i64 0,.string ⟨#[]⟩,.int .i64 0,.int .i64 0,.int .i64 0,.int .u64 0,.int .i64 0,.int .i64 0,.int .i64 0,.bool false,.int .i64 0,.int .i64 0,.string ⟨#[]⟩,.slice none 0 0,.int .u64 0,.int .i64 0,.int .i64 0,.int .i64 0,.int .i64 0,.slice none 0 0,.slice none 0 0,.slice none 0 0,.int .i64 x.tm,.int .i64 x.ts,.int .i64 0,.int .i64 0,.int .u64 0,.int .i64 0,.bool false,.bool false,.int .i64 0,.slice none 0 0,.int .i64 x.claim.machine,.int .i64 x.claim.epoch,.slice A6 x.claim.stubs.length c6,.slice A7 x.claim.scions.length c7,.slice A8 x.claim.checks.length c8],?_,none,0,none,0,none,0,none,0,none,0,A6,c6,A7,c7,A8,c8,rfl,LsR.tnil,LsR.tnil,LsR.tnil,LsR.tnil,LsR.tnil,h6.wr (flat_rk ndC) (hS hkp),h7.wr (flat_rk ndC) (hS hkp),h8.wr (flat_rk ndC) (hS hkp)⟩
  exact by rw[row10 (A1:=A1) (A2:=A2) (A3:=A3) (A4:=A4) (A5:=A5) (A6:=A6) (A7:=A7) (A8:=A8) (c1:=c1) (c2:=c2) (c3:=c3) (c4:=c4) (c5:=c5) (c6:=c6) (c7:=c7) (c8:=c8) x] at hb;exact hb
 ·refine(keep11 (A1:=A1) (A2:=A2) (A3:=A3) (A4:=A4) (A5:=A5) (A6:=A6) (A7:=A7) (A8:=A8) (c1:=c1) (c2:=c2) (c3:=c3) (c4:=c4) (c5:=c5) (c6:=c6) (c7:=c7) (c8:=c8) x rfl hz rfl).mono fun e w2 ⟨he,hb,hkp⟩=>⟨he,hkp,[.int .i64 x.kind,.int .u64 0,.int .i64 0,.string ⟨#[]⟩,.int .i64 0,.int .i64 0,.int .i64 0,.int .u64 0,.int .i64 0,.int .i64 0,.int .i64 0,.bool false,.int .i64 0,.int .i64 0,.string ⟨#[]⟩,.slice none 0 0,.int .u64 0,.int .i64 0,.int .i64 0,.int .i64 0,.int .i64 0,.slice none 0 0,.slice none 0 0,.slice none 0 0,.int .i64 x.tm,.int .i64 x.ts,.int .i64 0,.int .i64 0,.int .u64 0,.int .i64 0,.bool false,.bool false,.int .i64 0,.slice none 0 0,.int .i64 0,.int .i64 0,.slice none 0 0,.slice none 0 0,.slice none 0 0],?_,none,0,none,0,none,0,none,0,none,0,none,0,none,0,none,0,rfl,LsR.tnil,LsR.tnil,LsR.tnil,LsR.tnil,LsR.tnil,LsR.tnil,LsR.tnil,LsR.tnil⟩
  exact by rw[row11 (A1:=A1) (A2:=A2) (A3:=A3) (A4:=A4) (A5:=A5) (A6:=A6) (A7:=A7) (A8:=A8) (c1:=c1) (c2:=c2) (c3:=c3) (c4:=c4) (c5:=c5) (c6:=c6) (c7:=c7) (c8:=c8) x] at hb;exact hb
 ·refine(keep11 (A1:=A1) (A2:=A2) (A3:=A3) (A4:=A4) (A5:=A5) (A6:=A6) (A7:=A7) (A8:=A8) (c1:=c1) (c2:=c2) (c3:=c3) (c4:=c4) (c5:=c5) (c6:=c6) (c7:=c7) (c8:=c8) x rfl hz rfl).mono fun e w2 ⟨he,hb,hkp⟩=>⟨he,hkp,[.int .i64 x.kind,.int .u64 0,.int .i64 0,.string ⟨#[]⟩,.int .i64 0,.int .i64 0,.int .i64 0,.int .u64 0,.int .i64 0,.int .i64 0,.int .i64 0,.bool false,.int .i64 0,.int .i64 0,.string ⟨#[]⟩,.slice none 0 0,.int .u64 0,.int .i64 0,.int .i64 0,.int .i64 0,.int .i64 0,.slice none 0 0,.slice none 0 0,.slice none 0 0,.int .i64 x.tm,.int .i64 x.ts,.int .i64 0,.int .i64 0,.int .u64 0,.int .i64 0,.bool false,.bool false,.int .i64 0,.slice none 0 0,.int .i64 0,.int .i64 0,.slice none 0 0,.slice none 0 0,.slice none 0 0],?_,none,0,none,0,none,0,none,0,none,0,none,0,none,0,none,0,rfl,LsR.tnil,LsR.tnil,LsR.tnil,LsR.tnil,LsR.tnil,LsR.tnil,LsR.tnil,LsR.tnil⟩
  exact by rw[row11 (A1:=A1) (A2:=A2) (A3:=A3) (A4:=A4) (A5:=A5) (A6:=A6) (A7:=A7) (A8:=A8) (c1:=c1) (c2:=c2) (c3:=c3) (c4:=c4) (c5:=c5) (c6:=c6) (c7:=c7) (c8:=c8) x] at hb;exact hb
 ·refine(keep11 (A1:=A1) (A2:=A2) (A3:=A3) (A4:=A4) (A5:=A5) (A6:=A6) (A7:=A7) (A8:=A8) (c1:=c1) (c2:=c2) (c3:=c3) (c4:=c4) (c5:=c5) (c6:=c6) (c7:=c7) (c8:=c8) x rfl hz rfl).mono fun e w2 ⟨he,hb,hkp⟩=>⟨he,hkp,[.int .i64 x.kind,.int .u64 0,.int .i64 0,.string ⟨#[]⟩,.int .i64 0,.int .i64 0,.int .i64 0,.int .u64 0,.int .i64 0,.int .i64 0,.int .i64 0,.bool false,.int .i64 0,.int .i64 0,.string ⟨#[]⟩,.slice none 0 0,.int .u64 0,.int .i64 0,.int .i64 0,.int .i64 0,.int .i64 0,.slice none 0 0,.slice none 0 0,.slice none 0 0,.int .i64 x.tm,.int .i64 x.ts,.int .i64 0,.int .i64 0,.int .u64 0,.int .i64 0,.bool false,.bool false,.int .i64 0,.slice none 0 0,.int .i64 0,.int .i64 0,.slice none 0 0,.slice none 0 0,.slice none 0 0],?_,none,0,none,0,none,0,none,0,none,0,none,0,none,0,none,0,rfl,LsR.tnil,LsR.tnil,LsR.tnil,LsR.tnil,LsR.tnil,LsR.tnil,LsR.tnil,LsR.tnil⟩
  exact by rw[row11 (A1:=A1) (A2:=A2) (A3:=A3) (A4:=A4) (A5:=A5) (A6:=A6) (A7:=A7) (A8:=A8) (c1:=c1) (c2:=c2) (c3:=c3) (c4:=c4) (c5:=c5) (c6:=c6) (c7:=c7) (c8:=c8) x] at hb;exact hb
 ·refine(keep11 (A1:=A1) (A2:=A2) (A3:=A3) (A4:=A4) (A5:=A5) (A6:=A6) (A7:=A7) (A8:=A8) (c1:=c1) (c2:=c2) (c3:=c3) (c4:=c4) (c5:=c5) (c6:=c6) (c7:=c7) (c8:=c8) x rfl hz rfl).mono fun e w2 ⟨he,hb,hkp⟩=>⟨he,hkp,[.int .i64 x.kind,.int .u64 0,.int .i64 0,.string ⟨#[]⟩,.int .i64 0,.int .i64 0,.int .i64 0,.int .u64 0,.int .i64 0,.int .i64 0,.int .i64 0,.bool false,.int .i64 0,.int .i64 0,.string ⟨#[]⟩,.slice none 0 0,.int .u64 0,.int .i64 0,.int .i64 0,.int .i64 0,.int .i64 0,.slice none 0 0,.slice none 0 0,.slice none 0 0,.int .i64 x.tm,.int .i64 x.ts,.int .i64 0,.int .i64 0,.int .u64 0,.int .i64 0,.bool false,.bool false,.int .i64 0,.slice none 0 0,.int .i64 0,.int .i64 0,.slice none 0 0,.slice none 0 0,.slice none 0 0],?_,none,0,none,0,none,0,none,0,none,0,none,0,none,0,none,0,rfl,LsR.tnil,LsR.tnil,LsR.tnil,LsR.tnil,LsR.tnil,LsR.tnil,LsR.tnil,LsR.tnil⟩
  exact by rw[row11 (A1:=A1) (A2:=A2) (A3:=A3) (A4:=A4) (A5:=A5) (A6:=A6) (A7:=A7) (A8:=A8) (c1:=c1) (c2:=c2) (c3:=c3) (c4:=c4) (c5:=c5) (c6:=c6) (c7:=c7) (c8:=c8) x] at hb;exact hb
 ·refine(keep15 hz).mono fun e w2 ⟨he,hb,hkp⟩=>⟨he,hkp,[.int .i64 x.kind,.int .u64 0,.int .i64 0,.string ⟨#[]⟩,.int .i64 0,.int .i64 0,.int .i64 0,.int .u64 0,.int .i64 0,.int .i64 0,.int .i64 0,.bool false,.int .i64 0,.int .i64 0,.string ⟨#[]⟩,.slice none 0 0,.int .u64 0,.int .i64 0,.int .i64 0,.int .i64 0,.int .i64 0,.slice none 0 0,.slice none 0 0,.slice none 0 0,.int .i64 0,.int .i64 0,.int .i64 0,.int .i64 0,.int .u64 0,.int .i64 0,.bool false,.bool false,.int .i64 0,.slice none 0 0,.int .i64 0,.int .i64 0,.slice none 0 0,.slice none 0 0,.slice none 0 0],?_,none,0,none,0,none,0,none,0,none,0,none,0,none,0,none,0,rfl,LsR.tnil,LsR.tnil,LsR.tnil,LsR.tnil,LsR.tnil,LsR.tnil,LsR.tnil,LsR.tnil⟩
  exact hb
 ·refine(keep15 hz).mono fun e w2 ⟨he,hb,hkp⟩=>⟨he,hkp,[.int .i64 x.kind,.int .u64 0,.int .i64 0,.string ⟨#[]⟩,.int .i64 0,.int .i64 0,.int .i64 0,.int .u64 0,.int .i64 0,.int .i64 0,.int .i64 0,.bool false,.int .i64 0,.int .i64 0,.string ⟨#[]⟩,.slice none 0 0,.int .u64 0,.int .i64 0,.int .i64 0,.int .i64 0,.int .i64 0,.slice none 0 0,.slice none 0 0,.slice none 0 0,.int .i64 0,.int .i64 0,.int .i64 0,.int .i64 0,.int .u64 0,.int .i64 0,.bool false,.bool false,.int .i64 0,.slice none 0 0,.int .i64 0,.int .i64 0,.slice none 0 0,.slice none 0 0,.slice none 0 0],?_,none,0,none,0,none,0,none,0,none,0,none,0,none,0,none,0,rfl,LsR.tnil,LsR.tnil,LsR.tnil,LsR.tnil,LsR.tnil,LsR.tnil,LsR.tnil,LsR.tnil⟩
  exact hb
 ·refine(keep17 (A1:=A1) (A2:=A2) (A3:=A3) (A4:=A4) (A5:=A5) (A6:=A6) (A7:=A7) (A8:=A8) (c1:=c1) (c2:=c2) (c3:=c3) (c4:=c4) (c5:=c5) (c6:=c6) (c7:=c7) (c8:=c8) x rfl hz rfl).mono fun e w2 ⟨he,hb,hkp⟩=>⟨he,hkp,[.int .i64 x.kind,.int .u64 0,.int .i64 0,.string x.name,.int .i64 x.ref.kind,.int .i64 x.ref.int,.int .i64 x.ref.owner,.int .u64 x.ref.number,.int .i64 x.ref.idm,.int .i64 x.ref.ids,.int .i64 x.ref.cls,.bool x.ref.weak,.int .i64 0,.int .i64 0,.string ⟨#[]⟩,.slice none 0 0,.int .u64 0,.int .i64 0,.int .i64 0,.int .i64 0,.int .i64 0,.slice none 0 0,.slice none 0 0,.slice none 0 0,.int .i64 0,.int .i64 0,.int .i64 0,.int .i64 0,.int .u64 0,.int .i64 0,.bool false,.bool false,.int .i64 0,.slice none 0 0,.int .i64 0,.int .i64 0,.slice none 0 0,.slice none 0 0,.slice none 0 0],?_,none,0,none,0,none,0,none,0,none,0,none,0,none,0,none,0,rfl,LsR.tnil,LsR.tnil,LsR.tnil,LsR.tnil,LsR.tnil,LsR.tnil,LsR.tnil,LsR.tnil⟩
  exact by rw[row17 (A1:=A1) (A2:=A2) (A3:=A3) (A4:=A4) (A5:=A5) (A6:=A6) (A7:=A7) (A8:=A8) (c1:=c1) (c2:=c2) (c3:=c3) (c4:=c4) (c5:=c5) (c6:=c6) (c7:=c7) (c8:=c8) x] at hb;exact hb
end
section
open Go.RowKit
def msV (x:Ms):Bool:=decide (0≤x.kind∧x.kind < 18) && okV x.kind.toNat x && decide (onlyM x.kind.toNat x=x)
theorem encMs_inj {x y:Ms} (hx:msP x) (hy:msP y) (h:encMs x=encMs y):x=y:=by
 have a:=codMs.fw x [] hx
 have b:=codMs.fw y [] hy
 rw[h] at a
 rw[a] at b
 exact congrArg Prod.fst b
theorem zero_p:P64 0∧I64 0∧sP ⟨#[]⟩∧rfP Rf.zero∧ltP Lt.zero∧pcP Pc.zero∧anP An.zero∧clP Cl.zero:=by
 have i:I64 0:=by unfold I64;omega
 have p:P64 0:=by unfold P64;omega
 have s:sP ⟨#[]⟩:=by unfold sP;decide
 have r:rfP Rf.zero:=⟨i,i,i,i,p,i,i⟩
 have e:∀ {α:Type} (P:α→Prop),lP P ([]:List α):=fun P=>⟨by simp,fun x h=>by cases h⟩
 exact⟨p,i,s,r,⟨i,i,s,e _⟩,⟨p,i,i,i,i,e _,e _,e _⟩,⟨i,i,i,i,p,e _⟩,⟨i,i,e _,e _,e _⟩⟩
theorem onlyM_p {x:Ms} (h:msP x) (k:Nat):msP (onlyM k x):=by
 obtain⟨zp,zi,zs,zr,zl,zc,za,zq⟩:=zero_p
 obtain⟨h1,h2,h3,h4,h5,h6,h7,h8,h9,h10,h11⟩:=h
 unfold onlyM
 split <;> (refine⟨?_,?_,?_,?_,?_,?_,?_,?_,?_,?_,?_⟩ <;> first | assumption | exact zi | exact zp | exact zs | exact zr | exact zl | exact zc | exact za | exact zq)
theorem msV_eq {x:Ms} (hx:msP x) (h0:0≤x.kind∧x.kind < 18):msV x=(okV x.kind.toNat x && decide (encMs (onlyM x.kind.toNat x)=encMs x)):=by
 unfold msV
 rw[decide_eq_true h0,Bool.true_and]
 congr 1
 exact decide_eq_decide.2 ⟨fun h=>by rw[h],fun h=>encMs_inj (onlyM_p hx _) hx h⟩
end
section
open Go.RowKit
theorem wpList_load_g {P:Program} {ops:Array Oper} {rest:List Oper} {op:Oper} {a:Act} {w:World} {Q:Exit→Act→World→Prop} (hgd:Region.wanted op (yielded ops a.tmps)=true) (ty:TypeId) (x:Operand) (ho:op.op=.load ty x)
  (b o:Nat) (hx:a.eval x=.pointer (some ⟨b,o,none⟩)) (cs:List Value) (d:TypeDesc) (hc:w.rangeAt b o cs)
  (hu:P.underlying ty=some d) (hd:d.isRow=true) (hi:(P.info? ty).map (·.size)=some cs.length)
  (h:wpList P ops Q rest (a.put op.dst (.agg cs.toArray)) w):wpList P ops Q (op::rest) a w :=
 wpList_step fun K hK=>by
  rw[if_pos hgd]
  exact wp_load_mid ty x ho b o hx cs d hc hu hd hi (hK _ _ h)
end
section
open Go.RowKit
theorem encI_one (n:Int):1≤(encI n).length:=encU_one _
theorem encS_one (s:ByteArray):1≤(encS s).length:=by unfold encS;have:=encU_one (s.size:Int);simp only[List.length_append];omega
theorem encL_one {α:Type} (f:α→List Int) (l:List α):1≤(encL f l).length:=by unfold encL;have:=encU_one (l.length:Int);simp only[List.length_append];omega
theorem encB_one (b:Bool):(encB b).length=1:=by cases b <;> rfl
theorem encRf_8 (x:Rf):8≤(encRf x).length:=by
 unfold encRf
 have h1:=encI_one x.kind;have h2:=encI_one x.owner;have h3:=encI_one x.cls;have h4:=encI_one x.int;have h5:=encU_one x.number;have h6:=encI_one x.idm;have h7:=encI_one x.ids;have h8:=encB_one x.weak
 simp only[List.length_append];omega
theorem encLt_4 (x:Lt):4≤(encLt x).length:=by
 unfold encLt
 have h1:=encI_one x.idm;have h2:=encI_one x.ids;have h3:=encS_one x.meth;have h4:=encL_one encRf x.args
 simp only[List.length_append];omega
theorem encPc_8 (x:Pc):8≤(encPc x).length:=by
 unfold encPc
 have h1:=encU_one x.number;have h2:=encI_one x.idm;have h3:=encI_one x.ids;have h4:=encI_one x.kind;have h5:=encI_one x.cls;have h6:=encL_one encRf x.fields;have h7:=encL_one encLt x.mail;have h8:=encL_one encWa x.watches
 simp only[List.length_append];omega
theorem encAn_8 (x:An):8≤(encAn x).length:=by
 unfold encAn
 have h1:=encI_one x.machine;have h2:=encI_one x.owner;have h3:=encI_one x.epoch;have h4:=encI_one x.last;have h5:=encU_one x.number;have h6:=encB_one x.known;have h7:=encB_one x.rooted;have h8:=encL_one encIn x.inset
 simp only[List.length_append];omega
theorem encCl_5 (x:Cl):5≤(encCl x).length:=by
 unfold encCl
 have h1:=encI_one x.machine;have h2:=encI_one x.epoch;have h3:=encL_one encNd x.stubs;have h4:=encL_one encNd x.scions;have h5:=encL_one encNd x.checks
 simp only[List.length_append];omega
theorem zero_len:(encI 0).length=1∧(encU 0).length=1∧(encS ⟨#[]⟩).length=1∧(encRf Rf.zero).length=8∧(encLt Lt.zero).length=4∧(encPc Pc.zero).length=8∧(encAn An.zero).length=8∧(encCl Cl.zero).length=5:=by
 have d:digs 0=[]:=by rw[digs];rfl
 have u:encU 0=[0]:=by unfold encU;rw[show(0:Int).toNat=0 from rfl,d];rfl
 have i:encI 0=[0]:=by unfold encI;rw[show zz 0=0 from rfl,u]
 have s:encS ⟨#[]⟩=[0]:=by unfold encS;rw[show(((⟨#[]⟩:ByteArray).size:Nat):Int)=0 from rfl,u];rfl
 have e:∀ {α:Type} (f:α→List Int),encL f []=[0]:=fun f=>by unfold encL;rw[show(([]:List _).length:Int)=0 from rfl,u];rfl
 refine⟨?_,?_,?_,?_,?_,?_,?_,?_⟩ <;> simp[encRf,encLt,encPc,encAn,encCl,Rf.zero,Lt.zero,Pc.zero,An.zero,Cl.zero,u,i,s,e,encB]
/-- what a kind leaves is not longer -/
theorem encMs_only_le (k:Nat) (x:Ms):(encMs (onlyM k x)).length≤(encMs x).length:=by
 obtain⟨zi,zu,zs,zr,zl,zp,za,zc⟩:=zero_len
 have h1:=encI_one x.asker;have h2:=encI_one x.tm;have h3:=encI_one x.ts;have h4:=encU_one x.number;have h5:=encS_one x.name;have h6:=encRf_8 x.ref;have h7:=encLt_4 x.letter;have h8:=encPc_8 x.parcel;have h9:=encAn_8 x.answer;have h10:=encCl_5 x.claim
 unfold onlyM
 split <;> (simp only[encMs,kindOnly,Ms.zero,List.length_append,zi,zu,zs,zr,zl,zp,za,zc];omega)
theorem Kp.setRow {S:Nat→Prop} (w:World) (g:Nat) (cs:Array Value) (h:S g):Kp S w (w.setRow g cs):=⟨rfl,rfl,rfl,by simp,fun k _ hn=>setRow_other w g k cs fun e=>hn (e ▸ h)⟩
/-- the store of a whole block, the world behind it left open -/
theorem wpList_store_rowK {P:Program} {ops:Array Oper} {rest:List Oper} {o:Oper} {a:Act} {w:World} {Q:Exit→Act→World→Prop} (hgd:o.guard=none) (ty:TypeId) (x y:Operand) (ho:o.op=.store ty x y)
  (g:Nat) (cells:Array Value) (hx:a.eval x=.pointer (some ⟨g,0,none⟩)) (hy:a.eval y=.agg cells)
  (t:TypeId) (old:Array Value) (hg:w.heap[g]?=some (.cells old t (0,0))) (hi:(P.info? ty).map (·.size)=some cells.size)
  (hold:old.size=cells.size) (h1:cells.all (·.oneCell')=true)
  (h:∀ w',Bk w' g t cells→Kp (fun k=>k=g) w w'→wpList P ops Q rest (a.put o.dst undef) w'):wpList P ops Q (o::rest) a w :=
 wpList_store_row hgd ty x y ho g cells hx hy t old hg hi hold h1 (h _ (setRow_heap _ _ _ _ _ _ hg) (Kp.setRow _ _ _ rfl))
end
section
open Go.RowKit
attribute [local go_sem] Oper.semAt_some
set_option maxHeartbeats 4000000 in
theorem Valid_out {w:World} {x:Ms} {M:Array Value} (hM:M[0]?=some (.int .i64 x.kind)) (hn:x.kind < 0 ∨ 18≤x.kind):Calls Tryz.prog 12 #[.agg M] w (YesP w false):=by
 obtain⟨W,hW⟩:∃ W,W=w.alloc (.cells M 42):=⟨_,rfl⟩
 obtain⟨g,hg⟩:∃ g,g=w.heap.size:=⟨_,rfl⟩
 have hb0:Below w.heap.size w W:=by rw[hW];exact below_one _ _
 have hk0:Bk W g 42 M:=by rw[hW,hg];exact Bk.new _ _ _
 have a0:W.cell? ⟨g,0,none⟩=some (.int .i64 x.kind):=(hk0.cell 0).trans hM
 have HB0:=lh hb0
 have cF:=find_out W hn
 clear hb0 hk0 hM hn
 go_enter Tryz.func12,Tryz.ntmps12
 go_upto_region 1 with fail
 rw[← hW,← hg]
 clear hW hg
 go_wp2_with fail
 refine cF.mono ?_
 rintro e w1 ⟨rfl,hb1⟩
 have HB1:=lh (HB0.out.trans (hb1.mono HB0.out.size))
 clear hb1 cF a0
 go_wp2_with fail
 go_ret
 exact⟨rfl,HB1.out.trans ((below_one _ _).mono HB1.out.size)⟩
end
end Go.Proofs.YtmbnlccafcfbeaaGreatDoor
