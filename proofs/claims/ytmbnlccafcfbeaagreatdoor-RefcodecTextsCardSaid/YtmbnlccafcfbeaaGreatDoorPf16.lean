/- Parts of the proof: RcN, RcO, RcQ, RcO2, RcR, RcR2, RcEn, RcDe0, RcDe, RcTx1, LaidZ. -/
import Derived.LaidMore
import Derived.Lib.AppendIntMem
import Derived.Lib.ItoaLen
import Derived.Lib.LaidTab
import Derived.Lib.QuietBelow
import Derived.OpenShut
import Derived.ProofKit
import Derived.SevenTiedAt
import Derived.Stop.Joined
import Derived.Test.YtmbnlccafcfbeaaGreatDoorPfA
import Derived.Test.YtmbnlccafcfbeaaGreatDoorRows
import Derived.Test.YtmbnlccafcfbeaaGreatDoorPf11
import Derived.Test.YtmbnlccafcfbeaaGreatDoorPf15
import Derived.Test.YtmbnlccafcfbeaaGreatDoorPfShelf
set_option linter.unusedVariables false
set_option linter.unusedSimpArgs false
set_option linter.unusedSectionVars false
set_option maxRecDepth 100000
set_option maxHeartbeats 64000000
namespace Go.Proofs.YtmbnlccafcfbeaaGreatDoor
section
open Go.RowKit
def qd1 (x:Ms):Ms:={ Ms.zero with kind:=x.kind }
def qi6 (k:Nat) (x:Ms):Ms :=
 match k with
 | 0=>{ qd1 x with number:=x.number,letter:=x.letter }
 | 1=>{ qd1 x with parcel:=x.parcel }
 | 2=>{ qd1 x with number:=x.number,asker:=x.asker }
 | 3=>{ qd1 x with number:=x.number,asker:=x.asker }
 | 4=>{ qd1 x with ref:=x.ref }
 | 5=>{ qd1 x with number:=x.number }
 | 6=>{ qd1 x with number:=x.number,asker:=x.asker }
 | 7=>{ qd1 x with ref:=x.ref }
 | 8=>{ qd1 x with tm:=x.tm,ts:=x.ts,number:=x.number,asker:=x.asker }
 | 9=>{ qd1 x with tm:=x.tm,ts:=x.ts,answer:=x.answer }
 | 10=>{ qd1 x with tm:=x.tm,ts:=x.ts,claim:=x.claim }
 | 11=>{ qd1 x with tm:=x.tm,ts:=x.ts }
 | 12=>{ qd1 x with tm:=x.tm,ts:=x.ts }
 | 13=>{ qd1 x with tm:=x.tm,ts:=x.ts }
 | 14=>{ qd1 x with tm:=x.tm,ts:=x.ts }
 | 15=>qd1 x
 | 16=>qd1 x
 | 17=>{ qd1 x with name:=x.name,ref:=x.ref }
 | _=>qd1 x
def qh7 (x:Ms):Array Value:=#[iv x.kind,uv 0,iv 0,.string ⟨#[]⟩,iv 0,iv 0,iv 0,uv 0,iv 0,iv 0,iv 0,bf,iv 0,iv 0,.string ⟨#[]⟩,sn,uv 0,iv 0,iv 0,iv 0,iv 0,sn,sn,sn,iv 0,iv 0,iv 0,iv 0,uv 0,iv 0,bf,bf,iv 0,sn,iv 0,iv 0,sn,sn,sn]
theorem LsR.tnil {α:Type} {R:Rel α} {tE:TypeId} {sz:Nat} {N:Nat→Prop} {w:World}:LsR R tE sz true N w none 0 ([]:List α):=by
 unfold LsR;rw[if_pos rfl];exact⟨Nat.le_refl _,by simp,.inl rfl⟩
theorem row0 (x:Ms) {A1 A2 A3 A4 A5 A6 A7 A8:Option Addr} {c1 c2 c3 c4 c5 c6 c7 c8:Nat}:qd0 (qd0 (qh7 x) 1 [uv x.number]) 12 [iv x.letter.idm,iv x.letter.ids,.string x.letter.meth,.slice A1 x.letter.args.length c1]=#[iv x.kind,uv x.number,iv 0,.string ⟨#[]⟩,iv 0,iv 0,iv 0,uv 0,iv 0,iv 0,iv 0,bf,iv x.letter.idm,iv x.letter.ids,.string x.letter.meth,.slice A1 x.letter.args.length c1,uv 0,iv 0,iv 0,iv 0,iv 0,sn,sn,sn,iv 0,iv 0,iv 0,iv 0,uv 0,iv 0,bf,bf,iv 0,sn,iv 0,iv 0,sn,sn,sn]:=by
 unfold qh7 qd0;simp only[qd0,List.setIfInBounds_toArray,List.set_cons_succ,List.set_cons_zero]
theorem row1 (x:Ms) {A1 A2 A3 A4 A5 A6 A7 A8:Option Addr} {c1 c2 c3 c4 c5 c6 c7 c8:Nat}:qd0 (qh7 x) 16 [uv x.parcel.number,iv x.parcel.idm,iv x.parcel.ids,iv x.parcel.kind,iv x.parcel.cls,.slice A2 x.parcel.fields.length c2,.slice A3 x.parcel.mail.length c3,.slice A4 x.parcel.watches.length c4]=#[iv x.kind,uv 0,iv 0,.string ⟨#[]⟩,iv 0,iv 0,iv 0,uv 0,iv 0,iv 0,iv 0,bf,iv 0,iv 0,.string ⟨#[]⟩,sn,uv x.parcel.number,iv x.parcel.idm,iv x.parcel.ids,iv x.parcel.kind,iv x.parcel.cls,.slice A2 x.parcel.fields.length c2,.slice A3 x.parcel.mail.length c3,.slice A4 x.parcel.watches.length c4,iv 0,iv 0,iv 0,iv 0,uv 0,iv 0,bf,bf,iv 0,sn,iv 0,iv 0,sn,sn,sn]:=by
 unfold qh7 qd0;simp only[qd0,List.setIfInBounds_toArray,List.set_cons_succ,List.set_cons_zero]
theorem row2 (x:Ms) {A1 A2 A3 A4 A5 A6 A7 A8:Option Addr} {c1 c2 c3 c4 c5 c6 c7 c8:Nat}:qd0 (qd0 (qh7 x) 1 [uv x.number]) 2 [iv x.asker]=#[iv x.kind,uv x.number,iv x.asker,.string ⟨#[]⟩,iv 0,iv 0,iv 0,uv 0,iv 0,iv 0,iv 0,bf,iv 0,iv 0,.string ⟨#[]⟩,sn,uv 0,iv 0,iv 0,iv 0,iv 0,sn,sn,sn,iv 0,iv 0,iv 0,iv 0,uv 0,iv 0,bf,bf,iv 0,sn,iv 0,iv 0,sn,sn,sn]:=by
 unfold qh7 qd0;simp only[qd0,List.setIfInBounds_toArray,List.set_cons_succ,List.set_cons_zero]
theorem row4 (x:Ms) {A1 A2 A3 A4 A5 A6 A7 A8:Option Addr} {c1 c2 c3 c4 c5 c6 c7 c8:Nat}:qd0 (qh7 x) 4 [iv x.ref.kind,iv x.ref.int,iv x.ref.owner,uv x.ref.number,iv x.ref.idm,iv x.ref.ids,iv x.ref.cls,.bool x.ref.weak]=#[iv x.kind,uv 0,iv 0,.string ⟨#[]⟩,iv x.ref.kind,iv x.ref.int,iv x.ref.owner,uv x.ref.number,iv x.ref.idm,iv x.ref.ids,iv x.ref.cls,.bool x.ref.weak,iv 0,iv 0,.string ⟨#[]⟩,sn,uv 0,iv 0,iv 0,iv 0,iv 0,sn,sn,sn,iv 0,iv 0,iv 0,iv 0,uv 0,iv 0,bf,bf,iv 0,sn,iv 0,iv 0,sn,sn,sn]:=by
 unfold qh7 qd0;simp only[qd0,List.setIfInBounds_toArray,List.set_cons_succ,List.set_cons_zero]
theorem row5 (x:Ms) {A1 A2 A3 A4 A5 A6 A7 A8:Option Addr} {c1 c2 c3 c4 c5 c6 c7 c8:Nat}:qd0 (qh7 x) 1 [uv x.number]=#[iv x.kind,uv x.number,iv 0,.string ⟨#[]⟩,iv 0,iv 0,iv 0,uv 0,iv 0,iv 0,iv 0,bf,iv 0,iv 0,.string ⟨#[]⟩,sn,uv 0,iv 0,iv 0,iv 0,iv 0,sn,sn,sn,iv 0,iv 0,iv 0,iv 0,uv 0,iv 0,bf,bf,iv 0,sn,iv 0,iv 0,sn,sn,sn]:=by
 unfold qh7 qd0;simp only[qd0,List.setIfInBounds_toArray,List.set_cons_succ,List.set_cons_zero]
theorem row8 (x:Ms) {A1 A2 A3 A4 A5 A6 A7 A8:Option Addr} {c1 c2 c3 c4 c5 c6 c7 c8:Nat}:qd0 (qd0 (qd0 (qh7 x) 24 [iv x.tm,iv x.ts]) 1 [uv x.number]) 2 [iv x.asker]=#[iv x.kind,uv x.number,iv x.asker,.string ⟨#[]⟩,iv 0,iv 0,iv 0,uv 0,iv 0,iv 0,iv 0,bf,iv 0,iv 0,.string ⟨#[]⟩,sn,uv 0,iv 0,iv 0,iv 0,iv 0,sn,sn,sn,iv x.tm,iv x.ts,iv 0,iv 0,uv 0,iv 0,bf,bf,iv 0,sn,iv 0,iv 0,sn,sn,sn]:=by
 unfold qh7 qd0;simp only[qd0,List.setIfInBounds_toArray,List.set_cons_succ,List.set_cons_zero]
theorem row9 (x:Ms) {A1 A2 A3 A4 A5 A6 A7 A8:Option Addr} {c1 c2 c3 c4 c5 c6 c7 c8:Nat}:qd0 (qd0 (qh7 x) 24 [iv x.tm,iv x.ts]) 26 [iv x.answer.machine,iv x.answer.owner,uv x.answer.number,iv x.answer.epoch,.bool x.answer.known,.bool x.answer.rooted,iv x.answer.last,.slice A5 x.answer.inset.length c5]=#[iv x.kind,uv 0,iv 0,.string ⟨#[]⟩,iv 0,iv 0,iv 0,uv 0,iv 0,iv 0,iv 0,bf,iv 0,iv 0,.string ⟨#[]⟩,sn,uv 0,iv 0,iv 0,iv 0,iv 0,sn,sn,sn,iv x.tm,iv x.ts,iv x.answer.machine,iv x.answer.owner,uv x.answer.number,iv x.answer.epoch,.bool x.answer.known,.bool x.answer.rooted,iv x.answer.last,.slice A5 x.answer.inset.length c5,iv 0,iv 0,sn,sn,sn]:=by
 unfold qh7 qd0;simp only[qd0,List.setIfInBounds_toArray,List.set_cons_succ,List.set_cons_zero]
theorem row10 (x:Ms) {A1 A2 A3 A4 A5 A6 A7 A8:Option Addr} {c1 c2 c3 c4 c5 c6 c7 c8:Nat}:qd0 (qd0 (qh7 x) 24 [iv x.tm,iv x.ts]) 34 [iv x.claim.machine,iv x.claim.epoch,.slice A6 x.claim.stubs.length c6,.slice A7 x.claim.scions.length c7,.slice A8 x.claim.checks.length c8]=#[iv x.kind,uv 0,iv 0,.string ⟨#[]⟩,iv 0,iv 0,iv 0,uv 0,iv 0,iv 0,iv 0,bf,iv 0,iv 0,.string ⟨#[]⟩,sn,uv 0,iv 0,iv 0,iv 0,iv 0,sn,sn,sn,iv x.tm,iv x.ts,iv 0,iv 0,uv 0,iv 0,bf,bf,iv 0,sn,iv x.claim.machine,iv x.claim.epoch,.slice A6 x.claim.stubs.length c6,.slice A7 x.claim.scions.length c7,.slice A8 x.claim.checks.length c8]:=by
 unfold qh7 qd0;simp only[qd0,List.setIfInBounds_toArray,List.set_cons_succ,List.set_cons_zero]
theorem row11 (x:Ms) {A1 A2 A3 A4 A5 A6 A7 A8:Option Addr} {c1 c2 c3 c4 c5 c6 c7 c8:Nat}:qd0 (qh7 x) 24 [iv x.tm,iv x.ts]=#[iv x.kind,uv 0,iv 0,.string ⟨#[]⟩,iv 0,iv 0,iv 0,uv 0,iv 0,iv 0,iv 0,bf,iv 0,iv 0,.string ⟨#[]⟩,sn,uv 0,iv 0,iv 0,iv 0,iv 0,sn,sn,sn,iv x.tm,iv x.ts,iv 0,iv 0,uv 0,iv 0,bf,bf,iv 0,sn,iv 0,iv 0,sn,sn,sn]:=by
 unfold qh7 qd0;simp only[qd0,List.setIfInBounds_toArray,List.set_cons_succ,List.set_cons_zero]
theorem row17 (x:Ms) {A1 A2 A3 A4 A5 A6 A7 A8:Option Addr} {c1 c2 c3 c4 c5 c6 c7 c8:Nat}:qd0 (qd0 (qh7 x) 3 [.string x.name]) 4 [iv x.ref.kind,iv x.ref.int,iv x.ref.owner,uv x.ref.number,iv x.ref.idm,iv x.ref.ids,iv x.ref.cls,.bool x.ref.weak]=#[iv x.kind,uv 0,iv 0,.string x.name,iv x.ref.kind,iv x.ref.int,iv x.ref.owner,uv x.ref.number,iv x.ref.idm,iv x.ref.ids,iv x.ref.cls,.bool x.ref.weak,iv 0,iv 0,.string ⟨#[]⟩,sn,uv 0,iv 0,iv 0,iv 0,iv 0,sn,sn,sn,iv 0,iv 0,iv 0,iv 0,uv 0,iv 0,bf,bf,iv 0,sn,iv 0,iv 0,sn,sn,sn]:=by
 unfold qh7 qd0;simp only[qd0,List.setIfInBounds_toArray,List.set_cons_succ,List.set_cons_zero]
theorem keep_any {w:World} {x:Ms} {r:List Value} {B g5:Nat} (h:MsR true (fun k=>k < B) w x r) (hB:B≤g5) (hz:Bk w g5 42 (qh7 x)) {k:Nat} (hk:k < 18) :
  Calls Tryz.prog (kA k) #[pq g5 0,.agg r.toArray] w fun e w'=>e=.returned (.tuple #[])∧Kp (fun k=>k=g5) w w'∧∃ r',Bk w' g5 42 r'.toArray∧MsR true (fun k=>k < B) w' (qi6 k x) r':=by
 have hS:∀ {w':World},Kp (fun k=>k=g5) w w'→Kp (fun k=>¬ k < B) w w':=fun hk=>hk.mono fun k _ e=>by omega
 obtain⟨A1,c1,A2,c2,A3,c3,A4,c4,A5,c5,A6,c6,A7,c7,A8,c8,rfl,h1,h2,h3,h4,h5,h6,h7,h8⟩:=h;rcases (show k=0 ∨ k=1 ∨ k=2 ∨ k=3 ∨ k=4 ∨ k=5 ∨ k=6 ∨ k=7 ∨ k=8 ∨ k=9 ∨ k=10 ∨ k=11 ∨ k=12 ∨ k=13 ∨ k=14 ∨ k=15 ∨ k=16 ∨ k=17 by omega) with rfl | rfl | rfl | rfl | rfl | rfl | rfl | rfl | rfl | rfl | rfl | rfl | rfl | rfl | rfl | rfl | rfl | rfl
 ·refine(keep0 (A1:=A1) (A2:=A2) (A3:=A3) (A4:=A4) (A5:=A5) (A6:=A6) (A7:=A7) (A8:=A8) (c1:=c1) (c2:=c2) (c3:=c3) (c4:=c4) (c5:=c5) (c6:=c6) (c7:=c7) (c8:=c8) x rfl hz rfl).mono fun e w2 ⟨he,hb,hkp⟩=>⟨he,hkp,[iv x.kind,uv x.number,iv 0,.string ⟨#[]⟩,iv 0,iv 0,iv 0,uv 0,iv 0,iv 0,iv 0,bf,iv x.letter.idm,iv x.letter.ids,.string x.letter.meth,.slice A1 x.letter.args.length c1,uv 0,iv 0,iv 0,iv 0,iv 0,sn,sn,sn,iv 0,iv 0,iv 0,iv 0,uv 0,iv 0,bf,bf,iv 0,sn,iv 0,iv 0,sn,sn,sn],?_,A1,c1,none,0,none,0,none,0,none,0,none,0,none,0,none,0,rfl,h1.wr (qa0 rfC) (hS hkp),LsR.tnil,LsR.tnil,LsR.tnil,LsR.tnil,LsR.tnil,LsR.tnil,LsR.tnil⟩
  exact by rw[row0 (A1:=A1) (A2:=A2) (A3:=A3) (A4:=A4) (A5:=A5) (A6:=A6) (A7:=A7) (A8:=A8) (c1:=c1) (c2:=c2) (c3:=c3) (c4:=c4) (c5:=c5) (c6:=c6) (c7:=c7) (c8:=c8) x] at hb;exact hb
 ·refine(keep1 (A1:=A1) (A2:=A2) (A3:=A3) (A4:=A4) (A5:=A5) (A6:=A6) (A7:=A7) (A8:=A8) (c1:=c1) (c2:=c2) (c3:=c3) (c4:=c4) (c5:=c5) (c6:=c6) (c7:=c7) (c8:=c8) x rfl hz rfl).mono fun e w2 ⟨he,hb,hkp⟩=>⟨he,hkp,[iv x.kind,uv 0,iv 0,.string ⟨#[]⟩,iv 0,iv 0,iv 0,uv 0,iv 0,iv 0,iv 0,bf,iv 0,iv 0,.string ⟨#[]⟩,sn,uv x.parcel.number,iv x.parcel.idm,iv x.parcel.ids,iv x.parcel.kind,iv x.parcel.cls,.slice A2 x.parcel.fields.length c2,.slice A3 x.parcel.mail.length c3,.slice A4 x.parcel.watches.length c4,iv 0,iv 0,iv 0,iv 0,uv 0,iv 0,bf,bf,iv 0,sn,iv 0,iv 0,sn,sn,sn],?_,none,0,A2,c2,A3,c3,A4,c4,none,0,none,0,none,0,none,0,rfl,LsR.tnil,h2.wr (qa0 rfC) (hS hkp),h3.wr ltR_rk (hS hkp),h4.wr (qa0 waC) (hS hkp),LsR.tnil,LsR.tnil,LsR.tnil,LsR.tnil⟩
  exact by rw[row1 (A1:=A1) (A2:=A2) (A3:=A3) (A4:=A4) (A5:=A5) (A6:=A6) (A7:=A7) (A8:=A8) (c1:=c1) (c2:=c2) (c3:=c3) (c4:=c4) (c5:=c5) (c6:=c6) (c7:=c7) (c8:=c8) x] at hb;exact hb
 ·refine(keep2 (A1:=A1) (A2:=A2) (A3:=A3) (A4:=A4) (A5:=A5) (A6:=A6) (A7:=A7) (A8:=A8) (c1:=c1) (c2:=c2) (c3:=c3) (c4:=c4) (c5:=c5) (c6:=c6) (c7:=c7) (c8:=c8) x rfl hz rfl).mono fun e w2 ⟨he,hb,hkp⟩=>⟨he,hkp,[iv x.kind,uv x.number,iv x.asker,.string ⟨#[]⟩,iv 0,iv 0,iv 0,uv 0,iv 0,iv 0,iv 0,bf,iv 0,iv 0,.string ⟨#[]⟩,sn,uv 0,iv 0,iv 0,iv 0,iv 0,sn,sn,sn,iv 0,iv 0,iv 0,iv 0,uv 0,iv 0,bf,bf,iv 0,sn,iv 0,iv 0,sn,sn,sn],?_,none,0,none,0,none,0,none,0,none,0,none,0,none,0,none,0,rfl,LsR.tnil,LsR.tnil,LsR.tnil,LsR.tnil,LsR.tnil,LsR.tnil,LsR.tnil,LsR.tnil⟩
  exact by rw[row2 (A1:=A1) (A2:=A2) (A3:=A3) (A4:=A4) (A5:=A5) (A6:=A6) (A7:=A7) (A8:=A8) (c1:=c1) (c2:=c2) (c3:=c3) (c4:=c4) (c5:=c5) (c6:=c6) (c7:=c7) (c8:=c8) x] at hb;exact hb
 ·refine(keep2 (A1:=A1) (A2:=A2) (A3:=A3) (A4:=A4) (A5:=A5) (A6:=A6) (A7:=A7) (A8:=A8) (c1:=c1) (c2:=c2) (c3:=c3) (c4:=c4) (c5:=c5) (c6:=c6) (c7:=c7) (c8:=c8) x rfl hz rfl).mono fun e w2 ⟨he,hb,hkp⟩=>⟨he,hkp,[iv x.kind,uv x.number,iv x.asker,.string ⟨#[]⟩,iv 0,iv 0,iv 0,uv 0,iv 0,iv 0,iv 0,bf,iv 0,iv 0,.string ⟨#[]⟩,sn,uv 0,iv 0,iv 0,iv 0,iv 0,sn,sn,sn,iv 0,iv 0,iv 0,iv 0,uv 0,iv 0,bf,bf,iv 0,sn,iv 0,iv 0,sn,sn,sn],?_,none,0,none,0,none,0,none,0,none,0,none,0,none,0,none,0,rfl,LsR.tnil,LsR.tnil,LsR.tnil,LsR.tnil,LsR.tnil,LsR.tnil,LsR.tnil,LsR.tnil⟩
  exact by rw[row2 (A1:=A1) (A2:=A2) (A3:=A3) (A4:=A4) (A5:=A5) (A6:=A6) (A7:=A7) (A8:=A8) (c1:=c1) (c2:=c2) (c3:=c3) (c4:=c4) (c5:=c5) (c6:=c6) (c7:=c7) (c8:=c8) x] at hb;exact hb
 ·refine(keep4 (A1:=A1) (A2:=A2) (A3:=A3) (A4:=A4) (A5:=A5) (A6:=A6) (A7:=A7) (A8:=A8) (c1:=c1) (c2:=c2) (c3:=c3) (c4:=c4) (c5:=c5) (c6:=c6) (c7:=c7) (c8:=c8) x rfl hz rfl).mono fun e w2 ⟨he,hb,hkp⟩=>⟨he,hkp,[iv x.kind,uv 0,iv 0,.string ⟨#[]⟩,iv x.ref.kind,iv x.ref.int,iv x.ref.owner,uv x.ref.number,iv x.ref.idm,iv x.ref.ids,iv x.ref.cls,.bool x.ref.weak,iv 0,iv 0,.string ⟨#[]⟩,sn,uv 0,iv 0,iv 0,iv 0,iv 0,sn,sn,sn,iv 0,iv 0,iv 0,iv 0,uv 0,iv 0,bf,bf,iv 0,sn,iv 0,iv 0,sn,sn,sn],?_,none,0,none,0,none,0,none,0,none,0,none,0,none,0,none,0,rfl,LsR.tnil,LsR.tnil,LsR.tnil,LsR.tnil,LsR.tnil,LsR.tnil,LsR.tnil,LsR.tnil⟩
  exact by rw[row4 (A1:=A1) (A2:=A2) (A3:=A3) (A4:=A4) (A5:=A5) (A6:=A6) (A7:=A7) (A8:=A8) (c1:=c1) (c2:=c2) (c3:=c3) (c4:=c4) (c5:=c5) (c6:=c6) (c7:=c7) (c8:=c8) x] at hb;exact hb
 ·refine(keep5 (A1:=A1) (A2:=A2) (A3:=A3) (A4:=A4) (A5:=A5) (A6:=A6) (A7:=A7) (A8:=A8) (c1:=c1) (c2:=c2) (c3:=c3) (c4:=c4) (c5:=c5) (c6:=c6) (c7:=c7) (c8:=c8) x rfl hz rfl).mono fun e w2 ⟨he,hb,hkp⟩=>⟨he,hkp,[iv x.kind,uv x.number,iv 0,.string ⟨#[]⟩,iv 0,iv 0,iv 0,uv 0,iv 0,iv 0,iv 0,bf,iv 0,iv 0,.string ⟨#[]⟩,sn,uv 0,iv 0,iv 0,iv 0,iv 0,sn,sn,sn,iv 0,iv 0,iv 0,iv 0,uv 0,iv 0,bf,bf,iv 0,sn,iv 0,iv 0,sn,sn,sn],?_,none,0,none,0,none,0,none,0,none,0,none,0,none,0,none,0,rfl,LsR.tnil,LsR.tnil,LsR.tnil,LsR.tnil,LsR.tnil,LsR.tnil,LsR.tnil,LsR.tnil⟩
  exact by rw[row5 (A1:=A1) (A2:=A2) (A3:=A3) (A4:=A4) (A5:=A5) (A6:=A6) (A7:=A7) (A8:=A8) (c1:=c1) (c2:=c2) (c3:=c3) (c4:=c4) (c5:=c5) (c6:=c6) (c7:=c7) (c8:=c8) x] at hb;exact hb
 ·refine(keep2 (A1:=A1) (A2:=A2) (A3:=A3) (A4:=A4) (A5:=A5) (A6:=A6) (A7:=A7) (A8:=A8) (c1:=c1) (c2:=c2) (c3:=c3) (c4:=c4) (c5:=c5) (c6:=c6) (c7:=c7) (c8:=c8) x rfl hz rfl).mono fun e w2 ⟨he,hb,hkp⟩=>⟨he,hkp,[iv x.kind,uv x.number,iv x.asker,.string ⟨#[]⟩,iv 0,iv 0,iv 0,uv 0,iv 0,iv 0,iv 0,bf,iv 0,iv 0,.string ⟨#[]⟩,sn,uv 0,iv 0,iv 0,iv 0,iv 0,sn,sn,sn,iv 0,iv 0,iv 0,iv 0,uv 0,iv 0,bf,bf,iv 0,sn,iv 0,iv 0,sn,sn,sn],?_,none,0,none,0,none,0,none,0,none,0,none,0,none,0,none,0,rfl,LsR.tnil,LsR.tnil,LsR.tnil,LsR.tnil,LsR.tnil,LsR.tnil,LsR.tnil,LsR.tnil⟩
  exact by rw[row2 (A1:=A1) (A2:=A2) (A3:=A3) (A4:=A4) (A5:=A5) (A6:=A6) (A7:=A7) (A8:=A8) (c1:=c1) (c2:=c2) (c3:=c3) (c4:=c4) (c5:=c5) (c6:=c6) (c7:=c7) (c8:=c8) x] at hb;exact hb
 ·refine(keep4 (A1:=A1) (A2:=A2) (A3:=A3) (A4:=A4) (A5:=A5) (A6:=A6) (A7:=A7) (A8:=A8) (c1:=c1) (c2:=c2) (c3:=c3) (c4:=c4) (c5:=c5) (c6:=c6) (c7:=c7) (c8:=c8) x rfl hz rfl).mono fun e w2 ⟨he,hb,hkp⟩=>⟨he,hkp,[iv x.kind,uv 0,iv 0,.string ⟨#[]⟩,iv x.ref.kind,iv x.ref.int,iv x.ref.owner,uv x.ref.number,iv x.ref.idm,iv x.ref.ids,iv x.ref.cls,.bool x.ref.weak,iv 0,iv 0,.string ⟨#[]⟩,sn,uv 0,iv 0,iv 0,iv 0,iv 0,sn,sn,sn,iv 0,iv 0,iv 0,iv 0,uv 0,iv 0,bf,bf,iv 0,sn,iv 0,iv 0,sn,sn,sn],?_,none,0,none,0,none,0,none,0,none,0,none,0,none,0,none,0,rfl,LsR.tnil,LsR.tnil,LsR.tnil,LsR.tnil,LsR.tnil,LsR.tnil,LsR.tnil,LsR.tnil⟩
  exact by rw[row4 (A1:=A1) (A2:=A2) (A3:=A3) (A4:=A4) (A5:=A5) (A6:=A6) (A7:=A7) (A8:=A8) (c1:=c1) (c2:=c2) (c3:=c3) (c4:=c4) (c5:=c5) (c6:=c6) (c7:=c7) (c8:=c8) x] at hb;exact hb
 ·refine(keep8 (A1:=A1) (A2:=A2) (A3:=A3) (A4:=A4) (A5:=A5) (A6:=A6) (A7:=A7) (A8:=A8) (c1:=c1) (c2:=c2) (c3:=c3) (c4:=c4) (c5:=c5) (c6:=c6) (c7:=c7) (c8:=c8) x rfl hz rfl).mono fun e w2 ⟨he,hb,hkp⟩=>⟨he,hkp,[iv x.kind,uv x.number,iv x.asker,.string ⟨#[]⟩,iv 0,iv 0,iv 0,uv 0,iv 0,iv 0,iv 0,bf,iv 0,iv 0,.string ⟨#[]⟩,sn,uv 0,iv 0,iv 0,iv 0,iv 0,sn,sn,sn,iv x.tm,iv x.ts,iv 0,iv 0,uv 0,iv 0,bf,bf,iv 0,sn,iv 0,iv 0,sn,sn,sn],?_,none,0,none,0,none,0,none,0,none,0,none,0,none,0,none,0,rfl,LsR.tnil,LsR.tnil,LsR.tnil,LsR.tnil,LsR.tnil,LsR.tnil,LsR.tnil,LsR.tnil⟩
  exact by rw[row8 (A1:=A1) (A2:=A2) (A3:=A3) (A4:=A4) (A5:=A5) (A6:=A6) (A7:=A7) (A8:=A8) (c1:=c1) (c2:=c2) (c3:=c3) (c4:=c4) (c5:=c5) (c6:=c6) (c7:=c7) (c8:=c8) x] at hb;exact hb
 ·refine(keep9 (A1:=A1) (A2:=A2) (A3:=A3) (A4:=A4) (A5:=A5) (A6:=A6) (A7:=A7) (A8:=A8) (c1:=c1) (c2:=c2) (c3:=c3) (c4:=c4) (c5:=c5) (c6:=c6) (c7:=c7) (c8:=c8) x rfl hz rfl).mono fun e w2 ⟨he,hb,hkp⟩=>⟨he,hkp,[iv x.kind,uv 0,iv 0,.string ⟨#[]⟩,iv 0,iv 0,iv 0,uv 0,iv 0,iv 0,iv 0,bf,iv 0,iv 0,.string ⟨#[]⟩,sn,uv 0,iv 0,iv 0,iv 0,iv 0,sn,sn,sn,iv x.tm,iv x.ts,iv x.answer.machine,iv x.answer.owner,uv x.answer.number,iv x.answer.epoch,.bool x.answer.known,.bool x.answer.rooted,iv x.answer.last,.slice A5 x.answer.inset.length c5,iv 0,iv 0,sn,sn,sn],?_,none,0,none,0,none,0,none,0,A5,c5,none,0,none,0,none,0,rfl,LsR.tnil,LsR.tnil,LsR.tnil,LsR.tnil,h5.wr (qa0 inC) (hS hkp),LsR.tnil,LsR.tnil,LsR.tnil⟩
  exact by rw[row9 (A1:=A1) (A2:=A2) (A3:=A3) (A4:=A4) (A5:=A5) (A6:=A6) (A7:=A7) (A8:=A8) (c1:=c1) (c2:=c2) (c3:=c3) (c4:=c4) (c5:=c5) (c6:=c6) (c7:=c7) (c8:=c8) x] at hb;exact hb
 ·refine(keep10 (A1:=A1) (A2:=A2) (A3:=A3) (A4:=A4) (A5:=A5) (A6:=A6) (A7:=A7) (A8:=A8) (c1:=c1) (c2:=c2) (c3:=c3) (c4:=c4) (c5:=c5) (c6:=c6) (c7:=c7) (c8:=c8) x rfl hz rfl).mono fun e w2 ⟨he,hb,hkp⟩=>⟨he,hkp,[iv x.kind,uv 0,iv 0,.string ⟨#[]⟩,iv 0,iv 0,iv 0,uv 0,iv 0,iv 0,iv 0,bf,iv 0,iv 0,.string ⟨#[]⟩,sn,uv 0,iv 0,iv 0,iv 0,iv 0,sn,sn,sn,iv x.tm,iv x.ts,iv 0,iv 0,uv 0,iv 0,bf,bf,iv 0,sn,iv x.claim.machine,iv x.claim.epoch,.slice A6 x.claim.stubs.length c6,.slice A7 x.claim.scions.length c7,.slice A8 x.claim.checks.length c8],?_,none,0,none,0,none,0,none,0,none,0,A6,c6,A7,c7,A8,c8,rfl,LsR.tnil,LsR.tnil,LsR.tnil,LsR.tnil,LsR.tnil,h6.wr (qa0 ndC) (hS hkp),h7.wr (qa0 ndC) (hS hkp),h8.wr (qa0 ndC) (hS hkp)⟩
  exact by rw[row10 (A1:=A1) (A2:=A2) (A3:=A3) (A4:=A4) (A5:=A5) (A6:=A6) (A7:=A7) (A8:=A8) (c1:=c1) (c2:=c2) (c3:=c3) (c4:=c4) (c5:=c5) (c6:=c6) (c7:=c7) (c8:=c8) x] at hb;exact hb
 ·refine(keep11 (A1:=A1) (A2:=A2) (A3:=A3) (A4:=A4) (A5:=A5) (A6:=A6) (A7:=A7) (A8:=A8) (c1:=c1) (c2:=c2) (c3:=c3) (c4:=c4) (c5:=c5) (c6:=c6) (c7:=c7) (c8:=c8) x rfl hz rfl).mono fun e w2 ⟨he,hb,hkp⟩=>⟨he,hkp,[iv x.kind,uv 0,iv 0,.string ⟨#[]⟩,iv 0,iv 0,iv 0,uv 0,iv 0,iv 0,iv 0,bf,iv 0,iv 0,.string ⟨#[]⟩,sn,uv 0,iv 0,iv 0,iv 0,iv 0,sn,sn,sn,iv x.tm,iv x.ts,iv 0,iv 0,uv 0,iv 0,bf,bf,iv 0,sn,iv 0,iv 0,sn,sn,sn],?_,none,0,none,0,none,0,none,0,none,0,none,0,none,0,none,0,rfl,LsR.tnil,LsR.tnil,LsR.tnil,LsR.tnil,LsR.tnil,LsR.tnil,LsR.tnil,LsR.tnil⟩
  exact by rw[row11 (A1:=A1) (A2:=A2) (A3:=A3) (A4:=A4) (A5:=A5) (A6:=A6) (A7:=A7) (A8:=A8) (c1:=c1) (c2:=c2) (c3:=c3) (c4:=c4) (c5:=c5) (c6:=c6) (c7:=c7) (c8:=c8) x] at hb;exact hb
 ·refine(keep11 (A1:=A1) (A2:=A2) (A3:=A3) (A4:=A4) (A5:=A5) (A6:=A6) (A7:=A7) (A8:=A8) (c1:=c1) (c2:=c2) (c3:=c3) (c4:=c4) (c5:=c5) (c6:=c6) (c7:=c7) (c8:=c8) x rfl hz rfl).mono fun e w2 ⟨he,hb,hkp⟩=>⟨he,hkp,[iv x.kind,uv 0,iv 0,.string ⟨#[]⟩,iv 0,iv 0,iv 0,uv 0,iv 0,iv 0,iv 0,bf,iv 0,iv 0,.string ⟨#[]⟩,sn,uv 0,iv 0,iv 0,iv 0,iv 0,sn,sn,sn,iv x.tm,iv x.ts,iv 0,iv 0,uv 0,iv 0,bf,bf,iv 0,sn,iv 0,iv 0,sn,sn,sn],?_,none,0,none,0,none,0,none,0,none,0,none,0,none,0,none,0,rfl,LsR.tnil,LsR.tnil,LsR.tnil,LsR.tnil,LsR.tnil,LsR.tnil,LsR.tnil,LsR.tnil⟩
  exact by rw[row11 (A1:=A1) (A2:=A2) (A3:=A3) (A4:=A4) (A5:=A5) (A6:=A6) (A7:=A7) (A8:=A8) (c1:=c1) (c2:=c2) (c3:=c3) (c4:=c4) (c5:=c5) (c6:=c6) (c7:=c7) (c8:=c8) x] at hb;exact hb
 ·refine(keep11 (A1:=A1) (A2:=A2) (A3:=A3) (A4:=A4) (A5:=A5) (A6:=A6) (A7:=A7) (A8:=A8) (c1:=c1) (c2:=c2) (c3:=c3) (c4:=c4) (c5:=c5) (c6:=c6) (c7:=c7) (c8:=c8) x rfl hz rfl).mono fun e w2 ⟨he,hb,hkp⟩=>⟨he,hkp,[iv x.kind,uv 0,iv 0,.string ⟨#[]⟩,iv 0,iv 0,iv 0,uv 0,iv 0,iv 0,iv 0,bf,iv 0,iv 0,.string ⟨#[]⟩,sn,uv 0,iv 0,iv 0,iv 0,iv 0,sn,sn,sn,iv x.tm,iv x.ts,iv 0,iv 0,uv 0,iv 0,bf,bf,iv 0,sn,iv 0,iv 0,sn,sn,sn],?_,none,0,none,0,none,0,none,0,none,0,none,0,none,0,none,0,rfl,LsR.tnil,LsR.tnil,LsR.tnil,LsR.tnil,LsR.tnil,LsR.tnil,LsR.tnil,LsR.tnil⟩
  exact by rw[row11 (A1:=A1) (A2:=A2) (A3:=A3) (A4:=A4) (A5:=A5) (A6:=A6) (A7:=A7) (A8:=A8) (c1:=c1) (c2:=c2) (c3:=c3) (c4:=c4) (c5:=c5) (c6:=c6) (c7:=c7) (c8:=c8) x] at hb;exact hb
 ·refine(keep11 (A1:=A1) (A2:=A2) (A3:=A3) (A4:=A4) (A5:=A5) (A6:=A6) (A7:=A7) (A8:=A8) (c1:=c1) (c2:=c2) (c3:=c3) (c4:=c4) (c5:=c5) (c6:=c6) (c7:=c7) (c8:=c8) x rfl hz rfl).mono fun e w2 ⟨he,hb,hkp⟩=>⟨he,hkp,[iv x.kind,uv 0,iv 0,.string ⟨#[]⟩,iv 0,iv 0,iv 0,uv 0,iv 0,iv 0,iv 0,bf,iv 0,iv 0,.string ⟨#[]⟩,sn,uv 0,iv 0,iv 0,iv 0,iv 0,sn,sn,sn,iv x.tm,iv x.ts,iv 0,iv 0,uv 0,iv 0,bf,bf,iv 0,sn,iv 0,iv 0,sn,sn,sn],?_,none,0,none,0,none,0,none,0,none,0,none,0,none,0,none,0,rfl,LsR.tnil,LsR.tnil,LsR.tnil,LsR.tnil,LsR.tnil,LsR.tnil,LsR.tnil,LsR.tnil⟩
  exact by rw[row11 (A1:=A1) (A2:=A2) (A3:=A3) (A4:=A4) (A5:=A5) (A6:=A6) (A7:=A7) (A8:=A8) (c1:=c1) (c2:=c2) (c3:=c3) (c4:=c4) (c5:=c5) (c6:=c6) (c7:=c7) (c8:=c8) x] at hb;exact hb
 ·refine(keep15 hz).mono fun e w2 ⟨he,hb,hkp⟩=>⟨he,hkp,[iv x.kind,uv 0,iv 0,.string ⟨#[]⟩,iv 0,iv 0,iv 0,uv 0,iv 0,iv 0,iv 0,bf,iv 0,iv 0,.string ⟨#[]⟩,sn,uv 0,iv 0,iv 0,iv 0,iv 0,sn,sn,sn,iv 0,iv 0,iv 0,iv 0,uv 0,iv 0,bf,bf,iv 0,sn,iv 0,iv 0,sn,sn,sn],?_,none,0,none,0,none,0,none,0,none,0,none,0,none,0,none,0,rfl,LsR.tnil,LsR.tnil,LsR.tnil,LsR.tnil,LsR.tnil,LsR.tnil,LsR.tnil,LsR.tnil⟩
  exact hb
 ·refine(keep15 hz).mono fun e w2 ⟨he,hb,hkp⟩=>⟨he,hkp,[iv x.kind,uv 0,iv 0,.string ⟨#[]⟩,iv 0,iv 0,iv 0,uv 0,iv 0,iv 0,iv 0,bf,iv 0,iv 0,.string ⟨#[]⟩,sn,uv 0,iv 0,iv 0,iv 0,iv 0,sn,sn,sn,iv 0,iv 0,iv 0,iv 0,uv 0,iv 0,bf,bf,iv 0,sn,iv 0,iv 0,sn,sn,sn],?_,none,0,none,0,none,0,none,0,none,0,none,0,none,0,none,0,rfl,LsR.tnil,LsR.tnil,LsR.tnil,LsR.tnil,LsR.tnil,LsR.tnil,LsR.tnil,LsR.tnil⟩
  exact hb
 ·refine(keep17 (A1:=A1) (A2:=A2) (A3:=A3) (A4:=A4) (A5:=A5) (A6:=A6) (A7:=A7) (A8:=A8) (c1:=c1) (c2:=c2) (c3:=c3) (c4:=c4) (c5:=c5) (c6:=c6) (c7:=c7) (c8:=c8) x rfl hz rfl).mono fun e w2 ⟨he,hb,hkp⟩=>⟨he,hkp,[iv x.kind,uv 0,iv 0,.string x.name,iv x.ref.kind,iv x.ref.int,iv x.ref.owner,uv x.ref.number,iv x.ref.idm,iv x.ref.ids,iv x.ref.cls,.bool x.ref.weak,iv 0,iv 0,.string ⟨#[]⟩,sn,uv 0,iv 0,iv 0,iv 0,iv 0,sn,sn,sn,iv 0,iv 0,iv 0,iv 0,uv 0,iv 0,bf,bf,iv 0,sn,iv 0,iv 0,sn,sn,sn],?_,none,0,none,0,none,0,none,0,none,0,none,0,none,0,none,0,rfl,LsR.tnil,LsR.tnil,LsR.tnil,LsR.tnil,LsR.tnil,LsR.tnil,LsR.tnil,LsR.tnil⟩
  exact by rw[row17 (A1:=A1) (A2:=A2) (A3:=A3) (A4:=A4) (A5:=A5) (A6:=A6) (A7:=A7) (A8:=A8) (c1:=c1) (c2:=c2) (c3:=c3) (c4:=c4) (c5:=c5) (c6:=c6) (c7:=c7) (c8:=c8) x] at hb;exact hb
end
section
open Go.RowKit
def msV (x:Ms):Bool:=decide (0≤x.kind∧x.kind < 18) && okV x.kind.toNat x && decide (qi6 x.kind.toNat x=x)
theorem encMs_inj {x y:Ms} (hx:msP x) (hy:msP y) (h:qe6 x=qe6 y):x=y:=by
 have a:=codMs.fw x [] hx;have b:=codMs.fw y [] hy;rw[h] at a;rw[a] at b;exact congrArg Prod.fst b
theorem zero_p:P64 0∧I64 0∧sP ⟨#[]⟩∧rfP Rf.zero∧ltP Lt.zero∧pcP Pc.zero∧anP An.zero∧clP Cl.zero:=by
 have i:I64 0:=by unfold I64;omega
 have p:P64 0:=by unfold P64;omega
 have s:sP ⟨#[]⟩:=by unfold sP;decide
 have r:rfP Rf.zero:=⟨i,i,i,i,p,i,i⟩
 have e:∀ {α:Type} (P:α→Prop),lP P ([]:List α):=fun P=>⟨by simp,fun x h=>by cases h⟩
 exact⟨p,i,s,r,⟨i,i,s,e _⟩,⟨p,i,i,i,i,e _,e _,e _⟩,⟨i,i,i,i,p,e _⟩,⟨i,i,e _,e _,e _⟩⟩
theorem onlyM_p {x:Ms} (h:msP x) (k:Nat):msP (qi6 k x):=by
 obtain⟨zp,zi,zs,zr,zl,zc,za,zq⟩:=zero_p;obtain⟨h1,h2,h3,h4,h5,h6,h7,h8,h9,h10,h11⟩:=h;unfold qi6
 split <;> (refine⟨?_,?_,?_,?_,?_,?_,?_,?_,?_,?_,?_⟩ <;> first | assumption | exact zi | exact zp | exact zs | exact zr | exact zl | exact zc | exact za | exact zq)
theorem msV_eq {x:Ms} (hx:msP x) (h0:0≤x.kind∧x.kind < 18):msV x=(okV x.kind.toNat x && decide (qe6 (qi6 x.kind.toNat x)=qe6 x)):=by
 unfold msV;rw[decide_eq_true h0,Bool.true_and]
 congr 1
 exact decide_eq_decide.2 ⟨fun h=>by rw[h],fun h=>encMs_inj (onlyM_p hx _) hx h⟩
end
section
open Go.RowKit
theorem qb1 {P:Program} {ops:Array Oper} {rest:List Oper} {op:Oper} {a:Act} {w:World} {Q:Exit→Act→World→Prop} (hgd:Region.wanted op (yielded ops a.tmps)=true) (ty:TypeId) (x:Operand) (ho:op.op=.load ty x)
  (b o:Nat) (hx:a.eval x=.pointer (some ⟨b,o,none⟩)) (cs:List Value) (d:TypeDesc) (hc:w.rangeAt b o cs)
  (hu:P.underlying ty=some d) (hd:d.isRow=true) (hi:(P.info? ty).map (·.size)=some cs.length)
  (h:wpList P ops Q rest (a.put op.dst (.agg cs.toArray)) w):wpList P ops Q (op::rest) a w :=
 wpList_step fun K hK=>by
  rw[if_pos hgd];exact wp_load_mid ty x ho b o hx cs d hc hu hd hi (hK _ _ h)
end
section
open Go.RowKit
theorem qc7 (n:Int):1≤(qb7 n).length:=qg3 _
theorem encS_one (s:ByteArray):1≤(qj9 s).length:=by unfold qj9;have:=qg3 (s.size:Int);simp only[List.length_append];omega
theorem qj0 {α:Type} (f:α→List Int) (l:List α):1≤(qc6 f l).length:=by unfold qc6;have:=qg3 (l.length:Int);simp only[List.length_append];omega
theorem qo5 (b:Bool):(qk0 b).length=1:=by cases b <;> rfl
theorem encRf_8 (x:Rf):8≤(qc0 x).length:=by
 unfold qc0;have h1:=qc7 x.kind;have h2:=qc7 x.owner;have h3:=qc7 x.cls;have h4:=qc7 x.int;have h5:=qg3 x.number;have h6:=qc7 x.idm;have h7:=qc7 x.ids;have h8:=qo5 x.weak;simp only[List.length_append];omega
theorem encLt_4 (x:Lt):4≤(qc8 x).length:=by
 unfold qc8;have h1:=qc7 x.idm;have h2:=qc7 x.ids;have h3:=encS_one x.meth;have h4:=qj0 qc0 x.args;simp only[List.length_append];omega
theorem encPc_8 (x:Pc):8≤(qg8 x).length:=by
 unfold qg8;have h1:=qg3 x.number;have h2:=qc7 x.idm;have h3:=qc7 x.ids;have h4:=qc7 x.kind;have h5:=qc7 x.cls;have h6:=qj0 qc0 x.fields;have h7:=qj0 qc8 x.mail;have h8:=qj0 qe1 x.watches;simp only[List.length_append];omega
theorem encAn_8 (x:An):8≤(qg7 x).length:=by
 unfold qg7;have h1:=qc7 x.machine;have h2:=qc7 x.owner;have h3:=qc7 x.epoch;have h4:=qc7 x.last;have h5:=qg3 x.number;have h6:=qo5 x.known;have h7:=qo5 x.rooted;have h8:=qj0 qe0 x.inset;simp only[List.length_append];omega
theorem encCl_5 (x:Cl):5≤(qg5 x).length:=by
 unfold qg5;have h1:=qc7 x.machine;have h2:=qc7 x.epoch;have h3:=qj0 qd4 x.stubs;have h4:=qj0 qd4 x.scions;have h5:=qj0 qd4 x.checks;simp only[List.length_append];omega
theorem zero_len:(qb7 0).length=1∧(qd8 0).length=1∧(qj9 ⟨#[]⟩).length=1∧(qc0 Rf.zero).length=8∧(qc8 Lt.zero).length=4∧(qg8 Pc.zero).length=8∧(qg7 An.zero).length=8∧(qg5 Cl.zero).length=5:=by
 have d:qj7 0=[]:=by rw[qj7];rfl
 have u:qd8 0=[0]:=by unfold qd8;rw[show(0:Int).toNat=0 from rfl,d];rfl
 have i:qb7 0=[0]:=by unfold qb7;rw[show zz 0=0 from rfl,u]
 have s:qj9 ⟨#[]⟩=[0]:=by unfold qj9;rw[show(((⟨#[]⟩:ByteArray).size:Nat):Int)=0 from rfl,u];rfl
 have e:∀ {α:Type} (f:α→List Int),qc6 f []=[0]:=fun f=>by unfold qc6;rw[show(([]:List _).length:Int)=0 from rfl,u];rfl
 refine⟨?_,?_,?_,?_,?_,?_,?_,?_⟩ <;> simp[qc0,qc8,qg8,qg7,qg5,Rf.zero,Lt.zero,Pc.zero,An.zero,Cl.zero,u,i,s,e,qk0]
/-- what a kind leaves is not longer -/
theorem qo3 (k:Nat) (x:Ms):(qe6 (qi6 k x)).length≤(qe6 x).length:=by
 obtain⟨zi,zu,zs,zr,zl,zp,za,zc⟩:=zero_len;have h1:=qc7 x.asker;have h2:=qc7 x.tm;have h3:=qc7 x.ts;have h4:=qg3 x.number;have h5:=encS_one x.name;have h6:=encRf_8 x.ref;have h7:=encLt_4 x.letter;have h8:=encPc_8 x.parcel;have h9:=encAn_8 x.answer;have h10:=encCl_5 x.claim;unfold qi6
 split <;> (simp only[qe6,qd1,Ms.zero,List.length_append,zi,zu,zs,zr,zl,zp,za,zc];omega)
theorem Kp.setRow {S:Nat→Prop} (w:World) (g:Nat) (cs:Array Value) (h:S g):Kp S w (w.setRow g cs):=⟨rfl,rfl,rfl,by simp,fun k _ hn=>setRow_other w g k cs fun e=>hn (e ▸ h)⟩
/-- the store of a whole block, the world behind it left open -/
theorem qf7 {P:Program} {ops:Array Oper} {rest:List Oper} {o:Oper} {a:Act} {w:World} {Q:Exit→Act→World→Prop} (hgd:o.guard=none) (ty:TypeId) (x y:Operand) (ho:o.op=.store ty x y)
  (g:Nat) (cells:Array Value) (hx:a.eval x=pq g 0) (hy:a.eval y=.agg cells)
  (t:TypeId) (old:Array Value) (hg:w.heap[g]?=some (.cells old t (0,0))) (hi:(P.info? ty).map (·.size)=some cells.size)
  (hold:old.size=cells.size) (h1:cells.all (·.oneCell')=true)
  (h:∀ w',Bk w' g t cells→Kp (fun k=>k=g) w w'→wpList P ops Q rest (a.put o.dst undef) w'):wpList P ops Q (o::rest) a w :=
 wpList_store_row hgd ty x y ho g cells hx hy t old hg hi hold h1 (h _ (setRow_heap _ _ _ _ _ _ hg) (Kp.setRow _ _ _ rfl))
end
section
open Go.RowKit
attribute [local go_sem] Oper.semAt_some
theorem Valid_out {w:World} {x:Ms} {M:Array Value} (hM:M[0]?=some (iv x.kind)) (hn:x.kind < 0 ∨ 18≤x.kind):Calls Tryz.prog 12 #[.agg M] w (qe7 w false):=by
 obtain⟨W,hW⟩:∃ W,W=w.alloc (.cells M 42):=⟨_,rfl⟩
 obtain⟨g,hg⟩:∃ g,g=w.heap.size:=⟨_,rfl⟩
 have hb0:bw w W:=by rw[hW];exact qa2 _ _
 have hk0:Bk W g 42 M:=by rw[hW,hg];exact Bk.new _ _ _
 have a0:cl W g 0 (iv x.kind):=(hk0.cell 0).trans hM;have HB0:=lh hb0;have cF:=find_out W hn;clear hb0 hk0 hM hn
 go_enter Tryz.func12,Tryz.ntmps12
 go_upto_region 1 with fail
 rw[← hW,← hg];clear hW hg
 go_wp2_with fail
 refine cF.mono ?_;rintro e w1 ⟨rfl,hb1⟩;have HB1:=lh (HB0.o.trans (hb1.mono HB0.o.size));clear hb1 cF a0
 go_wp2_with fail
 go_ret;exact⟨rfl,HB1.o.trans ((qa2 _ _).mono HB1.o.size)⟩
end
section
open Go.RowKit
attribute [local go_sem] Oper.semAt_some
def zk (n:Int):Array Value:=#[iv n,uv 0,iv 0,.string ⟨#[]⟩,iv 0,iv 0,iv 0,uv 0,iv 0,iv 0,iv 0,bf,iv 0,iv 0,.string ⟨#[]⟩,sn,uv 0,iv 0,iv 0,iv 0,iv 0,sn,sn,sn,iv 0,iv 0,iv 0,iv 0,uv 0,iv 0,bf,bf,iv 0,sn,iv 0,iv 0,sn,sn,sn]
def RowL (l:List Int) (v:Value) (w:World):Prop:=∃ A c,v=.slice A l.length c∧Sl w 1 A l.length (qh2 l)∧l.length≤c
theorem RowL.bl (l:List Int):∀ v w w',RowL l v w→bw w w'→RowL l v w':=fun v w w' ⟨A,c,h1,h2,h3⟩ hb=>⟨A,c,h1,h2.below hb,h3⟩
theorem qk1 {P:Program} {W:World} {vs:Nat→Value} {w:World} {ev:Operand→Value} {x:Operand} {oo:Oper} {ty:TypeId} {b o:Nat} {A:Array Value} {d:TypeDesc} (ho:oo.op=.load ty x) (hx:ev x=.pointer (some ⟨b,o,none⟩)) (hc:w.rangeAt b o A.toList) (hu:P.underlying ty=some d) (hd:d.isRow=true) (hi:(P.info? ty).map (·.size)=some A.toList.length):Made P (qf6 (Ent.val (W:=W) (.agg A)) vs w) ((execOp ev oo).run P w):=by
 unfold execOp;simp only[ho,hx,Instr.loadAt,Instr.sureAddr,Sem.run_bind,Sem.run_pure,Result.andThen_ok,run_loadVar_mid w b o ty A.toList d hc hu hd hi];exact qb5 (by simp)
theorem callB {k:Nat} (hk:k < 18) (args:Array Value) (w:World):Sem.run Tryz.prog (callFunc (kB k) args) w=.ok (.enter (kB k) args) w:=by
 rcases (show k=0 ∨ k=1 ∨ k=2 ∨ k=3 ∨ k=4 ∨ k=5 ∨ k=6 ∨ k=7 ∨ k=8 ∨ k=9 ∨ k=10 ∨ k=11 ∨ k=12 ∨ k=13 ∨ k=14 ∨ k=15 ∨ k=16 ∨ k=17 by omega) with rfl | rfl | rfl | rfl | rfl | rfl | rfl | rfl | rfl | rfl | rfl | rfl | rfl | rfl | rfl | rfl | rfl | rfl <;> rfl
theorem callA {k:Nat} (hk:k < 18) (args:Array Value) (w:World):Sem.run Tryz.prog (callFunc (kA k) args) w=.ok (.enter (kA k) args) w:=by
 rcases (show k=0 ∨ k=1 ∨ k=2 ∨ k=3 ∨ k=4 ∨ k=5 ∨ k=6 ∨ k=7 ∨ k=8 ∨ k=9 ∨ k=10 ∨ k=11 ∨ k=12 ∨ k=13 ∨ k=14 ∨ k=15 ∨ k=16 ∨ k=17 by omega) with rfl | rfl | rfl | rfl | rfl | rfl | rfl | rfl | rfl | rfl | rfl | rfl | rfl | rfl | rfl | rfl | rfl | rfl <;> rfl
theorem Valid_in {w:World} {x:Ms} {r:List Value} {k:Nat} (h:MsI w x r) (hx:msP x) (hk:k < 18) (hxk:x.kind=k) (hl:(qe6 x).length≤2147483648):Calls Tryz.prog 12 #[.agg r.toArray] w (qe7 w (msV x)):=by
 obtain⟨M,hM⟩:∃ M,M=r.toArray:=⟨_,rfl⟩
 rw[← hM]
 have hM0:M[0]?=some (iv (k:Int)):=by
  obtain⟨A1,c1,A2,c2,A3,c3,A4,c4,A5,c5,A6,c6,A7,c7,A8,c8,rfl,_⟩:=h;rw[hM,← hxk];rfl
 have hsz:M.toList.length=39:=by
  obtain⟨A1,c1,A2,c2,A3,c3,A4,c4,A5,c5,A6,c6,A7,c7,A8,c8,rfl,_⟩:=h;rw[hM];rfl
 have HSZ:=lh hsz;have HM:=lh hM;have HM0:=lh hM0
 obtain⟨W,hW⟩:∃ W,W=w.alloc (.cells M 42):=⟨_,rfl⟩
 obtain⟨g,hg⟩:∃ g,g=w.heap.size:=⟨_,rfl⟩
 have hb0:bw w W:=by rw[hW];exact qa2 _ _
 have hk0:Bk W g 42 M:=by rw[hW,hg];exact Bk.new _ _ _
 have a0:cl W g 0 (iv (k:Int)):=(hk0.cell 0).trans hM0;have HG0:Hid (g=w.heap.size):=lh hg;have HB0:=lh hb0;have HK0:=lh hk0;have cF:=find_in W hk;unfold kV at cF;have H:=lh (And.intro h (And.intro hx (And.intro hk (And.intro hxk hl))));clear hb0 hk0 hM hM0 h hx hk hxk hsz hl
 go_enter Tryz.func12,Tryz.ntmps12
 go_upto_region 1 with fail
 rw[← hW,← hg];clear hW hg
 go_upto_region 2 with (go_at_call 26;refine cF.mono ?_;rintro e w1 ⟨rfl,hb1⟩)
 have HB1:=lh (HB0.o.trans (hb1.mono HB0.o.size));have HK1:=lh (HK0.o.below hb1 HK0.o.lt)
 obtain⟨W2,hW2⟩:∃ W2,W2=w1.alloc (.cells #[.string (kS k),.func (.func (kA k)) #[] #[],.func (.func (kB k)) #[] #[],.func (.func (kC k)) #[] #[]] 68):=⟨_,rfl⟩
 obtain⟨b2,hb2⟩:∃ b2,b2=w1.heap.size:=⟨_,rfl⟩
 have hB2:bw w1 W2:=by rw[hW2];exact qa2 _ _
 have hq2:Bk W2 b2 68 #[.string (kS k),.func (.func (kA k)) #[] #[],.func (.func (kB k)) #[] #[],.func (.func (kC k)) #[] #[]]:=by rw[hW2,hb2];exact Bk.new _ _ _
 have f2:cl W2 b2 2 (.func (.func (kB k)) #[] #[]):=hq2.cell 2;have HB2:=lh (HB1.o.trans (hB2.mono HB1.o.size));have HK2:=lh (HK1.o.below hB2 HK1.o.lt);have HQ2:=lh hq2;rw[← hW2,← hb2];have cO:Calls Tryz.prog (kB k) #[.agg M] W2 (qe7 W2 (okV k x)):=by rw[HM.o];exact Ok_any (H.o.1.below (HB1.o.trans (hB2.mono HB1.o.size)) |> fun h=>h) H.o.2.2.1
 have hcb:=fun args w=>callB H.o.2.2.1 args w;clear hW2 hb2 hB2 hq2 hb1 cF a0;refine wp_region_list ?_
 cases ho:okV k x with
 | false =>
  rw[ho] at cO;have HO:=lh ho;clear ho
  go_wp2_with (first | (refine qb1 rfl _ _ rfl g 0 rfl M.toList _ HK2.o.rng rfl rfl (by rw[HSZ.o];rfl) ?_;simp only[Array.toArray_toList]) | fail)
  refine cO.mono ?_;rintro e w3 ⟨rfl,hb3⟩;have HB3:=lh (HB2.o.trans (hb3.mono HB2.o.size));clear hb3 cO f2
  go_wp2_with fail
  go_ret;refine⟨cgb ?_,HB3.o⟩;unfold msV;rw[H.o.2.2.2.1,Int.toNat_natCast,HO.o]
  simp
 | true =>
  rw[ho] at cO;have HO:=lh ho;clear ho
  go_wp2_with (first | (refine qb1 rfl _ _ rfl g 0 rfl M.toList _ HK2.o.rng rfl rfl (by rw[HSZ.o];rfl) ?_;simp only[Array.toArray_toList]) | fail)
  refine cO.mono ?_;rintro e w3 ⟨rfl,hb3⟩;have HB3:=lh (HB2.o.trans (hb3.mono HB2.o.size));have HK3:=lh (HK2.o.below hb3 HK2.o.lt);have HQ3:=lh (HQ2.o.below hb3 HQ2.o.lt);have a0:cl w3 g 0 (iv (k:Int)):=(HK3.o.cell 0).trans HM0.o;clear hb3 cO f2
  go_upto_region 4 with fail
  refine wp_region_list ?_
  go_upto_region 5 with (first | (refine wpList_build rfl _ _ rfl (by kernel_rfl) ?_) | (refine qf7 rfl _ _ _ rfl w3.heap.size (zk (k:Int)) (by kernel_rfl) (by kernel_rfl) _ _ (heap_alloc_new w3 _) (by kernel_rfl) (by kernel_rfl) (by kernel_rfl) ?_;intro w4 hk4 hp4) | fail)
  have hb4:bw w3 w4:=hp4.toBelow (qa2 _ _) (by simp) fun j e=>by omega
  obtain⟨g4,hg4⟩:∃ g4,g4=w3.heap.size:=⟨_,rfl⟩
  rw[← hg4] at hk4 ⊢;have HGL:Hid (g < g4):=lh (by rw[hg4];exact HK3.o.lt);have HB4:=lh (HB3.o.trans (hb4.mono HB3.o.size));have HG4:Hid (w.heap.size≤g4):=lh (by rw[hg4];exact HB3.o.size);have HK4:=lh (HK3.o.below hb4 HK3.o.lt);have HQ4:=lh (HQ3.o.below hb4 HQ3.o.lt);have HZ4:Hid (Bk w4 g4 42 (qh7 x)):=lh (by have:=hk4;unfold zk at this;unfold qh7;rw[H.o.2.2.2.1];exact this);have f4:cl w4 b2 1 (.func (.func (kA k)) #[] #[]):=HQ4.o.cell 1;have cK:=keep_any (msR_rk.wr H.o.1 (Kp.of_below HB4.o)) HG4.o HZ4.o H.o.2.2.1;rw[← HM.o] at cK;have hca:=fun args w=>callA H.o.2.2.1 args w;clear hg4 hb4 hk4 hp4 hcb a0;refine wp_region_list ?_
  go_wp2_with (first | (refine qb1 rfl _ _ rfl g 0 rfl M.toList _ HK4.o.rng rfl rfl (by rw[HSZ.o];rfl) ?_;simp only[Array.toArray_toList]) | fail)
  refine cK.mono ?_;rintro e w5 ⟨rfl,hk5,r5,hz5,hm5⟩;have HB5:=lh (hk5.toBelow HB4.o HB4.o.size fun j e=>by rw[e];exact HG4.o);have HM5:Hid (MsI w5 (qi6 k x) r5):=lh (msR_ru _ _ _ _ _ (fun j hj=>Nat.lt_of_lt_of_le hj HB5.o.size) hm5);have HI5:Hid (MsI w5 x r):=lh (H.o.1.below HB5.o);have HK5:=lh (HK4.o.kp hk5 (fun e=>by have:=HGL.o;omega))
  have hsz5:r5.toArray.toList.length=39:=by
   obtain⟨A1,c1,A2,c2,A3,c3,A4,c4,A5,c5,A6,c6,A7,c7,A8,c8,rfl,_⟩:=hm5
   rfl
  obtain⟨M5,hM5⟩:∃ M5,M5=r5.toArray:=⟨_,rfl⟩
  rw[← hM5] at hz5 hsz5;have HSZ5:=lh hsz5;have HM5E:=lh hM5;have HZ5:=lh hz5;clear cK hk5 hz5 hm5 f4 hca hM5 hsz5
  obtain⟨lx,hlx⟩:∃ lx,lx=qe6 x:=⟨_,rfl⟩
  obtain⟨ly,hly⟩:∃ ly,ly=qe6 (qi6 k x):=⟨_,rfl⟩
  have HL:Hid (lx.length≤2147483648∧ly.length≤2147483648):=lh ⟨by rw[hlx];exact H.o.2.2.2.2,by rw[hly];exact Nat.le_trans (qo3 k x) H.o.2.2.2.2⟩;have HE:Hid (msV x=decide (ly=lx)):=lh (by rw[hlx,hly,msV_eq H.o.2.1 (by rw[H.o.2.2.2.1];have:=H.o.2.2.1;omega),H.o.2.2.2.1,Int.toNat_natCast,HO.o,Bool.true_and]);have cX:∀ W,bw w5 W→Calls Tryz.prog 28 #[.agg M] W (EncP W lx):=fun W hb=>by rw[HM.o,hlx];exact qk9 (HI5.o.below hb) H.o.2.1 H.o.2.2.2.2
  have cY:∀ W,bw w5 W→Calls Tryz.prog 28 #[.agg M5] W (EncP W ly):=fun W hb=>by rw[HM5E.o,hly];exact qk9 (HM5.o.below hb) (onlyM_p H.o.2.1 k) (Nat.le_trans (qo3 k x) H.o.2.2.2.2)
  have HX:=lh cX;have HY:=lh cY;clear cX cY hlx hly
  go_upto_region 6 with fail
  refine qi5 5 (fun i=>([[],[0],[],[2],[1,3]]:List (List Nat)).getD i []) (EL [Ent.val (.agg M5),Ent.of (RowL ly) (RowL.bl _),Ent.val (.agg M),Ent.of (RowL lx) (RowL.bl _),Ent.val (.bool (decide (ly=lx)))]) (by kernel_rfl) (by kernel_rfl) (by kernel_rfl) (by kernel_rfl) (by rfl) ?_ ?_
  ·intro i hi o ho vs w6 hb1 hgr;rcases (show i=0 ∨ i=1 ∨ i=2 ∨ i=3 ∨ i=4 by omega) with rfl | rfl | rfl | rfl | rfl <;> cases ho
   ·clear hgr;change Made _ (qf6 _ _ _) (Sem.run _ (execOp (Act.eval (frm _ _ _ [])) _) _);simp only[frm];exact qk1 (P:=Tryz.prog) (ty:=42) (b:=g4) (o:=0) (A:=M5) (by rfl) (by rfl) (HZ5.o.below hb1 HZ5.o.lt).rng rfl rfl (by rw[HSZ5.o];rfl)
   ·have h0:vs 0=_:=hgr 0 (by decide);clear hgr;change Made _ (qf6 _ _ _) (Sem.run _ (execOp (Act.eval (Act.put (frm _ _ _ []) (some 28) (vs 0))) _) _);simp only[frm,h0];have cM:=HY.o _ hb1;go_simp
    exact qv5 (hT:=RowL.bl _) (ob:=fun _=>none) cM fun e w2 ⟨v,he,ho,hb⟩=>by
     obtain⟨A9,c9,rfl,_⟩:=qc1 ho;exact⟨_,he,⟨A9,c9,rfl,own_sl ho,own_le ho⟩,hb,(fun k hk=>nomatch hk)⟩
   ·clear hgr;change Made _ (qf6 _ _ _) (Sem.run _ (execOp (Act.eval (frm _ _ _ [])) _) _);simp only[frm];exact qk1 (P:=Tryz.prog) (ty:=42) (b:=g) (o:=0) (A:=M) (by rfl) (by rfl) (HK5.o.below hb1 HK5.o.lt).rng rfl rfl (by rw[HSZ.o];rfl)
   ·have h2:vs 2=_:=hgr 2 (by decide);clear hgr;change Made _ (qf6 _ _ _) (Sem.run _ (execOp (Act.eval (Act.put (frm _ _ _ []) (some 30) (vs 2))) _) _);simp only[frm,h2];have cM:=HX.o _ hb1;go_simp
    exact qv5 (hT:=RowL.bl _) (ob:=fun _=>none) cM fun e w2 ⟨v,he,ho,hb⟩=>by
     obtain⟨A9,c9,rfl,_⟩:=qc1 ho;exact⟨_,he,⟨A9,c9,rfl,own_sl ho,own_le ho⟩,hb,(fun k hk=>nomatch hk)⟩
   ·obtain⟨A1,c1,h1,s1,p1⟩:=hgr 1 (by decide);obtain⟨A3,c3,h3,s3,p3⟩:=hgr 3 (by decide);clear hgr;change Made _ (qf6 _ _ _) (Sem.run _ (execOp (Act.eval (Act.put (Act.put (frm _ _ _ []) (some 31) (vs 3)) (some 29) (vs 1))) _) _);simp only[frm,h1,h3];have cM:=EqBts_any (c:=c1) (d:=c3) s1 s3 p1 p3 (Nat.le_trans HL.o.2 (by decide)) (Nat.le_trans HL.o.1 (by decide));go_simp;exact qc3 cM
  intro vs w6 hb1 hall hap;have h4:vs 4=_:=(hall 4 (by omega)).1;clear hall hap;change wpList _ _ _ [_] (Act.put (Act.put (Act.put (Act.put (Act.put (frm _ _ _ []) (some 32) (vs 4)) (some 31) (vs 3)) (some 30) (vs 2)) (some 29) (vs 1)) (some 28) (vs 0)) _;simp only[frm,h4]
  go_wp2_with fail
  go_ret;rw[HE.o];exact⟨rfl,HB5.o.trans (hb1.mono HB5.o.size)⟩
end
section
open Go.RowKit
attribute [local go_sem] Oper.semAt_some
theorem MsI.kind {w:World} {x:Ms} {r:List Value} (h:MsI w x r):r.toArray[0]?=some (iv x.kind):=by
 obtain⟨A1,c1,A2,c2,A3,c3,A4,c4,A5,c5,A6,c6,A7,c7,A8,c8,rfl,_⟩:=h
 rfl
theorem MsI.len {w:World} {x:Ms} {r:List Value} (h:MsI w x r):r.length=39:=by
 obtain⟨A1,c1,A2,c2,A3,c3,A4,c4,A5,c5,A6,c6,A7,c7,A8,c8,rfl,_⟩:=h
 rfl
theorem qv6 {w:World} {x:Ms} {r:List Value} (h:MsI w x r) (hx:msP x) (hl:(qe6 x).length≤2147483648):Calls Tryz.prog 12 #[.agg r.toArray] w (qe7 w (msV x)):=by
 by_cases hk:0≤x.kind∧x.kind < 18
 ·exact Valid_in (k:=x.kind.toNat) h hx (by omega) (by omega) hl
 ·have hv:msV x=false:=by unfold msV;rw[decide_eq_false hk];rfl
  rw[hv];exact Valid_out h.kind (by omega)
theorem Encode_any {w:World} {x:Ms} {r:List Value} (h:MsI w x r) (hx:msP x) (hl:(qe6 x).length≤2147483648):Calls Tryz.prog 13 #[.agg r.toArray] w fun e w'=>∃ v,e=.returned (.tuple #[v,iv (if msV x=true then 0 else 1)])∧w'.ownsRow w.heap.size 5 1 v (if msV x=true then qe6 x else []).length (qh2 (if msV x=true then qe6 x else []))∧bw w w':=by
 have hsz:r.toArray.toList.length=39:=h.len
 obtain⟨M,hM⟩:∃ M,M=r.toArray:=⟨_,rfl⟩
 rw[← hM] at hsz ⊢;have HSZ:=lh hsz;have HM:=lh hM
 obtain⟨W,hW⟩:∃ W,W=w.alloc (.cells M 42):=⟨_,rfl⟩
 obtain⟨g,hg⟩:∃ g,g=w.heap.size:=⟨_,rfl⟩
 have hb0:bw w W:=by rw[hW];exact qa2 _ _
 have hk0:Bk W g 42 M:=by rw[hW,hg];exact Bk.new _ _ _
 have HB0:=lh hb0;have HK0:=lh hk0;have cV:Calls Tryz.prog 12 #[.agg M] W (qe7 W (msV x)):=by rw[HM.o];exact qv6 (h.below hb0) hx hl
 have H:=lh (And.intro h (And.intro hx hl))
 obtain⟨l,hll⟩:∃ l,l=(if msV x=true then qe6 x else []):=⟨_,rfl⟩
 rw[← hll]
 obtain⟨er,her⟩:∃ er:Int,er=(if msV x=true then 0 else 1):=⟨_,rfl⟩
 rw[← her];clear hb0 hk0 hM h hx hl hsz
 go_enter Tryz.func13,Tryz.ntmps13
 go_upto_region 1 with fail
 rw[← hW,← hg];clear hW hg;refine wp_region_list ?_
 cases hv:msV x with
 | false =>
  rw[hv] at cV hll her;have HER:=lh (show er=1 from her);clear her;have HL:=lh hll;clear hll hv;refine wpList_load_mid rfl _ _ rfl g 0 rfl M.toList _ HK0.o.rng rfl rfl (by rw[HSZ.o];rfl) ?_;simp only[Array.toArray_toList]
  go_wp2_with fail
  refine cV.mono ?_;rintro e w2 ⟨rfl,hb2⟩;have HB2:=lh (HB0.o.trans (hb2.mono HB0.o.size));clear cV hb2
  go_wp2_with fail
  go_ret2
  rw[HL.o,HER.o];exact⟨_,rfl,World.ownsRow_nil _ _ _ _,HB2.o⟩
 | true =>
  rw[hv,if_pos rfl] at hll her;have HER:=lh her;clear her;rw[hv] at cV;have HL:=lh hll;clear hll hv;refine wpList_load_mid rfl _ _ rfl g 0 rfl M.toList _ HK0.o.rng rfl rfl (by rw[HSZ.o];rfl) ?_;simp only[Array.toArray_toList]
  go_wp2_with fail
  refine cV.mono ?_;rintro e w2 ⟨rfl,hb2⟩;have HB2:=lh (HB0.o.trans (hb2.mono HB0.o.size));have HK2:=lh (HK0.o.below hb2 HK0.o.lt);have cB:Calls Tryz.prog 28 #[.agg M] w2 (EncP w2 l):=by rw[HM.o,HL.o];exact qk9 (H.o.1.below HB2.o) H.o.2.1 H.o.2.2
  clear cV hb2
  go_upto_region 3 with fail
  refine wp_region_list ?_;refine wpList_load_mid rfl _ _ rfl g 0 rfl M.toList _ HK2.o.rng rfl rfl (by rw[HSZ.o];rfl) ?_;simp only[Array.toArray_toList]
  go_wp2_with fail
  refine cB.mono ?_;rintro e w3 ⟨v,rfl,ho,hb3⟩;have HB3:=lh (HB2.o.trans (hb3.mono HB2.o.size));have HO:=lh (own_any (base':=w.heap.size) ho (fun k hk=>Nat.le_trans HB2.o.size (ho.lt k hk).1));clear cB ho hb3
  go_wp2_with fail
  go_ret2
  rw[HER.o];exact⟨_,rfl,HO.o,HB3.o⟩
end
section
open Go.RowKit
attribute [local go_sem] Oper.semAt_some
/-- rows of one's own read as old rows -/
theorem LsR.toI {α:Type} {R:Rel α} {tE:TypeId} {sz:Nat} {N:Nat→Prop} {w:World} {A:Option Addr} {c:Nat} {l:List α} (h:LsR R tE sz false N w A c l) (hl:l.length≤140737488351232) (hR:∀ x∈l,∀ r,R false N w x r→R true (fun k=>k < w.heap.size) w x r):LsR R tE sz true (fun k=>k < w.heap.size) w A c l:=by
 unfold LsR at h ⊢;rw[if_neg (by simp)] at h;rw[if_pos rfl];obtain⟨xs,ho,rs,h1,h2,h3⟩:=h;refine⟨own_le ho,hl,?_⟩;have hc:=fun g=>World.ownsRow.cells ho (g:=g);obtain⟨e1,⟨h4,h5⟩ | ⟨g,cap,cur,h4,hg,hk,_,_,_,_⟩⟩:=ho
 ·exact .inl h5
 ·injection h4 with hA hn hcc
  subst hA;have hbk:Bk w g tE cur:=hk;refine .inr ⟨g,0,rfl,hbk.lt,fun i x hx=>?_⟩;have hi:i < rs.length:=by rw[h2];exact(List.getElem?_eq_some_iff.1 hx).1
  obtain⟨a1,a2⟩:=h3 i x rs[i] hx (List.getElem?_eq_getElem hi);refine⟨rs[i],a1,hR x (List.mem_of_getElem? hx) _ a2,fun j v hv=>⟨?_,hbk.free _⟩⟩
  have hall:∀ r∈rs,r.length=sz:=fun r hr=>by
   obtain⟨k,hk,rfl⟩:=List.mem_iff_getElem.1 hr;exact(h3 k (l[k]'(by omega)) rs[k] (List.getElem?_eq_getElem _) (List.getElem?_eq_getElem hk)).1
  have hjs:j < sz:=by rw[← a1];exact(List.getElem?_eq_some_iff.1 hv).1
  have e:=flat_get rs hall i rs[i] (List.getElem?_eq_getElem hi) j hjs;rw[← h1,hv] at e;have:=hc g rfl _ _ e;rw[Addr.add_mid] at this;rw[Nat.zero_add] at this ⊢;exact this
theorem MsR.toI {N:Nat→Prop} {w:World} {x:Ms} {r:List Value} (h:MsR false N w x r) (hx:msP x):MsI w x r:=by
 obtain⟨A1,c1,A2,c2,A3,c3,A4,c4,A5,c5,A6,c6,A7,c7,A8,c8,hr,h1,h2,h3,h4,h5,h6,h7,h8⟩:=h;obtain⟨_,_,_,_,_,_,_,hlt,hpc,han,hcl⟩:=hx;have q:∀ {α:Type} {P:α→Prop} {l:List α},lP P l→l.length≤140737488351232:=fun h=>by have:=h.1;omega
 have f:∀ {α:Type} {cells:α→List Value} {l:List α},∀ x∈l,∀ r,qa6 cells false N w x r→qa6 cells true (fun k=>k < w.heap.size) w x r:=fun _ _ _ h=>h
 exact⟨A1,c1,A2,c2,A3,c3,A4,c4,A5,c5,A6,c6,A7,c7,A8,c8,hr,h1.toI (q hlt.2.2.2) f,h2.toI (q hpc.2.2.2.2.2.1) f,
  h3.toI (q hpc.2.2.2.2.2.2.1) (fun x hx r ⟨A,c,e,h⟩=>⟨A,c,e,h.toI (q (hpc.2.2.2.2.2.2.1.2 x hx).2.2.2) f⟩),
  h4.toI (q hpc.2.2.2.2.2.2.2) f,h5.toI (q han.2.2.2.2.2) f,h6.toI (q hcl.2.2.1) f,h7.toI (q hcl.2.2.2.1) f,h8.toI (q hcl.2.2.2.2) f⟩
theorem qk5 {P:Program} {fn:Func} {p q:Tmp} {ty:TypeId} (h:fn.results=#[.cell p ty,.tmp q]) (tmps:Array Value) (w:World) (g:Nat) (t:TypeId) (cs:Array Value) (d:TypeDesc) (v:Value)
  (hp:tmps.getD p undef=pq g 0) (hq:tmps.getD q undef=v) (hg:Bk w g t cs)
  (hu:P.underlying ty=some d) (hd:(match d with | .struct _ | .array _ _=>true | _=>false)=true) (hi:(P.info? ty).map (·.size)=some cs.size) :
  (results fn tmps).run P w=.ok (.tuple #[.agg cs,v]) w:=by
 have hp':tmps[p]?.getD undef=pq g 0:=by simpa using hp
 have hq':tmps[q]?.getD undef=v:=by simpa using hq
 simp[results,h,hp',hq',asAddr,run_loadVar_row w g t ty cs (0,0) d hg hu hd hi]
def msZ:Array Value:=#[iv 0,uv 0,iv 0,.string ⟨#[]⟩,iv 0,iv 0,iv 0,uv 0,iv 0,iv 0,iv 0,bf,iv 0,iv 0,.string ⟨#[]⟩,sn,uv 0,iv 0,iv 0,iv 0,iv 0,sn,sn,sn,iv 0,iv 0,iv 0,iv 0,uv 0,iv 0,bf,bf,iv 0,sn,iv 0,iv 0,sn,sn,sn]
theorem msZ_zero {w:World}:MsR false (fun _=>False) w Ms.zero msZ.toList:=by
 have n:∀ {α:Type} {R:Rel α} {tE:TypeId} {sz:Nat},LsR R tE sz false (fun _=>False) w none 0 ([]:List α):=fun {α} {R} {tE} {sz}=>by
  unfold LsR;rw[if_neg (by simp)];exact⟨[],World.ownsRow_nil _ _ _ _,Els.nil _ _ _⟩
 exact⟨none,0,none,0,none,0,none,0,none,0,none,0,none,0,none,0,rfl,n,n,n,n,n,n,n,n⟩
def dms (l:List Int):Ms × Int:=if (qn5 ⟨l,0⟩).2.e=0∧(qn5 ⟨l,0⟩).2.b=[]∧msV (qn5 ⟨l,0⟩).1=true then ((qn5 ⟨l,0⟩).1,0) else (Ms.zero,11)
/-- what Decode leaves -/
def DcP (w:World) (T:Ms × Int) (e:Ending) (w':World):Prop:=∃ r,e=.returned (.tuple #[.agg r.toArray,iv T.2])∧MsI w' T.1 r∧bw w w'
end
section
open Go.RowKit
attribute [local go_sem] Oper.semAt_some
theorem zero_msP:msP Ms.zero:=by
 obtain⟨zp,zi,zs,zr,zl,zc,za,zq⟩:=zero_p;exact⟨zi,zi,zi,zi,zp,zs,zr,zl,zc,za,zq⟩
theorem msOne {N:Nat→Prop} {w:World} {x:Ms} {r:List Value} {m:Bool} (h:MsR m N w x r):r.toArray.all (·.oneCell')=true:=by
 obtain⟨A1,c1,A2,c2,A3,c3,A4,c4,A5,c5,A6,c6,A7,c7,A8,c8,rfl,_⟩:=h
 kernel_rfl
section
variable {w:World} {A:Option Addr} {c:Nat} {l:List Int}
theorem Decode_any (h:Sl w 1 A l.length (qh2 l)) (hc:l.length≤c) (h8:B8 l) (hl:l.length≤2147483648):Calls Tryz.prog 15 #[.slice A l.length c] w (DcP w (dms l)):=by
 obtain⟨w0,hw0⟩:∃ w0,w0=w.alloc (.cells msZ 42):=⟨_,rfl⟩
 obtain⟨g0,hg0⟩:∃ g0,g0=w.heap.size:=⟨_,rfl⟩
 have hb0:bw w w0:=by rw[hw0];exact qa2 _ _
 have hr0:Bk w0 g0 42 msZ:=by rw[hw0,hg0];exact Bk.new _ _ _
 have hz0:w0.heap.size=g0+1:=by rw[hw0,hg0];simp
 have cN:=NewReader_any (c:=c) (h.below hb0) h8 (by omega) (by omega);have H0:=lh (And.intro hb0 (And.intro hr0 (And.intro hz0 hg0)));have HS:=lh (And.intro h (And.intro hc (And.intro h8 hl)))
 obtain⟨T,hT⟩:∃ T:Ms × Int,T=dms l:=⟨_,rfl⟩
 rw[← hT];have HT:=lh hT;clear h hc h8 hl hb0 hr0 hz0 hT;unfold msZ at hw0
 go_enter Tryz.func15,Tryz.ntmps15
 go_upto_region 1 with fail
 rw[← hw0,← hg0];clear hw0 hg0
 go_wp2_with fail
 refine cN.mono ?_;rintro e w1 ⟨g,bb,rfl,hbg,hwg,hx1,hb1⟩
 obtain⟨w2,hw2⟩:∃ w2,w2=w1.alloc (.cells #[sn,pq g 0] 82):=⟨_,rfl⟩
 obtain⟨gf,hgf⟩:∃ gf,gf=w1.heap.size:=⟨_,rfl⟩
 obtain⟨w3,hw3⟩:∃ w3,w3=w2.alloc (.cells msZ 42):=⟨_,rfl⟩
 obtain⟨xr,hxr⟩:∃ xr,xr=w2.heap.size:=⟨_,rfl⟩
 have hb2:bw w1 w2:=by rw[hw2];exact qa2 _ _
 have hb3:bw w2 w3:=by rw[hw3];exact qa2 _ _
 have hf2:Bk w2 gf 82 #[sn,pq g 0]:=by rw[hw2,hgf];exact Bk.new _ _ _
 have hx3:Bk w3 xr 42 msZ.toList.toArray:=by rw[hw3,hxr];exact Bk.new _ _ _
 have hgl:g < w1.heap.size:=by obtain⟨cs,hcs⟩:=hx1.bkq;exact hcs.lt
 have hz2:w2.heap.size=gf+1:=by rw[hw2,hgf];simp
 have hr3:=((H0.o.2.1.below hb1 H0.o.2.1.lt).below hb2 (Nat.lt_of_lt_of_le H0.o.2.1.lt hb1.size)).below hb3 (by have:=H0.o.2.1.lt;have:=hb1.size;have:=hb2.size;omega);have HN:Hid (g0 < g∧bb < g∧g < gf∧gf < xr):=lh (by have:=H0.o.2.2.1;omega);have HB3:Hid (bw w w3):=lh (H0.o.1.trans (((hb1.trans (hb2.mono hb1.size)).trans (hb3.mono (Nat.le_trans hb1.size hb2.size))).mono (by have:=H0.o.2.2;omega)));have cM:=qs2 (E:=⟨gf,g,bb⟩) (N:=fun _=>False) (x:=Ms.zero) (s:=.r ⟨l,0⟩) (t:=42) (b:=xr) (pre:=[]) (post:=[]) (o:=0) (r:=msZ.toList) (Fm.read (E:=⟨gf,g,bb⟩) (hf2.below hb3 hf2.lt) ((hx1.below hb2).below hb3) (show g < gf by have:=HN.o;omega) (show bb < w3.heap.size by have:=hb2.size;have:=hb3.size;have:=HN.o;omega)) msZ_zero (Hd.rbox (E:=⟨gf,g,bb⟩) hx3 (by have:=HN.o;show xr≠gf;omega) (by have:=HN.o;show xr≠g;omega) (by have:=HN.o;show xr≠bb;omega)) rfl (fun _=>⟨rfl,rfl⟩) (by decide) (by decide) (by decide) (by decide) (by decide) zero_msP trivial;have hs:stp qe6 qn5 (.r ⟨l,0⟩) Ms.zero=(.r (qn5 ⟨l,0⟩).2,(qn5 ⟨l,0⟩).1):=rfl;rw[hs] at cM;dsimp only at cM
 obtain⟨⟨y,rd⟩,hy⟩:∃ p,p=qn5 ⟨l,0⟩:=⟨_,rfl⟩
 rw[← hy] at cM;dsimp only at cM;have hty:T=if rd.e=0∧rd.b=[]∧msV y=true then (y,0) else (Ms.zero,11):=by rw[HT.o];unfold dms;rw[← hy]
 have HY:=lh (And.intro hty hy);have HR3:=lh hr3;have hxe:xr=gf+1:=by rw[hxr,hz2]
 clear hs hy hty hr3 hx3 hf2 hb2 hb3 hx1 hb1 hgl hbg hwg cN hz2;unfold msZ at hw3
 go_upto_region 3 with fail
 rw[← hgf,← hw2,← hw3,← hxe];clear hw2 hw3 hgf hxr hxe
 go_wp2_with fail
 refine cM.mono ?_;rintro e w4 ⟨rfl,hF4,⟨r4,hm4,hH4⟩,hfr4⟩;have hx4:=hH4.bk
 have hk4:Kp (fun k=>k=g ∨ k=xr) w3 w4:=by
  have:=hfr4;unfold Fr at this;rw[show(Fs.r ⟨l,0⟩).md=false from rfl,qe5] at this;exact this
 have hr4:=HR3.o.kp hk4 (fun h=>by have:=HN.o;omega);have f1:cl w4 gf 1 (pq g 0):=hF4.1.cell 1;have cD:=Done_any hF4.2.1;have HB4:Hid (bw w w4):=lh (hk4.toBelow HB3.o HB3.o.size fun k h=>by have:=HN.o;have:=H0.o.2.2.2;omega)
 have hsz:r4.toArray.toList.length=39:=by
  obtain⟨A1,c1,A2,c2,A3,c3,A4,c4,A5,c5,A6,c6,A7,c7,A8,c8,rfl,_⟩:=hm4
  rfl
 obtain⟨M,hM⟩:∃ M,M=r4.toArray:=⟨_,rfl⟩
 rw[← hM] at hx4 hsz;have HSZ:=lh hsz;have HM:=lh hM;have HM4:Hid (MsR false (fun _=>False) w4 y r4):=lh hm4;have HX4:=lh hx4;have HR4:=lh hr4
 obtain⟨dn,hdn⟩:∃ dn,dn=(if rd.e=0∧rd.b≠[] then 11 else rd.e):=⟨_,rfl⟩
 rw[← hdn] at cD;have HDN:=lh hdn;clear cM hF4 hH4 hfr4 hx4 hk4 hr4 hdn hm4 hM hsz
 go_wp2_with fail
 refine cD.mono ?_;rintro e w5 ⟨rfl,rfl⟩;clear cD f1
 by_cases hz:dn=0
 ·have hrb:rd.e=0∧rd.b=[]:=by
   rw[HDN.o] at hz
   split at hz
   ·exact absurd hz (by decide)
   ·rename_i h
    refine⟨hz,?_⟩
    by_cases hb:rd.b=[]
    ·exact hb
    ·exact absurd ⟨hz,hb⟩ h
  subst hz;have hbw:=codMs.bw ⟨l,0⟩ HS.o.2.2.1 (by rw[← HY.o.2];exact hrb.1);rw[← HY.o.2] at hbw;dsimp only at hbw;rw[hrb.2,List.append_nil] at hbw;have HBW:=lh hbw;have hT2:T=if msV y=true then (y,0) else (Ms.zero,11):=by rw[HY.o.1];simp[hrb]
  have cV:Calls Tryz.prog 12 #[.agg M] w4 (qe7 w4 (msV y)):=by rw[HM.o];exact qv6 (HM4.o.toI HBW.o.2.2) HBW.o.2.2 (by rw[← HBW.o.2.1];exact HS.o.2.2.2)
  clear hrb hbw
  cases hv:msV y with
  | false =>
   rw[hv] at cV hT2;have HTE:=lh (show T=(Ms.zero,11) from hT2);clear hT2 hv
   go_wp2_with (first | (refine qb1 rfl _ _ rfl xr 0 rfl M.toList _ HX4.o.rng rfl rfl (by rw[HSZ.o];rfl) ?_;simp only[Array.toArray_toList]) | fail)
   refine cV.mono ?_;rintro e w5 ⟨rfl,hb5⟩;have HR5:=lh (HR4.o.below hb5 HR4.o.lt);have HB5:=lh (HB4.o.trans (hb5.mono HB4.o.size));clear cV hb5
   go_upto_region 5 with fail
   refine wp_region_list ?_
   go_wp2_with (first | (refine wpList_build rfl _ _ rfl (by kernel_rfl) ?_) | (refine wpList_store_row rfl _ _ _ rfl g0 msZ rfl (by kernel_rfl) _ _ HR5.o (by kernel_rfl) (by kernel_rfl) (by kernel_rfl) ?_) | fail)
   try simp only[Exit.inBlock,Exit.then]
   refine bodyPost_ret (v:=.tuple #[.agg msZ,iv 11]) (qk5 (P:=Tryz.prog) rfl _ _ g0 42 msZ _ _ rfl rfl (setRow_heap _ _ _ _ _ _ HR5.o) rfl rfl (by kernel_rfl)) rfl ?_;rw[HTE.o];refine⟨msZ.toList,by simp,msZ_zero.toI zero_msP,(Kp.setRow (S:=fun k=>k=g0) _ g0 msZ rfl).toBelow HB5.o HB5.o.size fun k e=>by have:=H0.o.2.2.2;omega⟩
  | true =>
   rw[hv,if_pos rfl] at hT2;rw[hv] at cV;have HTE:=lh hT2;clear hT2 hv
   go_wp2_with (first | (refine qb1 rfl _ _ rfl xr 0 rfl M.toList _ HX4.o.rng rfl rfl (by rw[HSZ.o];rfl) ?_;simp only[Array.toArray_toList]) | fail)
   refine cV.mono ?_;rintro e w5 ⟨rfl,hb5⟩;have HR5:=lh (HR4.o.below hb5 HR4.o.lt);have HX5:=lh (HX4.o.below hb5 HX4.o.lt);have HB5:=lh (HB4.o.trans (hb5.mono HB4.o.size));have HK5:Hid (Kp (fun k=>k=g0) w4 w5):=lh (Kp.of_below hb5);have cE:Calls Tryz.prog 28 #[.agg M] w5 (EncP w5 l):=by rw[HM.o];have:=qk9 ((HM4.o.toI HBW.o.2.2).below hb5) HBW.o.2.2 (by rw[← HBW.o.2.1];exact HS.o.2.2.2);rw[← HBW.o.2.1] at this;exact this
   clear cV hb5
   go_wp2_with (first | (refine qb1 rfl _ _ rfl xr 0 rfl M.toList _ HX5.o.rng rfl rfl (by rw[HSZ.o];rfl) ?_;simp only[Array.toArray_toList]) | fail)
   refine cE.mono ?_;rintro e w6 ⟨v6,rfl,ho6,hb6⟩;obtain⟨A6,c6,rfl,_⟩:=qc1 ho6;have HB6:=lh (HB5.o.trans (hb6.mono HB5.o.size));have HR6:=lh (HR5.o.below hb6 HR5.o.lt);have HX6:=lh (HX5.o.below hb6 HX5.o.lt);have HK6:Hid (Kp (fun k=>k=g0) w4 w6):=lh (HK5.o.trans (Kp.of_below hb6) fun _ _ h=>h);have cQ:=EqBts_any (c:=c6) (d:=c) (own_sl ho6) (HS.o.1.below HB6.o) (own_le ho6) HS.o.2.1 (Nat.le_trans HS.o.2.2.2 (by decide)) (Nat.le_trans HS.o.2.2.2 (by decide));rw[decide_eq_true rfl] at cQ;clear cE ho6 hb6
   go_wp2_with fail
   refine cQ.mono ?_;rintro e w7 ⟨rfl,hb7⟩;have HB7:=lh (HB6.o.trans (hb7.mono HB6.o.size));have HR7:=lh (HR6.o.below hb7 HR6.o.lt);have HX7:=lh (HX6.o.below hb7 HX6.o.lt);have HK7:Hid (Kp (fun k=>k=g0) w4 w7):=lh (HK6.o.trans (Kp.of_below hb7) fun _ _ h=>h);clear cQ hb7
   go_upto_region 6 with fail
   refine wp_region_list ?_;have hsm:M.size=39:=by have:=HSZ.o;rwa [Array.length_toList] at this
   have HSM:=lh hsm;have HV:=lh (msOne HM4.o);clear hsm;refine wpList_load_mid rfl _ _ rfl xr 0 rfl M.toList _ HX7.o.rng rfl rfl (by rw[HSZ.o];rfl) ?_;simp only[Array.toArray_toList,Act.put,List.setIfInBounds_toArray,List.set_cons_succ,List.set_cons_zero];refine wpList_store_row (P:=Tryz.prog) rfl 42 _ _ rfl g0 M rfl rfl _ _ HR7.o (by rw[HSM.o];rfl) (by rw[HSM.o];rfl) (by rw[HM.o];exact HV.o) ?_
   go_wp2_with fail
   try simp only[Exit.inBlock,Exit.then]
   refine bodyPost_ret (v:=.tuple #[.agg M,iv 0]) (qk5 (P:=Tryz.prog) rfl _ _ g0 42 M _ _ rfl rfl (setRow_heap _ _ _ _ _ _ HR7.o) rfl rfl (by rw[HSM.o];rfl)) rfl ?_;rw[HTE.o];have hk8:Kp (fun k=>k=g0) w7 (w7.setRow g0 M):=Kp.setRow _ g0 M rfl;refine⟨r4,by rw[HM.o],(msR_rk.rd HM4.o (HK7.o.trans hk8 fun _ _ h=>h) fun k hk=>⟨42,msZ,by rw[hk];exact HR4.o,by unfold msBad;decide⟩).toI HBW.o.2.2,hk8.toBelow HB7.o HB7.o.size fun k e=>by have:=H0.o.2.2.2;omega⟩
 ·have q0:(dn != 0)=true:=by simpa using hz
  have hTe:T=(Ms.zero,11):=by
   rw[HY.o.1,if_neg];rintro⟨a1,a2,_⟩;rw[HDN.o,if_neg (fun h=>h.2 a2)] at hz;exact hz a1
  have HTE:=lh hTe;clear hz hTe
  go_upto_region 5 with fail
  refine wp_region_list ?_
  go_wp2_with (first | (refine wpList_build rfl _ _ rfl (by kernel_rfl) ?_) | (refine wpList_store_row rfl _ _ _ rfl g0 msZ rfl (by kernel_rfl) _ _ HR4.o (by kernel_rfl) (by kernel_rfl) (by kernel_rfl) ?_) | fail)
  try simp only[Exit.inBlock,Exit.then]
  refine bodyPost_ret (v:=.tuple #[.agg msZ,iv 11]) (qk5 (P:=Tryz.prog) rfl _ _ g0 42 msZ _ _ rfl rfl (setRow_heap _ _ _ _ _ _ HR4.o) rfl rfl (by kernel_rfl)) rfl ?_;rw[HTE.o];refine⟨msZ.toList,by simp,msZ_zero.toI zero_msP,(Kp.setRow (S:=fun k=>k=g0) _ g0 msZ rfl).toBelow HB4.o HB4.o.size fun k e=>by have:=H0.o.2.2.2;omega⟩
end
end
section
open Go.RowKit Go.Sort
attribute [local go_sem] Oper.semAt_some
def dec (z:Int):ByteArray:=⟨(Lib.itoa z).toArray⟩
/-- the library's table of powers lies in the world -/
def Tb (w : World) : Prop := Lib.TabIs Tryz.prog w "internal/strconv.uint64pow10" .u64 Lib.pow10Tab
theorem Tb.below {w w':World} (h:Tb w) (hb:bw w w'):Tb w':=Lib.tabBelow_of_tabIs h w' hb
/-- what a function that returns a text leaves -/
def TxP (w:World) (s:ByteArray) (e:Ending) (w':World):Prop:=e=.returned (.string s)∧bw w w'
theorem qd2 (z:Int) (h0:-9223372036854775808≤z) (h1:z≤9223372036854775807):(dec z).size≤21:=by
 have:=Lib.itoa_length_le z h0 h1
 simpa [dec,ByteArray.size] using this
theorem dec_nat (u:Nat):(⟨(Lib.decDigits u).toArray⟩:ByteArray)=dec (u:Int):=by unfold dec;rw[Lib.itoa_nonneg]
theorem qb3 {u:Int} (h0:0≤u) (h1:u < 18446744073709551616):(dec u).size≤20:=by
 obtain⟨n,rfl⟩:∃ n:Nat,u=n:=⟨u.toNat,by omega⟩
 rw[← dec_nat]
 show(Lib.decDigits n).length≤20
 rw[Lib.decDigits_length]
 by_cases h:n=0
 ·subst h;rw[Lib.nDigits_small (by omega)];omega
 ·have:=Lib.numDigits_eq n (by omega) (by omega)
  split at this <;> omega
theorem qh3 (n:Int) (h0:-9223372036854775808≤n) (h1:n≤9223372036854775807) (w:World) (ht:Tb w):Calls Tryz.prog 83 #[iv n] w (TxP w (dec n)) :=
 (Tryz.strconv_Itoa n h0 h1 w ht).mono fun e w' ⟨he,k,os,hw⟩=>⟨he,hw ▸ Lib.below_grow _ _ (Nat.le_refl _) _ _⟩
theorem FormatInt_any (n:Int) (h0:-9223372036854775808≤n) (h1:n≤9223372036854775807) (w:World) (ht:Tb w):Calls Tryz.prog 142 #[iv n,iv 10] w (TxP w (dec n)) :=
 (Tryz.strconv_FormatInt_10 n h0 h1 w ht).mono fun e w' ⟨he,k,os,hw⟩=>⟨he,hw ▸ Lib.below_grow _ _ (Nat.le_refl _) _ _⟩
theorem IFormatUint (u:Nat) (hu64:u < 18446744073709551616) (w:World) (ht:Tb w):Calls Tryz.prog 163 #[uv u,iv 10] w (TxP w (dec u)):=by
 by_cases hs:u < 100
 ·have HD:Hid ((⟨(Lib.decDigits u).toArray⟩:ByteArray)=dec u):=lh (dec_nat u)
  obtain⟨d,hd⟩:∃ d,d=dec (u:Int):=⟨_,rfl⟩
  rw[← hd] at HD ⊢;have hlt:(u:Int) < 100:=by omega
  have cS:=Tryz.internal_strconv_small u hs w;rw[HD.o] at cS;clear hd ht
  go_enter Tryz.func163,Tryz.ntmps163
  go_wp2_with (go_at_call 178;refine cS.mono ?_;rintro e w' ⟨rfl,rfl⟩)
  go_ret;exact⟨rfl,Below.refl _ _⟩
 ·have hu1:1≤u:=by omega
  have hge:(100:Int)≤(u:Int):=by omega
  have hnd20:Lib.nDigits u≤20:=by have:=Lib.numDigits_eq u hu1 hu64;split at this <;> omega
  have hsl:∀ W,(Instr.sliceAt 194 (pq w.heap.size 0) none (some (iv (Lib.nDigits u:Int))) none).run Tryz.prog W=.ok (.slice (some ⟨w.heap.size,0,none⟩) (Lib.nDigits u) 24) W:=fun W=>by
   rw[run_sliceAt_array_h W 194 ⟨w.heap.size,0,none⟩ (by rfl) .i64 (Lib.nDigits u:Int) (by omega) (by show _≤(24:Int);omega)];rw[show Program.arrayLen Tryz.prog 194=24 from rfl];go_simp
  have hH0:=Lib.holds_zero0 w 194 (Lib.nDigits u) (by omega);have hfmt:=Tryz.internal_strconv_formatBase10 w.heap.size 0 24 u (Array.replicate (Lib.nDigits u) 0) (w.alloc (.cells Lib.zeros24 194)) hH0 (by rw[Array.size_replicate];exact Lib.lt_pow_nDigits u) hu64 (by rw[Array.size_replicate];omega);rw[Array.size_replicate] at hfmt;have HH0:=lh hH0;have cN:=Tryz.internal_strconv_numDigits u hu1 hu64 (w.alloc (.cells Lib.zeros24 194)) (Lib.tabIs_alloc ht _);clear hH0 ht
  go_enter Tryz.func163,Tryz.ntmps163
  go_wp2_with (go_at_call 179;refine cN.mono ?_;rintro e w' ⟨rfl,rfl⟩)
  refine hfmt.mono ?_;rintro e w' ⟨rfl,k,v',dk,rfl,hF⟩
  obtain⟨W2,hW2⟩:∃ W2,W2=(putRow (fun(b:UInt8)=>Value.int .u8 (b.toNat:Int)) (w.alloc (.cells Lib.zeros24 194)) w.heap.size 0 dk).drewN k:=⟨_,rfl⟩
  have hcv:(convert 45 9 (.slice (some ⟨w.heap.size,0,none⟩) (Lib.nDigits u) 24)).run Tryz.prog W2=.ok (.string ⟨(Lib.decDigits u).toArray⟩) W2:=by
   have h:=run_convert_bytes_back (P:=Tryz.prog) W2 45 9 5 ⟨w.heap.size,0,none⟩ 24 (Lib.decDigits u) rfl rfl rfl (fun j hj=>by
    rw[hW2,Lib.row_is_numeral hF j hj,Lib.add_plain,World.cell?_drewN]
    exact cell?_putRow (fun(b:UInt8)=>Value.int .u8 (b.toNat:Int)) _ w.heap.size 0 _ dk HH0.o (by rw[hF.size,Array.size_replicate]) j (by rw[hF.size];rw[Lib.decDigits_length] at hj;exact hj))
   rw[Lib.decDigits_length] at h;exact h
  rw[dec_nat] at hcv;have HB:Hid (bw w W2):=lh (by obtain⟨os,eo⟩:=Lib.fin_at w (.cells Lib.zeros24 194) dk k 0;rw[hW2,eo];exact Lib.below_grow _ _ (Nat.le_refl _) _ _);rw[← hW2];clear hW2 HH0 hfmt cN
  go_wp2_with fail
  go_ret;exact⟨rfl,HB.o⟩
theorem FormatUint_any {u:Int} (h:P64 u) (w:World) (ht:Tb w):Calls Tryz.prog 131 #[uv u,iv 10] w (TxP w (dec u)):=by
 obtain⟨n,rfl⟩:∃ n:Nat,u=n:=⟨u.toNat,by have:=h.1;omega⟩
 have cI:=IFormatUint n (by have:=h.2;omega) w ht;clear h ht
 go_enter Tryz.func131,Tryz.ntmps131
 go_wp2_with (go_at_call 163;refine cI.mono ?_;rintro e w' ⟨rfl,hb⟩)
 go_ret;exact⟨rfl,hb⟩
theorem qn7 {u:Int} (h:P64 u) (w:World) (ht:Tb w):Calls Tryz.prog 76 #[uv u] w (TxP w (dec u)):=by
 have cI:=FormatUint_any h w ht;clear h ht
 go_enter Tryz.func76,Tryz.ntmps76
 go_wp2_with (go_at_call 131;refine cI.mono ?_;rintro e w' ⟨rfl,hb⟩)
 go_ret;exact⟨rfl,hb⟩
end
section
open Go.ChangeShapes Go.WideShapes Go.ChangeAt Go.RowKit
theorem tb_of_laid {W:World} (h:laidMetH Tryz.prog Rows.refcodecRefBytesRow.laid W):Tb W:=by
 have h':laidMet Tryz.prog Rows.refcodecRefBytesRow.laid W:=h;obtain⟨ps,hl,_⟩:=h';obtain⟨g1,t1,cs1,f1,p1,q1,_,_,_,_,hl,_⟩:=hl;obtain⟨g2,t2,cs2,f2,p2,q2,_,_,_,_,hl,_⟩:=hl;obtain⟨g3,t3,cs3,f3,p3,q3,hg3,ht3,hv3,hd3,_,_⟩:=hl;have e3 : Tryz.prog.globalNamed "internal/strconv.uint64pow10" = some 0 := by kernel_rfl
 obtain rfl:=Option.some.inj (e3.symm.trans hg3);have u3:(Tryz.prog.globals[0]?).map (·.type)=some 205:=by kernel_rfl
 obtain rfl:=Option.some.inj (u3.symm.trans ht3);have c3:cs3.toList=Lib.pow10Tab.map fun z=>uv z:=Lib.cells_of_tab (k:=.u64) (zs:=Lib.pow10Tab) Tryz.underlying205 Tryz.underlying22 (by kernel_rfl) (by kernel_rfl) hd3;unfold Tb Lib.TabIs;rw[hv3]
 congr 1
 exact Array.toList_inj.1 (by rw[c3])
theorem own:ownKnob Tryz.prog.godebug=none:=by kernel_rfl
theorem laidOut:laidOutB Tryz.prog=true:=by kernel_rfl
theorem door_met (os:Os) (args:Array Value):laidMetH Tryz.prog Rows.refcodecRefBytesRow.laid ((World.doorLaid Tryz.prog 400 os).forCall (fun _ _=>0) ⟨#[],args,[]⟩).memory :=
 laidMetH_of_parts3 (fuel:=8) (laidMet_of_run' 8 (by kernel_rfl) (by kernel_rfl)) (by kernel_rfl) (by kernel_rfl)
end
end Go.Proofs.YtmbnlccafcfbeaaGreatDoor
