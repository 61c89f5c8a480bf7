/- Parts of the proof: RcP, RcM, RcA. -/
import Derived.Test.YtmbnlccafcfbeaaGreatDoorPfA
import Derived.Test.YtmbnlccafcfbeaaGreatDoorPf0
import Derived.Test.YtmbnlccafcfbeaaGreatDoorPf1
import Derived.Test.YtmbnlccafcfbeaaGreatDoorPf3
set_option linter.unusedVariables false
set_option linter.unusedSimpArgs false
set_option linter.unusedSectionVars false
set_option maxRecDepth 100000
set_option maxHeartbeats 64000000
namespace Go.Proofs.YtmbnlccafcfbeaaGreatDoor
section
section
variable {α β:Type} {ea:α→List Int} {eb:β→List Int} {da:Rd→α × Rd} {db:Rd→β × Rd} {P:α→Prop} {Q:β→Prop}
/-- one, and then another -/
def Rd.bi (da:Rd→α × Rd) (db:Rd→β × Rd) (r:Rd):(α × β) × Rd:=(((da r).1,(db (da r).2).1),(db (da r).2).2)
theorem qd7 (ha:Cod ea da P) (hb:Cod eb db Q):Cod (fun x:α × β=>ea x.1++eb x.2) (Rd.bi da db) fun x=>P x.1∧Q x.2:=by
 refine⟨fun x s h=>?_,fun r h=>ha.st _ (hb.st _ h),fun r h8 he=>?_⟩
 ·unfold Rd.bi;rw[List.append_assoc,ha.fw _ _ h.1];dsimp only;rw[hb.fw _ _ h.2]
 ·have h1:(db (da r).2).2.e=0:=he;have h2:=hb.st _ h1;obtain⟨a1,a2,a3⟩:=ha.bw r h8 h2;obtain⟨b1,b2,b3⟩:=hb.bw _ (ha.b8 h8 h2) h1;refine⟨a1,?_,a3,b3⟩
  show r.b=(ea (da r).1++eb (db (da r).2).1)++(db (da r).2).2.b
  rw[List.append_assoc,← b2,← a2]
theorem qq0 {mk:α→β} {fro:β→α} (h:Cod ea da P) (h1:∀ x,fro (mk x)=x) (h2:∀ x,mk (fro x)=x):Cod (fun x=>ea (fro x)) (fun r=>(mk (da r).1,(da r).2)) fun x=>P (fro x):=by
 refine⟨fun x s hx=>?_,h.st,fun r h8 he=>?_⟩
 ·show(mk (da ⟨ea (fro x)++s,0⟩).1,(da ⟨ea (fro x)++s,0⟩).2)=_
  rw[h.fw _ s hx,h2]
 ·obtain⟨a,b,c⟩:=h.bw r h8 he
  show r.e=0∧r.b=ea (fro (mk (da r).1))++(da r).2.b∧P (fro (mk (da r).1))
  rw[h1];exact⟨a,b,c⟩
theorem qu5 (hne:∀ x,1≤(ea x).length) {most:Int} (hm:most < 18446744073709551616) (h:Cod ea da P):Cod (qc6 ea) (Rd.list most da) fun l=>(l.length:Int)≤most∧∀ x∈l,P x:=by
 have hlen:∀ l:List α,l.length≤(l.flatMap ea).length:=fun l=>by
  induction l with
  | nil=>exact Nat.le_refl _
  | cons x k ih=>have:=hne x;rw[List.flatMap_cons,List.length_append,List.length_cons];omega
 refine⟨fun l s hl=>?_,fun r he=>?_,fun r h8 he=>?_⟩
 ·unfold Rd.list qc6;rw[List.append_assoc,Rd.count_fw (n:=(l.length:Int)) ⟨by omega,by omega⟩ hl.1 (by have:=hlen l;rw[List.length_append];omega)];dsimp only;rw[Int.toNat_natCast,rep_fw h l hl.2 s _ (Nat.le_refl _),List.take_length,List.drop_length]
  rfl
 ·have h0:∀ k,(rep da (r.count most).2 k).2.e=0→(r.count most).2.e=0:=fun k=>by
   induction k with
   | zero=>exact fun h=>h
   | succ k ih=>exact fun hk=>ih (h.st _ hk)
  have h1:=h0 _ he
  by_cases hr:r.e=0
  ·exact hr
  ·rw[Rd.count_e hr] at h1;exact h1
 ·have hc:(r.count most).2.e=0:=by
   have h0:∀ k,(rep da (r.count most).2 k).2.e=0→(r.count most).2.e=0:=fun k=>by
    induction k with
    | zero=>exact fun h=>h
    | succ k ih=>exact fun hk=>ih (h.st _ hk)
   exact h0 _ he
  obtain⟨g1,g2,g3,g4,g5,g6⟩:=Rd.count_bw h8 hc;obtain⟨k1,k2,k3,k4⟩:=rep_bw h g6 _ he;have hl:=qh8 da (r.count most).2 (r.count most).1.toNat;unfold P64 at g3;refine⟨g1,?_,?_,k3⟩
  ·show r.b=qc6 ea (rep da (r.count most).2 (r.count most).1.toNat).1++_
   unfold qc6;rw[hl,Int.toNat_of_nonneg g3.1,List.append_assoc];rw[g2]
   congr 1
  ·show((rep da (r.count most).2 (r.count most).1.toNat).1.length:Int)≤most
   rw[hl]
   omega
end
def qn3 (l:List Int):List Int:=l.flatMap qb7
structure Rf where
 kind:Int
 int:Int
 owner:Int
 number:Int
 idm:Int
 ids:Int
 cls:Int
 weak:Bool
 deriving DecidableEq
structure Lt where
 idm:Int
 ids:Int
 meth:ByteArray
 args:List Rf
 deriving DecidableEq
structure Wa where
 idm:Int
 ids:Int
 meth:ByteArray
 key:Int
 tgt:Rf
 deriving DecidableEq
structure Pc where
 number:Int
 idm:Int
 ids:Int
 kind:Int
 cls:Int
 fields:List Rf
 mail:List Lt
 watches:List Wa
 deriving DecidableEq
structure In where
 client:Int
 number:Int
 out:Int
 deriving DecidableEq
structure An where
 machine:Int
 owner:Int
 number:Int
 epoch:Int
 known:Bool
 rooted:Bool
 last:Int
 inset:List In
 deriving DecidableEq
structure Nd where
 peer:Int
 number:Int
 stamp:Int
 deriving DecidableEq
structure Cl where
 machine:Int
 epoch:Int
 stubs:List Nd
 scions:List Nd
 checks:List Nd
 deriving DecidableEq
structure Ms where
 kind:Int
 number:Int
 asker:Int
 name:ByteArray
 ref:Rf
 letter:Lt
 parcel:Pc
 tm:Int
 ts:Int
 answer:An
 claim:Cl
 deriving DecidableEq
abbrev mC (x : Ms) (A1 A2 A3 A4 A5 A6 A7 A8 : Option Go.Addr) (c1 c2 c3 c4 c5 c6 c7 c8 : Nat) : Array Go.Value := #[iv x.kind,uv x.number,iv x.asker,.string x.name,iv x.ref.kind,iv x.ref.int,iv x.ref.owner,uv x.ref.number,iv x.ref.idm,iv x.ref.ids,iv x.ref.cls,.bool x.ref.weak,iv x.letter.idm,iv x.letter.ids,.string x.letter.meth,.slice A1 x.letter.args.length c1,uv x.parcel.number,iv x.parcel.idm,iv x.parcel.ids,iv x.parcel.kind,iv x.parcel.cls,.slice A2 x.parcel.fields.length c2,.slice A3 x.parcel.mail.length c3,.slice A4 x.parcel.watches.length c4,iv x.tm,iv x.ts,iv x.answer.machine,iv x.answer.owner,uv x.answer.number,iv x.answer.epoch,.bool x.answer.known,.bool x.answer.rooted,iv x.answer.last,.slice A5 x.answer.inset.length c5,iv x.claim.machine,iv x.claim.epoch,.slice A6 x.claim.stubs.length c6,.slice A7 x.claim.scions.length c7,.slice A8 x.claim.checks.length c8]
def Rf.zero:Rf:=⟨0,0,0,0,0,0,0,false⟩
def Lt.zero:Lt:=⟨0,0,⟨#[]⟩,[]⟩
def Wa.zero:Wa:=⟨0,0,⟨#[]⟩,0,Rf.zero⟩
def Pc.zero:Pc:=⟨0,0,0,0,0,[],[],[]⟩
def In.zero:In:=⟨0,0,0⟩
def An.zero:An:=⟨0,0,0,0,false,false,0,[]⟩
def Nd.zero:Nd:=⟨0,0,0⟩
def Cl.zero:Cl:=⟨0,0,[],[],[]⟩
def Ms.zero:Ms:=⟨0,0,0,⟨#[]⟩,Rf.zero,Lt.zero,Pc.zero,0,0,An.zero,Cl.zero⟩
def qc0 (x:Rf):List Int:=qb7 x.kind++qb7 x.owner++qb7 x.cls++qb7 x.int++qd8 x.number++(qb7 x.idm++qb7 x.ids)++qk0 x.weak
def qc8 (x:Lt):List Int:=(qb7 x.idm++qb7 x.ids)++qj9 x.meth++qc6 qc0 x.args
def qe1 (x:Wa):List Int:=(qb7 x.idm++qb7 x.ids)++qj9 x.meth++qb7 x.key++qc0 x.tgt
def qg8 (x:Pc):List Int:=qd8 x.number++(qb7 x.idm++qb7 x.ids)++(qb7 x.kind++qb7 x.cls)++qc6 qc0 x.fields++qc6 qc8 x.mail++qc6 qe1 x.watches
def qe0 (x:In):List Int:=(qb7 x.client++qb7 x.out)++qd8 x.number
def qg7 (x:An):List Int:=(qb7 x.machine++qb7 x.owner++qb7 x.epoch++qb7 x.last)++qd8 x.number++qk0 x.known++qk0 x.rooted++qc6 qe0 x.inset
def qd4 (x:Nd):List Int:=(qb7 x.peer++qb7 x.stamp)++qd8 x.number
def qg5 (x:Cl):List Int:=(qb7 x.machine++qb7 x.epoch)++qc6 qd4 x.stubs++qc6 qd4 x.scions++qc6 qd4 x.checks
def qe6 (x:Ms):List Int:=(qb7 x.kind++qb7 x.asker++qb7 x.tm++qb7 x.ts)++qd8 x.number++qj9 x.name++qc0 x.ref++qc8 x.letter++qg8 x.parcel++qg7 x.answer++qg5 x.claim
def qd3 (r:Rd):Rf × Rd :=
 let a:=r.i;let b:=a.2.i;let c:=b.2.i;let d:=c.2.i;let e:=d.2.u;let f:=e.2.i;let g:=f.2.i;let h:=g.2.bool
 (⟨a.1,d.1,b.1,e.1,f.1,g.1,c.1,h.1⟩,h.2)
def qf2 (r:Rd):Lt × Rd :=
 let a:=r.i;let b:=a.2.i;let c:=b.2.text 4096;let d:=c.2.list 1024 qd3
 (⟨a.1,b.1,c.1,d.1⟩,d.2)
def qf8 (r:Rd):Wa × Rd :=
 let a:=r.i;let b:=a.2.i;let c:=b.2.text 4096;let d:=c.2.i;let e:=qd3 d.2
 (⟨a.1,b.1,c.1,d.1,e.1⟩,e.2)
def qu0 (r:Rd):Pc × Rd :=
 let a:=r.u;let b:=a.2.i;let c:=b.2.i;let d:=c.2.i;let e:=d.2.i;let f:=e.2.list 1024 qd3;let g:=f.2.list 1024 qf2;let h:=g.2.list 1024 qf8
 (⟨a.1,b.1,c.1,d.1,e.1,f.1,g.1,h.1⟩,h.2)
def qf9 (r:Rd):In × Rd :=
 let a:=r.i;let b:=a.2.i;let c:=b.2.u
 (⟨a.1,c.1,b.1⟩,c.2)
def qu4 (r:Rd):An × Rd :=
 let a:=r.i;let b:=a.2.i;let c:=b.2.i;let d:=c.2.i;let e:=d.2.u;let f:=e.2.bool;let g:=f.2.bool;let h:=g.2.list 1024 qf9
 (⟨a.1,b.1,e.1,c.1,f.1,g.1,d.1,h.1⟩,h.2)
def qe9 (r:Rd):Nd × Rd :=
 let a:=r.i;let b:=a.2.i;let c:=b.2.u
 (⟨a.1,c.1,b.1⟩,c.2)
def qu3 (r:Rd):Cl × Rd :=
 let a:=r.i;let b:=a.2.i;let c:=b.2.list 1024 qe9;let d:=c.2.list 1024 qe9;let e:=d.2.list 1024 qe9
 (⟨a.1,b.1,c.1,d.1,e.1⟩,e.2)
def rfP (x:Rf):Prop:=I64 x.kind∧I64 x.owner∧I64 x.cls∧I64 x.int∧P64 x.number∧I64 x.idm∧I64 x.ids
theorem codRf:Cod qc0 qd3 rfP:=by
 have h:=qq0 (mk:=fun x:Int × Int × Int × Int × Int × Int × Int × Bool=>Rf.mk x.1 x.2.2.2.1 x.2.1 x.2.2.2.2.1 x.2.2.2.2.2.1 x.2.2.2.2.2.2.1 x.2.2.1 x.2.2.2.2.2.2.2) (fro:=fun x=>(x.kind,x.owner,x.cls,x.int,x.number,x.idm,x.ids,x.weak))
  (qd7 qo6 (qd7 qo6 (qd7 qo6 (qd7 qo6 (qd7 codU (qd7 qo6 (qd7 qo6 codB))))))) (fun x=>rfl) (fun x=>rfl)
 refine⟨fun x s hx=>?_,h.st,fun r h8 he=>?_⟩
 ·have:=h.fw x s ⟨hx.1,hx.2.1,hx.2.2.1,hx.2.2.2.1,hx.2.2.2.2.1,hx.2.2.2.2.2.1,hx.2.2.2.2.2.2,trivial⟩;unfold qc0;simp only[List.append_assoc] at this ⊢;exact this
 ·obtain⟨a,b,c⟩:=h.bw r h8 he;refine⟨a,?_,c.1,c.2.1,c.2.2.1,c.2.2.2.1,c.2.2.2.2.1,c.2.2.2.2.2.1,c.2.2.2.2.2.2.1⟩;unfold qc0;simp only[List.append_assoc] at b ⊢;exact b
theorem qg3 (n:Int):1≤(qd8 n).length:=by unfold qd8;simp
theorem encRf_one (x:Rf):1≤(qc0 x).length:=by unfold qc0 qb7;have:=qg3 (zz x.kind);simp only[List.length_append];omega
theorem encLt_one (x:Lt):1≤(qc8 x).length:=by unfold qc8 qb7;have:=qg3 (zz x.idm);simp only[List.length_append];omega
theorem encWa_one (x:Wa):1≤(qe1 x).length:=by unfold qe1 qb7;have:=qg3 (zz x.idm);simp only[List.length_append];omega
theorem encIn_one (x:In):1≤(qe0 x).length:=by unfold qe0 qb7;have:=qg3 (zz x.client);simp only[List.length_append];omega
theorem encNd_one (x:Nd):1≤(qd4 x).length:=by unfold qd4 qb7;have:=qg3 (zz x.peer);simp only[List.length_append];omega
def lP {α:Type} (P:α→Prop) (l:List α):Prop:=(l.length:Int)≤1024∧∀ x∈l,P x
def sP (s:ByteArray):Prop:=(s.size:Int)≤4096
theorem codT:Cod qj9 (Rd.text 4096) sP:=codS 4096 (by decide)
theorem codLRf:Cod (qc6 qc0) (Rd.list 1024 qd3) (lP rfP):=qu5 encRf_one (by decide) codRf
def ltP (x:Lt):Prop:=I64 x.idm∧I64 x.ids∧sP x.meth∧lP rfP x.args
theorem codLt:Cod qc8 qf2 ltP:=by
 have h:=qq0 (mk:=fun x:Int × Int × ByteArray × List Rf=>Lt.mk x.1 x.2.1 x.2.2.1 x.2.2.2) (fro:=fun x=>(x.idm,x.ids,x.meth,x.args)) (qd7 qo6 (qd7 qo6 (qd7 codT codLRf))) (fun x=>rfl) (fun x=>rfl);refine⟨fun x s hx=>?_,h.st,fun r h8 he=>?_⟩
 ·have:=h.fw x s hx;unfold qc8;simp only[List.append_assoc] at this ⊢;exact this
 ·obtain⟨a,b,c⟩:=h.bw r h8 he;refine⟨a,?_,c⟩;unfold qc8;simp only[List.append_assoc] at b ⊢;exact b
def waP (x:Wa):Prop:=I64 x.idm∧I64 x.ids∧sP x.meth∧I64 x.key∧rfP x.tgt
theorem codWa:Cod qe1 qf8 waP:=by
 have h:=qq0 (mk:=fun x:Int × Int × ByteArray × Int × Rf=>Wa.mk x.1 x.2.1 x.2.2.1 x.2.2.2.1 x.2.2.2.2) (fro:=fun x=>(x.idm,x.ids,x.meth,x.key,x.tgt)) (qd7 qo6 (qd7 qo6 (qd7 codT (qd7 qo6 codRf)))) (fun x=>rfl) (fun x=>rfl);refine⟨fun x s hx=>?_,h.st,fun r h8 he=>?_⟩
 ·have:=h.fw x s hx;unfold qe1;simp only[List.append_assoc] at this ⊢;exact this
 ·obtain⟨a,b,c⟩:=h.bw r h8 he;refine⟨a,?_,c⟩;unfold qe1;simp only[List.append_assoc] at b ⊢;exact b
theorem codLLt:Cod (qc6 qc8) (Rd.list 1024 qf2) (lP ltP):=qu5 encLt_one (by decide) codLt
theorem codLWa:Cod (qc6 qe1) (Rd.list 1024 qf8) (lP waP):=qu5 encWa_one (by decide) codWa
def pcP (x:Pc):Prop:=P64 x.number∧I64 x.idm∧I64 x.ids∧I64 x.kind∧I64 x.cls∧lP rfP x.fields∧lP ltP x.mail∧lP waP x.watches
theorem codPc:Cod qg8 qu0 pcP:=by
 have h:=qq0 (mk:=fun x:Int × Int × Int × Int × Int × List Rf × List Lt × List Wa=>Pc.mk x.1 x.2.1 x.2.2.1 x.2.2.2.1 x.2.2.2.2.1 x.2.2.2.2.2.1 x.2.2.2.2.2.2.1 x.2.2.2.2.2.2.2) (fro:=fun x=>(x.number,x.idm,x.ids,x.kind,x.cls,x.fields,x.mail,x.watches))
  (qd7 codU (qd7 qo6 (qd7 qo6 (qd7 qo6 (qd7 qo6 (qd7 codLRf (qd7 codLLt codLWa))))))) (fun x=>rfl) (fun x=>rfl)
 refine⟨fun x s hx=>?_,h.st,fun r h8 he=>?_⟩
 ·have:=h.fw x s hx;unfold qg8;simp only[List.append_assoc] at this ⊢;exact this
 ·obtain⟨a,b,c⟩:=h.bw r h8 he;refine⟨a,?_,c⟩;unfold qg8;simp only[List.append_assoc] at b ⊢;exact b
def inP (x:In):Prop:=I64 x.client∧I64 x.out∧P64 x.number
theorem codIn:Cod qe0 qf9 inP:=by
 have h:=qq0 (mk:=fun x:Int × Int × Int=>In.mk x.1 x.2.2 x.2.1) (fro:=fun x=>(x.client,x.out,x.number)) (qd7 qo6 (qd7 qo6 codU)) (fun x=>rfl) (fun x=>rfl);refine⟨fun x s hx=>?_,h.st,fun r h8 he=>?_⟩
 ·have:=h.fw x s hx;unfold qe0;simp only[List.append_assoc] at this ⊢;exact this
 ·obtain⟨a,b,c⟩:=h.bw r h8 he;refine⟨a,?_,c⟩;unfold qe0;simp only[List.append_assoc] at b ⊢;exact b
theorem codLIn:Cod (qc6 qe0) (Rd.list 1024 qf9) (lP inP):=qu5 encIn_one (by decide) codIn
def anP (x:An):Prop:=I64 x.machine∧I64 x.owner∧I64 x.epoch∧I64 x.last∧P64 x.number∧lP inP x.inset
theorem codAn:Cod qg7 qu4 anP:=by
 have h:=qq0 (mk:=fun x:Int × Int × Int × Int × Int × Bool × Bool × List In=>An.mk x.1 x.2.1 x.2.2.2.2.1 x.2.2.1 x.2.2.2.2.2.1 x.2.2.2.2.2.2.1 x.2.2.2.1 x.2.2.2.2.2.2.2) (fro:=fun x=>(x.machine,x.owner,x.epoch,x.last,x.number,x.known,x.rooted,x.inset))
  (qd7 qo6 (qd7 qo6 (qd7 qo6 (qd7 qo6 (qd7 codU (qd7 codB (qd7 codB codLIn))))))) (fun x=>rfl) (fun x=>rfl)
 refine⟨fun x s hx=>?_,h.st,fun r h8 he=>?_⟩
 ·have:=h.fw x s ⟨hx.1,hx.2.1,hx.2.2.1,hx.2.2.2.1,hx.2.2.2.2.1,trivial,trivial,hx.2.2.2.2.2⟩;unfold qg7;simp only[List.append_assoc] at this ⊢;exact this
 ·obtain⟨a,b,c⟩:=h.bw r h8 he;refine⟨a,?_,c.1,c.2.1,c.2.2.1,c.2.2.2.1,c.2.2.2.2.1,c.2.2.2.2.2.2.2⟩;unfold qg7;simp only[List.append_assoc] at b ⊢;exact b
def ndP (x:Nd):Prop:=I64 x.peer∧I64 x.stamp∧P64 x.number
theorem codNd:Cod qd4 qe9 ndP:=by
 have h:=qq0 (mk:=fun x:Int × Int × Int=>Nd.mk x.1 x.2.2 x.2.1) (fro:=fun x=>(x.peer,x.stamp,x.number)) (qd7 qo6 (qd7 qo6 codU)) (fun x=>rfl) (fun x=>rfl);refine⟨fun x s hx=>?_,h.st,fun r h8 he=>?_⟩
 ·have:=h.fw x s hx;unfold qd4;simp only[List.append_assoc] at this ⊢;exact this
 ·obtain⟨a,b,c⟩:=h.bw r h8 he;refine⟨a,?_,c⟩;unfold qd4;simp only[List.append_assoc] at b ⊢;exact b
theorem codLNd:Cod (qc6 qd4) (Rd.list 1024 qe9) (lP ndP):=qu5 encNd_one (by decide) codNd
def clP (x:Cl):Prop:=I64 x.machine∧I64 x.epoch∧lP ndP x.stubs∧lP ndP x.scions∧lP ndP x.checks
theorem codCl:Cod qg5 qu3 clP:=by
 have h:=qq0 (mk:=fun x:Int × Int × List Nd × List Nd × List Nd=>Cl.mk x.1 x.2.1 x.2.2.1 x.2.2.2.1 x.2.2.2.2) (fro:=fun x=>(x.machine,x.epoch,x.stubs,x.scions,x.checks)) (qd7 qo6 (qd7 qo6 (qd7 codLNd (qd7 codLNd codLNd)))) (fun x=>rfl) (fun x=>rfl);refine⟨fun x s hx=>?_,h.st,fun r h8 he=>?_⟩
 ·have:=h.fw x s hx;unfold qg5;simp only[List.append_assoc] at this ⊢;exact this
 ·obtain⟨a,b,c⟩:=h.bw r h8 he;refine⟨a,?_,c⟩;unfold qg5;simp only[List.append_assoc] at b ⊢;exact b
def msP (x:Ms):Prop:=I64 x.kind∧I64 x.asker∧I64 x.tm∧I64 x.ts∧P64 x.number∧sP x.name∧rfP x.ref∧ltP x.letter∧pcP x.parcel∧anP x.answer∧clP x.claim
def Rd.seq11 {t1:Type} {t2:Type} {t3:Type} {t4:Type} {t5:Type} {t6:Type} {t7:Type} {t8:Type} {t9:Type} {t10:Type} {t11:Type} (d1:Rd→t1 × Rd) (d2:Rd→t2 × Rd) (d3:Rd→t3 × Rd) (d4:Rd→t4 × Rd) (d5:Rd→t5 × Rd) (d6:Rd→t6 × Rd) (d7:Rd→t7 × Rd) (d8:Rd→t8 × Rd) (d9:Rd→t9 × Rd) (d10:Rd→t10 × Rd) (d11:Rd→t11 × Rd) (r:Rd):(t1 × t2 × t3 × t4 × t5 × t6 × t7 × t8 × t9 × t10 × t11) × Rd:=let a1:=d1 r;let a2:=d2 a1.2;let a3:=d3 a2.2;let a4:=d4 a3.2;let a5:=d5 a4.2;let a6:=d6 a5.2;let a7:=d7 a6.2;let a8:=d8 a7.2;let a9:=d9 a8.2;let a10:=d10 a9.2;let a11:=d11 a10.2;((a1.1,a2.1,a3.1,a4.1,a5.1,a6.1,a7.1,a8.1,a9.1,a10.1,a11.1),a11.2)
theorem Rd.seq11_bi {t1:Type} {t2:Type} {t3:Type} {t4:Type} {t5:Type} {t6:Type} {t7:Type} {t8:Type} {t9:Type} {t10:Type} {t11:Type} (d1:Rd→t1 × Rd) (d2:Rd→t2 × Rd) (d3:Rd→t3 × Rd) (d4:Rd→t4 × Rd) (d5:Rd→t5 × Rd) (d6:Rd→t6 × Rd) (d7:Rd→t7 × Rd) (d8:Rd→t8 × Rd) (d9:Rd→t9 × Rd) (d10:Rd→t10 × Rd) (d11:Rd→t11 × Rd) (r:Rd):Rd.bi d1 (Rd.bi d2 (Rd.bi d3 (Rd.bi d4 (Rd.bi d5 (Rd.bi d6 (Rd.bi d7 (Rd.bi d8 (Rd.bi d9 (Rd.bi d10 d11))))))))) r=Rd.seq11 d1 d2 d3 d4 d5 d6 d7 d8 d9 d10 d11 r:=rfl
def qn5 (r:Rd):Ms × Rd:=(fun p:(Int × Int × Int × Int × Int × ByteArray × Rf × Lt × Pc × An × Cl) × Rd=>(Ms.mk p.1.1 p.1.2.2.2.2.1 p.1.2.1 p.1.2.2.2.2.2.1 p.1.2.2.2.2.2.2.1 p.1.2.2.2.2.2.2.2.1 p.1.2.2.2.2.2.2.2.2.1 p.1.2.2.1 p.1.2.2.2.1 p.1.2.2.2.2.2.2.2.2.2.1 p.1.2.2.2.2.2.2.2.2.2.2,p.2)) (Rd.seq11 Rd.i Rd.i Rd.i Rd.i Rd.u (Rd.text 4096) qd3 qf2 qu0 qu4 qu3 r)
theorem qu1 (r:Rd):qn5 r=(fun p:(Int × Int × Int × Int × Int × ByteArray × Rf × Lt × Pc × An × Cl) × Rd=>(Ms.mk p.1.1 p.1.2.2.2.2.1 p.1.2.1 p.1.2.2.2.2.2.1 p.1.2.2.2.2.2.2.1 p.1.2.2.2.2.2.2.2.1 p.1.2.2.2.2.2.2.2.2.1 p.1.2.2.1 p.1.2.2.2.1 p.1.2.2.2.2.2.2.2.2.2.1 p.1.2.2.2.2.2.2.2.2.2.2,p.2)) (Rd.seq11 Rd.i Rd.i Rd.i Rd.i Rd.u (Rd.text 4096) qd3 qf2 qu0 qu4 qu3 r):=by unfold qn5;rfl
theorem codMs:Cod qe6 qn5 msP:=by
 have h:=qd7 qo6 (qd7 qo6 (qd7 qo6 (qd7 qo6 (qd7 codU (qd7 codT (qd7 codRf (qd7 codLt (qd7 codPc (qd7 codAn codCl)))))))));have hs:∀ r,_=_:=Rd.seq11_bi Rd.i Rd.i Rd.i Rd.i Rd.u (Rd.text 4096) qd3 qf2 qu0 qu4 qu3;refine⟨fun x s hx=>?_,fun r he=>?_,fun r h8 he=>?_⟩
 ·have:=h.fw (x.kind,x.asker,x.tm,x.ts,x.number,x.name,x.ref,x.letter,x.parcel,x.answer,x.claim) s hx;rw[hs] at this;unfold qe6;simp only[List.append_assoc] at this ⊢;rw[qu1,this]
 ·rw[qu1] at he;have h1:=h.st r;rw[hs] at h1;generalize Rd.seq11 Rd.i Rd.i Rd.i Rd.i Rd.u (Rd.text 4096) qd3 qf2 qu0 qu4 qu3 r=p at *;exact h1 he
 ·rw[qu1] at he ⊢;have h1:=h.bw r h8;rw[hs] at h1;generalize Rd.seq11 Rd.i Rd.i Rd.i Rd.i Rd.u (Rd.text 4096) qd3 qf2 qu0 qu4 qu3 r=p at *;obtain⟨a,b,c⟩:=h1 he;refine⟨a,?_,c⟩;unfold qe6;simp only[List.append_assoc] at b ⊢;exact b
end
section
open Go.RowKit
/-- the state of a form: what is written so far, or what is left to read -/
inductive Fs
 | w (l:List Int)
 | r (rd:Rd)
def Fs.md:Fs→Bool
 | .w _=>true
 | .r _=>false
def stp {α:Type} (enc:α→List Int) (dec:Rd→α × Rd):Fs→α→Fs × α
 | .w l,x=>(.w (l++enc x),x)
 | .r r,_=>(.r (dec r).2,(dec r).1)
theorem stp_md {α:Type} (enc:α→List Int) (dec:Rd→α × Rd) (s:Fs) (x:α):(stp enc dec s x).1.md=s.md:=by cases s <;> rfl
def Fs.fit:Fs→Nat→Prop
 | .w l,n=>l.length+n≤2147483648
 | .r _,_=>True
theorem Fs.fit.mono {s:Fs} {m n:Nat} (h:s.fit n) (hm:m≤n):s.fit m:=by
 cases s with
 | w l=>unfold Fs.fit at h ⊢;simp only at h ⊢;omega
 | r r=>trivial
theorem Fs.fit.next {α:Type} {enc:α→List Int} {dec:Rd→α × Rd} {s:Fs} {x:α} {n:Nat} (h:s.fit ((enc x).length+n)):(stp enc dec s x).1.fit n:=by
 cases s with
 | w l=>unfold Fs.fit at h;show(l++enc x).length+n≤_;rw[List.length_append];simp only at h;omega
 | r r=>trivial
structure Env where
 gf:Nat
 g:Nat
 bb:Nat
def Fm (E:Env) (N:Nat→Prop) (w:World):Fs→Prop
 | .w l=>∃ A c,Bk w E.gf 82 #[.slice A l.length c,.pointer none]∧w.ownsRow 0 5 1 (.slice A l.length c) l.length (qh2 l)∧(∀ k,(Value.slice A l.length c).ownBlock=some k→¬ N k)∧¬ N E.gf∧∀ k,N k→k < w.heap.size
 | .r r=>Bk w E.gf 82 #[sn,pq E.g 0]∧RdX w E.g E.bb r∧E.gf≠E.g∧E.bb < w.heap.size
def FrS (E:Env) (N:Nat→Prop) (b:Nat) (m:Bool) (k:Nat):Prop:=if m=true then ¬ N k else k=E.g ∨ k=b
def Fr (E:Env) (N:Nat→Prop) (b:Nat) (m:Bool) (w w':World):Prop:=Kp (FrS E N b m) w w'
def Hd (E:Env) (N:Nat→Prop) (t:TypeId) (b:Nat) (pre post:List Value) (m:Bool) (w:World) (r:List Value):Prop :=
 if m=true then N b∧∀ j v,r[j]?=some v→w.cell? ⟨b,pre.length+j,none⟩=some v∧w.frozen? ⟨b,pre.length+j,none⟩=false
 else Bk w b t (pre++r++post).toArray∧b≠E.gf∧b≠E.g∧b≠E.bb
/-- what a method of the form leaves -/
def StP (E:Env) (N:Nat→Prop) (t:TypeId) (b:Nat) (pre post:List Value) (s':Fs) (m:Bool) (r':List Value) (w:World) (e:Ending) (w':World):Prop :=
 e=.returned (.tuple #[])∧Fm E N w' s'∧Hd E N t b pre post m w' r'∧Fr E N b m w w'
section
variable {E:Env} {N:Nat→Prop} {t:TypeId} {b:Nat} {pre post r r1 r2 r3:List Value} {m:Bool} {w w' w2:World} {s:Fs}
theorem own_any {base base':Nat} {e:TypeId} {size n:Nat} {v:Value} {xs:List Value} (h:w.ownsRow base e size v n xs) (hv:∀ k,v.ownBlock=some k→base'≤k):w.ownsRow base' e size v n xs:=by
 obtain⟨h1,h2 | ⟨g,cap,cur,h2,h3,h4⟩⟩:=h
 ·exact⟨h1,.inl h2⟩
 ·subst h2;exact⟨h1,.inr ⟨g,cap,cur,rfl,hv g rfl,h4⟩⟩
theorem Fm.below (h:Fm E N w s) (hb:bw w w'):Fm E N w' s:=by
 cases s with
 | w l =>
  obtain⟨A,c,h1,h2,h3,h4,h5⟩:=h;exact⟨A,c,h1.below hb h1.lt,qj8 h2 fun k hk=>hb.block k (h2.lt k hk).2,h3,h4,fun k hk=>Nat.lt_of_lt_of_le (h5 k hk) hb.size⟩
 | r r=>exact⟨h.1.below hb h.1.lt,h.2.1.below hb,h.2.2.1,Nat.lt_of_lt_of_le h.2.2.2 hb.size⟩
theorem qd6 {w w':World} {a:Addr} (h:w'.heap[a.block]?=w.heap[a.block]?):w'.frozen? a=w.frozen? a:=by unfold World.frozen?;rw[h]
theorem Hd.kp {S:Nat→Prop} (h:Hd E N t b pre post m w r) (hk:Kp S w w') (hS:¬ S b):Hd E N t b pre post m w' r:=by
 unfold Hd at h ⊢
 cases m with
 | true =>
  rw[if_pos rfl] at h ⊢;refine⟨h.1,fun j v hv=>?_⟩;obtain⟨h1,h2⟩:=h.2 j v hv;refine⟨hk.cell h1 hS,?_⟩;rw[qd6 (hk.block b (qa4 h1) hS)];exact h2
 | false =>
  rw[if_neg (by simp)] at h ⊢;exact⟨h.1.kp hk hS,h.2⟩
theorem Hd.below (h:Hd E N t b pre post m w r) (hb:bw w w'):Hd E N t b pre post m w' r:=h.kp (S:=fun _=>False) (Kp.of_below hb) (fun h=>h)
theorem Hd.cell (h:Hd E N t b pre post m w r) {j:Nat} {v:Value} (hv:r[j]?=some v):w.cell? ⟨b,pre.length+j,none⟩=some v∧w.frozen? ⟨b,pre.length+j,none⟩=false:=by
 unfold Hd at h
 cases m with
 | true=>rw[if_pos rfl] at h;exact h.2 j v hv
 | false =>
  rw[if_neg (by simp)] at h;refine⟨?_,h.1.free _⟩;rw[h.1.cell];have hl:=(List.getElem?_eq_some_iff.1 hv).1;rw[List.getElem?_toArray,List.append_assoc,List.getElem?_append_right (by omega),List.getElem?_append_left (by omega),show pre.length+j - pre.length=j by omega,hv]
theorem Hd.sub (h:Hd E N t b pre post m w (r1++(r2++r3))):Hd E N t b (pre++r1) (r3++post) m w r2:=by
 cases m with
 | true =>
  unfold Hd;rw[if_pos rfl];have h':=h;unfold Hd at h';rw[if_pos rfl] at h';refine⟨h'.1,fun j v hv=>?_⟩;have hl:=(List.getElem?_eq_some_iff.1 hv).1;have:=h.cell (j:=r1.length+j) (v:=v) (by rw[List.getElem?_append_right (by omega),show r1.length+j - r1.length=j by omega,List.getElem?_append_left hl];exact hv);rw[List.length_append,Nat.add_assoc];exact this
 | false =>
  unfold Hd at h ⊢;rw[if_neg (by simp)] at h ⊢;refine⟨?_,h.2⟩;have:=h.1;simp only[List.append_assoc] at this ⊢;exact this
theorem Hd.back {r2':List Value} (h0:Hd E N t b pre post m w (r1++(r2++r3))) (hf:Fr E N b m w w') (hl:r2'.length=r2.length) (h:Hd E N t b (pre++r1) (r3++post) m w' r2'):Hd E N t b pre post m w' (r1++(r2'++r3)):=by
 cases m with
 | true =>
  have hb:N b:=by unfold Hd at h;rw[if_pos rfl] at h;exact h.1
  have h1:=h0.kp hf (by unfold FrS;rw[if_pos rfl];exact fun hn=>hn hb);unfold Hd;rw[if_pos rfl];refine⟨hb,fun j v hv=>?_⟩
  by_cases c1:j < r1.length
  ·refine h1.cell ?_;rw[List.getElem?_append_left c1] at hv ⊢;exact hv
  ·rw[List.getElem?_append_right (by omega)] at hv
   by_cases c2:j - r1.length < r2'.length
   ·rw[List.getElem?_append_left c2] at hv;have:=h.cell hv;rw[List.length_append,show pre.length+r1.length+(j - r1.length)=pre.length+j by omega] at this;exact this
   ·refine h1.cell ?_;rw[List.getElem?_append_right (by omega)] at hv;rw[List.getElem?_append_right (by omega),List.getElem?_append_right (by omega),← hl];exact hv
 | false =>
  unfold Hd at h ⊢;rw[if_neg (by simp)] at h ⊢;refine⟨?_,h.2⟩;have:=h.1;simp only[List.append_assoc] at this ⊢;exact this
theorem Fr.refl:Fr E N b m w w:=Kp.refl _ _
theorem Fr.trans (h:Fr E N b m w w') (h':Fr E N b m w' w2):Fr E N b m w w2:=Kp.trans h h' fun _ _ h=>h
theorem Fr.ofBelow (h:bw w w'):Fr E N b m w w':=Kp.of_below h
/-- a place of one cell, written -/
theorem bk_mid {x y:Value} (h:Bk w b t (pre++[x]++post).toArray):Bk (w.setCell ⟨b,pre.length,none⟩ y) b t (pre++[y]++post).toArray:=by
 have:=h.set pre.length y
 have e:(pre++[x]++post).toArray.setIfInBounds pre.length y=(pre++[y]++post).toArray:=by
  rw[List.setIfInBounds_toArray,List.append_assoc,List.append_assoc,List.set_append_right _ _ (Nat.le_refl _),Nat.sub_self]
  rfl
 rw[e] at this;exact this
end
end
section
open Go.RowKit
attribute [local go_sem] Oper.semAt_some
def LfD0 (E:Env) (N:Nat→Prop) (W:World) (l:List Int) (A:Option Addr) (c b o:Nat) (v:Value) (w:World):Prop:=Bk w E.gf 82 #[.slice A l.length c,.pointer none]∧w.ownsRow 0 5 1 (.slice A l.length c) l.length (qh2 l)∧w.cell? ⟨b,o,none⟩=some v∧Kp (fun k=>¬ N k) W w
def LfD1 (E:Env) (N:Nat→Prop) (W:World) (l':List Int) (A:Option Addr) (n c:Nat) (V:Value) (w:World):Prop:=Bk w E.gf 82 #[.slice A n c,.pointer none]∧w.ownsRow 0 5 1 V l'.length (qh2 l')∧(∀ k,V.ownBlock=some k→¬ N k)∧Kp (fun k=>¬ N k) W w
def LfD2 (E:Env) (N:Nat→Prop) (W:World) (l':List Int) (w:World):Prop:=∃ A c,Bk w E.gf 82 #[.slice A l'.length c,.pointer none]∧w.ownsRow 0 5 1 (.slice A l'.length c) l'.length (qh2 l')∧(∀ k,(Value.slice A l'.length c).ownBlock=some k→¬ N k)∧Kp (fun k=>¬ N k) W w
def LfS (D0:World→Prop) (D1:Value→World→Prop) (D2:World→Prop):List Value→World→Prop
 | []=>D0
 | [v]=>D1 v
 | _=>D2
section
variable {E:Env} {N:Nat→Prop} {W w w':World} {l l':List Int} {A:Option Addr} {c b o n:Nat} {v V:Value}
theorem LfD0.call {f:FuncId} {args:Array Value} {P:Program} (h:LfD0 E N W l A c b o v w) (hN:∀ k,(Value.slice A l.length c).ownBlock=some k→¬ N k) (hl:∀ k,N k→k < w.heap.size) (hc:Calls P f args w (ApP 0 w (.slice A l.length c) l')):Made P (LfD1 E N W l' A l.length c) (.ok (.enter f args) w) :=
 qg6 (hc.mono fun e w' ⟨u,he,h1,h2,h3⟩=>⟨u,he,h.1.kp h2 (row_ne h.2.1 h.1 (by decide)),h1,fun k hk=>(h3 k hk).elim (hN k) fun hge hn=>by have:=hl k hn;omega,h.2.2.2.trans h2 fun k _ hk=>hN k hk⟩)
theorem LfD1.store (h:LfD1 E N W l' A n c V w) (hg:¬ N E.gf):LfD2 E N W l' (w.setCell ⟨E.gf,0,none⟩ V):=by
 obtain⟨A',c',rfl,_⟩:=qc1 h.2.1;have hk:Kp (fun k=>k=E.gf) w (w.setCell ⟨E.gf,0,none⟩ (.slice A' l'.length c')):=Kp.setCell (S:=fun k=>k=E.gf) w ⟨E.gf,0,none⟩ _ rfl;exact⟨A',c',h.1.set 0 _,own_kpT h.2.1 hk (fun k e=>by subst e;exact⟨_,_,h.1,by decide⟩),h.2.2.1,h.2.2.2.trans hk fun k _ e=>by subst e;exact hg⟩
theorem LfD2.fm (h:LfD2 E N W l' w) (hg:¬ N E.gf) (hl:∀ k,N k→k < W.heap.size):Fm E N w (.w l'):=let ⟨A,c,h1,h2,h3,h4⟩:=h;⟨A,c,h1,h2,h3,hg,fun k hk=>Nat.lt_of_lt_of_le (hl k hk) h4.size⟩
theorem LfD2.kp (h:LfD2 E N W l' w):Kp (fun k=>¬ N k) W w:=let ⟨A,c,h1,h2,h3,h4⟩:=h;h4
theorem qe4 (b:Nat):FrS E N b true=fun k=>¬ N k:=by funext k;unfold FrS;rw[if_pos rfl]
theorem qe5 (b:Nat):FrS E N b false=fun k=>k=E.g ∨ k=b:=by funext k;unfold FrS;rw[if_neg (by simp)]
end
theorem encS_sz (s:ByteArray):s.size+1≤(qj9 s).length:=by
 unfold qj9 qd8;rw[List.length_append,List.length_cons,qv2]
 omega
section
variable {E:Env} {N:Nat→Prop} {t:TypeId} {b o:Nat} {pre post:List Value} {w:World} {l:List Int} {rd:Rd} {s:Fs} {x:Int}
theorem Num_w (hF:Fm E N w (.w l)) (hH:Hd E N t b pre post true w [uv x]) (ho:pre.length=o) (hx:P64 x) (hl:l.length+(qd8 x).length≤2147483648):Calls Tryz.prog 51 #[pq E.gf 0,pq b o] w (StP E N t b pre post (.w (l++qd8 x)) true [uv x] w):=by
 obtain⟨A,c,hbk,hw,hN,hgN,hNl⟩:=hF;have hc:=(hH.cell (j:=0) rfl).1;have hb:N b:=by unfold Hd at hH;rw[if_pos rfl] at hH;exact hH.1
 rw[Nat.add_zero,ho] at hc
 obtain⟨gf,hgf⟩:∃ gf,gf=E.gf:=⟨_,rfl⟩
 have c0:w.cell? ⟨gf,0,none⟩=some (.slice A l.length c):=by rw[hgf];exact hbk.cell 0
 have c1:w.cell? ⟨gf,1,none⟩=some (.pointer none):=by rw[hgf];exact hbk.cell 1
 have hlt:gf < w.heap.size:=by rw[hgf];exact hbk.lt
 have HS:Hid (LfD0 E N w l A c b o (uv x) w):=lh ⟨hbk,hw,hc,Kp.refl _ _⟩;have HH:=lh hH;have HN:=lh (And.intro hN (And.intro hgN (And.intro hNl hb)))
 obtain⟨l',hl'⟩:∃ l',l'=l++qd8 x:=⟨_,rfl⟩
 rw[← hl',← hgf];have HGF:=lh hgf;have HL:=lh (And.intro hl hl');clear hbk hw hN hgN hNl hH hc hb hl' hgf
 go_enter Tryz.func51,Tryz.ntmps51
 go_upto_region 2 with fail
 clear c0 c1;refine qc9 12 (fun i=>([[],[],[1],[2],[3],[],[5],[6],[4,7],[0],[9],[8,10]]:List (List Nat)).getD i []) [8,11] (fun i=>([1,0,0,0,0,0,0,0,0,1,1,0]:List Nat).getD i 0) (fun zz=>([pq gf 0,pq gf 0,pq gf 0,pq gf 0,.slice A l.length c,pq b o,pq b o,uv x,bf,pq gf 0,pq gf 0,bf]:List Value).getD zz (bf)) (LfS (LfD0 E N w l A c b o (uv x)) (LfD1 E N w l' A l.length c) (LfD2 E N w l')) rfl (by kernel_rfl) (by rfl) (by kernel_rfl) ?_ ?_ ?_ ?_
 ·exact⟨HS.o.1.kp ((Kp.refl (fun _=>False) w).drew) (fun h=>h),ql0 HS.o.2.1 ((Kp.refl (fun _=>False) w).drew) (fun _ _ h=>h),HS.o.2.2.1,HS.o.2.2.2.drew⟩
 ·intro zi hzi hn zo ho k vs w1 hk hlow hS hvs;rcases (show zi=0 ∨ zi=1 ∨ zi=2 ∨ zi=3 ∨ zi=4 ∨ zi=5 ∨ zi=6 ∨ zi=7 ∨ zi=8 ∨ zi=9 ∨ zi=10 ∨ zi=11 by omega) with rfl | rfl | rfl | rfl | rfl | rfl | rfl | rfl | rfl | rfl | rfl | rfl <;> cases ho
  ·clear hS hvs hlow hk hn;change Sem.run _ (execOp (Act.eval (frm _ _ _ [])) _) _=_;simp only[frm];go_simp
  ·clear hS hvs hlow hk hn;change Sem.run _ (execOp (Act.eval (frm _ _ _ [])) _) _=_;simp only[frm];go_simp
  ·have h1:vs 1=pq gf 0:=hvs 1 (by decide) (by decide);clear hS hvs hlow hk hn;change Sem.run _ (execOp (Act.eval (Act.put (frm _ _ _ []) (some 17) (vs 1))) _) _=_;simp only[frm,h1];go_simp
  ·have h2:vs 2=pq gf 0:=hvs 2 (by decide) (by decide);clear hS hvs hlow hk hn;change Sem.run _ (execOp (Act.eval (Act.put (frm _ _ _ []) (some 18) (vs 2))) _) _=_;simp only[frm,h2];go_simp
  ·have h3:vs 3=pq gf 0:=hvs 3 (by decide) (by decide);replace hk:k≤0:=hk;obtain rfl:k=0:=by omega
   replace hS:LfD0 E N w l A c b o (uv x) w1:=hS;have c0:w1.cell? ⟨gf,0,none⟩=some (.slice A l.length c):=by rw[HGF.o];exact hS.1.cell 0
   clear hS hvs hlow hk hn;change Sem.run _ (execOp (Act.eval (Act.put (frm _ _ _ []) (some 19) (vs 3))) _) _=_;simp only[frm,h3];go_simp
  ·clear hS hvs hlow hk hn;change Sem.run _ (execOp (Act.eval (frm _ _ _ [])) _) _=_;simp only[frm];go_simp
  ·have h5:vs 5=pq b o:=hvs 5 (by decide) (by decide);clear hS hvs hlow hk hn;change Sem.run _ (execOp (Act.eval (Act.put (frm _ _ _ []) (some 21) (vs 5))) _) _=_;simp only[frm,h5];go_simp
  ·have h6:vs 6=pq b o:=hvs 6 (by decide) (by decide);replace hk:k≤0:=hk;obtain rfl:k=0:=by omega
   replace hS:LfD0 E N w l A c b o (uv x) w1:=hS;have c0:=hS.2.2.1;clear hS hvs hlow hk hn;change Sem.run _ (execOp (Act.eval (Act.put (frm _ _ _ []) (some 22) (vs 6))) _) _=_;simp only[frm,h6];go_simp
  ·exact absurd (by decide) hn
  ·have h0:vs 0=pq gf 0:=hvs 0 (by decide) (by decide);clear hS hvs hlow hk hn;change Sem.run _ (execOp (Act.eval (Act.put (frm _ _ _ []) (some 16) (vs 0))) _) _=_;simp only[frm,h0];go_simp
  ·have h9:vs 9=pq gf 0:=hvs 9 (by decide) (by decide);clear hS hvs hlow hk hn;change Sem.run _ (execOp (Act.eval (Act.put (frm _ _ _ []) (some 25) (vs 9))) _) _=_;simp only[frm,h9];go_simp
  ·exact absurd (by decide) hn
 ·intro p hp o ho vs w1 hS hvs;rcases (show p=0 ∨ p=1 by change p < 2 at hp;omega) with rfl | rfl <;> cases ho
  ·replace hS:LfD0 E N w l A c b o (uv x) w1:=hS;have h4:vs 4=.slice A l.length c:=hvs 4 (by decide) (by decide);have h7:vs 7=uv x:=hvs 7 (by decide) (by decide)
   show Made _ (LfD1 E N w l' A l.length c) _
   change Made _ _ (Sem.run _ (execOp (Act.eval (Act.put (Act.put (frm _ _ _ []) (some 23) (vs 7)) (some 20) (vs 4))) _) _);simp only[frm,h4,h7];have hl:=HL.o.1;have cM:=qd5 hS.2.1 (Nat.zero_le _) hx (by omega);have hnl:∀ k,N k→k < w1.heap.size:=fun k hk=>Nat.lt_of_lt_of_le (HN.o.2.2.1 k hk) hS.2.2.2.size;rw[← HL.o.2] at cM;have HS1:=lh hS;have HNL:=lh hnl;clear hS hvs hnl hl;go_simp;exact HS1.o.call HN.o.1 HNL.o cM
  ·replace hS:LfD1 E N w l' A l.length c (vs 8) w1:=hS;have h10:vs 10=pq gf 0:=hvs 10 (by decide) (by decide)
   show Made _ (fun _=>LfD2 E N w l') _
   change Made _ _ (Sem.run _ (execOp (Act.eval (Act.put (Act.put (frm _ _ _ []) (some 26) (vs 10)) (some 24) (vs 8))) _) _)
   obtain⟨V,hV⟩:∃ V,V=vs 8:=⟨_,rfl⟩
   rw[← hV] at hS ⊢;obtain⟨A',c',rfl,_⟩:=qc1 hS.2.1;simp only[frm,h10,← hV];have c0:w1.cell? ⟨gf,0,none⟩=some (.slice A l.length c):=by rw[HGF.o];exact hS.1.cell 0
   have f0:w1.frozen? ⟨gf,0,none⟩=false:=by rw[HGF.o];exact hS.1.free 0
   have HS1:=lh hS;clear hS hvs hV;go_simp;have h9:=HS1.o.store HN.o.2.1;rw[← HGF.o] at h9;exact qa7 (T:=fun _=>LfD2 E N w l') h9
 ·intro vs w5 hS hvs;replace hS:LfD2 E N w l' w5:=hS;change wpList _ _ _ [] (Act.put (Act.put (Act.put (Act.put (Act.put (Act.put (Act.put (Act.put (Act.put (Act.put (Act.put (Act.put (frm _ _ _ []) none (vs 11)) (some 26) (vs 10)) (some 25) (vs 9)) (some 24) (vs 8)) (some 23) (vs 7)) (some 22) (vs 6)) (some 21) (vs 5)) (some 20) (vs 4)) (some 19) (vs 3)) (some 18) (vs 2)) (some 17) (vs 1)) (some 16) (vs 0)) _;simp only[frm];clear hvs;generalize vs 0=z0;generalize vs 1=z1;generalize vs 2=z2;generalize vs 3=z3;generalize vs 4=z4;generalize vs 5=z5;generalize vs 6=z6;generalize vs 7=z7;generalize vs 8=z8;generalize vs 9=z9;generalize vs 10=z10;generalize vs 11=z11;have HS5:=lh hS;clear hS
  go_wp2_with fail
  go_end0
  refine⟨rfl,HS5.o.fm HN.o.2.1 HN.o.2.2.1,HH.o.kp HS5.o.kp (fun h=>h HN.o.2.2.2),?_⟩;unfold Fr;rw[qe4];exact HS5.o.kp
theorem Num_r (hF:Fm E N w (.r rd)) (hH:Hd E N t b pre post false w [uv x]) (ho:pre.length=o):Calls Tryz.prog 51 #[pq E.gf 0,pq b o] w (StP E N t b pre post (.r (Rd.u rd).2) false [uv (Rd.u rd).1] w):=by
 obtain⟨hbk,hr,hgg,hbb⟩:=hF
 obtain⟨gf,hgf⟩:∃ gf,gf=E.gf:=⟨_,rfl⟩
 obtain⟨g,hg⟩:∃ g,g=E.g:=⟨_,rfl⟩
 have c1:w.cell? ⟨gf,1,none⟩=some (pq g 0):=by rw[hgf,hg];exact hbk.cell 1
 have hlt:gf < w.heap.size:=by rw[hgf];exact hbk.lt
 have hB:=hH;unfold Hd at hB;rw[if_neg (by simp)] at hB;obtain⟨hbm,n1,n2,n3⟩:=hB;have cM:=qr6 hr hbb
 obtain⟨⟨y,r2⟩,hy⟩:∃ p,p=Rd.u rd:=⟨_,rfl⟩
 rw[← hy] at cM;rw[← hgf,← hy];dsimp only at cM ⊢;rw[← hg] at cM;have HGF:=lh (And.intro hgf hg);have HB:=lh (And.intro hbk (And.intro hbm (And.intro n1 (And.intro n2 (And.intro n3 (And.intro hgg hbb))))));have HO:=lh ho;clear hbk hr hgg hbb hgf hg hy hH hbm n1 n2 n3 ho
 go_enter Tryz.func51,Tryz.ntmps51
 go_wp2_with fail
 refine cM.mono ?_;rintro e w1 ⟨rfl,hr1,hk1⟩;have hbm1:=HB.o.2.1.kp hk1 (by rw[HGF.o.2];exact HB.o.2.2.2.1);have hbk1:=HB.o.1.kp hk1 (by rw[HGF.o.2];exact HB.o.2.2.2.2.2.1);have x0:w1.cell? ⟨b,o,none⟩=some (uv x):=by rw[hbm1.cell,← HO.o];simp
 have f0:w1.frozen? ⟨b,o,none⟩=false:=hbm1.free o;have H1:=lh (And.intro hr1 (And.intro hk1 (And.intro hbm1 hbk1)));clear cM hr1 hk1 hbm1 hbk1 c1
 go_wp2_with fail
 refine bodyPost_ret (results_none rfl _ _ _) rfl ?_;have hk2:Kp (fun k=>k=b) w1 (w1.setCell ⟨b,o,none⟩ (uv y)):=Kp.setCell (S:=fun k=>k=b) w1 ⟨b,o,none⟩ _ rfl;refine⟨rfl,⟨H1.o.2.2.2.kp hk2 (fun e=>HB.o.2.2.1 e.symm),?_,HB.o.2.2.2.2.2.1,Nat.lt_of_lt_of_le HB.o.2.2.2.2.2.2 (Nat.le_trans H1.o.2.1.size hk2.size)⟩,?_,?_⟩
 ·have:=H1.o.1;rw[HGF.o.2] at this;exact this.kp hk2 (fun e=>HB.o.2.2.2.1 e.symm) (fun e=>HB.o.2.2.2.2.1 e.symm)
 ·unfold Hd;rw[if_neg (by simp)];have:=bk_mid (y:=uv y) H1.o.2.2.1;rw[HO.o] at this;exact⟨this,HB.o.2.2.1,HB.o.2.2.2.1,HB.o.2.2.2.2.1⟩
 ·unfold Fr;rw[qe5];have:=H1.o.2.1;rw[HGF.o.2] at this;exact(this.mono fun _ _ h=>.inl h).trans hk2 fun _ _ h=>.inr h
theorem qp7 (hF:Fm E N w s) (hH:Hd E N t b pre post s.md w [uv x]) (ho:pre.length=o) (hx:P64 x) (hl:s.fit (qd8 x).length):Calls Tryz.prog 51 #[pq E.gf 0,pq b o] w (StP E N t b pre post (stp qd8 Rd.u s x).1 s.md [uv (stp qd8 Rd.u s x).2] w):=by
 cases s with
 | w l=>exact Num_w hF hH ho hx hl
 | r rd=>exact Num_r hF hH ho
end
section
variable {E:Env} {N:Nat→Prop} {t:TypeId} {b o:Nat} {pre post:List Value} {w:World} {l:List Int} {rd:Rd} {s:Fs} {x:Int}
theorem Itg_w (hF:Fm E N w (.w l)) (hH:Hd E N t b pre post true w [iv x]) (ho:pre.length=o) (hx:I64 x) (hl:l.length+(qb7 x).length≤2147483648):Calls Tryz.prog 68 #[pq E.gf 0,pq b o] w (StP E N t b pre post (.w (l++qb7 x)) true [iv x] w):=by
 obtain⟨A,c,hbk,hw,hN,hgN,hNl⟩:=hF;have hc:=(hH.cell (j:=0) rfl).1;have hb:N b:=by unfold Hd at hH;rw[if_pos rfl] at hH;exact hH.1
 rw[Nat.add_zero,ho] at hc
 obtain⟨gf,hgf⟩:∃ gf,gf=E.gf:=⟨_,rfl⟩
 have c0:w.cell? ⟨gf,0,none⟩=some (.slice A l.length c):=by rw[hgf];exact hbk.cell 0
 have c1:w.cell? ⟨gf,1,none⟩=some (.pointer none):=by rw[hgf];exact hbk.cell 1
 have hlt:gf < w.heap.size:=by rw[hgf];exact hbk.lt
 have HS:Hid (LfD0 E N w l A c b o (iv x) w):=lh ⟨hbk,hw,hc,Kp.refl _ _⟩;have HH:=lh hH;have HN:=lh (And.intro hN (And.intro hgN (And.intro hNl hb)))
 obtain⟨l',hl'⟩:∃ l',l'=l++qb7 x:=⟨_,rfl⟩
 rw[← hl',← hgf];have HGF:=lh hgf;have HL:=lh (And.intro hl hl');clear hbk hw hN hgN hNl hH hc hb hl' hgf
 go_enter Tryz.func68,Tryz.ntmps68
 go_upto_region 2 with fail
 clear c0 c1;refine qc9 12 (fun i=>([[],[],[1],[2],[3],[],[5],[6],[4,7],[0],[9],[8,10]]:List (List Nat)).getD i []) [8,11] (fun i=>([1,0,0,0,0,0,0,0,0,1,1,0]:List Nat).getD i 0) (fun zz=>([pq gf 0,pq gf 0,pq gf 0,pq gf 0,.slice A l.length c,pq b o,pq b o,iv x,bf,pq gf 0,pq gf 0,bf]:List Value).getD zz (bf)) (LfS (LfD0 E N w l A c b o (iv x)) (LfD1 E N w l' A l.length c) (LfD2 E N w l')) rfl (by kernel_rfl) (by rfl) (by kernel_rfl) ?_ ?_ ?_ ?_
 ·exact⟨HS.o.1.kp ((Kp.refl (fun _=>False) w).drew) (fun h=>h),ql0 HS.o.2.1 ((Kp.refl (fun _=>False) w).drew) (fun _ _ h=>h),HS.o.2.2.1,HS.o.2.2.2.drew⟩
 ·intro zi hzi hn zo ho k vs w1 hk hlow hS hvs;rcases (show zi=0 ∨ zi=1 ∨ zi=2 ∨ zi=3 ∨ zi=4 ∨ zi=5 ∨ zi=6 ∨ zi=7 ∨ zi=8 ∨ zi=9 ∨ zi=10 ∨ zi=11 by omega) with rfl | rfl | rfl | rfl | rfl | rfl | rfl | rfl | rfl | rfl | rfl | rfl <;> cases ho
  ·clear hS hvs hlow hk hn;change Sem.run _ (execOp (Act.eval (frm _ _ _ [])) _) _=_;simp only[frm];go_simp
  ·clear hS hvs hlow hk hn;change Sem.run _ (execOp (Act.eval (frm _ _ _ [])) _) _=_;simp only[frm];go_simp
  ·have h1:vs 1=pq gf 0:=hvs 1 (by decide) (by decide);clear hS hvs hlow hk hn;change Sem.run _ (execOp (Act.eval (Act.put (frm _ _ _ []) (some 17) (vs 1))) _) _=_;simp only[frm,h1];go_simp
  ·have h2:vs 2=pq gf 0:=hvs 2 (by decide) (by decide);clear hS hvs hlow hk hn;change Sem.run _ (execOp (Act.eval (Act.put (frm _ _ _ []) (some 18) (vs 2))) _) _=_;simp only[frm,h2];go_simp
  ·have h3:vs 3=pq gf 0:=hvs 3 (by decide) (by decide);replace hk:k≤0:=hk;obtain rfl:k=0:=by omega
   replace hS:LfD0 E N w l A c b o (iv x) w1:=hS;have c0:w1.cell? ⟨gf,0,none⟩=some (.slice A l.length c):=by rw[HGF.o];exact hS.1.cell 0
   clear hS hvs hlow hk hn;change Sem.run _ (execOp (Act.eval (Act.put (frm _ _ _ []) (some 19) (vs 3))) _) _=_;simp only[frm,h3];go_simp
  ·clear hS hvs hlow hk hn;change Sem.run _ (execOp (Act.eval (frm _ _ _ [])) _) _=_;simp only[frm];go_simp
  ·have h5:vs 5=pq b o:=hvs 5 (by decide) (by decide);clear hS hvs hlow hk hn;change Sem.run _ (execOp (Act.eval (Act.put (frm _ _ _ []) (some 21) (vs 5))) _) _=_;simp only[frm,h5];go_simp
  ·have h6:vs 6=pq b o:=hvs 6 (by decide) (by decide);replace hk:k≤0:=hk;obtain rfl:k=0:=by omega
   replace hS:LfD0 E N w l A c b o (iv x) w1:=hS;have c0:=hS.2.2.1;clear hS hvs hlow hk hn;change Sem.run _ (execOp (Act.eval (Act.put (frm _ _ _ []) (some 22) (vs 6))) _) _=_;simp only[frm,h6];go_simp
  ·exact absurd (by decide) hn
  ·have h0:vs 0=pq gf 0:=hvs 0 (by decide) (by decide);clear hS hvs hlow hk hn;change Sem.run _ (execOp (Act.eval (Act.put (frm _ _ _ []) (some 16) (vs 0))) _) _=_;simp only[frm,h0];go_simp
  ·have h9:vs 9=pq gf 0:=hvs 9 (by decide) (by decide);clear hS hvs hlow hk hn;change Sem.run _ (execOp (Act.eval (Act.put (frm _ _ _ []) (some 25) (vs 9))) _) _=_;simp only[frm,h9];go_simp
  ·exact absurd (by decide) hn
 ·intro p hp o ho vs w1 hS hvs;rcases (show p=0 ∨ p=1 by change p < 2 at hp;omega) with rfl | rfl <;> cases ho
  ·replace hS:LfD0 E N w l A c b o (iv x) w1:=hS;have h4:vs 4=.slice A l.length c:=hvs 4 (by decide) (by decide);have h7:vs 7=iv x:=hvs 7 (by decide) (by decide)
   show Made _ (LfD1 E N w l' A l.length c) _
   change Made _ _ (Sem.run _ (execOp (Act.eval (Act.put (Act.put (frm _ _ _ []) (some 23) (vs 7)) (some 20) (vs 4))) _) _);simp only[frm,h4,h7];have hl:=HL.o.1;have cM:=AppendInt_any hS.2.1 (Nat.zero_le _) hx (by omega);have hnl:∀ k,N k→k < w1.heap.size:=fun k hk=>Nat.lt_of_lt_of_le (HN.o.2.2.1 k hk) hS.2.2.2.size;rw[← HL.o.2] at cM;have HS1:=lh hS;have HNL:=lh hnl;clear hS hvs hnl hl;go_simp;exact HS1.o.call HN.o.1 HNL.o cM
  ·replace hS:LfD1 E N w l' A l.length c (vs 8) w1:=hS;have h10:vs 10=pq gf 0:=hvs 10 (by decide) (by decide)
   show Made _ (fun _=>LfD2 E N w l') _
   change Made _ _ (Sem.run _ (execOp (Act.eval (Act.put (Act.put (frm _ _ _ []) (some 26) (vs 10)) (some 24) (vs 8))) _) _)
   obtain⟨V,hV⟩:∃ V,V=vs 8:=⟨_,rfl⟩
   rw[← hV] at hS ⊢;obtain⟨A',c',rfl,_⟩:=qc1 hS.2.1;simp only[frm,h10,← hV];have c0:w1.cell? ⟨gf,0,none⟩=some (.slice A l.length c):=by rw[HGF.o];exact hS.1.cell 0
   have f0:w1.frozen? ⟨gf,0,none⟩=false:=by rw[HGF.o];exact hS.1.free 0
   have HS1:=lh hS;clear hS hvs hV;go_simp;have h9:=HS1.o.store HN.o.2.1;rw[← HGF.o] at h9;exact qa7 (T:=fun _=>LfD2 E N w l') h9
 ·intro vs w5 hS hvs;replace hS:LfD2 E N w l' w5:=hS;change wpList _ _ _ [] (Act.put (Act.put (Act.put (Act.put (Act.put (Act.put (Act.put (Act.put (Act.put (Act.put (Act.put (Act.put (frm _ _ _ []) none (vs 11)) (some 26) (vs 10)) (some 25) (vs 9)) (some 24) (vs 8)) (some 23) (vs 7)) (some 22) (vs 6)) (some 21) (vs 5)) (some 20) (vs 4)) (some 19) (vs 3)) (some 18) (vs 2)) (some 17) (vs 1)) (some 16) (vs 0)) _;simp only[frm];clear hvs;generalize vs 0=z0;generalize vs 1=z1;generalize vs 2=z2;generalize vs 3=z3;generalize vs 4=z4;generalize vs 5=z5;generalize vs 6=z6;generalize vs 7=z7;generalize vs 8=z8;generalize vs 9=z9;generalize vs 10=z10;generalize vs 11=z11;have HS5:=lh hS;clear hS
  go_wp2_with fail
  go_end0
  refine⟨rfl,HS5.o.fm HN.o.2.1 HN.o.2.2.1,HH.o.kp HS5.o.kp (fun h=>h HN.o.2.2.2),?_⟩;unfold Fr;rw[qe4];exact HS5.o.kp
theorem Itg_r (hF:Fm E N w (.r rd)) (hH:Hd E N t b pre post false w [iv x]) (ho:pre.length=o):Calls Tryz.prog 68 #[pq E.gf 0,pq b o] w (StP E N t b pre post (.r (Rd.i rd).2) false [iv (Rd.i rd).1] w):=by
 obtain⟨hbk,hr,hgg,hbb⟩:=hF
 obtain⟨gf,hgf⟩:∃ gf,gf=E.gf:=⟨_,rfl⟩
 obtain⟨g,hg⟩:∃ g,g=E.g:=⟨_,rfl⟩
 have c1:w.cell? ⟨gf,1,none⟩=some (pq g 0):=by rw[hgf,hg];exact hbk.cell 1
 have hlt:gf < w.heap.size:=by rw[hgf];exact hbk.lt
 have hB:=hH;unfold Hd at hB;rw[if_neg (by simp)] at hB;obtain⟨hbm,n1,n2,n3⟩:=hB;have cM:=Int_any hr hbb
 obtain⟨⟨y,r2⟩,hy⟩:∃ p,p=Rd.i rd:=⟨_,rfl⟩
 rw[← hy] at cM;rw[← hgf,← hy];dsimp only at cM ⊢;rw[← hg] at cM;have HGF:=lh (And.intro hgf hg);have HB:=lh (And.intro hbk (And.intro hbm (And.intro n1 (And.intro n2 (And.intro n3 (And.intro hgg hbb))))));have HO:=lh ho;clear hbk hr hgg hbb hgf hg hy hH hbm n1 n2 n3 ho
 go_enter Tryz.func68,Tryz.ntmps68
 go_wp2_with fail
 refine cM.mono ?_;rintro e w1 ⟨rfl,hr1,hk1⟩;have hbm1:=HB.o.2.1.kp hk1 (by rw[HGF.o.2];exact HB.o.2.2.2.1);have hbk1:=HB.o.1.kp hk1 (by rw[HGF.o.2];exact HB.o.2.2.2.2.2.1);have x0:w1.cell? ⟨b,o,none⟩=some (iv x):=by rw[hbm1.cell,← HO.o];simp
 have f0:w1.frozen? ⟨b,o,none⟩=false:=hbm1.free o;have H1:=lh (And.intro hr1 (And.intro hk1 (And.intro hbm1 hbk1)));clear cM hr1 hk1 hbm1 hbk1 c1
 go_wp2_with fail
 refine bodyPost_ret (results_none rfl _ _ _) rfl ?_;have hk2:Kp (fun k=>k=b) w1 (w1.setCell ⟨b,o,none⟩ (iv y)):=Kp.setCell (S:=fun k=>k=b) w1 ⟨b,o,none⟩ _ rfl;refine⟨rfl,⟨H1.o.2.2.2.kp hk2 (fun e=>HB.o.2.2.1 e.symm),?_,HB.o.2.2.2.2.2.1,Nat.lt_of_lt_of_le HB.o.2.2.2.2.2.2 (Nat.le_trans H1.o.2.1.size hk2.size)⟩,?_,?_⟩
 ·have:=H1.o.1;rw[HGF.o.2] at this;exact this.kp hk2 (fun e=>HB.o.2.2.2.1 e.symm) (fun e=>HB.o.2.2.2.2.1 e.symm)
 ·unfold Hd;rw[if_neg (by simp)];have:=bk_mid (y:=iv y) H1.o.2.2.1;rw[HO.o] at this;exact⟨this,HB.o.2.2.1,HB.o.2.2.2.1,HB.o.2.2.2.2.1⟩
 ·unfold Fr;rw[qe5];have:=H1.o.2.1;rw[HGF.o.2] at this;exact(this.mono fun _ _ h=>.inl h).trans hk2 fun _ _ h=>.inr h
theorem Itg_any (hF:Fm E N w s) (hH:Hd E N t b pre post s.md w [iv x]) (ho:pre.length=o) (hx:I64 x) (hl:s.fit (qb7 x).length):Calls Tryz.prog 68 #[pq E.gf 0,pq b o] w (StP E N t b pre post (stp qb7 Rd.i s x).1 s.md [iv (stp qb7 Rd.i s x).2] w):=by
 cases s with
 | w l=>exact Itg_w hF hH ho hx hl
 | r rd=>exact Itg_r hF hH ho
end
section
variable {E:Env} {N:Nat→Prop} {t:TypeId} {b o:Nat} {pre post:List Value} {w:World} {l:List Int} {rd:Rd} {s:Fs} {x:ByteArray}
theorem Txt_w (hF:Fm E N w (.w l)) (hH:Hd E N t b pre post true w [.string x]) (ho:pre.length=o) (hx:True) (hl:l.length+(qj9 x).length≤2147483648):Calls Tryz.prog 52 #[pq E.gf 0,pq b o] w (StP E N t b pre post (.w (l++qj9 x)) true [.string x] w):=by
 obtain⟨A,c,hbk,hw,hN,hgN,hNl⟩:=hF;have hc:=(hH.cell (j:=0) rfl).1;have hb:N b:=by unfold Hd at hH;rw[if_pos rfl] at hH;exact hH.1
 rw[Nat.add_zero,ho] at hc
 obtain⟨gf,hgf⟩:∃ gf,gf=E.gf:=⟨_,rfl⟩
 have c0:w.cell? ⟨gf,0,none⟩=some (.slice A l.length c):=by rw[hgf];exact hbk.cell 0
 have c1:w.cell? ⟨gf,1,none⟩=some (.pointer none):=by rw[hgf];exact hbk.cell 1
 have hlt:gf < w.heap.size:=by rw[hgf];exact hbk.lt
 have HS:Hid (LfD0 E N w l A c b o (.string x) w):=lh ⟨hbk,hw,hc,Kp.refl _ _⟩;have HH:=lh hH;have HN:=lh (And.intro hN (And.intro hgN (And.intro hNl hb)))
 obtain⟨l',hl'⟩:∃ l',l'=l++qj9 x:=⟨_,rfl⟩
 rw[← hl',← hgf];have HGF:=lh hgf;have HL:=lh (And.intro hl hl');clear hbk hw hN hgN hNl hH hc hb hl' hgf
 go_enter Tryz.func52,Tryz.ntmps52
 go_upto_region 2 with fail
 clear c0 c1;refine qc9 12 (fun i=>([[],[],[1],[2],[3],[],[5],[6],[4,7],[0],[9],[8,10]]:List (List Nat)).getD i []) [8,11] (fun i=>([1,0,0,0,0,0,0,0,0,1,1,0]:List Nat).getD i 0) (fun zz=>([pq gf 0,pq gf 0,pq gf 0,pq gf 0,.slice A l.length c,pq b o,pq b o,.string x,bf,pq gf 0,pq gf 0,bf]:List Value).getD zz (bf)) (LfS (LfD0 E N w l A c b o (.string x)) (LfD1 E N w l' A l.length c) (LfD2 E N w l')) rfl (by kernel_rfl) (by rfl) (by kernel_rfl) ?_ ?_ ?_ ?_
 ·exact⟨HS.o.1.kp ((Kp.refl (fun _=>False) w).drew) (fun h=>h),ql0 HS.o.2.1 ((Kp.refl (fun _=>False) w).drew) (fun _ _ h=>h),HS.o.2.2.1,HS.o.2.2.2.drew⟩
 ·intro zi hzi hn zo ho k vs w1 hk hlow hS hvs;rcases (show zi=0 ∨ zi=1 ∨ zi=2 ∨ zi=3 ∨ zi=4 ∨ zi=5 ∨ zi=6 ∨ zi=7 ∨ zi=8 ∨ zi=9 ∨ zi=10 ∨ zi=11 by omega) with rfl | rfl | rfl | rfl | rfl | rfl | rfl | rfl | rfl | rfl | rfl | rfl <;> cases ho
  ·clear hS hvs hlow hk hn;change Sem.run _ (execOp (Act.eval (frm _ _ _ [])) _) _=_;simp only[frm];go_simp
  ·clear hS hvs hlow hk hn;change Sem.run _ (execOp (Act.eval (frm _ _ _ [])) _) _=_;simp only[frm];go_simp
  ·have h1:vs 1=pq gf 0:=hvs 1 (by decide) (by decide);clear hS hvs hlow hk hn;change Sem.run _ (execOp (Act.eval (Act.put (frm _ _ _ []) (some 17) (vs 1))) _) _=_;simp only[frm,h1];go_simp
  ·have h2:vs 2=pq gf 0:=hvs 2 (by decide) (by decide);clear hS hvs hlow hk hn;change Sem.run _ (execOp (Act.eval (Act.put (frm _ _ _ []) (some 18) (vs 2))) _) _=_;simp only[frm,h2];go_simp
  ·have h3:vs 3=pq gf 0:=hvs 3 (by decide) (by decide);replace hk:k≤0:=hk;obtain rfl:k=0:=by omega
   replace hS:LfD0 E N w l A c b o (.string x) w1:=hS;have c0:w1.cell? ⟨gf,0,none⟩=some (.slice A l.length c):=by rw[HGF.o];exact hS.1.cell 0
   clear hS hvs hlow hk hn;change Sem.run _ (execOp (Act.eval (Act.put (frm _ _ _ []) (some 19) (vs 3))) _) _=_;simp only[frm,h3];go_simp
  ·clear hS hvs hlow hk hn;change Sem.run _ (execOp (Act.eval (frm _ _ _ [])) _) _=_;simp only[frm];go_simp
  ·have h5:vs 5=pq b o:=hvs 5 (by decide) (by decide);clear hS hvs hlow hk hn;change Sem.run _ (execOp (Act.eval (Act.put (frm _ _ _ []) (some 21) (vs 5))) _) _=_;simp only[frm,h5];go_simp
  ·have h6:vs 6=pq b o:=hvs 6 (by decide) (by decide);replace hk:k≤0:=hk;obtain rfl:k=0:=by omega
   replace hS:LfD0 E N w l A c b o (.string x) w1:=hS;have c0:=hS.2.2.1;clear hS hvs hlow hk hn;change Sem.run _ (execOp (Act.eval (Act.put (frm _ _ _ []) (some 22) (vs 6))) _) _=_;simp only[frm,h6];go_simp
  ·exact absurd (by decide) hn
  ·have h0:vs 0=pq gf 0:=hvs 0 (by decide) (by decide);clear hS hvs hlow hk hn;change Sem.run _ (execOp (Act.eval (Act.put (frm _ _ _ []) (some 16) (vs 0))) _) _=_;simp only[frm,h0];go_simp
  ·have h9:vs 9=pq gf 0:=hvs 9 (by decide) (by decide);clear hS hvs hlow hk hn;change Sem.run _ (execOp (Act.eval (Act.put (frm _ _ _ []) (some 25) (vs 9))) _) _=_;simp only[frm,h9];go_simp
  ·exact absurd (by decide) hn
 ·intro p hp o ho vs w1 hS hvs;rcases (show p=0 ∨ p=1 by change p < 2 at hp;omega) with rfl | rfl <;> cases ho
  ·replace hS:LfD0 E N w l A c b o (.string x) w1:=hS;have h4:vs 4=.slice A l.length c:=hvs 4 (by decide) (by decide);have h7:vs 7=.string x:=hvs 7 (by decide) (by decide)
   show Made _ (LfD1 E N w l' A l.length c) _
   change Made _ _ (Sem.run _ (execOp (Act.eval (Act.put (Act.put (frm _ _ _ []) (some 23) (vs 7)) (some 20) (vs 4))) _) _);simp only[frm,h4,h7];have hl:=HL.o.1;have cM:=qq6 (s:=x) hS.2.1 (Nat.zero_le _) (by have:=encS_sz x;omega) (by omega);have hnl:∀ k,N k→k < w1.heap.size:=fun k hk=>Nat.lt_of_lt_of_le (HN.o.2.2.1 k hk) hS.2.2.2.size;rw[← HL.o.2] at cM;have HS1:=lh hS;have HNL:=lh hnl;clear hS hvs hnl hl;go_simp;exact HS1.o.call HN.o.1 HNL.o cM
  ·replace hS:LfD1 E N w l' A l.length c (vs 8) w1:=hS;have h10:vs 10=pq gf 0:=hvs 10 (by decide) (by decide)
   show Made _ (fun _=>LfD2 E N w l') _
   change Made _ _ (Sem.run _ (execOp (Act.eval (Act.put (Act.put (frm _ _ _ []) (some 26) (vs 10)) (some 24) (vs 8))) _) _)
   obtain⟨V,hV⟩:∃ V,V=vs 8:=⟨_,rfl⟩
   rw[← hV] at hS ⊢;obtain⟨A',c',rfl,_⟩:=qc1 hS.2.1;simp only[frm,h10,← hV];have c0:w1.cell? ⟨gf,0,none⟩=some (.slice A l.length c):=by rw[HGF.o];exact hS.1.cell 0
   have f0:w1.frozen? ⟨gf,0,none⟩=false:=by rw[HGF.o];exact hS.1.free 0
   have HS1:=lh hS;clear hS hvs hV;go_simp;have h9:=HS1.o.store HN.o.2.1;rw[← HGF.o] at h9;exact qa7 (T:=fun _=>LfD2 E N w l') h9
 ·intro vs w5 hS hvs;replace hS:LfD2 E N w l' w5:=hS;change wpList _ _ _ [] (Act.put (Act.put (Act.put (Act.put (Act.put (Act.put (Act.put (Act.put (Act.put (Act.put (Act.put (Act.put (frm _ _ _ []) none (vs 11)) (some 26) (vs 10)) (some 25) (vs 9)) (some 24) (vs 8)) (some 23) (vs 7)) (some 22) (vs 6)) (some 21) (vs 5)) (some 20) (vs 4)) (some 19) (vs 3)) (some 18) (vs 2)) (some 17) (vs 1)) (some 16) (vs 0)) _;simp only[frm];clear hvs;generalize vs 0=z0;generalize vs 1=z1;generalize vs 2=z2;generalize vs 3=z3;generalize vs 4=z4;generalize vs 5=z5;generalize vs 6=z6;generalize vs 7=z7;generalize vs 8=z8;generalize vs 9=z9;generalize vs 10=z10;generalize vs 11=z11;have HS5:=lh hS;clear hS
  go_wp2_with fail
  go_end0
  refine⟨rfl,HS5.o.fm HN.o.2.1 HN.o.2.2.1,HH.o.kp HS5.o.kp (fun h=>h HN.o.2.2.2),?_⟩;unfold Fr;rw[qe4];exact HS5.o.kp
theorem Txt_r (hF:Fm E N w (.r rd)) (hH:Hd E N t b pre post false w [.string x]) (ho:pre.length=o):Calls Tryz.prog 52 #[pq E.gf 0,pq b o] w (StP E N t b pre post (.r ((Rd.text 4096) rd).2) false [.string ((Rd.text 4096) rd).1] w):=by
 obtain⟨hbk,hr,hgg,hbb⟩:=hF
 obtain⟨gf,hgf⟩:∃ gf,gf=E.gf:=⟨_,rfl⟩
 obtain⟨g,hg⟩:∃ g,g=E.g:=⟨_,rfl⟩
 have c1:w.cell? ⟨gf,1,none⟩=some (pq g 0):=by rw[hgf,hg];exact hbk.cell 1
 have hlt:gf < w.heap.size:=by rw[hgf];exact hbk.lt
 have hB:=hH;unfold Hd at hB;rw[if_neg (by simp)] at hB;obtain⟨hbm,n1,n2,n3⟩:=hB;have cM:=String_any hr hbb
 obtain⟨⟨y,r2⟩,hy⟩:∃ p,p=(Rd.text 4096) rd:=⟨_,rfl⟩
 rw[← hy] at cM;rw[← hgf,← hy];dsimp only at cM ⊢;rw[← hg] at cM;have HGF:=lh (And.intro hgf hg);have HB:=lh (And.intro hbk (And.intro hbm (And.intro n1 (And.intro n2 (And.intro n3 (And.intro hgg hbb))))));have HO:=lh ho;clear hbk hr hgg hbb hgf hg hy hH hbm n1 n2 n3 ho
 go_enter Tryz.func52,Tryz.ntmps52
 go_wp2_with fail
 refine cM.mono ?_;rintro e w1 ⟨rfl,hr1,hk1⟩;have hbm1:=HB.o.2.1.kp hk1 (by rw[HGF.o.2];exact HB.o.2.2.2.1);have hbk1:=HB.o.1.kp hk1 (by rw[HGF.o.2];exact HB.o.2.2.2.2.2.1);have x0:w1.cell? ⟨b,o,none⟩=some (.string x):=by rw[hbm1.cell,← HO.o];simp
 have f0:w1.frozen? ⟨b,o,none⟩=false:=hbm1.free o;have H1:=lh (And.intro hr1 (And.intro hk1 (And.intro hbm1 hbk1)));clear cM hr1 hk1 hbm1 hbk1 c1
 go_wp2_with fail
 refine bodyPost_ret (results_none rfl _ _ _) rfl ?_;have hk2:Kp (fun k=>k=b) w1 (w1.setCell ⟨b,o,none⟩ (.string y)):=Kp.setCell (S:=fun k=>k=b) w1 ⟨b,o,none⟩ _ rfl;refine⟨rfl,⟨H1.o.2.2.2.kp hk2 (fun e=>HB.o.2.2.1 e.symm),?_,HB.o.2.2.2.2.2.1,Nat.lt_of_lt_of_le HB.o.2.2.2.2.2.2 (Nat.le_trans H1.o.2.1.size hk2.size)⟩,?_,?_⟩
 ·have:=H1.o.1;rw[HGF.o.2] at this;exact this.kp hk2 (fun e=>HB.o.2.2.2.1 e.symm) (fun e=>HB.o.2.2.2.2.1 e.symm)
 ·unfold Hd;rw[if_neg (by simp)];have:=bk_mid (y:=.string y) H1.o.2.2.1;rw[HO.o] at this;exact⟨this,HB.o.2.2.1,HB.o.2.2.2.1,HB.o.2.2.2.2.1⟩
 ·unfold Fr;rw[qe5];have:=H1.o.2.1;rw[HGF.o.2] at this;exact(this.mono fun _ _ h=>.inl h).trans hk2 fun _ _ h=>.inr h
theorem Txt_any (hF:Fm E N w s) (hH:Hd E N t b pre post s.md w [.string x]) (ho:pre.length=o) (hx:True) (hl:s.fit (qj9 x).length):Calls Tryz.prog 52 #[pq E.gf 0,pq b o] w (StP E N t b pre post (stp qj9 (Rd.text 4096) s x).1 s.md [.string (stp qj9 (Rd.text 4096) s x).2] w):=by
 cases s with
 | w l=>exact Txt_w hF hH ho hx hl
 | r rd=>exact Txt_r hF hH ho
end
section
variable {E:Env} {N:Nat→Prop} {t:TypeId} {b o:Nat} {pre post:List Value} {w:World} {l:List Int} {rd:Rd} {s:Fs} {x:Bool}
theorem Flg_w (hF:Fm E N w (.w l)) (hH:Hd E N t b pre post true w [.bool x]) (ho:pre.length=o) (hx:True) (hl:l.length+(qk0 x).length≤2147483648):Calls Tryz.prog 70 #[pq E.gf 0,pq b o] w (StP E N t b pre post (.w (l++qk0 x)) true [.bool x] w):=by
 obtain⟨A,c,hbk,hw,hN,hgN,hNl⟩:=hF;have hc:=(hH.cell (j:=0) rfl).1;have hb:N b:=by unfold Hd at hH;rw[if_pos rfl] at hH;exact hH.1
 rw[Nat.add_zero,ho] at hc
 obtain⟨gf,hgf⟩:∃ gf,gf=E.gf:=⟨_,rfl⟩
 have c0:w.cell? ⟨gf,0,none⟩=some (.slice A l.length c):=by rw[hgf];exact hbk.cell 0
 have c1:w.cell? ⟨gf,1,none⟩=some (.pointer none):=by rw[hgf];exact hbk.cell 1
 have hlt:gf < w.heap.size:=by rw[hgf];exact hbk.lt
 have HS:Hid (LfD0 E N w l A c b o (.bool x) w):=lh ⟨hbk,hw,hc,Kp.refl _ _⟩;have HH:=lh hH;have HN:=lh (And.intro hN (And.intro hgN (And.intro hNl hb)))
 obtain⟨l',hl'⟩:∃ l',l'=l++qk0 x:=⟨_,rfl⟩
 rw[← hl',← hgf];have HGF:=lh hgf;have HL:=lh (And.intro hl hl');clear hbk hw hN hgN hNl hH hc hb hl' hgf
 go_enter Tryz.func70,Tryz.ntmps70
 go_upto_region 2 with fail
 clear c0 c1;refine qc9 12 (fun i=>([[],[],[1],[2],[3],[],[5],[6],[4,7],[0],[9],[8,10]]:List (List Nat)).getD i []) [8,11] (fun i=>([1,0,0,0,0,0,0,0,0,1,1,0]:List Nat).getD i 0) (fun zz=>([pq gf 0,pq gf 0,pq gf 0,pq gf 0,.slice A l.length c,pq b o,pq b o,.bool x,bf,pq gf 0,pq gf 0,bf]:List Value).getD zz (bf)) (LfS (LfD0 E N w l A c b o (.bool x)) (LfD1 E N w l' A l.length c) (LfD2 E N w l')) rfl (by kernel_rfl) (by rfl) (by kernel_rfl) ?_ ?_ ?_ ?_
 ·exact⟨HS.o.1.kp ((Kp.refl (fun _=>False) w).drew) (fun h=>h),ql0 HS.o.2.1 ((Kp.refl (fun _=>False) w).drew) (fun _ _ h=>h),HS.o.2.2.1,HS.o.2.2.2.drew⟩
 ·intro zi hzi hn zo ho k vs w1 hk hlow hS hvs;rcases (show zi=0 ∨ zi=1 ∨ zi=2 ∨ zi=3 ∨ zi=4 ∨ zi=5 ∨ zi=6 ∨ zi=7 ∨ zi=8 ∨ zi=9 ∨ zi=10 ∨ zi=11 by omega) with rfl | rfl | rfl | rfl | rfl | rfl | rfl | rfl | rfl | rfl | rfl | rfl <;> cases ho
  ·clear hS hvs hlow hk hn;change Sem.run _ (execOp (Act.eval (frm _ _ _ [])) _) _=_;simp only[frm];go_simp
  ·clear hS hvs hlow hk hn;change Sem.run _ (execOp (Act.eval (frm _ _ _ [])) _) _=_;simp only[frm];go_simp
  ·have h1:vs 1=pq gf 0:=hvs 1 (by decide) (by decide);clear hS hvs hlow hk hn;change Sem.run _ (execOp (Act.eval (Act.put (frm _ _ _ []) (some 17) (vs 1))) _) _=_;simp only[frm,h1];go_simp
  ·have h2:vs 2=pq gf 0:=hvs 2 (by decide) (by decide);clear hS hvs hlow hk hn;change Sem.run _ (execOp (Act.eval (Act.put (frm _ _ _ []) (some 18) (vs 2))) _) _=_;simp only[frm,h2];go_simp
  ·have h3:vs 3=pq gf 0:=hvs 3 (by decide) (by decide);replace hk:k≤0:=hk;obtain rfl:k=0:=by omega
   replace hS:LfD0 E N w l A c b o (.bool x) w1:=hS;have c0:w1.cell? ⟨gf,0,none⟩=some (.slice A l.length c):=by rw[HGF.o];exact hS.1.cell 0
   clear hS hvs hlow hk hn;change Sem.run _ (execOp (Act.eval (Act.put (frm _ _ _ []) (some 19) (vs 3))) _) _=_;simp only[frm,h3];go_simp
  ·clear hS hvs hlow hk hn;change Sem.run _ (execOp (Act.eval (frm _ _ _ [])) _) _=_;simp only[frm];go_simp
  ·have h5:vs 5=pq b o:=hvs 5 (by decide) (by decide);clear hS hvs hlow hk hn;change Sem.run _ (execOp (Act.eval (Act.put (frm _ _ _ []) (some 21) (vs 5))) _) _=_;simp only[frm,h5];go_simp
  ·have h6:vs 6=pq b o:=hvs 6 (by decide) (by decide);replace hk:k≤0:=hk;obtain rfl:k=0:=by omega
   replace hS:LfD0 E N w l A c b o (.bool x) w1:=hS;have c0:=hS.2.2.1;clear hS hvs hlow hk hn;change Sem.run _ (execOp (Act.eval (Act.put (frm _ _ _ []) (some 22) (vs 6))) _) _=_;simp only[frm,h6];go_simp
  ·exact absurd (by decide) hn
  ·have h0:vs 0=pq gf 0:=hvs 0 (by decide) (by decide);clear hS hvs hlow hk hn;change Sem.run _ (execOp (Act.eval (Act.put (frm _ _ _ []) (some 16) (vs 0))) _) _=_;simp only[frm,h0];go_simp
  ·have h9:vs 9=pq gf 0:=hvs 9 (by decide) (by decide);clear hS hvs hlow hk hn;change Sem.run _ (execOp (Act.eval (Act.put (frm _ _ _ []) (some 25) (vs 9))) _) _=_;simp only[frm,h9];go_simp
  ·exact absurd (by decide) hn
 ·intro p hp o ho vs w1 hS hvs;rcases (show p=0 ∨ p=1 by change p < 2 at hp;omega) with rfl | rfl <;> cases ho
  ·replace hS:LfD0 E N w l A c b o (.bool x) w1:=hS;have h4:vs 4=.slice A l.length c:=hvs 4 (by decide) (by decide);have h7:vs 7=.bool x:=hvs 7 (by decide) (by decide)
   show Made _ (LfD1 E N w l' A l.length c) _
   change Made _ _ (Sem.run _ (execOp (Act.eval (Act.put (Act.put (frm _ _ _ []) (some 23) (vs 7)) (some 20) (vs 4))) _) _);simp only[frm,h4,h7];have hl:=HL.o.1;have cM:=AppendBool_any (x:=x) hS.2.1 (Nat.zero_le _) (by omega);have hnl:∀ k,N k→k < w1.heap.size:=fun k hk=>Nat.lt_of_lt_of_le (HN.o.2.2.1 k hk) hS.2.2.2.size;rw[← HL.o.2] at cM;have HS1:=lh hS;have HNL:=lh hnl;clear hS hvs hnl hl;go_simp;exact HS1.o.call HN.o.1 HNL.o cM
  ·replace hS:LfD1 E N w l' A l.length c (vs 8) w1:=hS;have h10:vs 10=pq gf 0:=hvs 10 (by decide) (by decide)
   show Made _ (fun _=>LfD2 E N w l') _
   change Made _ _ (Sem.run _ (execOp (Act.eval (Act.put (Act.put (frm _ _ _ []) (some 26) (vs 10)) (some 24) (vs 8))) _) _)
   obtain⟨V,hV⟩:∃ V,V=vs 8:=⟨_,rfl⟩
   rw[← hV] at hS ⊢;obtain⟨A',c',rfl,_⟩:=qc1 hS.2.1;simp only[frm,h10,← hV];have c0:w1.cell? ⟨gf,0,none⟩=some (.slice A l.length c):=by rw[HGF.o];exact hS.1.cell 0
   have f0:w1.frozen? ⟨gf,0,none⟩=false:=by rw[HGF.o];exact hS.1.free 0
   have HS1:=lh hS;clear hS hvs hV;go_simp;have h9:=HS1.o.store HN.o.2.1;rw[← HGF.o] at h9;exact qa7 (T:=fun _=>LfD2 E N w l') h9
 ·intro vs w5 hS hvs;replace hS:LfD2 E N w l' w5:=hS;change wpList _ _ _ [] (Act.put (Act.put (Act.put (Act.put (Act.put (Act.put (Act.put (Act.put (Act.put (Act.put (Act.put (Act.put (frm _ _ _ []) none (vs 11)) (some 26) (vs 10)) (some 25) (vs 9)) (some 24) (vs 8)) (some 23) (vs 7)) (some 22) (vs 6)) (some 21) (vs 5)) (some 20) (vs 4)) (some 19) (vs 3)) (some 18) (vs 2)) (some 17) (vs 1)) (some 16) (vs 0)) _;simp only[frm];clear hvs;generalize vs 0=z0;generalize vs 1=z1;generalize vs 2=z2;generalize vs 3=z3;generalize vs 4=z4;generalize vs 5=z5;generalize vs 6=z6;generalize vs 7=z7;generalize vs 8=z8;generalize vs 9=z9;generalize vs 10=z10;generalize vs 11=z11;have HS5:=lh hS;clear hS
  go_wp2_with fail
  go_end0
  refine⟨rfl,HS5.o.fm HN.o.2.1 HN.o.2.2.1,HH.o.kp HS5.o.kp (fun h=>h HN.o.2.2.2),?_⟩;unfold Fr;rw[qe4];exact HS5.o.kp
theorem Flg_r (hF:Fm E N w (.r rd)) (hH:Hd E N t b pre post false w [.bool x]) (ho:pre.length=o):Calls Tryz.prog 70 #[pq E.gf 0,pq b o] w (StP E N t b pre post (.r (Rd.bool rd).2) false [.bool (Rd.bool rd).1] w):=by
 obtain⟨hbk,hr,hgg,hbb⟩:=hF
 obtain⟨gf,hgf⟩:∃ gf,gf=E.gf:=⟨_,rfl⟩
 obtain⟨g,hg⟩:∃ g,g=E.g:=⟨_,rfl⟩
 have c1:w.cell? ⟨gf,1,none⟩=some (pq g 0):=by rw[hgf,hg];exact hbk.cell 1
 have hlt:gf < w.heap.size:=by rw[hgf];exact hbk.lt
 have hB:=hH;unfold Hd at hB;rw[if_neg (by simp)] at hB;obtain⟨hbm,n1,n2,n3⟩:=hB;have cM:=Bool_any hr hbb
 obtain⟨⟨y,r2⟩,hy⟩:∃ p,p=Rd.bool rd:=⟨_,rfl⟩
 rw[← hy] at cM;rw[← hgf,← hy];dsimp only at cM ⊢;rw[← hg] at cM;have HGF:=lh (And.intro hgf hg);have HB:=lh (And.intro hbk (And.intro hbm (And.intro n1 (And.intro n2 (And.intro n3 (And.intro hgg hbb))))));have HO:=lh ho;clear hbk hr hgg hbb hgf hg hy hH hbm n1 n2 n3 ho
 go_enter Tryz.func70,Tryz.ntmps70
 go_wp2_with fail
 refine cM.mono ?_;rintro e w1 ⟨rfl,hr1,hk1⟩;have hbm1:=HB.o.2.1.kp hk1 (by rw[HGF.o.2];exact HB.o.2.2.2.1);have hbk1:=HB.o.1.kp hk1 (by rw[HGF.o.2];exact HB.o.2.2.2.2.2.1);have x0:w1.cell? ⟨b,o,none⟩=some (.bool x):=by rw[hbm1.cell,← HO.o];simp
 have f0:w1.frozen? ⟨b,o,none⟩=false:=hbm1.free o;have H1:=lh (And.intro hr1 (And.intro hk1 (And.intro hbm1 hbk1)));clear cM hr1 hk1 hbm1 hbk1 c1
 go_wp2_with fail
 refine bodyPost_ret (results_none rfl _ _ _) rfl ?_;have hk2:Kp (fun k=>k=b) w1 (w1.setCell ⟨b,o,none⟩ (.bool y)):=Kp.setCell (S:=fun k=>k=b) w1 ⟨b,o,none⟩ _ rfl;refine⟨rfl,⟨H1.o.2.2.2.kp hk2 (fun e=>HB.o.2.2.1 e.symm),?_,HB.o.2.2.2.2.2.1,Nat.lt_of_lt_of_le HB.o.2.2.2.2.2.2 (Nat.le_trans H1.o.2.1.size hk2.size)⟩,?_,?_⟩
 ·have:=H1.o.1;rw[HGF.o.2] at this;exact this.kp hk2 (fun e=>HB.o.2.2.2.1 e.symm) (fun e=>HB.o.2.2.2.2.1 e.symm)
 ·unfold Hd;rw[if_neg (by simp)];have:=bk_mid (y:=.bool y) H1.o.2.2.1;rw[HO.o] at this;exact⟨this,HB.o.2.2.1,HB.o.2.2.2.1,HB.o.2.2.2.2.1⟩
 ·unfold Fr;rw[qe5];have:=H1.o.2.1;rw[HGF.o.2] at this;exact(this.mono fun _ _ h=>.inl h).trans hk2 fun _ _ h=>.inr h
theorem Flg_any (hF:Fm E N w s) (hH:Hd E N t b pre post s.md w [.bool x]) (ho:pre.length=o) (hx:True) (hl:s.fit (qk0 x).length):Calls Tryz.prog 70 #[pq E.gf 0,pq b o] w (StP E N t b pre post (stp qk0 Rd.bool s x).1 s.md [.bool (stp qk0 Rd.bool s x).2] w):=by
 cases s with
 | w l=>exact Flg_w hF hH ho hx hl
 | r rd=>exact Flg_r hF hH ho
end
end
end Go.Proofs.YtmbnlccafcfbeaaGreatDoor
