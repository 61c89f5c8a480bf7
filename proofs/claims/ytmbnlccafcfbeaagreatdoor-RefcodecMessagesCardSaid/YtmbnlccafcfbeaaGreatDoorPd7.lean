/- Parts of the proof: RcP, RcM. -/
import Derived.Test.YtmbnlccafcfbeaaGreatDoorPdA
import Derived.Test.YtmbnlccafcfbeaaGreatDoorPd0
import Derived.Test.YtmbnlccafcfbeaaGreatDoorPd6
set_option linter.unusedVariables false
set_option linter.unusedSimpArgs false
set_option linter.unusedSectionVars false
set_option maxRecDepth 100000
namespace Go.Proofs.YtmbnlccafcfbeaaGreatDoor
section
section
variable {α β:Type} {ea:α→List Int} {eb:β→List Int} {da:Rd→α × Rd} {db:Rd→β × Rd} {P:α→Prop} {Q:β→Prop}
/-- one, and then another -/
def Rd.bi (da:Rd→α × Rd) (db:Rd→β × Rd) (r:Rd):(α × β) × Rd:=(((da r).1,(db (da r).2).1),(db (da r).2).2)
theorem codBi (ha:Cod ea da P) (hb:Cod eb db Q):Cod (fun x:α × β=>ea x.1++eb x.2) (Rd.bi da db) fun x=>P x.1∧Q x.2:=by
 refine⟨fun x s h=>?_,fun r h=>ha.st _ (hb.st _ h),fun r h8 he=>?_⟩
 ·unfold Rd.bi
  rw[List.append_assoc,ha.fw _ _ h.1]
  dsimp only
  rw[hb.fw _ _ h.2]
 ·have h1:(db (da r).2).2.e=0:=he
  have h2:=hb.st _ h1
  obtain⟨a1,a2,a3⟩:=ha.bw r h8 h2
  obtain⟨b1,b2,b3⟩:=hb.bw _ (ha.b8 h8 h2) h1
  refine⟨a1,?_,a3,b3⟩
  show r.b=(ea (da r).1++eb (db (da r).2).1)++(db (da r).2).2.b
  rw[List.append_assoc,← b2,← a2]
theorem codIso {mk:α→β} {fro:β→α} (h:Cod ea da P) (h1:∀ x,fro (mk x)=x) (h2:∀ x,mk (fro x)=x):Cod (fun x=>ea (fro x)) (fun r=>(mk (da r).1,(da r).2)) fun x=>P (fro x):=by
 refine⟨fun x s hx=>?_,h.st,fun r h8 he=>?_⟩
 ·show(mk (da ⟨ea (fro x)++s,0⟩).1,(da ⟨ea (fro x)++s,0⟩).2)=_
  rw[h.fw _ s hx,h2]
 ·obtain⟨a,b,c⟩:=h.bw r h8 he
  show r.e=0∧r.b=ea (fro (mk (da r).1))++(da r).2.b∧P (fro (mk (da r).1))
  rw[h1]
  exact⟨a,b,c⟩
theorem codList (hne:∀ x,1≤(ea x).length) {most:Int} (hm:most < 18446744073709551616) (h:Cod ea da P):Cod (encL ea) (Rd.list most da) fun l=>(l.length:Int)≤most∧∀ x∈l,P x:=by
 have hlen:∀ l:List α,l.length≤(l.flatMap ea).length:=fun l=>by
  induction l with
  | nil=>exact Nat.le_refl _
  | cons x k ih=>have:=hne x;rw[List.flatMap_cons,List.length_append,List.length_cons];omega
 refine⟨fun l s hl=>?_,fun r he=>?_,fun r h8 he=>?_⟩
 ·unfold Rd.list encL
  rw[List.append_assoc,Rd.count_fw (n:=(l.length:Int)) ⟨by omega,by omega⟩ hl.1 (by have:=hlen l;rw[List.length_append];omega)]
  dsimp only
  rw[Int.toNat_natCast,rep_fw h l hl.2 s _ (Nat.le_refl _),List.take_length,List.drop_length]
  rfl
 ·have h0:∀ k,(rep da (r.count most).2 k).2.e=0→(r.count most).2.e=0:=fun k=>by
   induction k with
   | zero=>exact fun h=>h
   | succ k ih=>exact fun hk=>ih (h.st _ hk)
  have h1:=h0 _ he
  by_cases hr:r.e=0
  ·exact hr
  ·rw[Rd.count_e hr] at h1;exact h1
 ·have hc:(r.count most).2.e=0:=by
   have h0:∀ k,(rep da (r.count most).2 k).2.e=0→(r.count most).2.e=0:=fun k=>by
    induction k with
    | zero=>exact fun h=>h
    | succ k ih=>exact fun hk=>ih (h.st _ hk)
   exact h0 _ he
  obtain⟨g1,g2,g3,g4,g5,g6⟩:=Rd.count_bw h8 hc
  obtain⟨k1,k2,k3,k4⟩:=rep_bw h g6 _ he
  have hl:=rep_len da (r.count most).2 (r.count most).1.toNat
  unfold P64 at g3
  refine⟨g1,?_,?_,k3⟩
  ·show r.b=encL ea (rep da (r.count most).2 (r.count most).1.toNat).1++_
   unfold encL
   rw[hl,Int.toNat_of_nonneg g3.1,List.append_assoc]
   rw[g2]
   congr 1
  ·show((rep da (r.count most).2 (r.count most).1.toNat).1.length:Int)≤most
   rw[hl]
   omega
end
def encIs (l:List Int):List Int:=l.flatMap encI
structure Rf where
 kind:Int
 int:Int
 owner:Int
 number:Int
 idm:Int
 ids:Int
 cls:Int
 weak:Bool
 deriving DecidableEq
structure Lt where
 idm:Int
 ids:Int
 meth:ByteArray
 args:List Rf
 deriving DecidableEq
structure Wa where
 idm:Int
 ids:Int
 meth:ByteArray
 key:Int
 tgt:Rf
 deriving DecidableEq
structure Pc where
 number:Int
 idm:Int
 ids:Int
 kind:Int
 cls:Int
 fields:List Rf
 mail:List Lt
 watches:List Wa
 deriving DecidableEq
structure In where
 client:Int
 number:Int
 out:Int
 deriving DecidableEq
structure An where
 machine:Int
 owner:Int
 number:Int
 epoch:Int
 known:Bool
 rooted:Bool
 last:Int
 inset:List In
 deriving DecidableEq
structure Nd where
 peer:Int
 number:Int
 stamp:Int
 deriving DecidableEq
structure Cl where
 machine:Int
 epoch:Int
 stubs:List Nd
 scions:List Nd
 checks:List Nd
 deriving DecidableEq
structure Ms where
 kind:Int
 number:Int
 asker:Int
 name:ByteArray
 ref:Rf
 letter:Lt
 parcel:Pc
 tm:Int
 ts:Int
 answer:An
 claim:Cl
 deriving DecidableEq
def Rf.zero:Rf:=⟨0,0,0,0,0,0,0,false⟩
def Lt.zero:Lt:=⟨0,0,⟨#[]⟩,[]⟩
def Wa.zero:Wa:=⟨0,0,⟨#[]⟩,0,Rf.zero⟩
def Pc.zero:Pc:=⟨0,0,0,0,0,[],[],[]⟩
def In.zero:In:=⟨0,0,0⟩
def An.zero:An:=⟨0,0,0,0,false,false,0,[]⟩
def Nd.zero:Nd:=⟨0,0,0⟩
def Cl.zero:Cl:=⟨0,0,[],[],[]⟩
def Ms.zero:Ms:=⟨0,0,0,⟨#[]⟩,Rf.zero,Lt.zero,Pc.zero,0,0,An.zero,Cl.zero⟩
def encRf (x:Rf):List Int:=encI x.kind++encI x.owner++encI x.cls++encI x.int++encU x.number++(encI x.idm++encI x.ids)++encB x.weak
def encLt (x:Lt):List Int:=(encI x.idm++encI x.ids)++encS x.meth++encL encRf x.args
def encWa (x:Wa):List Int:=(encI x.idm++encI x.ids)++encS x.meth++encI x.key++encRf x.tgt
def encPc (x:Pc):List Int:=encU x.number++(encI x.idm++encI x.ids)++(encI x.kind++encI x.cls)++encL encRf x.fields++encL encLt x.mail++encL encWa x.watches
def encIn (x:In):List Int:=(encI x.client++encI x.out)++encU x.number
def encAn (x:An):List Int:=(encI x.machine++encI x.owner++encI x.epoch++encI x.last)++encU x.number++encB x.known++encB x.rooted++encL encIn x.inset
def encNd (x:Nd):List Int:=(encI x.peer++encI x.stamp)++encU x.number
def encCl (x:Cl):List Int:=(encI x.machine++encI x.epoch)++encL encNd x.stubs++encL encNd x.scions++encL encNd x.checks
def encMs (x:Ms):List Int:=(encI x.kind++encI x.asker++encI x.tm++encI x.ts)++encU x.number++encS x.name++encRf x.ref++encLt x.letter++encPc x.parcel++encAn x.answer++encCl x.claim
def decRf (r:Rd):Rf × Rd :=
 let a:=r.i;let b:=a.2.i;let c:=b.2.i;let d:=c.2.i;let e:=d.2.u;let f:=e.2.i;let g:=f.2.i;let h:=g.2.bool
 (⟨a.1,d.1,b.1,e.1,f.1,g.1,c.1,h.1⟩,h.2)
def decLt (r:Rd):Lt × Rd :=
 let a:=r.i;let b:=a.2.i;let c:=b.2.text 4096;let d:=c.2.list 1024 decRf
 (⟨a.1,b.1,c.1,d.1⟩,d.2)
def decWa (r:Rd):Wa × Rd :=
 let a:=r.i;let b:=a.2.i;let c:=b.2.text 4096;let d:=c.2.i;let e:=decRf d.2
 (⟨a.1,b.1,c.1,d.1,e.1⟩,e.2)
def decPc (r:Rd):Pc × Rd :=
 let a:=r.u;let b:=a.2.i;let c:=b.2.i;let d:=c.2.i;let e:=d.2.i;let f:=e.2.list 1024 decRf;let g:=f.2.list 1024 decLt;let h:=g.2.list 1024 decWa
 (⟨a.1,b.1,c.1,d.1,e.1,f.1,g.1,h.1⟩,h.2)
def decIn (r:Rd):In × Rd :=
 let a:=r.i;let b:=a.2.i;let c:=b.2.u
 (⟨a.1,c.1,b.1⟩,c.2)
def decAn (r:Rd):An × Rd :=
 let a:=r.i;let b:=a.2.i;let c:=b.2.i;let d:=c.2.i;let e:=d.2.u;let f:=e.2.bool;let g:=f.2.bool;let h:=g.2.list 1024 decIn
 (⟨a.1,b.1,e.1,c.1,f.1,g.1,d.1,h.1⟩,h.2)
def decNd (r:Rd):Nd × Rd :=
 let a:=r.i;let b:=a.2.i;let c:=b.2.u
 (⟨a.1,c.1,b.1⟩,c.2)
def decCl (r:Rd):Cl × Rd :=
 let a:=r.i;let b:=a.2.i;let c:=b.2.list 1024 decNd;let d:=c.2.list 1024 decNd;let e:=d.2.list 1024 decNd
 (⟨a.1,b.1,c.1,d.1,e.1⟩,e.2)
def rfP (x:Rf):Prop:=I64 x.kind∧I64 x.owner∧I64 x.cls∧I64 x.int∧P64 x.number∧I64 x.idm∧I64 x.ids
theorem codRf:Cod encRf decRf rfP:=by
 have h:=codIso (mk:=fun x:Int × Int × Int × Int × Int × Int × Int × Bool=>Rf.mk x.1 x.2.2.2.1 x.2.1 x.2.2.2.2.1 x.2.2.2.2.2.1 x.2.2.2.2.2.2.1 x.2.2.1 x.2.2.2.2.2.2.2) (fro:=fun x=>(x.kind,x.owner,x.cls,x.int,x.number,x.idm,x.ids,x.weak))
  (codBi codI (codBi codI (codBi codI (codBi codI (codBi codU (codBi codI (codBi codI codB))))))) (fun x=>rfl) (fun x=>rfl)
 refine⟨fun x s hx=>?_,h.st,fun r h8 he=>?_⟩
 ·have:=h.fw x s ⟨hx.1,hx.2.1,hx.2.2.1,hx.2.2.2.1,hx.2.2.2.2.1,hx.2.2.2.2.2.1,hx.2.2.2.2.2.2,trivial⟩
  unfold encRf
  simp only[List.append_assoc] at this ⊢
  exact this
 ·obtain⟨a,b,c⟩:=h.bw r h8 he
  refine⟨a,?_,c.1,c.2.1,c.2.2.1,c.2.2.2.1,c.2.2.2.2.1,c.2.2.2.2.2.1,c.2.2.2.2.2.2.1⟩
  unfold encRf
  simp only[List.append_assoc] at b ⊢
  exact b
theorem encU_one (n:Int):1≤(encU n).length:=by unfold encU;simp
theorem encRf_one (x:Rf):1≤(encRf x).length:=by unfold encRf encI;have:=encU_one (zz x.kind);simp only[List.length_append];omega
theorem encLt_one (x:Lt):1≤(encLt x).length:=by unfold encLt encI;have:=encU_one (zz x.idm);simp only[List.length_append];omega
theorem encWa_one (x:Wa):1≤(encWa x).length:=by unfold encWa encI;have:=encU_one (zz x.idm);simp only[List.length_append];omega
theorem encIn_one (x:In):1≤(encIn x).length:=by unfold encIn encI;have:=encU_one (zz x.client);simp only[List.length_append];omega
theorem encNd_one (x:Nd):1≤(encNd x).length:=by unfold encNd encI;have:=encU_one (zz x.peer);simp only[List.length_append];omega
def lP {α:Type} (P:α→Prop) (l:List α):Prop:=(l.length:Int)≤1024∧∀ x∈l,P x
def sP (s:ByteArray):Prop:=(s.size:Int)≤4096
theorem codT:Cod encS (Rd.text 4096) sP:=codS 4096 (by decide)
theorem codLRf:Cod (encL encRf) (Rd.list 1024 decRf) (lP rfP):=codList encRf_one (by decide) codRf
def ltP (x:Lt):Prop:=I64 x.idm∧I64 x.ids∧sP x.meth∧lP rfP x.args
theorem codLt:Cod encLt decLt ltP:=by
 have h:=codIso (mk:=fun x:Int × Int × ByteArray × List Rf=>Lt.mk x.1 x.2.1 x.2.2.1 x.2.2.2) (fro:=fun x=>(x.idm,x.ids,x.meth,x.args)) (codBi codI (codBi codI (codBi codT codLRf))) (fun x=>rfl) (fun x=>rfl)
 refine⟨fun x s hx=>?_,h.st,fun r h8 he=>?_⟩
 ·have:=h.fw x s hx
  unfold encLt
  simp only[List.append_assoc] at this ⊢
  exact this
 ·obtain⟨a,b,c⟩:=h.bw r h8 he
  refine⟨a,?_,c⟩
  unfold encLt
  simp only[List.append_assoc] at b ⊢
  exact b
def waP (x:Wa):Prop:=I64 x.idm∧I64 x.ids∧sP x.meth∧I64 x.key∧rfP x.tgt
theorem codWa:Cod encWa decWa waP:=by
 have h:=codIso (mk:=fun x:Int × Int × ByteArray × Int × Rf=>Wa.mk x.1 x.2.1 x.2.2.1 x.2.2.2.1 x.2.2.2.2) (fro:=fun x=>(x.idm,x.ids,x.meth,x.key,x.tgt)) (codBi codI (codBi codI (codBi codT (codBi codI codRf)))) (fun x=>rfl) (fun x=>rfl)
 refine⟨fun x s hx=>?_,h.st,fun r h8 he=>?_⟩
 ·have:=h.fw x s hx
  unfold encWa
  simp only[List.append_assoc] at this ⊢
  exact this
 ·obtain⟨a,b,c⟩:=h.bw r h8 he
  refine⟨a,?_,c⟩
  unfold encWa
  simp only[List.append_assoc] at b ⊢
  exact b
theorem codLLt:Cod (encL encLt) (Rd.list 1024 decLt) (lP ltP):=codList encLt_one (by decide) codLt
theorem codLWa:Cod (encL encWa) (Rd.list 1024 decWa) (lP waP):=codList encWa_one (by decide) codWa
def pcP (x:Pc):Prop:=P64 x.number∧I64 x.idm∧I64 x.ids∧I64 x.kind∧I64 x.cls∧lP rfP x.fields∧lP ltP x.mail∧lP waP x.watches
theorem codPc:Cod encPc decPc pcP:=by
 have h:=codIso (mk:=fun x:Int × Int × Int × Int × Int × List Rf × List Lt × List Wa=>Pc.mk x.1 x.2.1 x.2.2.1 x.2.2.2.1 x.2.2.2.2.1 x.2.2.2.2.2.1 x.2.2.2.2.2.2.1 x.2.2.2.2.2.2.2) (fro:=fun x=>(x.number,x.idm,x.ids,x.kind,x.cls,x.fields,x.mail,x.watches))
  (codBi codU (codBi codI (codBi codI (codBi codI (codBi codI (codBi codLRf (codBi codLLt codLWa))))))) (fun x=>rfl) (fun x=>rfl)
 refine⟨fun x s hx=>?_,h.st,fun r h8 he=>?_⟩
 ·have:=h.fw x s hx
  unfold encPc
  simp only[List.append_assoc] at this ⊢
  exact this
 ·obtain⟨a,b,c⟩:=h.bw r h8 he
  refine⟨a,?_,c⟩
  unfold encPc
  simp only[List.append_assoc] at b ⊢
  exact b
def inP (x:In):Prop:=I64 x.client∧I64 x.out∧P64 x.number
theorem codIn:Cod encIn decIn inP:=by
 have h:=codIso (mk:=fun x:Int × Int × Int=>In.mk x.1 x.2.2 x.2.1) (fro:=fun x=>(x.client,x.out,x.number)) (codBi codI (codBi codI codU)) (fun x=>rfl) (fun x=>rfl)
 refine⟨fun x s hx=>?_,h.st,fun r h8 he=>?_⟩
 ·have:=h.fw x s hx
  unfold encIn
  simp only[List.append_assoc] at this ⊢
  exact this
 ·obtain⟨a,b,c⟩:=h.bw r h8 he
  refine⟨a,?_,c⟩
  unfold encIn
  simp only[List.append_assoc] at b ⊢
  exact b
theorem codLIn:Cod (encL encIn) (Rd.list 1024 decIn) (lP inP):=codList encIn_one (by decide) codIn
def anP (x:An):Prop:=I64 x.machine∧I64 x.owner∧I64 x.epoch∧I64 x.last∧P64 x.number∧lP inP x.inset
theorem codAn:Cod encAn decAn anP:=by
 have h:=codIso (mk:=fun x:Int × Int × Int × Int × Int × Bool × Bool × List In=>An.mk x.1 x.2.1 x.2.2.2.2.1 x.2.2.1 x.2.2.2.2.2.1 x.2.2.2.2.2.2.1 x.2.2.2.1 x.2.2.2.2.2.2.2) (fro:=fun x=>(x.machine,x.owner,x.epoch,x.last,x.number,x.known,x.rooted,x.inset))
  (codBi codI (codBi codI (codBi codI (codBi codI (codBi codU (codBi codB (codBi codB codLIn))))))) (fun x=>rfl) (fun x=>rfl)
 refine⟨fun x s hx=>?_,h.st,fun r h8 he=>?_⟩
 ·have:=h.fw x s ⟨hx.1,hx.2.1,hx.2.2.1,hx.2.2.2.1,hx.2.2.2.2.1,trivial,trivial,hx.2.2.2.2.2⟩
  unfold encAn
  simp only[List.append_assoc] at this ⊢
  exact this
 ·obtain⟨a,b,c⟩:=h.bw r h8 he
  refine⟨a,?_,c.1,c.2.1,c.2.2.1,c.2.2.2.1,c.2.2.2.2.1,c.2.2.2.2.2.2.2⟩
  unfold encAn
  simp only[List.append_assoc] at b ⊢
  exact b
def ndP (x:Nd):Prop:=I64 x.peer∧I64 x.stamp∧P64 x.number
theorem codNd:Cod encNd decNd ndP:=by
 have h:=codIso (mk:=fun x:Int × Int × Int=>Nd.mk x.1 x.2.2 x.2.1) (fro:=fun x=>(x.peer,x.stamp,x.number)) (codBi codI (codBi codI codU)) (fun x=>rfl) (fun x=>rfl)
 refine⟨fun x s hx=>?_,h.st,fun r h8 he=>?_⟩
 ·have:=h.fw x s hx
  unfold encNd
  simp only[List.append_assoc] at this ⊢
  exact this
 ·obtain⟨a,b,c⟩:=h.bw r h8 he
  refine⟨a,?_,c⟩
  unfold encNd
  simp only[List.append_assoc] at b ⊢
  exact b
theorem codLNd:Cod (encL encNd) (Rd.list 1024 decNd) (lP ndP):=codList encNd_one (by decide) codNd
def clP (x:Cl):Prop:=I64 x.machine∧I64 x.epoch∧lP ndP x.stubs∧lP ndP x.scions∧lP ndP x.checks
theorem codCl:Cod encCl decCl clP:=by
 have h:=codIso (mk:=fun x:Int × Int × List Nd × List Nd × List Nd=>Cl.mk x.1 x.2.1 x.2.2.1 x.2.2.2.1 x.2.2.2.2) (fro:=fun x=>(x.machine,x.epoch,x.stubs,x.scions,x.checks)) (codBi codI (codBi codI (codBi codLNd (codBi codLNd codLNd)))) (fun x=>rfl) (fun x=>rfl)
 refine⟨fun x s hx=>?_,h.st,fun r h8 he=>?_⟩
 ·have:=h.fw x s hx
  unfold encCl
  simp only[List.append_assoc] at this ⊢
  exact this
 ·obtain⟨a,b,c⟩:=h.bw r h8 he
  refine⟨a,?_,c⟩
  unfold encCl
  simp only[List.append_assoc] at b ⊢
  exact b
def msP (x:Ms):Prop:=I64 x.kind∧I64 x.asker∧I64 x.tm∧I64 x.ts∧P64 x.number∧sP x.name∧rfP x.ref∧ltP x.letter∧pcP x.parcel∧anP x.answer∧clP x.claim
def Rd.seq11 {t1:Type} {t2:Type} {t3:Type} {t4:Type} {t5:Type} {t6:Type} {t7:Type} {t8:Type} {t9:Type} {t10:Type} {t11:Type} (d1:Rd→t1 × Rd) (d2:Rd→t2 × Rd) (d3:Rd→t3 × Rd) (d4:Rd→t4 × Rd) (d5:Rd→t5 × Rd) (d6:Rd→t6 × Rd) (d7:Rd→t7 × Rd) (d8:Rd→t8 × Rd) (d9:Rd→t9 × Rd) (d10:Rd→t10 × Rd) (d11:Rd→t11 × Rd) (r:Rd):(t1 × t2 × t3 × t4 × t5 × t6 × t7 × t8 × t9 × t10 × t11) × Rd:=let a1:=d1 r;let a2:=d2 a1.2;let a3:=d3 a2.2;let a4:=d4 a3.2;let a5:=d5 a4.2;let a6:=d6 a5.2;let a7:=d7 a6.2;let a8:=d8 a7.2;let a9:=d9 a8.2;let a10:=d10 a9.2;let a11:=d11 a10.2;((a1.1,a2.1,a3.1,a4.1,a5.1,a6.1,a7.1,a8.1,a9.1,a10.1,a11.1),a11.2)
theorem Rd.seq11_bi {t1:Type} {t2:Type} {t3:Type} {t4:Type} {t5:Type} {t6:Type} {t7:Type} {t8:Type} {t9:Type} {t10:Type} {t11:Type} (d1:Rd→t1 × Rd) (d2:Rd→t2 × Rd) (d3:Rd→t3 × Rd) (d4:Rd→t4 × Rd) (d5:Rd→t5 × Rd) (d6:Rd→t6 × Rd) (d7:Rd→t7 × Rd) (d8:Rd→t8 × Rd) (d9:Rd→t9 × Rd) (d10:Rd→t10 × Rd) (d11:Rd→t11 × Rd) (r:Rd):Rd.bi d1 (Rd.bi d2 (Rd.bi d3 (Rd.bi d4 (Rd.bi d5 (Rd.bi d6 (Rd.bi d7 (Rd.bi d8 (Rd.bi d9 (Rd.bi d10 d11))))))))) r=Rd.seq11 d1 d2 d3 d4 d5 d6 d7 d8 d9 d10 d11 r:=rfl
def decMs (r:Rd):Ms × Rd:=(fun p:(Int × Int × Int × Int × Int × ByteArray × Rf × Lt × Pc × An × Cl) × Rd=>(Ms.mk p.1.1 p.1.2.2.2.2.1 p.1.2.1 p.1.2.2.2.2.2.1 p.1.2.2.2.2.2.2.1 p.1.2.2.2.2.2.2.2.1 p.1.2.2.2.2.2.2.2.2.1 p.1.2.2.1 p.1.2.2.2.1 p.1.2.2.2.2.2.2.2.2.2.1 p.1.2.2.2.2.2.2.2.2.2.2,p.2)) (Rd.seq11 Rd.i Rd.i Rd.i Rd.i Rd.u (Rd.text 4096) decRf decLt decPc decAn decCl r)
theorem decMs_seq (r:Rd):decMs r=(fun p:(Int × Int × Int × Int × Int × ByteArray × Rf × Lt × Pc × An × Cl) × Rd=>(Ms.mk p.1.1 p.1.2.2.2.2.1 p.1.2.1 p.1.2.2.2.2.2.1 p.1.2.2.2.2.2.2.1 p.1.2.2.2.2.2.2.2.1 p.1.2.2.2.2.2.2.2.2.1 p.1.2.2.1 p.1.2.2.2.1 p.1.2.2.2.2.2.2.2.2.2.1 p.1.2.2.2.2.2.2.2.2.2.2,p.2)) (Rd.seq11 Rd.i Rd.i Rd.i Rd.i Rd.u (Rd.text 4096) decRf decLt decPc decAn decCl r):=by unfold decMs;rfl
theorem codMs:Cod encMs decMs msP:=by
 have h:=codBi codI (codBi codI (codBi codI (codBi codI (codBi codU (codBi codT (codBi codRf (codBi codLt (codBi codPc (codBi codAn codCl)))))))))
 have hs:∀ r,_=_:=Rd.seq11_bi Rd.i Rd.i Rd.i Rd.i Rd.u (Rd.text 4096) decRf decLt decPc decAn decCl
 refine⟨fun x s hx=>?_,fun r he=>?_,fun r h8 he=>?_⟩
 ·have:=h.fw (x.kind,x.asker,x.tm,x.ts,x.number,x.name,x.ref,x.letter,x.parcel,x.answer,x.claim) s hx
  rw[hs] at this
  unfold encMs
  simp only[List.append_assoc] at this ⊢
  rw[decMs_seq,this]
 ·rw[decMs_seq] at he
  have h1:=h.st r
  rw[hs] at h1
  generalize Rd.seq11 Rd.i Rd.i Rd.i Rd.i Rd.u (Rd.text 4096) decRf decLt decPc decAn decCl r=p at *
  exact h1 he
 ·rw[decMs_seq] at he ⊢
  have h1:=h.bw r h8
  rw[hs] at h1
  generalize Rd.seq11 Rd.i Rd.i Rd.i Rd.i Rd.u (Rd.text 4096) decRf decLt decPc decAn decCl r=p at *
  obtain⟨a,b,c⟩:=h1 he
  refine⟨a,?_,c⟩
  unfold encMs
  simp only[List.append_assoc] at b ⊢
  exact b
end
section
open Go.RowKit
/-- the state of a form: what is written so far, or what is left to read -/
inductive Fs
 | w (l:List Int)
 | r (rd:Rd)
def Fs.md:Fs→Bool
 | .w _=>true
 | .r _=>false
def stp {α:Type} (enc:α→List Int) (dec:Rd→α × Rd):Fs→α→Fs × α
 | .w l,x=>(.w (l++enc x),x)
 | .r r,_=>(.r (dec r).2,(dec r).1)
theorem stp_md {α:Type} (enc:α→List Int) (dec:Rd→α × Rd) (s:Fs) (x:α):(stp enc dec s x).1.md=s.md:=by cases s <;> rfl
def Fs.fit:Fs→Nat→Prop
 | .w l,n=>l.length+n≤2147483648
 | .r _,_=>True
theorem Fs.fit.mono {s:Fs} {m n:Nat} (h:s.fit n) (hm:m≤n):s.fit m:=by
 cases s with
 | w l=>unfold Fs.fit at h ⊢;simp only at h ⊢;omega
 | r r=>trivial
theorem Fs.fit.next {α:Type} {enc:α→List Int} {dec:Rd→α × Rd} {s:Fs} {x:α} {n:Nat} (h:s.fit ((enc x).length+n)):(stp enc dec s x).1.fit n:=by
 cases s with
 | w l=>unfold Fs.fit at h;show(l++enc x).length+n≤_;rw[List.length_append];simp only at h;omega
 | r r=>trivial
structure Env where
 gf:Nat
 g:Nat
 bb:Nat
def Fm (E:Env) (N:Nat→Prop) (w:World):Fs→Prop
 | .w l=>∃ A c,Bk w E.gf 82 #[.slice A l.length c,.pointer none]∧w.ownsRow 0 5 1 (.slice A l.length c) l.length (byts l)∧(∀ k,(Value.slice A l.length c).ownBlock=some k→¬ N k)∧¬ N E.gf∧∀ k,N k→k < w.heap.size
 | .r r=>Bk w E.gf 82 #[.slice none 0 0,.pointer (some ⟨E.g,0,none⟩)]∧RdX w E.g E.bb r∧E.gf≠E.g∧E.bb < w.heap.size
def FrS (E:Env) (N:Nat→Prop) (b:Nat) (m:Bool) (k:Nat):Prop:=if m=true then ¬ N k else k=E.g ∨ k=b
def Fr (E:Env) (N:Nat→Prop) (b:Nat) (m:Bool) (w w':World):Prop:=Kp (FrS E N b m) w w'
def Hd (E:Env) (N:Nat→Prop) (t:TypeId) (b:Nat) (pre post:List Value) (m:Bool) (w:World) (r:List Value):Prop :=
 if m=true then N b∧∀ j v,r[j]?=some v→w.cell? ⟨b,pre.length+j,none⟩=some v∧w.frozen? ⟨b,pre.length+j,none⟩=false
 else Bk w b t (pre++r++post).toArray∧b≠E.gf∧b≠E.g∧b≠E.bb
/-- what a method of the form leaves -/
def StP (E:Env) (N:Nat→Prop) (t:TypeId) (b:Nat) (pre post:List Value) (s':Fs) (m:Bool) (r':List Value) (w:World) (e:Ending) (w':World):Prop :=
 e=.returned (.tuple #[])∧Fm E N w' s'∧Hd E N t b pre post m w' r'∧Fr E N b m w w'
section
variable {E:Env} {N:Nat→Prop} {t:TypeId} {b:Nat} {pre post r r1 r2 r3:List Value} {m:Bool} {w w' w2:World} {s:Fs}
theorem own_any {base base':Nat} {e:TypeId} {size n:Nat} {v:Value} {xs:List Value} (h:w.ownsRow base e size v n xs) (hv:∀ k,v.ownBlock=some k→base'≤k):w.ownsRow base' e size v n xs:=by
 obtain⟨h1,h2 | ⟨g,cap,cur,h2,h3,h4⟩⟩:=h
 ·exact⟨h1,.inl h2⟩
 ·subst h2
  exact⟨h1,.inr ⟨g,cap,cur,rfl,hv g rfl,h4⟩⟩
theorem Fm.below (h:Fm E N w s) (hb:Below w.heap.size w w'):Fm E N w' s:=by
 cases s with
 | w l =>
  obtain⟨A,c,h1,h2,h3,h4,h5⟩:=h
  exact⟨A,c,h1.below hb h1.lt,own_local h2 fun k hk=>hb.block k (h2.lt k hk).2,h3,h4,fun k hk=>Nat.lt_of_lt_of_le (h5 k hk) hb.size⟩
 | r r=>exact⟨h.1.below hb h.1.lt,h.2.1.below hb,h.2.2.1,Nat.lt_of_lt_of_le h.2.2.2 hb.size⟩
theorem frozen_of_block {w w':World} {a:Addr} (h:w'.heap[a.block]?=w.heap[a.block]?):w'.frozen? a=w.frozen? a:=by unfold World.frozen?;rw[h]
theorem Hd.kp {S:Nat→Prop} (h:Hd E N t b pre post m w r) (hk:Kp S w w') (hS:¬ S b):Hd E N t b pre post m w' r:=by
 unfold Hd at h ⊢
 cases m with
 | true =>
  rw[if_pos rfl] at h ⊢
  refine⟨h.1,fun j v hv=>?_⟩
  obtain⟨h1,h2⟩:=h.2 j v hv
  refine⟨hk.cell h1 hS,?_⟩
  rw[frozen_of_block (hk.block b (cell_lt h1) hS)]
  exact h2
 | false =>
  rw[if_neg (by simp)] at h ⊢
  exact⟨h.1.kp hk hS,h.2⟩
theorem Hd.below (h:Hd E N t b pre post m w r) (hb:Below w.heap.size w w'):Hd E N t b pre post m w' r:=h.kp (S:=fun _=>False) (Kp.of_below hb) (fun h=>h)
theorem Hd.cell (h:Hd E N t b pre post m w r) {j:Nat} {v:Value} (hv:r[j]?=some v):w.cell? ⟨b,pre.length+j,none⟩=some v∧w.frozen? ⟨b,pre.length+j,none⟩=false:=by
 unfold Hd at h
 cases m with
 | true=>rw[if_pos rfl] at h;exact h.2 j v hv
 | false =>
  rw[if_neg (by simp)] at h
  refine⟨?_,h.1.free _⟩
  rw[h.1.cell]
  have hl:=(List.getElem?_eq_some_iff.1 hv).1
  rw[List.getElem?_toArray,List.append_assoc,List.getElem?_append_right (by omega),List.getElem?_append_left (by omega),show pre.length+j - pre.length=j by omega,hv]
theorem Hd.sub (h:Hd E N t b pre post m w (r1++(r2++r3))):Hd E N t b (pre++r1) (r3++post) m w r2:=by
 cases m with
 | true =>
  unfold Hd
  rw[if_pos rfl]
  have h':=h
  unfold Hd at h'
  rw[if_pos rfl] at h'
  refine⟨h'.1,fun j v hv=>?_⟩
  have hl:=(List.getElem?_eq_some_iff.1 hv).1
  have:=h.cell (j:=r1.length+j) (v:=v) (by rw[List.getElem?_append_right (by omega),show r1.length+j - r1.length=j by omega,List.getElem?_append_left hl];exact hv)
  rw[List.length_append,Nat.add_assoc]
  exact this
 | false =>
  unfold Hd at h ⊢
  rw[if_neg (by simp)] at h ⊢
  refine⟨?_,h.2⟩
  have:=h.1
  simp only[List.append_assoc] at this ⊢
  exact this
theorem Hd.back {r2':List Value} (h0:Hd E N t b pre post m w (r1++(r2++r3))) (hf:Fr E N b m w w') (hl:r2'.length=r2.length) (h:Hd E N t b (pre++r1) (r3++post) m w' r2'):Hd E N t b pre post m w' (r1++(r2'++r3)):=by
 cases m with
 | true =>
  have hb:N b:=by unfold Hd at h;rw[if_pos rfl] at h;exact h.1
  have h1:=h0.kp hf (by unfold FrS;rw[if_pos rfl];exact fun hn=>hn hb)
  unfold Hd
  rw[if_pos rfl]
  refine⟨hb,fun j v hv=>?_⟩
  by_cases c1:j < r1.length
  ·refine h1.cell ?_
   rw[List.getElem?_append_left c1] at hv ⊢
   exact hv
  ·rw[List.getElem?_append_right (by omega)] at hv
   by_cases c2:j - r1.length < r2'.length
   ·rw[List.getElem?_append_left c2] at hv
    have:=h.cell hv
    rw[List.length_append,show pre.length+r1.length+(j - r1.length)=pre.length+j by omega] at this
    exact this
   ·refine h1.cell ?_
    rw[List.getElem?_append_right (by omega)] at hv
    rw[List.getElem?_append_right (by omega),List.getElem?_append_right (by omega),← hl]
    exact hv
 | false =>
  unfold Hd at h ⊢
  rw[if_neg (by simp)] at h ⊢
  refine⟨?_,h.2⟩
  have:=h.1
  simp only[List.append_assoc] at this ⊢
  exact this
theorem Fr.refl:Fr E N b m w w:=Kp.refl _ _
theorem Fr.trans (h:Fr E N b m w w') (h':Fr E N b m w' w2):Fr E N b m w w2:=Kp.trans h h' fun _ _ h=>h
theorem Fr.ofBelow (h:Below w.heap.size w w'):Fr E N b m w w':=Kp.of_below h
/-- a place of one cell, written -/
theorem bk_mid {x y:Value} (h:Bk w b t (pre++[x]++post).toArray):Bk (w.setCell ⟨b,pre.length,none⟩ y) b t (pre++[y]++post).toArray:=by
 have:=h.set pre.length y
 have e:(pre++[x]++post).toArray.setIfInBounds pre.length y=(pre++[y]++post).toArray:=by
  rw[List.setIfInBounds_toArray,List.append_assoc,List.append_assoc,List.set_append_right _ _ (Nat.le_refl _),Nat.sub_self]
  rfl
 rw[e] at this
 exact this
end
end
end Go.Proofs.YtmbnlccafcfbeaaGreatDoor
