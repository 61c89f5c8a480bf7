/- Parts of the proof: Wire1, Wire5, SepF, SepC. -/
import Derived.BigQuiet
import Derived.Deep.DeepCutAuto
import Derived.Deep.QuietTactic
import Derived.IntWalk
import Derived.Laws.Bits64
import Derived.Lib.Zigzag
import Derived.Maps.AppendAt
import Derived.StillTailTactics
import Derived.Test.YtmbnlccafcfbeaaDoorPqA
import Derived.Test.YtmbnlccafcfbeaaDoorProg
import Derived.Test.YtmbnlccafcfbeaaDoorPq0
import Derived.Test.YtmbnlccafcfbeaaDoorPq1
import Derived.Test.YtmbnlccafcfbeaaDoorPq2
set_option linter.unusedVariables false
set_option linter.unusedSimpArgs false
set_option linter.unusedSectionVars false
set_option maxRecDepth 100000
namespace Go.Proofs.YtmbnlccafcfbeaaDoor
section
open Go.RowKit
attribute [local go_sem] Oper.semAt_some
def byts (l:List Int):List Value:=l.map (Value.int .u8)
theorem byts_len (l:List Int):(byts l).length=l.length:=by simp[byts]
theorem byts_app (l k:List Int):byts (l++k)=byts l++byts k:=by simp[byts]
/-- a row behind an append -/
def ApP (B:Nat) (w:World) (V:Value) (l:List Int) (e:Ending) (w':World):Prop:=∃ v,e=.returned v∧w'.ownsRow B 5 1 v l.length (byts l)∧Kp (fun k=>V.ownBlock=some k) w w'∧∀ q,v.ownBlock=some q→V.ownBlock=some q ∨ w.heap.size≤q
theorem i_u8:(Tryd.prog.info? 5).map (fun i=>(i.zero,i.size,i.bytes))=some (some (.int .u8 0),1,1):=by kernel_rfl
section
variable {w w1:World} {B c n:Nat} {A:Option Addr} {l:List Int} {x:Int} {t:TypeId} {v v1:Value}
theorem ap_row (h:w1.ownsRow B 5 1 v1 (l.length+1) (byts l++[.int .u8 x])):w1.ownsRow B 5 1 v1 (l++[x]).length (byts (l++[x])):=by
 rw[byts_app,List.length_append];exact h
theorem ap_kp {o:Obj} (h:(w.alloc o).grownBy w1 v.ownBlock):Kp (fun k=>v.ownBlock=some k) w w1:=(Kp.of_below ((Below.refl w.heap.size w).alloc (Nat.le_refl _) o)).trans (Kp.of_grown h fun k hk=>hk) fun k _ hk=>hk
theorem ap_own {o:Obj} (h:v1.ownBlock=v.ownBlock ∨ v1.ownBlock=some (w.alloc o).heap.size):∀ q,v1.ownBlock=some q→v.ownBlock=some q ∨ w.heap.size≤q:=fun k hk=>by
 rcases h with e | e
 ·rw[e] at hk;exact .inl hk
 ·rw[e] at hk
  have e2:=Option.some.inj hk
  simp at e2
  exact .inr (by omega)
end
section
variable {w:World} {B c:Nat} {A:Option Addr} {l:List Int} {n:Int}
set_option maxHeartbeats 4000000 in
theorem AppendUint_any (ho:w.ownsRow B 5 1 (.slice A l.length c) l.length (byts l)) (hB:B≤w.heap.size) (hn:P64 n) (hl:l.length≤4294967296):Calls Tryd.prog 26 #[.slice A l.length c,.int .u64 n] w (ApP B w (.slice A l.length c) (l++encU n)):=by
 obtain⟨N,rfl⟩:=Int.eq_ofNat_of_zero_le hn.1
 have hN:N < 18446744073709551616:=by unfold P64 at hn;omega
 obtain⟨J,hJ⟩:∃ J,J=(digs N).length:=⟨_,rfl⟩
 have hJ8:J≤8:=by rw[hJ];exact digs_len 8 N (by omega)
 have HO:=lh ho
 have HJ:=lh hJ
 have HE:Hid (encU (N:Int)=(J:Int)::digs N):=lh (by unfold encU;rw[Int.toNat_natCast,hJ])
 obtain⟨i0,hi,hz0,hz1,hz2⟩:=info_parts i_u8
 have HI:=lh (And.intro hi (And.intro hz0 (And.intro hz1 hz2)))
 have hlc:l.length≤c:=by obtain⟨A',c',e,h⟩:=own_shape ho;injection e with _ _ e3;omega
 clear ho hJ hi hz0 hz1 hz2 hn
 go_enter Tryd.func26,Tryd.ntmps26
 go_wp2_with fail
 go_loop [5,6] (fun k r=>∃ (j m:Nat),k=.int .i64 (j:Int)∧r=.int .u64 (m:Int)∧j+(digs m).length=J∧m≤N) (fun _ r=>(intOf r).toNat)
 case atStart=>exact⟨0,N,rfl,rfl,by rw[HJ.out];omega,Nat.le_refl _⟩
 case round =>
  obtain⟨j,m,rfl,rfl,hjm,hm⟩:=hrel
  by_cases h0:m=0
  ·subst h0
   rw[digs_zero] at hjm
   obtain rfl:j=J:=by simpa using hjm
   have hwj:IntKind.u8.wrap (j:Int)=(j:Int):=by rw[IntKind.wrap_u8];omega
   clear hjm hm
   go_wp2_with (at_builtin;refine wpList_append_own_at _ rfl (.tmp 15) (.tmp 18) 29 rfl B 5 i0 (.int .u8 0) 1 1 Tryd.underlying29 HI.out.1 HI.out.2.1 HI.out.2.2.1 HI.out.2.2.2 rfl (by decide) _ l.length _ rfl (HO.out.alloc _) ⟨w.heap.size,0,none⟩ 1 1 [.int .u8 (j:Int)] rfl rfl (cell_one_new _ _ _) (by simp[Value.oneCell']) (by unfold maxLen;omega) (by omega) (by simp;omega) ?_;intro v1 w1 ho1 hg1 _ hl1;have HO1:=lh ho1;have HG1:=lh hg1;have HL1:=lh hl1;clear ho1 hg1 hl1)
   clear hwj
   go_loopw [0,7] (fun v ix wr=>∃ q:Nat,ix=.int .i64 ((q:Int) - 1)∧q≤j∧wr.ownsRow B 5 1 v (l++((j:Int)::(digs N).take (j - q))).length (byts (l++((j:Int)::(digs N).take (j - q))))∧Kp (fun k=>(Value.slice A l.length c).ownBlock=some k) w wr∧∀ k,v.ownBlock=some k→(Value.slice A l.length c).ownBlock=some k ∨ w.heap.size≤k) (fun _ ix _=>(intOf ix+1).toNat)
   case atStart =>
    refine⟨j,rfl,Nat.le_refl _,?_,?_,fun k hk=>?_⟩
    ·rw[Nat.sub_self,List.take_zero,byts_app,List.length_append]
     exact HO1.out
    ·exact(Kp.of_below ((Below.refl w.heap.size w).alloc (Nat.le_refl _) _)).trans (Kp.of_grown HG1.out fun k hk=>hk) fun k _ hk=>hk
    ·rcases HL1.out with e | e
     ·rw[e] at hk;exact .inl hk
     ·rw[e] at hk
      have e2:=Option.some.inj hk
      simp at e2
      exact .inr (by omega)
   case round =>
    clear HO1 HG1 HL1
    obtain⟨q,rfl,hq,hown,hkp,hvo⟩:=hrel
    have HOW:=lh hown
    have HK:=lh hkp
    have HV:=lh hvo
    obtain⟨A1,c1,rfl,hc1⟩:=own_shape hown
    clear hown hkp hvo
    cases q with
    | zero =>
     have e0:(((0:Nat):Int) - 1)=-1:=rfl
     rw[e0]
     have hJd:=HJ.out
     have hL:l++((j:Int)::(digs N).take (j - 0))=l++encU (N:Int):=by rw[HE.out,List.take_of_length_le (by omega)]
     rw[hL] at HOW HV ⊢
     clear hL hJd
     go_wp2_with fail
     go_ret
     exact⟨.slice A1 (l++encU (N:Int)).length c1,rfl,HOW.out,HK.out,HV.out⟩
    | succ p =>
     have e0:(((p+1:Nat):Int) - 1)=(p:Int):=by omega
     rw[e0]
     have hJd:=HJ.out
     have hdt:=digs_take (n:=N) (t:=j - (p+1)) (by omega)
     rw[← hJd,show j - 1 - (j - (p+1))=p by omega,show j - (p+1)+1=j - p by omega] at hdt
     obtain⟨x,hx⟩:∃ x:Int,x=((N / 256 ^ p % 256:Nat):Int):=⟨_,rfl⟩
     rw[← hx] at hdt
     have hsh:(N:Int) / 2 ^ (8*p) % 256=x:=by
      have e:((256:Nat) ^ p:Nat)=2 ^ (8*p):=by rw[Nat.pow_mul]
      rw[hx,e]
      simp
     have hlen:(l++((j:Int)::(digs N).take (j - (p+1)))).length≤4294967305:=by rw[List.length_append,List.length_cons,List.length_take];omega
     have hks:=HK.out.size
     have HDT:=lh hdt
     have hjp:p < 8:=by omega
     generalize hL:l++((j:Int)::(digs N).take (j - (p+1)))=L1 at *
     have HL1:=lh hL
     clear hx hdt hJd hL
     go_wp2_with (at_builtin;refine wpList_append_own_at _ rfl (.tmp 26) (.tmp 32) 29 rfl B 5 i0 (.int .u8 0) 1 1 Tryd.underlying29 HI.out.1 HI.out.2.1 HI.out.2.2.1 HI.out.2.2.2 rfl (by decide) _ L1.length _ rfl (HOW.out.alloc _) ⟨wr.heap.size,0,none⟩ 1 1 [.int .u8 x] rfl rfl (cell_one_new _ _ _) (by simp[Value.oneCell']) (by unfold maxLen;omega) (by omega) (by simp;omega) ?_;intro v1 w1 ho1 hg1 _ hl1;have HO1:=lh ho1;have HG1:=lh hg1;have HA1:=lh hl1;clear ho1 hg1 hl1)
     go_roundw
     case rel =>
      refine⟨p,by go_num,by omega,?_,?_,fun k hk=>?_⟩
      ·rw[HDT.out,← List.cons_append,← List.append_assoc,HL1.out,byts_app,List.length_append]
       exact HO1.out
      ·exact HK.out.trans ((Kp.of_below ((Below.refl wr.heap.size wr).alloc (Nat.le_refl _) _)).trans (Kp.of_grown (S:=fun k=>(Value.slice A1 L1.length c1).ownBlock=some k) HG1.out fun k hk=>hk) fun k _ hk=>hk) fun k hk h=>(HV.out k h).resolve_right (by omega)
      ·rcases HA1.out with e | e
       ·rw[e] at hk;exact HV.out k hk
       ·rw[e] at hk
        have e2:=Option.some.inj hk
        simp at e2
        exact .inr (by omega)
     case measure=>simp[intOf]
  ·have hd:=digs_step h0
   go_wp2_with fail
   go_round
   case rel=>exact⟨j+1,m / 256,by go_num,by go_num,by omega,by omega⟩
   case measure=>simp[intOf];omega
theorem zz_enc {n:Int} (h:I64 n):bits .xor .u64 (IntKind.u64.wrap (IntKind.u64.wrap n*2)) (IntKind.u64.wrap (n / 9223372036854775808))=zz n:=by
 unfold I64 at h
 by_cases h0:0≤n
 ·have e1:IntKind.u64.wrap (IntKind.u64.wrap n*2)=(((2*n).toNat:Nat):Int):=by rw[IntKind.wrap_u64,IntKind.wrap_u64];omega
  have e2:IntKind.u64.wrap (n / 9223372036854775808)=((0:Nat):Int):=by rw[IntKind.wrap_u64];omega
  rw[e1,e2,bits_xor_u64_nat _ _ (by omega) (by decide),Nat.xor_zero]
  unfold zz
  rw[if_pos h0]
  omega
 ·have e1:IntKind.u64.wrap (IntKind.u64.wrap n*2)=(((2*n+18446744073709551616).toNat:Nat):Int):=by rw[IntKind.wrap_u64,IntKind.wrap_u64];omega
  have e2:IntKind.u64.wrap (n / 9223372036854775808)=((2 ^ 64 - 1:Nat):Int):=by
   rw[show n / 9223372036854775808=-1 by omega]
   decide
  rw[e1,e2,bits_xor_u64_nat _ _ (by omega) (by decide),Nat.xor_comm,Lib.xor_ones64 _ (by omega)]
  unfold zz
  rw[if_neg h0]
  omega
theorem AppendInt_any (ho:w.ownsRow B 5 1 (.slice A l.length c) l.length (byts l)) (hB:B≤w.heap.size) (hn:I64 n) (hl:l.length≤4294967296):Calls Tryd.prog 30 #[.slice A l.length c,.int .i64 n] w (ApP B w (.slice A l.length c) (l++encI n)):=by
 have cU:=AppendUint_any ho hB (zz_rg hn) hl
 have hz:=zz_enc hn
 unfold I64 at hn
 obtain⟨n0,n1⟩:=hn
 clear ho hB hl
 go_enter Tryd.func30,Tryd.ntmps30
 go_wp2_with fail
 refine cU.mono ?_
 rintro e w' ⟨v,rfl,hr⟩
 have H:=lh hr
 clear cU hr
 go_wp2_with fail
 go_ret
 exact⟨v,rfl,H.out⟩
theorem AppendBool_any {x:Bool} (ho:w.ownsRow B 5 1 (.slice A l.length c) l.length (byts l)) (hB:B≤w.heap.size) (hl:l.length≤4294967296):Calls Tryd.prog 28 #[.slice A l.length c,.bool x] w (ApP B w (.slice A l.length c) (l++encB x)):=by
 have HO:=lh ho
 obtain⟨i0,hi,hz0,hz1,hz2⟩:=info_parts i_u8
 have HI:=lh (And.intro hi (And.intro hz0 (And.intro hz1 hz2)))
 clear ho hi hz0 hz1 hz2
 cases x with
 | true =>
  go_enter Tryd.func28,Tryd.ntmps28
  go_wp2_with (at_builtin;refine wpList_append_own_at _ rfl (.tmp 6) (.tmp 7) 29 rfl B 5 i0 (.int .u8 0) 1 1 Tryd.underlying29 HI.out.1 HI.out.2.1 HI.out.2.2.1 HI.out.2.2.2 rfl (by decide) _ l.length _ rfl (HO.out.alloc _) ⟨w.heap.size,0,none⟩ 1 1 [.int .u8 1] rfl rfl (cell_one_new _ _ _) (by simp[Value.oneCell']) (by unfold maxLen;omega) (by omega) (by simp;omega) ?_;intro v1 w1 ho1 hg1 _ hl1;have HO1:=lh ho1;have HG1:=lh hg1;have HL1:=lh hl1;clear ho1 hg1 hl1)
  go_ret
  exact⟨v1,rfl,ap_row HO1.out,ap_kp HG1.out,ap_own HL1.out⟩
 | false =>
  go_enter Tryd.func28,Tryd.ntmps28
  go_wp2_with (at_builtin;refine wpList_append_own_at _ rfl (.tmp 9) (.tmp 10) 29 rfl B 5 i0 (.int .u8 0) 1 1 Tryd.underlying29 HI.out.1 HI.out.2.1 HI.out.2.2.1 HI.out.2.2.2 rfl (by decide) _ l.length _ rfl (HO.out.alloc _) ⟨w.heap.size,0,none⟩ 1 1 [.int .u8 0] rfl rfl (cell_one_new _ _ _) (by simp[Value.oneCell']) (by unfold maxLen;omega) (by omega) (by simp;omega) ?_;intro v1 w1 ho1 hg1 _ hl1;have HO1:=lh ho1;have HG1:=lh hg1;have HL1:=lh hl1;clear ho1 hg1 hl1)
  go_ret
  exact⟨v1,rfl,ap_row HO1.out,ap_kp HG1.out,ap_own HL1.out⟩
end
end
section
open Go.RowKit
attribute [local go_sem] Oper.semAt_some
/-- a reader in memory: at g, its bytes in the block bb -/
structure RdR (w:World) (g bb:Nat) (r:Rd) (A:Option Addr) (c:Nat):Prop where
 bk:Bk w g 79 #[.slice A r.b.length c,.int .i64 r.e]
 cap:r.b.length≤c
 cm:c≤9223372036854775807
 sl:Sl w 1 A r.b.length (byts r.b)
 at_:∀ b o m,A=some ⟨b,o,m⟩→b=bb∧m=none
 nz:A=none→c=0
 ne:bb≠g
 b8:B8 r.b
section
variable {w w':World} {g bb c:Nat} {r:Rd} {A:Option Addr}
end
/-- some reader -/
def RdX (w:World) (g bb:Nat) (r:Rd):Prop:=∃ A c,RdR w g bb r A c
section
variable {w:World} {g bb c fid:Nat} {r:Rd} {A:Option Addr} {caps:Array Value} {b b1:List Int} {code:Int} {X:World→Prop}
end
section
variable {w:World} {g bb c p q:Nat} {A:Option Addr} {b s:List Int} {n:Int}
end
end
section
open Go.RowKit
section
variable {P:Program} {W w w1:World} {vs:Nat→Value}
def Ent.of (T:Value→World→Prop) (hT:∀ v w w',T v w→Below w.heap.size w w'→T v w') (ob:Value→Option Nat:=fun _=>none):Ent W:=⟨[],fun _ v w=>T v w,ob,fun _ v w w' h _ hb=>hT v w w' h hb,fun _ _ _ _ _ h=>h⟩
def Ent.ex (T:Value→Prop):Ent W:=⟨[],fun _ v _=>T v,fun _=>none,fun _ _ _ _ h _ _=>h,fun _ _ _ _ _ h=>h⟩
def Ent.val (x:Value):Ent W:=Ent.ex fun v=>v=x
def Ent.blk (t:TypeId) (cs:Array Value):Ent W:=Ent.of (fun v w=>∃ g,v=.pointer (some ⟨g,0,none⟩)∧Bk w g t cs) (fun v w w' ⟨g,e,h⟩ hb=>⟨g,e,h.below hb h.lt⟩) blkOf
/-- the same value as another operation's, of which something is known -/
def Ent.same (m:Nat) (T:Value→World→Prop) (hT:∀ v w w',T v w→Below w.heap.size w w'→T v w'):Ent W:=⟨[m],fun vs v w=>v=vs m∧T v w,fun _=>none,fun _ v w w' h _ hb=>⟨h.1,hT v w w' h.2 hb⟩,fun vs vs' v w hj h=>⟨h.1.trans (hj m (List.mem_singleton_self m)),h.2⟩⟩
def EL (l:List (Ent W)) (i:Nat):Ent W:=l.getD i (Ent.val undef)
/-- what the operation leaves -/
def Adds (E:Ent W) (vs:Nat→Value) (w:World) (v:Value) (w':World):Prop:=E.R vs v w'∧Below w.heap.size w w'∧∀ k,E.ob v=some k→w.heap.size≤k∧k < w'.heap.size
theorem adds_val {X x:Value} (h:x=X):Made P (Adds (Ent.val (W:=W) X) vs w) (.ok (.value x) w):=⟨h,Below.refl _ _,(fun k hk=>nomatch hk)⟩
theorem adds_quiet {f:FuncId} {args:Array Value} {X:Value} (h:Calls P f args w fun e w'=>e=.returned X∧∃ n,w'=w.drewN n):Made P (Adds (Ent.val (W:=W) X) vs w) (.ok (.enter f args) w) :=
 h.mono fun e w' ⟨he,n,hw⟩=>⟨_,he,rfl,by subst hw;exact below_drewN (Below.refl _ _) n,(fun k hk=>nomatch hk)⟩
theorem adds_still {f:FuncId} {args:Array Value} {X:Value} (h:Calls P f args w fun e w'=>e=.returned X∧w=w'):Made P (Adds (Ent.val (W:=W) X) vs w) (.ok (.enter f args) w) :=
 h.mono fun e w' ⟨he,hw⟩=>⟨_,he,rfl,by subst hw;exact Below.refl _ _,(fun k hk=>nomatch hk)⟩
theorem adds_below {f:FuncId} {args:Array Value} {X:Value} (h:Calls P f args w fun e w'=>e=.returned X∧Below w.heap.size w w'):Made P (Adds (Ent.val (W:=W) X) vs w) (.ok (.enter f args) w) :=
 h.mono fun e w' ⟨he,hb⟩=>⟨_,he,rfl,hb,(fun k hk=>nomatch hk)⟩
theorem adds_call {f:FuncId} {args:Array Value} {T:Value→World→Prop} {hT:∀ v w w',T v w→Below w.heap.size w w'→T v w'} {ob:Value→Option Nat} {Q:Ending→World→Prop} (h:Calls P f args w Q) (hQ:∀ e w',Q e w'→∃ v,e=.returned v∧T v w'∧Below w.heap.size w w'∧∀ k,ob v=some k→w.heap.size≤k∧k < w'.heap.size):Made P (Adds (Ent.of (W:=W) T hT ob) vs w) (.ok (.enter f args) w) :=
 h.mono fun e w' hq=>let ⟨v,he,h1,h2,h3⟩:=hQ e w' hq;⟨v,he,h1,h2,h3⟩
/-- .. without guarded operations -/
theorem wp_region_adds0 {id:Nat} {a0:Act} {W:World} {l:List Oper} {Q:Exit→Act→World→Prop} (n:Nat) (ds:Nat→List Nat) (E:Nat→Ent W) (hm:P.follows .mixedOrders=true) (hBB:sepG true l.toArray l.length n ds (fun _=>[])=true) (hb:sepB l.toArray l.length n ds (fun _=>[])=true)
  (hdl:(List.range n).all (fun i=>(E i).dl.all ((ds i).contains ·))=true)
  (hN:(List.range n).all (fun i=>match dstOf l.toArray i with | some d=>decide (d < a0.tmps.size) | none=>true)=true)
  (hstep:∀ i,i < n→∀ o,l[i]?=some o→∀ vs w,Below W.heap.size W w→(∀ j∈ds i,(E j).R vs (vs j) w)→Made P (Adds (E i) vs w) ((execOp (frm l.toArray a0 vs (ds i)).eval o).run P w))
  (hend:∀ vs w,Below W.heap.size W w→(∀ i,i < n→(E i).R vs (vs i) w∧∀ k,(E i).ob (vs i)=some k→W.heap.size≤k∧k < w.heap.size)→(∀ i,i < n→∀ i',i' < n→i≠i'→∀ k,(E i).ob (vs i)=some k→(E i').ob (vs i')≠some k)→wpList P l.toArray Q (l.drop n) (frm l.toArray a0 vs (List.range n)) w) :
  (Code.region id l.toArray true).wp P Q a0 W :=
 wp_region_adds n ds E hm hBB (fun i hi o ho g b hgb=>by rw[sepB_bare hb i hi o (by simpa using ho)] at hgb;cases hgb) hdl hN hstep hend
end
end
section
open Go.RowKit
def pureOp:Op→Bool
 | .move _=>true
 | .assign _=>true
 | .extract _ _=>true
 | _=>false
structure SepF (ops:Array Oper) (n:Nat) (fl:Nat→Bool):Prop where
 pure:∀ i,i < n→fl i=true→∀ o,ops[i]?=some o→pureOp o.op=true∧o.guard=none
 bare:∀ k,n≤k→∀ o,ops[k]?=some o→o.guard=none
 topnd:∀ k,n≤k→∀ o,ops[k]?=some o→∀ t,.tmp t∈o.op.operands→∀ j,j < n→fl j=true→dstOf ops j=some t→waits ops k j=true
 tdst:∀ k,n≤k→∀ d,dstOf ops k=some d→∀ j,j < n→dstOf ops j≠some d∧(fl j=true→∀ o,ops[j]?=some o→.tmp d ∉ o.op.operands)
def sepF (ops:Array Oper) (n:Nat) (fl:Nat→Bool):Bool :=
 (List.range n).all (fun i=>!fl i || ((ops[i]?).map fun o=>pureOp o.op && o.guard.isNone).getD true) &&
 (List.range ops.size).all (fun k=>decide (k < n) || ((ops[k]?).map fun o=>o.guard.isNone && (List.range n).all fun j =>
  (!fl j || o.op.operands.all fun x=>match x with | .tmp t=>dstOf ops j != some t || waits ops k j | _=>true) &&
  (match o.dst with
   | some d=>dstOf ops j != some d && (!fl j || ((ops[j]?).map fun oj=>oj.op.operands.all fun x=>match x with | .tmp t=>t != d | _=>true).getD true)
   | none=>true)).getD true)
theorem SepF.of {ops:Array Oper} {n:Nat} {fl:Nat→Bool} (h:sepF ops n fl=true):SepF ops n fl:=by
 unfold sepF at h
 simp only[Bool.and_eq_true,List.all_eq_true,List.mem_range,Bool.or_eq_true,decide_eq_true_eq] at h
 obtain⟨h1,h2⟩:=h
 have key:∀ k,n≤k→∀ o,ops[k]?=some o→(o.guard.isNone=true∧∀ j,j < n→((!fl j)=true ∨ (o.op.operands.all fun x=>match x with | .tmp t=>dstOf ops j != some t || waits ops k j | _=>true)=true)∧(match o.dst with
   | some d=>dstOf ops j != some d && (!fl j || ((ops[j]?).map fun oj=>oj.op.operands.all fun x=>match x with | .tmp t=>t != d | _=>true).getD true)
   | none=>true)=true):=fun k hk o ho=>by
  have hlt:k < ops.size:=(Array.getElem?_eq_some_iff.1 ho).1
  rcases h2 k hlt with h | h
  ·omega
  ·rw[ho] at h
   simp only[Option.map_some,Option.getD_some,Bool.and_eq_true,List.all_eq_true,List.mem_range,Bool.or_eq_true] at h
   exact⟨h.1,fun j hj=>h.2 j hj⟩
 refine⟨fun i hi hf o ho=>?_,fun k hk o ho=>?_,fun k hk o ho t ht j hj hf hd=>?_,fun k hk d hd j hj=>?_⟩
 ·rcases h1 i hi with h | h
  ·rw[hf] at h;cases h
  ·rw[ho] at h
   simp only[Option.map_some,Option.getD_some,Bool.and_eq_true] at h
   exact⟨h.1,by simpa using h.2⟩
 ·simpa using (key k hk o ho).1
 ·rcases ((key k hk o ho).2 j hj).1 with h | h
  ·rw[hf] at h;cases h
  ·have:=(Array.all_eq_true_iff_forall_mem.1 h) _ ht
   simpa [hd] using this
 ·obtain⟨o,ho⟩:∃ o,ops[k]?=some o:=by
   unfold dstOf at hd
   cases h:ops[k]? with
   | none=>rw[h] at hd;cases hd
   | some o=>exact⟨o,rfl⟩
  have h3:=((key k hk o ho).2 j hj).2
  have hod:o.dst=some d:=by unfold dstOf at hd;rw[ho] at hd;exact hd
  rw[hod] at h3
  simp only[Bool.and_eq_true,bne_iff_ne,ne_eq,Bool.or_eq_true] at h3
  refine⟨h3.1,fun hf oj hoj hm=>?_⟩
  rcases h3.2 with h4 | h4
  ·rw[hf] at h4;cases h4
  ·rw[hoj] at h4
   simp only[Option.map_some,Option.getD_some] at h4
   have:=(Array.all_eq_true_iff_forall_mem.1 h4) _ hm
   simp at this
section
variable {P:Program} {ops:Array Oper} {N n:Nat} {ds eats:Nat→List Nat} {fl:Nat→Bool} {W:World} {B:Nat} {ini:Nat→Option Nat} {a0:Act} {Q:Exit→Act→World→Prop} {ob:Nat→Value→Option Nat} {R:Nat→(Nat→Value)→Value→World→Prop}
/-- the tail has begun: the frame as it is (a), and as it would be if no operation had come late (b) -/
structure TInv (P:Program) (ops:Array Oper) (N n m:Nat) (fl:Nat→Bool) (vs:Nat→Value) (L:Array Bool) (a b:Act):Prop where
 lsize:L.size=N
 lo:∀ j,j < n→L.getD j false=false→fl j=true
 tl:∀ j,n≤j→j < m→L.getD j false=true
 th:∀ j,m≤j→j < N→L.getD j true=false
 defers:a.defers=b.defers
 size:a.tmps.size=b.tmps.size
 same:∀ d,(∀ j,j < n→L.getD j false=false→dstOf ops j≠some d)→a.tmps[d]?=b.tmps[d]?
 ahead:∀ j,j < n→L.getD j false=false→∀ d,dstOf ops j=some d→d < b.tmps.size→b.tmps[d]?=some (vs j)
 run:∀ j,j < n→L.getD j false=false→∀ o,ops[j]?=some o→∀ w,(execOp b.eval o).run P w=.ok (.value (vs j)) w
theorem put_tmps {a:Act} {d e:Nat} {v:Value}:(a.put (some d) v).tmps[e]?=if e=d then (if d < a.tmps.size then some v else none) else a.tmps[e]?:=by
 simp only[Act.put]
 by_cases h:e=d
 ·subst h
  rw[if_pos rfl]
  by_cases hl:e < a.tmps.size
  ·rw[if_pos hl,Array.getElem?_setIfInBounds_self_of_lt hl]
  ·rw[if_neg hl,Array.getElem?_eq_none (by simpa using hl)]
 ·rw[if_neg h,Array.getElem?_setIfInBounds_ne (Ne.symm h)]
theorem put_size {a:Act} {d:Option Tmp} {v:Value}:(a.put d v).tmps.size=a.tmps.size:=by cases d <;> simp[Act.put]
theorem put_defers {a:Act} {d:Option Tmp} {v:Value}:(a.put d v).defers=a.defers:=by cases d <;> rfl
/-- one that comes up: the count goes down -/
theorem count_step {L:Array Bool} {i f:Nat} (hL:L.size=N) (hr:i∈Region.ready .any ops L) (hf:((List.range N).filter fun i=>!L.getD i true).length=f+1):((List.range N).filter fun j=>!(L.setIfInBounds i true).getD j true).length=f:=by
 have hlt:=ready_lt hr
 have hun:=(mem_ready.1 hr).1
 have h1:((List.range N).filter fun j=>!(L.setIfInBounds i true).getD j true)=((List.range N).filter fun j=>!L.getD j true).filter (· != i):=by
  rw[List.filter_filter]
  refine List.filter_congr fun j hj=>?_
  by_cases h:i=j
  ·subst h
   rw[getD_set_self hlt]
   simp
  ·rw[getD_set_ne true h]
   simp[Ne.symm h]
 rw[h1]
 have hnd:((List.range N).filter fun j=>!L.getD j true).Nodup:=List.nodup_range.filter _
 have hmem:i∈(List.range N).filter fun j=>!L.getD j true:=List.mem_filter.2 ⟨List.mem_range.2 (by rw[hL] at hlt;exact hlt),by rw[hun];rfl⟩
 rw[← List.Nodup.erase_eq_filter hnd,List.length_erase_of_mem hmem,hf]
 rfl
/-- .. with guarded operations whose guards hold -/
theorem wp_region_addsG {id:Nat} {a0:Act} {W:World} {l:List Oper} {Q:Exit→Act→World→Prop} (n:Nat) (ds:Nat→List Nat) (E:Nat→Ent W) (hm:P.follows .mixedOrders=true) (hBB:sepG true l.toArray l.length n ds (fun _=>[])=true)
  (hdl:(List.range n).all (fun i=>(E i).dl.all ((ds i).contains ·))=true)
  (hN:(List.range n).all (fun i=>match dstOf l.toArray i with | some d=>decide (d < a0.tmps.size) | none=>true)=true)
  (hgd:∀ i,i < n→∀ o,l[i]?=some o→∀ g b,o.guard=some (g,b)→∀ vs v w,(E g).R vs v w→v=.bool b)
  (hstep:∀ i,i < n→∀ o,l[i]?=some o→∀ vs w,Below W.heap.size W w→(∀ j∈ds i,(E j).R vs (vs j) w)→Made P (Adds (E i) vs w) ((execOp (frm l.toArray a0 vs (ds i)).eval o).run P w))
  (hend:∀ vs w,Below W.heap.size W w→(∀ i,i < n→(E i).R vs (vs i) w∧∀ k,(E i).ob (vs i)=some k→W.heap.size≤k∧k < w.heap.size)→(∀ i,i < n→∀ i',i' < n→i≠i'→∀ k,(E i).ob (vs i)=some k→(E i').ob (vs i')≠some k)→wpList P l.toArray Q (l.drop n) (frm l.toArray a0 vs (List.range n)) w) :
  (Code.region id l.toArray true).wp P Q a0 W :=
 wp_region_adds n ds E hm hBB hgd hdl hN hstep hend
end
end
section
open Go.RowKit
section
variable {P:Program} {ops:Array Oper} {N n:Nat} {ds eats:Nat→List Nat} {fl:Nat→Bool} {md:Nat} {W:World} {B:Nat} {ini:Nat→Option Nat} {a0:Act} {Q:Exit→Act→World→Prop} {ob:Nat→Value→Option Nat} {R:Nat→(Nat→Value)→Value→World→Prop}
end
end
section
open Go.RowKit
/-- what can be read off the region's text -/
def sepI (ops:Array Oper) (N:Nat) (ds:Nat→List Nat):Bool :=
 decide (ops.size=N) && Region.noSelect ops &&
 (List.range N).all (fun i=>((ops[i]?).map (fun o=>o.guard.isNone)).getD true && (ds i).all (waits ops i) &&
  (List.range N).all (fun j=>((dstOf ops i).isNone || dstOf ops i != dstOf ops j || i == j) &&
   ((ops[i]?).map fun o=>o.op.operands.all fun x=>match x with | .tmp t=>dstOf ops j != some t || (ds i).contains j | _=>true).getD true) &&
  ((ops[i]?).map fun o=>o.after.all fun e=>!Region.binds .any e || decide (e.on < i)).getD true)
structure SepI (ops:Array Oper) (N:Nat) (ds:Nat→List Nat):Prop where
 size:ops.size=N
 sel:Region.noSelect ops=true
 bare:∀ i,i < N→∀ o,ops[i]?=some o→o.guard=none
 back:∀ i,i < N→∀ o,ops[i]?=some o→∀ e∈o.after,Region.binds .any e=true→e.on < i
 dep:∀ i,i < N→∀ j∈ds i,waits ops i j=true
 opnd:∀ i,i < N→∀ o,ops[i]?=some o→∀ t,.tmp t∈o.op.operands→∀ j,j < N→dstOf ops j=some t→j∈ds i
 dist:∀ i,i < N→∀ j,j < N→∀ d,dstOf ops i=some d→dstOf ops j=some d→i=j
theorem SepI.of {ops:Array Oper} {N:Nat} {ds:Nat→List Nat} (h:sepI ops N ds=true):SepI ops N ds:=by
 unfold sepI at h
 rw[Bool.and_eq_true,Bool.and_eq_true] at h
 obtain⟨⟨h1,h2⟩,h3⟩:=h
 have h1:=of_decide_eq_true h1
 have key:∀ i,i < N→((((ops[i]?).map (fun o=>o.guard.isNone)).getD true=true∧(ds i).all (waits ops i)=true)∧(List.range N).all (fun j=>((dstOf ops i).isNone || dstOf ops i != dstOf ops j || i == j) && ((ops[i]?).map fun o=>o.op.operands.all fun x=>match x with | .tmp t=>dstOf ops j != some t || (ds i).contains j | _=>true).getD true)=true)∧((ops[i]?).map fun o=>o.after.all fun e=>!Region.binds .any e || decide (e.on < i)).getD true=true:=fun i hi=>by
  have:=List.all_eq_true.1 h3 i (List.mem_range.2 hi)
  rw[Bool.and_eq_true,Bool.and_eq_true,Bool.and_eq_true] at this
  exact this
 refine⟨h1,h2,fun i hi o ho=>?_,fun i hi o ho e he hb=>?_,fun i hi j hj=>?_,fun i hi o ho t ht j hj hd=>?_,fun i hi j hj d hdi hdj=>?_⟩
 ·have:=(key i hi).1.1.1
  rw[ho] at this
  simpa using this
 ·have:=(key i hi).2
  rw[ho] at this
  simp only[Option.map_some,Option.getD_some] at this
  have h5:=Array.all_eq_true'.1 this e he
  rw[hb] at h5
  simpa using h5
 ·exact List.all_eq_true.1 (key i hi).1.1.2 j hj
 ·have h4:=List.all_eq_true.1 (key i hi).1.2 j (List.mem_range.2 hj)
  rw[Bool.and_eq_true] at h4
  have h5:=h4.2
  rw[ho] at h5
  simp only[Option.map_some,Option.getD_some] at h5
  have h6:=Array.all_eq_true'.1 h5 _ ht
  simp only[hd] at h6
  simpa using h6
 ·have h4:=List.all_eq_true.1 (key i hi).1.2 j (List.mem_range.2 hj)
  rw[Bool.and_eq_true] at h4
  have h5:=h4.1
  rw[hdi,hdj] at h5
  simpa using h5
structure FInv (ops:Array Oper) (N:Nat) (I:Array Bool→(Nat→Value)→World→Prop) (a0:Act) (vs:Nat→Value) (L:Array Bool) (a:Act) (w:World):Prop where
 defers:a.defers=a0.defers
 size:a.tmps.size=a0.tmps.size
 slot:∀ i,i < N→L.getD i false=true→∀ d,dstOf ops i=some d→d < a0.tmps.size→a.tmps[d]?=some (vs i)
 rest:∀ d,(∀ i,i < N→L.getD i false=true→dstOf ops i≠some d)→a.tmps[d]?=a0.tmps[d]?
 lsize:L.size=N
 inv:I L vs w
section
variable {P:Program} {ops:Array Oper} {N:Nat} {ds:Nat→List Nat} {a0:Act}
theorem frmI_defers (vs:Nat→Value):∀ l,(frm ops a0 vs l).defers=a0.defers
 | []=>rfl
 | i::l=>by unfold frm;rw[put_defers,frmI_defers vs l]
theorem frmI_size (vs:Nat→Value):∀ l,(frm ops a0 vs l).tmps.size=a0.tmps.size
 | []=>rfl
 | i::l=>by unfold frm;rw[put_size,frmI_size vs l]
theorem frmI_rest (vs:Nat→Value):∀ l d,(∀ i∈l,dstOf ops i≠some d)→(frm ops a0 vs l).tmps[d]?=a0.tmps[d]?
 | [],_,_=>rfl
 | k::l,d,h=>by
  unfold frm
  have ih:=frmI_rest vs l d fun i hi=>h i (List.mem_cons_of_mem _ hi)
  cases hkd:dstOf ops k with
  | none=>exact ih
  | some e =>
   rw[put_tmps,if_neg (fun h2=>h k (List.mem_cons_self ..) (by rw[hkd,h2]))]
   exact ih
end
end
section
open Go.RowKit
theorem made_skip {P:Program} {T:Value→World→Prop} {w':World} (h:T undef w'):Made P T (.ok .skip w'):=h
theorem made_call {P:Program} {T:Value→World→Prop} {f:FuncId} {args:Array Value} {w:World} (h:Calls P f args w fun e w'=>∃ v,e=.returned v∧T v w'):Made P T (.ok (.enter f args) w):=h
section
variable {L:Array Bool} {vs:Nat→Value} {w w':World} {i k nx j p:Nat} {v:Value} {T:Value→World→Prop}
/-- a fact of an operation's value, once it is done -/
def Fk (k:Nat) (T:Value→World→Prop) (L:Array Bool) (vs:Nat→Value) (w:World):Prop:=L.getD k false=true→T (vs k) w
theorem Fk.new (h:T v w'):Fk i T (L.setIfInBounds i true) (fun j=>if j=i then v else vs j) w':=fun _=>by
 show T (if i=i then v else vs i) w'
 rw[if_pos rfl]
 exact h
/-- a fact of an operation's value, until another one takes it over -/
def Rk (k nx:Nat) (T:Value→World→Prop) (L:Array Bool) (vs:Nat→Value) (w:World):Prop:=L.getD k false=true→L.getD nx true=false→T (vs k) w
theorem Rk.new (h:T v w'):Rk i nx T (L.setIfInBounds i true) (fun j=>if j=i then v else vs j) w':=fun _ _=>by
 show T (if i=i then v else vs i) w'
 rw[if_pos rfl]
 exact h
/-- the same value -/
def Sk (k j:Nat) (L:Array Bool) (vs:Nat→Value):Prop:=L.getD k false=true→vs k=vs j
theorem Sk.new (hk:j≠i) (h:v=vs j):Sk i j (L.setIfInBounds i true) (fun j=>if j=i then v else vs j):=fun _=>by
 show(if i=i then v else vs i)=(if j=i then v else vs j)
 rw[if_pos rfl,if_neg hk]
 exact h
/-- a part of a value -/
def Xk (k j p:Nat) (L:Array Bool) (vs:Nat→Value):Prop:=L.getD k false=true→∃ l:Array Value,vs j=.tuple l∧l[p]?=some (vs k)
theorem Xk.new {l:Array Value} (hk:j≠i) (h:vs j=.tuple l) (hp:l[p]?=some v):Xk i j p (L.setIfInBounds i true) (fun j=>if j=i then v else vs j):=fun _=>by
 show ∃ l:Array Value,(if j=i then v else vs j)=.tuple l∧l[p]?=some (if i=i then v else vs i)
 rw[if_pos rfl,if_neg hk]
 exact⟨l,h,hp⟩
end
end
section
open Go.RowKit
theorem done_set {L:Array Bool} {i j:Nat} (h:L.getD j false=true):(L.setIfInBounds i true).getD j false=true:=by
 by_cases hij:i=j
 ·subst hij
  have hlt:i < L.size:=Nat.lt_of_not_le fun hn=>by
   rw[Array.getD_eq_getD_getElem?,Array.getElem?_eq_none hn] at h
   cases h
  simp[hlt]
 ·rw[getD_set_ne false hij];exact h
/-- what is done is closed under what an operation waits for -/
def Clo (ops:Array Oper) (L:Array Bool):Prop:=∀ k j,L.getD k false=true→waits ops k j=true→L.getD j false=true
/-- the facts of the operations' values; nx: the operation that takes a value over -/
structure RgI (W:World) (B N:Nat) (T:Nat→Value→World→Prop) (nx:Nat→Nat) (L:Array Bool) (vs:Nat→Value) (w:World):Prop where
 b:Below B W w
 f:∀ k,k < N→L.getD k false=true→(nx k≠k→L.getD (nx k) false=false)→T k (vs k) w
section
variable {W w w':World} {B N i:Nat} {T:Nat→Value→World→Prop} {nx:Nat→Nat} {L:Array Bool} {vs:Nat→Value} {v:Value}
theorem RgI.put (h:RgI W B N T nx L vs w) (hi:i < L.size) (hb:Below B W w') (ho:∀ k,k < N→k≠i→L.getD k false=true→(nx k≠k→nx k≠i∧L.getD (nx k) false=false)→T k (vs k) w→T k (vs k) w') (hv:T i v w'):RgI W B N T nx (L.setIfInBounds i true) (fun j=>if j=i then v else vs j) w':=by
 refine⟨hb,fun k hkN hk hn=>?_⟩
 by_cases hki:k=i
 ·subst hki
  show T k (if k=k then v else vs k) w'
  rw[if_pos rfl]
  exact hv
 ·show T k (if k=i then v else vs k) w'
  rw[if_neg hki]
  rw[getD_set_ne false (fun e=>hki e.symm)] at hk
  have hn2:nx k≠k→nx k≠i∧L.getD (nx k) false=false:=fun hne=>by
   have:=hn hne
   by_cases hni:nx k=i
   ·rw[hni,getD_set_self hi] at this;cases this
   ·rw[getD_set_ne false (fun e=>hni e.symm)] at this
    exact⟨hni,this⟩
  exact ho k hkN hki hk hn2 (h.f k hkN hk fun hne=>(hn2 hne).2)
theorem RgI.same (h:RgI W B N T nx L vs w) (hi:i < L.size) (hv:T i v w):RgI W B N T nx (L.setIfInBounds i true) (fun j=>if j=i then v else vs j) w :=
 h.put hi h.b (fun k _ _ _ _ hk=>hk) hv
end
end
end Go.Proofs.YtmbnlccafcfbeaaDoor
