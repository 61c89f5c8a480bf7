/- Parts of the proof: Wire1, Wire5, Wire6. -/
import Derived.BigQuiet
import Derived.Deep.DeepCutAuto
import Derived.Deep.QuietTactic
import Derived.IntWalk
import Derived.Laws.Bits64
import Derived.Lib.Zigzag
import Derived.Maps.AppendAt
import Derived.StillTailTactics
import Derived.Test.YtmbnlccafcfbeaaGreatDoorPeA
import Derived.Test.YtmbnlccafcfbeaaGreatDoorProg
import Derived.Test.YtmbnlccafcfbeaaGreatDoorPe0
import Derived.Test.YtmbnlccafcfbeaaGreatDoorPe1
set_option linter.unusedVariables false
set_option linter.unusedSimpArgs false
set_option linter.unusedSectionVars false
set_option maxRecDepth 100000
namespace Go.Proofs.YtmbnlccafcfbeaaGreatDoor
section
open Go.RowKit
attribute [local go_sem] Oper.semAt_some
def byts (l:List Int):List Value:=l.map (Value.int .u8)
theorem byts_len (l:List Int):(byts l).length=l.length:=by simp[byts]
theorem byts_app (l k:List Int):byts (l++k)=byts l++byts k:=by simp[byts]
/-- a row behind an append -/
def ApP (B:Nat) (w:World) (V:Value) (l:List Int) (e:Ending) (w':World):Prop:=∃ v,e=.returned v∧w'.ownsRow B 5 1 v l.length (byts l)∧Kp (fun k=>V.ownBlock=some k) w w'∧∀ q,v.ownBlock=some q→V.ownBlock=some q ∨ w.heap.size≤q
theorem i_u8:(Tryz.prog.info? 5).map (fun i=>(i.zero,i.size,i.bytes))=some (some (.int .u8 0),1,1):=by kernel_rfl
section
variable {w w1:World} {B c n:Nat} {A:Option Addr} {l:List Int} {x:Int} {t:TypeId} {v v1:Value}
theorem ap_row (h:w1.ownsRow B 5 1 v1 (l.length+1) (byts l++[.int .u8 x])):w1.ownsRow B 5 1 v1 (l++[x]).length (byts (l++[x])):=by
 rw[byts_app,List.length_append];exact h
theorem ap_kp {o:Obj} (h:(w.alloc o).grownBy w1 v.ownBlock):Kp (fun k=>v.ownBlock=some k) w w1:=(Kp.of_below ((Below.refl w.heap.size w).alloc (Nat.le_refl _) o)).trans (Kp.of_grown h fun k hk=>hk) fun k _ hk=>hk
theorem ap_own {o:Obj} (h:v1.ownBlock=v.ownBlock ∨ v1.ownBlock=some (w.alloc o).heap.size):∀ q,v1.ownBlock=some q→v.ownBlock=some q ∨ w.heap.size≤q:=fun k hk=>by
 rcases h with e | e
 ·rw[e] at hk;exact .inl hk
 ·rw[e] at hk
  have e2:=Option.some.inj hk
  simp at e2
  exact .inr (by omega)
end
section
variable {w:World} {B c:Nat} {A:Option Addr} {l:List Int} {n:Int}
set_option maxHeartbeats 4000000 in
theorem AppendUint_any (ho:w.ownsRow B 5 1 (.slice A l.length c) l.length (byts l)) (hB:B≤w.heap.size) (hn:P64 n) (hl:l.length≤4294967296):Calls Tryz.prog 111 #[.slice A l.length c,.int .u64 n] w (ApP B w (.slice A l.length c) (l++encU n)):=by
 obtain⟨N,rfl⟩:=Int.eq_ofNat_of_zero_le hn.1
 have hN:N < 18446744073709551616:=by unfold P64 at hn;omega
 obtain⟨J,hJ⟩:∃ J,J=(digs N).length:=⟨_,rfl⟩
 have hJ8:J≤8:=by rw[hJ];exact digs_len 8 N (by omega)
 have HO:=lh ho
 have HJ:=lh hJ
 have HE:Hid (encU (N:Int)=(J:Int)::digs N):=lh (by unfold encU;rw[Int.toNat_natCast,hJ])
 obtain⟨i0,hi,hz0,hz1,hz2⟩:=info_parts i_u8
 have HI:=lh (And.intro hi (And.intro hz0 (And.intro hz1 hz2)))
 have hlc:l.length≤c:=by obtain⟨A',c',e,h⟩:=own_shape ho;injection e with _ _ e3;omega
 clear ho hJ hi hz0 hz1 hz2 hn
 go_enter Tryz.func111,Tryz.ntmps111
 go_wp2_with fail
 go_loop [5,6] (fun k r=>∃ (j m:Nat),k=.int .i64 (j:Int)∧r=.int .u64 (m:Int)∧j+(digs m).length=J∧m≤N) (fun _ r=>(intOf r).toNat)
 case atStart=>exact⟨0,N,rfl,rfl,by rw[HJ.out];omega,Nat.le_refl _⟩
 case round =>
  obtain⟨j,m,rfl,rfl,hjm,hm⟩:=hrel
  by_cases h0:m=0
  ·subst h0
   rw[digs_zero] at hjm
   obtain rfl:j=J:=by simpa using hjm
   have hwj:IntKind.u8.wrap (j:Int)=(j:Int):=by rw[IntKind.wrap_u8];omega
   clear hjm hm
   go_wp2_with (at_builtin;refine wpList_append_own_at _ rfl (.tmp 15) (.tmp 18) 45 rfl B 5 i0 (.int .u8 0) 1 1 Tryz.underlying45 HI.out.1 HI.out.2.1 HI.out.2.2.1 HI.out.2.2.2 rfl (by decide) _ l.length _ rfl (HO.out.alloc _) ⟨w.heap.size,0,none⟩ 1 1 [.int .u8 (j:Int)] rfl rfl (cell_one_new _ _ _) (by simp[Value.oneCell']) (by unfold maxLen;omega) (by omega) (by simp;omega) ?_;intro v1 w1 ho1 hg1 _ hl1;have HO1:=lh ho1;have HG1:=lh hg1;have HL1:=lh hl1;clear ho1 hg1 hl1)
   clear hwj
   go_loopw [0,7] (fun v ix wr=>∃ q:Nat,ix=.int .i64 ((q:Int) - 1)∧q≤j∧wr.ownsRow B 5 1 v (l++((j:Int)::(digs N).take (j - q))).length (byts (l++((j:Int)::(digs N).take (j - q))))∧Kp (fun k=>(Value.slice A l.length c).ownBlock=some k) w wr∧∀ k,v.ownBlock=some k→(Value.slice A l.length c).ownBlock=some k ∨ w.heap.size≤k) (fun _ ix _=>(intOf ix+1).toNat)
   case atStart =>
    refine⟨j,rfl,Nat.le_refl _,?_,?_,fun k hk=>?_⟩
    ·rw[Nat.sub_self,List.take_zero,byts_app,List.length_append]
     exact HO1.out
    ·exact(Kp.of_below ((Below.refl w.heap.size w).alloc (Nat.le_refl _) _)).trans (Kp.of_grown HG1.out fun k hk=>hk) fun k _ hk=>hk
    ·rcases HL1.out with e | e
     ·rw[e] at hk;exact .inl hk
     ·rw[e] at hk
      have e2:=Option.some.inj hk
      simp at e2
      exact .inr (by omega)
   case round =>
    clear HO1 HG1 HL1
    obtain⟨q,rfl,hq,hown,hkp,hvo⟩:=hrel
    have HOW:=lh hown
    have HK:=lh hkp
    have HV:=lh hvo
    obtain⟨A1,c1,rfl,hc1⟩:=own_shape hown
    clear hown hkp hvo
    cases q with
    | zero =>
     have e0:(((0:Nat):Int) - 1)=-1:=rfl
     rw[e0]
     have hJd:=HJ.out
     have hL:l++((j:Int)::(digs N).take (j - 0))=l++encU (N:Int):=by rw[HE.out,List.take_of_length_le (by omega)]
     rw[hL] at HOW HV ⊢
     clear hL hJd
     go_wp2_with fail
     go_ret
     exact⟨.slice A1 (l++encU (N:Int)).length c1,rfl,HOW.out,HK.out,HV.out⟩
    | succ p =>
     have e0:(((p+1:Nat):Int) - 1)=(p:Int):=by omega
     rw[e0]
     have hJd:=HJ.out
     have hdt:=digs_take (n:=N) (t:=j - (p+1)) (by omega)
     rw[← hJd,show j - 1 - (j - (p+1))=p by omega,show j - (p+1)+1=j - p by omega] at hdt
     obtain⟨x,hx⟩:∃ x:Int,x=((N / 256 ^ p % 256:Nat):Int):=⟨_,rfl⟩
     rw[← hx] at hdt
     have hsh:(N:Int) / 2 ^ (8*p) % 256=x:=by
      have e:((256:Nat) ^ p:Nat)=2 ^ (8*p):=by rw[Nat.pow_mul]
      rw[hx,e]
      simp
     have hlen:(l++((j:Int)::(digs N).take (j - (p+1)))).length≤4294967305:=by rw[List.length_append,List.length_cons,List.length_take];omega
     have hks:=HK.out.size
     have HDT:=lh hdt
     have hjp:p < 8:=by omega
     generalize hL:l++((j:Int)::(digs N).take (j - (p+1)))=L1 at *
     have HL1:=lh hL
     clear hx hdt hJd hL
     go_wp2_with (at_builtin;refine wpList_append_own_at _ rfl (.tmp 26) (.tmp 32) 45 rfl B 5 i0 (.int .u8 0) 1 1 Tryz.underlying45 HI.out.1 HI.out.2.1 HI.out.2.2.1 HI.out.2.2.2 rfl (by decide) _ L1.length _ rfl (HOW.out.alloc _) ⟨wr.heap.size,0,none⟩ 1 1 [.int .u8 x] rfl rfl (cell_one_new _ _ _) (by simp[Value.oneCell']) (by unfold maxLen;omega) (by omega) (by simp;omega) ?_;intro v1 w1 ho1 hg1 _ hl1;have HO1:=lh ho1;have HG1:=lh hg1;have HA1:=lh hl1;clear ho1 hg1 hl1)
     go_roundw
     case rel =>
      refine⟨p,by go_num,by omega,?_,?_,fun k hk=>?_⟩
      ·rw[HDT.out,← List.cons_append,← List.append_assoc,HL1.out,byts_app,List.length_append]
       exact HO1.out
      ·exact HK.out.trans ((Kp.of_below ((Below.refl wr.heap.size wr).alloc (Nat.le_refl _) _)).trans (Kp.of_grown (S:=fun k=>(Value.slice A1 L1.length c1).ownBlock=some k) HG1.out fun k hk=>hk) fun k _ hk=>hk) fun k hk h=>(HV.out k h).resolve_right (by omega)
      ·rcases HA1.out with e | e
       ·rw[e] at hk;exact HV.out k hk
       ·rw[e] at hk
        have e2:=Option.some.inj hk
        simp at e2
        exact .inr (by omega)
     case measure=>simp[intOf]
  ·have hd:=digs_step h0
   go_wp2_with fail
   go_round
   case rel=>exact⟨j+1,m / 256,by go_num,by go_num,by omega,by omega⟩
   case measure=>simp[intOf];omega
theorem zz_enc {n:Int} (h:I64 n):bits .xor .u64 (IntKind.u64.wrap (IntKind.u64.wrap n*2)) (IntKind.u64.wrap (n / 9223372036854775808))=zz n:=by
 unfold I64 at h
 by_cases h0:0≤n
 ·have e1:IntKind.u64.wrap (IntKind.u64.wrap n*2)=(((2*n).toNat:Nat):Int):=by rw[IntKind.wrap_u64,IntKind.wrap_u64];omega
  have e2:IntKind.u64.wrap (n / 9223372036854775808)=((0:Nat):Int):=by rw[IntKind.wrap_u64];omega
  rw[e1,e2,bits_xor_u64_nat _ _ (by omega) (by decide),Nat.xor_zero]
  unfold zz
  rw[if_pos h0]
  omega
 ·have e1:IntKind.u64.wrap (IntKind.u64.wrap n*2)=(((2*n+18446744073709551616).toNat:Nat):Int):=by rw[IntKind.wrap_u64,IntKind.wrap_u64];omega
  have e2:IntKind.u64.wrap (n / 9223372036854775808)=((2 ^ 64 - 1:Nat):Int):=by
   rw[show n / 9223372036854775808=-1 by omega]
   decide
  rw[e1,e2,bits_xor_u64_nat _ _ (by omega) (by decide),Nat.xor_comm,Lib.xor_ones64 _ (by omega)]
  unfold zz
  rw[if_neg h0]
  omega
theorem AppendInt_any (ho:w.ownsRow B 5 1 (.slice A l.length c) l.length (byts l)) (hB:B≤w.heap.size) (hn:I64 n) (hl:l.length≤4294967296):Calls Tryz.prog 127 #[.slice A l.length c,.int .i64 n] w (ApP B w (.slice A l.length c) (l++encI n)):=by
 have cU:=AppendUint_any ho hB (zz_rg hn) hl
 have hz:=zz_enc hn
 unfold I64 at hn
 obtain⟨n0,n1⟩:=hn
 clear ho hB hl
 go_enter Tryz.func127,Tryz.ntmps127
 go_wp2_with fail
 refine cU.mono ?_
 rintro e w' ⟨v,rfl,hr⟩
 have H:=lh hr
 clear cU hr
 go_wp2_with fail
 go_ret
 exact⟨v,rfl,H.out⟩
theorem AppendBool_any {x:Bool} (ho:w.ownsRow B 5 1 (.slice A l.length c) l.length (byts l)) (hB:B≤w.heap.size) (hl:l.length≤4294967296):Calls Tryz.prog 129 #[.slice A l.length c,.bool x] w (ApP B w (.slice A l.length c) (l++encB x)):=by
 have HO:=lh ho
 obtain⟨i0,hi,hz0,hz1,hz2⟩:=info_parts i_u8
 have HI:=lh (And.intro hi (And.intro hz0 (And.intro hz1 hz2)))
 clear ho hi hz0 hz1 hz2
 cases x with
 | true =>
  go_enter Tryz.func129,Tryz.ntmps129
  go_wp2_with (at_builtin;refine wpList_append_own_at _ rfl (.tmp 6) (.tmp 7) 45 rfl B 5 i0 (.int .u8 0) 1 1 Tryz.underlying45 HI.out.1 HI.out.2.1 HI.out.2.2.1 HI.out.2.2.2 rfl (by decide) _ l.length _ rfl (HO.out.alloc _) ⟨w.heap.size,0,none⟩ 1 1 [.int .u8 1] rfl rfl (cell_one_new _ _ _) (by simp[Value.oneCell']) (by unfold maxLen;omega) (by omega) (by simp;omega) ?_;intro v1 w1 ho1 hg1 _ hl1;have HO1:=lh ho1;have HG1:=lh hg1;have HL1:=lh hl1;clear ho1 hg1 hl1)
  go_ret
  exact⟨v1,rfl,ap_row HO1.out,ap_kp HG1.out,ap_own HL1.out⟩
 | false =>
  go_enter Tryz.func129,Tryz.ntmps129
  go_wp2_with (at_builtin;refine wpList_append_own_at _ rfl (.tmp 9) (.tmp 10) 45 rfl B 5 i0 (.int .u8 0) 1 1 Tryz.underlying45 HI.out.1 HI.out.2.1 HI.out.2.2.1 HI.out.2.2.2 rfl (by decide) _ l.length _ rfl (HO.out.alloc _) ⟨w.heap.size,0,none⟩ 1 1 [.int .u8 0] rfl rfl (cell_one_new _ _ _) (by simp[Value.oneCell']) (by unfold maxLen;omega) (by omega) (by simp;omega) ?_;intro v1 w1 ho1 hg1 _ hl1;have HO1:=lh ho1;have HG1:=lh hg1;have HL1:=lh hl1;clear ho1 hg1 hl1)
  go_ret
  exact⟨v1,rfl,ap_row HO1.out,ap_kp HG1.out,ap_own HL1.out⟩
end
end
section
open Go.RowKit
attribute [local go_sem] Oper.semAt_some
theorem setCell_self {w:World} {g i:Nat} {t:TypeId} {cs:Array Value} {v:Value} (h:Bk w g t cs) (hv:cs[i]?=some v):w.setCell ⟨g,i,none⟩ v=w:=by
 have hi:i < cs.size:=(Array.getElem?_eq_some_iff.1 hv).1
 have hcs:cs.setIfInBounds i v=cs:=by
  refine Array.ext (by simp) fun j h1 h2=>?_
  rw[Array.getElem_setIfInBounds]
  split
  ·rename_i e
   subst e
   have:=(Array.getElem?_eq_some_iff.1 hv).2
   rw[this]
  ·rfl
 have hh:(w.setCell ⟨g,i,none⟩ v).heap=w.heap:=by
  refine Array.ext_getElem? fun j=>?_
  by_cases hj:j=g
  ·subst hj
   have h1:=h.set i v
   rw[hcs] at h1
   exact h1.trans h.symm
  ·exact Below.heap_setCell w ⟨g,i,none⟩ v j hj
 have:w.setCell ⟨g,i,none⟩ v={ w with heap:=(w.setCell ⟨g,i,none⟩ v).heap }:=rfl
 rw[this,hh]
/-- a reader in memory: at g, its bytes in the block bb -/
structure RdR (w:World) (g bb:Nat) (r:Rd) (A:Option Addr) (c:Nat):Prop where
 bk:Bk w g 103 #[.slice A r.b.length c,.int .i64 r.e]
 cap:r.b.length≤c
 cm:c≤9223372036854775807
 sl:Sl w 1 A r.b.length (byts r.b)
 at_:∀ b o m,A=some ⟨b,o,m⟩→b=bb∧m=none
 nz:A=none→c=0
 ne:bb≠g
 b8:B8 r.b
section
variable {w w':World} {g bb c:Nat} {r:Rd} {A:Option Addr}
theorem RdR.kp {S:Nat→Prop} (h:RdR w g bb r A c) (hk:Kp S w w') (hg:¬ S g) (hb:¬ S bb):RdR w' g bb r A c :=
 ⟨h.bk.kp hk hg,h.cap,h.cm,by
  refine⟨h.sl.1,?_⟩
  rcases h.sl.2 with h0 | ⟨b,o,e,hbl,hc⟩
  ·exact .inl h0
  ·refine .inr ⟨b,o,e,Nat.lt_of_lt_of_le hbl hk.size,fun j x hx=>hk.cell (hc j x hx) ?_⟩
   rw[(h.at_ b o none e).1]
   exact hb,h.at_,h.nz,h.ne,h.b8⟩
theorem RdR.below (h:RdR w g bb r A c) (hb:Below w.heap.size w w'):RdR w' g bb r A c:=h.kp (S:=fun _=>False) (Kp.of_below hb) (fun h=>h) (fun h=>h)
theorem RdR.lt (h:RdR w g bb r A c):g < w.heap.size:=h.bk.lt
end
/-- some reader -/
def RdX (w:World) (g bb:Nat) (r:Rd):Prop:=∃ A c,RdR w g bb r A c
theorem RdX.kp {w w':World} {g bb:Nat} {r:Rd} {S:Nat→Prop} (h:RdX w g bb r) (hk:Kp S w w') (hg:¬ S g) (hb:¬ S bb):RdX w' g bb r:=let ⟨A,c,h⟩:=h;⟨A,c,h.kp hk hg hb⟩
theorem RdX.below {w w':World} {g bb:Nat} {r:Rd} (h:RdX w g bb r) (hb:Below w.heap.size w w'):RdX w' g bb r:=let ⟨A,c,h⟩:=h;⟨A,c,h.below hb⟩
section
variable {w:World} {g bb c fid:Nat} {r:Rd} {A:Option Addr} {caps:Array Value} {b b1:List Int} {code:Int} {X:World→Prop}
theorem try_no (h:RdR w g bb r A c) (he:r.e≠0) (F:Value):Calls Tryz.prog 154 #[.pointer (some ⟨g,0,none⟩),F] w fun e w1=>e=.returned (.bool false)∧w=w1:=by
 have c1:w.cell? ⟨g,1,none⟩=some (.int .i64 r.e):=h.bk.cell 1
 obtain⟨re,hre⟩:∃ re,re=r.e:=⟨_,rfl⟩
 rw[← hre] at he c1
 have d1:(re != 0)=true:=by simpa using he
 clear h hre he
 go_enter Tryz.func154,Tryz.ntmps154
 go_wp2_with fail
 go_ret
 exact⟨rfl,rfl⟩
set_option maxHeartbeats 2000000 in
theorem try_ok (hent:∀ args w,(callFunc fid args).run Tryz.prog w=.ok (.enter fid args) w) (h:RdR w g bb ⟨b,0⟩ A c) (hc:Calls Tryz.prog fid caps w fun e w1=>e=.returned (.int .i64 0)∧RdX w1 g bb ⟨b1,0⟩∧X w1):Calls Tryz.prog 154 #[.pointer (some ⟨g,0,none⟩),.func (.func fid) #[] caps] w fun e w1=>e=.returned (.bool true)∧RdX w1 g bb ⟨b1,0⟩∧X w1:=by
 have c1:w.cell? ⟨g,1,none⟩=some (.int .i64 0):=h.bk.cell 1
 clear h
 go_enter Tryz.func154,Tryz.ntmps154
 go_wp2_with fail
 refine hc.mono ?_
 rintro e w1 ⟨rfl,⟨A1,k1,h1⟩,hx⟩
 have H1:=lh h1
 have HX:=lh hx
 have hs:w1.setCell ⟨g,1,none⟩ (.int .i64 0)=w1:=setCell_self h1.bk rfl
 have f1:w1.frozen? ⟨g,1,none⟩=false:=h1.bk.free 1
 have c1':w1.cell? ⟨g,1,none⟩=some (.int .i64 0):=h1.bk.cell 1
 clear hc c1 h1 hx
 go_wp2_with fail
 go_ret
 exact⟨rfl,⟨A1,k1,H1.out⟩,HX.out⟩
set_option maxHeartbeats 2000000 in
theorem try_err (hent:∀ args w,(callFunc fid args).run Tryz.prog w=.ok (.enter fid args) w) (h:RdR w g bb ⟨b,0⟩ A c) (hcode:code≠0) (hc:Calls Tryz.prog fid caps w fun e w1=>e=.returned (.int .i64 code)∧Below w.heap.size w w1):Calls Tryz.prog 154 #[.pointer (some ⟨g,0,none⟩),.func (.func fid) #[] caps] w fun e w1=>e=.returned (.bool false)∧RdX w1 g bb (Rd.bad code)∧Kp (fun k=>k=g) w w1:=by
 have c1:w.cell? ⟨g,1,none⟩=some (.int .i64 0):=h.bk.cell 1
 have H:=lh h
 have d1:(code != 0)=true:=by simpa using hcode
 have d2:(code == 0)=false:=by simpa using hcode
 clear h hcode
 go_enter Tryz.func154,Tryz.ntmps154
 go_wp2_with fail
 refine hc.mono ?_
 rintro e w1 ⟨rfl,hb⟩
 have h1:=H.out.below hb
 have H1:=lh h1
 have HB:=lh hb
 have f1:w1.frozen? ⟨g,1,none⟩=false:=h1.bk.free 1
 have f0:w1.frozen? ⟨g,0,none⟩=false:=h1.bk.free 0
 have c1':w1.cell? ⟨g,1,none⟩=some (.int .i64 0):=h1.bk.cell 1
 have c0':w1.cell? ⟨g,0,none⟩=some (.slice A b.length c):=h1.bk.cell 0
 clear hc c1 h1 hb
 go_wp2_with fail
 go_ret
 refine⟨rfl,⟨none,0,⟨?_,Nat.le_refl _,Nat.zero_le _,Sl.nil _ _ _,fun b o m e=>(by cases e),fun _=>rfl,H1.out.ne,B8.nil⟩⟩,(Kp.of_below HB.out).trans ((Kp.setCell (S:=fun k=>k=g) w1 ⟨g,1,none⟩ _ rfl).trans (Kp.setCell (S:=fun k=>k=g) _ ⟨g,0,none⟩ _ rfl) fun _ _ h=>h) fun _ _ h=>h⟩
 exact(H1.out.bk.set 1 _).set 0 _
end
section
variable {w:World} {g bb c p q:Nat} {A:Option Addr} {b s:List Int} {n:Int}
theorem num_none_cases (hb:B8 b) (h:num b=none):b=[] ∨ ∃ k t,b=k::t∧(8 < k ∨ (k≤8∧(t.length:Int) < k) ∨ (k≤8∧k≤t.length∧0 < k∧∃ t',t=0::t')):=by
 cases b with
 | nil=>exact .inl rfl
 | cons k t =>
  right
  refine⟨k,t,rfl,?_⟩
  unfold num at h
  dsimp only at h
  split at h
  ·rename_i hc
   by_cases h1:8 < k
   ·exact .inl h1
   ·by_cases h2:(t.length:Int) < k
    ·exact .inr (.inl ⟨by omega,h2⟩)
    ·rcases hc with e | e | ⟨e1,e2⟩
     ·exact absurd e h1
     ·exact absurd e h2
     ·refine .inr (.inr ⟨by omega,by omega,e1,?_⟩)
      cases t with
      | nil=>cases e2
      | cons y t'=>simp at e2;exact⟨t',by rw[e2]⟩
  ·cases h
set_option maxHeartbeats 4000000 in
theorem Uint1_no (h:RdR w g bb ⟨b,0⟩ A c) (hp:Bk w p 79 #[.pointer (some ⟨g,0,none⟩)]) (hn:num b=none):Calls Tryz.prog 155 #[.pointer (some ⟨p,0,none⟩),.pointer (some ⟨q,0,none⟩)] w fun e w1=>e=.returned (.int .i64 11)∧Below w.heap.size w w1:=by
 have p0:w.cell? ⟨p,0,none⟩=some (.pointer (some ⟨g,0,none⟩)):=hp.cell 0
 have r0:w.cell? ⟨g,0,none⟩=some (.slice A b.length c):=h.bk.cell 0
 have hcm:=h.cm
 have hcp:=h.cap
 dsimp only at hcp
 have HB:Hid (∀ k,Below w.heap.size w (w.drewN k)):=lh fun k=>below_drewN (Below.refl _ _) k
 rcases num_none_cases h.b8 hn with rfl | ⟨k,t,rfl,hk⟩
 ·clear h hp hn
  go_enter Tryz.func155,Tryz.ntmps155
  go_upto_region 1 with fail
  go_quiet (fail)
  go_wp2_with fail
  go_ret
  exact⟨rfl,HB.out _⟩
 ·obtain⟨b',o,hA,hbl,hc⟩:=h.sl.2.resolve_left (by simp)
  have hk8:=h.b8 k (by simp)
  have e0:w.cell? ⟨b',o,none⟩=some (.int .u8 k):=hc 0 _ rfl
  subst hA
  have e0':w.cell? ⟨b',o+0,none⟩=some (.int .u8 k):=e0
  have hlc:(k::t).length=t.length+1:=rfl
  rw[hlc] at r0 hcp
  have HKB:Hid (0≤k∧k≤255):=lh hk8
  have d0:((t.length:Int)+1 == 0)=false:=by simpa using (show ¬ ((t.length:Int)+1=0) by omega)
  have d00:((((t.length+1:Nat)):Int) == 0)=false:=by simpa using (show ¬ ((t.length:Int)+1=0) by omega)
  rcases hk with hk | ⟨hk,hl⟩ | ⟨hk,hl,hk0,t',rfl⟩
  ·have d1:decide (k > 8)=true:=decide_eq_true (by omega)
   clear h hp hn hc hbl hlc hk8
   go_enter Tryz.func155,Tryz.ntmps155
   go_upto_region 1 with fail
   go_quiet (fail)
   go_wp2_with fail
   go_ret
   exact⟨rfl,HB.out _⟩
  ·have d1:decide (k > 8)=false:=decide_eq_false (by omega)
   have d2:decide ((((t.length+1:Nat)):Int)≤k)=true:=decide_eq_true (by omega)
   have d2':decide ((t.length:Int)+1≤k)=true:=decide_eq_true (by omega)
   clear h hp hn hc hbl hlc
   go_enter Tryz.func155,Tryz.ntmps155
   go_upto_region 1 with fail
   go_quiet (fail)
   go_wp2_with fail
   go_ret
   exact⟨rfl,HB.out _⟩
  ·have d1:decide (k > 8)=false:=decide_eq_false (by omega)
   have hlt:((0:Int)::t').length=t'.length+1:=rfl
   rw[hlt] at r0 hcp hl
   have d4:((t'.length:Int)+1+1 == 0)=false:=by simpa using (show ¬ ((t'.length:Int)+1+1=0) by omega)
   have d2:decide ((((t'.length+1+1:Nat)):Int)≤k)=false:=decide_eq_false (by omega)
   have d2':decide ((t'.length:Int)+1+1≤k)=false:=decide_eq_false (by omega)
   have d3:decide (k > 0)=true:=decide_eq_true (by omega)
   have e1:w.cell? ⟨b',o+1,none⟩=some (.int .u8 0):=hc 1 _ rfl
   clear h hp hn hc hbl hlc hlt d0 d00
   go_enter Tryz.func155,Tryz.ntmps155
   go_upto_region 1 with fail
   go_quiet (fail)
   go_wp2_with fail
   go_ret
   exact⟨rfl,HB.out _⟩
theorem val_step {t:List Int} {i:Nat} {x:Int} (h:t[i]?=some x):val (t.take (i+1))=val (t.take i)*256+x:=by
 rw[List.take_add_one,h]
 exact val_snoc _ _
theorem shl_or {v x:Int} (hv:0≤v) (hx:0≤x∧x≤255) (h:v*256+x < 18446744073709551616):bits .or .u64 (IntKind.u64.wrap (v*256)) x=v*256+x:=by
 obtain⟨V,rfl⟩:=Int.eq_ofNat_of_zero_le hv
 obtain⟨X,rfl⟩:=Int.eq_ofNat_of_zero_le hx.1
 have e1:IntKind.u64.wrap ((V:Int)*256)=((V*256:Nat):Int):=by rw[IntKind.wrap_u64];omega
 rw[e1,bits_or_u64_nat _ _ (by omega) (by omega)]
 have:=Nat.two_pow_add_eq_or_of_lt (i:=8) (b:=X) (by omega) V
 rw[show V*256=2 ^ 8*V by omega,← this]
 omega
set_option maxHeartbeats 8000000 in
theorem Uint1_ok (h:RdR w g bb ⟨b,0⟩ A c) (hp:Bk w p 79 #[.pointer (some ⟨g,0,none⟩)]) (hq:Bk w q 22 #[.int .u64 0]) (hqb:q≠bb) (hn:num b=some (n,s)):Calls Tryz.prog 155 #[.pointer (some ⟨p,0,none⟩),.pointer (some ⟨q,0,none⟩)] w fun e w1=>e=.returned (.int .i64 0)∧RdX w1 g bb ⟨s,0⟩∧(Bk w1 q 22 #[.int .u64 n]∧Kp (fun k=>k=g ∨ k=q) w w1):=by
 cases b with
 | nil=>cases hn
 | cons k t =>
  have hnn:=num_some h.b8 hn
  unfold num at hn
  dsimp only at hn
  split at hn
  ·cases hn
  ·rename_i hno
   cases hn
   have p0:w.cell? ⟨p,0,none⟩=some (.pointer (some ⟨g,0,none⟩)):=hp.cell 0
   have r0:w.cell? ⟨g,0,none⟩=some (.slice A (k::t).length c):=h.bk.cell 0
   have hcm:=h.cm
   have hcp:=h.cap
   dsimp only at hcp
   obtain⟨b',o,hA,hbl,hc⟩:=h.sl.2.resolve_left (by simp)
   have hk8:=h.b8 k (by simp)
   have ht8:B8 t:=fun x hx=>h.b8 x (by simp[hx])
   have e0:w.cell? ⟨b',o,none⟩=some (.int .u8 k):=hc 0 _ rfl
   have hlc:(k::t).length=t.length+1:=rfl
   rw[hlc] at r0 hcp
   have d0:((t.length:Int)+1 == 0)=false:=by simpa using (show ¬ ((t.length:Int)+1=0) by omega)
   have d1:decide (k > 8)=false:=decide_eq_false (by omega)
   have d2:decide ((t.length:Int)+1≤k)=false:=decide_eq_false (by omega)
   obtain⟨K,rfl⟩:=Int.eq_ofNat_of_zero_le hk8.1
   have hK8:K≤8:=by omega
   have hKl:K≤t.length:=by omega
   have hhead:(decide (0 < K)=false) ∨ (decide (0 < K)=true∧∃ y,w.cell? ⟨b',o+1,none⟩=some (.int .u8 y)∧(y == 0)=false):=by
    by_cases h0:K=0
    ·exact .inl (decide_eq_false (by omega))
    ·refine .inr ⟨decide_eq_true (by omega),?_⟩
     cases t with
     | nil=>simp at hKl;omega
     | cons y t'=>exact⟨y,hc 1 _ rfl,by simpa using fun e=>hno (.inr (.inr ⟨by omega,by rw[e];rfl⟩))⟩
   have H:=lh h
   have HP:=lh hp
   have HQ:=lh hq
   have HB:Hid (b'=bb):=lh (h.at_ b' o none hA).1
   have HC:=lh (And.intro hbl hc)
   have HT:=lh (And.intro ht8 hnn)
   have HGQ:Hid (g≠q∧p≠q):=lh ⟨(fun e=>by
    have h1:=h.bk
    rw[e] at h1
    unfold Bk at h1 hq
    rw[hq] at h1
    cases h1),(fun e=>by
    rw[e] at hp
    unfold Bk at hp hq
    rw[hq] at hp
    cases hp)⟩
   have hwk:IntKind.i64.wrap (K:Int)=(K:Int):=IntWalk.i64_in _ (by omega)
   subst hA
   by_cases hc1:c=1
   ·subst hc1
    have ht0:t=[]:=List.length_eq_zero_iff.1 (by omega)
    subst ht0
    obtain rfl:K=0:=by simpa using hKl
    have r0':w.cell? ⟨g,0,none⟩=some (.slice (some ⟨b',o,none⟩) 1 1):=r0
    have e0':w.cell? ⟨b',o,none⟩=some (.int .u8 0):=e0
    have rf:w.frozen? ⟨g,0,none⟩=false:=h.bk.free 0
    have dh:decide (0 < 0)=false:=by decide
    clear h hp hq hc hbl hlc hno ht8 hnn hk8 hhead r0 e0 d0 d1 d2 hwk hKl hK8 hcp
    go_enter Tryz.func155,Tryz.ntmps155
    go_upto_region 1 with fail
    go_quiet (fail)
    go_wp2_with fail
    go_loopw [69] (fun ix wr=>ix=.int .i64 0∧Kp (fun _=>False) w wr) (fun _ _=>0)
    case atStart=>exact⟨rfl,⟨rfl,rfl,rfl,Nat.le_refl _,fun _ _ _=>rfl⟩⟩
    case round =>
     obtain⟨rfl,hkp⟩:=hrel
     have HK:=lh hkp
     have HRI:=lh (H.out.kp hkp (fun h=>h) (fun h=>h))
     have HQI:=lh (HQ.out.kp hkp (fun h=>h))
     have p0:wr.cell? ⟨p,0,none⟩=some (.pointer (some ⟨g,0,none⟩)):=(HP.out.kp hkp (fun h=>h)).cell 0
     have r0':wr.cell? ⟨g,0,none⟩=some (.slice (some ⟨b',o,none⟩) 1 1):=HRI.out.bk.cell 0
     have rf:wr.frozen? ⟨g,0,none⟩=false:=HRI.out.bk.free 0
     have hw10:IntKind.i64.wrap (1+0)=1:=by decide
     have hw11:IntKind.i64.wrap 1=1:=by decide
     clear hkp
     go_upto_region 9 with fail
     go_still_tail 10,(by kernel_rfl)
     change wpList _ _ _ _ _ wr.drew
     go_wp2_with fail
     go_ret
     exact⟨rfl,⟨some ⟨b',o,none⟩,0,⟨(HRI.out.bk).set 0 _,Nat.le_refl _,Nat.zero_le _,Sl.nil _ _ _,fun b o m e=>(by cases e;exact⟨HB.out,rfl⟩),fun e=>(by cases e),H.out.ne,B8.nil⟩⟩,HQI.out.far (p:=⟨g,0,none⟩) (fun e=>HGQ.out.1 e.symm) _,((HK.out.mono (T:=fun k=>k=g ∨ k=q) fun _ _ h=>h.elim).trans (Kp.setCell (S:=fun k=>k=g ∨ k=q) wr ⟨g,0,none⟩ _ (.inl rfl)) fun _ _ h=>h).drew⟩
   ·rcases hhead with dh | ⟨dh,y,ey,dy⟩
    ·clear h hp hq hc hbl hlc hno ht8 hnn hk8
     go_enter Tryz.func155,Tryz.ntmps155
     go_upto_region 1 with fail
     go_quiet (fail)
     go_wp2_with fail
     have hq0:Bk (w.drewN nq) q 22 #[.int .u64 (val (t.take 0))]:=HQ.out
     go_loopw [69] (fun ix wr=>∃ i:Nat,ix=.int .i64 (i:Int)∧i≤K∧Bk wr q 22 #[.int .u64 (val (t.take i))]∧Kp (fun k=>k=q) w wr) (fun ix _=>K - (intOf ix).toNat)
     case atStart=>exact⟨0,rfl,Nat.zero_le _,hq0,⟨rfl,rfl,rfl,Nat.le_refl _,fun _ _ _=>rfl⟩⟩
     case round =>
      clear hq0
      obtain⟨i,rfl,hi,hqi,hkp⟩:=hrel
      have HQI:=lh hqi
      have HK:=lh hkp
      have HRI:=lh (H.out.kp hkp (fun e=>HGQ.out.1 e) (fun e=>hqb e.symm))
      have hpi:=HP.out.kp hkp (fun e=>HGQ.out.2 e)
      have p0:wr.cell? ⟨p,0,none⟩=some (.pointer (some ⟨g,0,none⟩)):=hpi.cell 0
      have q0:wr.cell? ⟨q,0,none⟩=some (.int .u64 (val (t.take i))):=hqi.cell 0
      have qf:wr.frozen? ⟨q,0,none⟩=false:=hqi.free 0
      clear hqi hkp hpi
      by_cases hlt:i < K
      ·have hx:t[i]?=some (t[i]'(by omega)):=List.getElem?_eq_getElem _
       have hvs:=val_step hx
       have hx8:=HT.out.1 _ (List.mem_of_getElem? hx)
       have hcx:w.cell? ⟨b',o+(1+i),none⟩=some (.int .u8 (t[i]'(by omega))):=HC.out.2 (1+i) _ (by unfold byts;rw[List.getElem?_map,show 1+i=i+1 by omega,List.getElem?_cons_succ,hx];rfl)
       have hcx2:wr.cell? ⟨b',o+1+i,none⟩=some (.int .u8 (t[i]'(by omega))):=by
        rw[show o+1+i=o+(1+i) by omega]
        exact HK.out.cell hcx (fun e=>hqb (e ▸ HB.out))
       generalize t[i]'(by omega)=x at *
       have hv0:=val_nn (HT.out.1.take i)
       have hv1:=val_lt (HT.out.1.take (i+1))
       rw[hvs,List.length_take,Nat.min_eq_left (by omega)] at hv1
       have hpw:(256:Nat) ^ (i+1)≤256 ^ 8:=Nat.pow_le_pow_right (by decide) (by omega)
       have h256:(256:Nat) ^ 8=18446744073709551616:=rfl
       obtain⟨v,hv⟩:∃ v,v=val (t.take i):=⟨_,rfl⟩
       rw[← hv] at q0 hvs hv0 hv1
       have hor:=shl_or hv0 hx8 (by omega)
       have HVS:=lh hvs
       have HQS:Hid (Bk (wr.setCell ⟨q,0,none⟩ (.int .u64 (v*256+x))) q 22 #[.int .u64 (v*256+x)]):=lh (HQI.out.set 0 _)
       have hx80:=hx8.1
       have hx81:=hx8.2
       clear hx hvs hcx hv1 hpw h256 hv hx8
       go_wp2_with fail
       go_roundw
       case rel =>
        refine⟨i+1,by go_num,by omega,?_,HK.out.trans (Kp.setCell (S:=fun k=>k=q) wr ⟨q,0,none⟩ _ rfl) fun _ _ h=>h⟩
        rw[HVS.out]
        exact HQS.out
       case measure=>simp[intOf];omega
      ·obtain rfl:i=K:=by omega
       have hr0:=HRI.out.bk.cell 0
       have r0:wr.cell? ⟨g,0,none⟩=some (.slice (some ⟨b',o,none⟩) (t.length+1) c):=hr0
       have rf:wr.frozen? ⟨g,0,none⟩=false:=HRI.out.bk.free 0
       have hws:IntKind.i64.wrap (1+(i:Int))=1+(i:Int):=IntWalk.i64_in _ (by omega)
       have hws2:wrap64 (1+(i:Int))=1+(i:Int):=by unfold wrap64;omega
       have hdl:(t.drop i).length=t.length - i:=List.length_drop
       clear hr0 q0 qf
       have hi1:(1+(i:Int)).toNat=1+i:=by omega
       have h0s:0≤1+(i:Int):=by omega
       have hle1:1+i≤t.length+1:=by omega
       have hle2:1+(i:Int)≤(t.length:Int)+1:=by omega
       have hlec:1+i≤c:=by omega
       have hl9:t.length+1 - (1+i)=(t.drop i).length:=by rw[hdl];omega
       by_cases hce:1+i=c
       ·have hl0:(t.drop i).length=0:=by rw[hdl];omega
        have HD:Hid (t.drop i=[]):=lh (List.length_eq_zero_iff.1 hl0)
        clear hdl
        go_upto_region 9 with fail
        go_still_tail 10,(by kernel_rfl)
        change wpList _ _ _ _ _ wr.drew
        go_wp2_with fail
        go_ret
        rw[Int.toNat_natCast,HD.out]
        exact⟨rfl,⟨some ⟨b',o,none⟩,0,⟨(HRI.out.bk).set 0 _,Nat.le_refl _,Nat.zero_le _,Sl.nil _ _ _,fun b o m e=>(by cases e;exact⟨HB.out,rfl⟩),fun e=>(by cases e),H.out.ne,B8.nil⟩⟩,HQI.out.far (p:=⟨g,0,none⟩) (fun e=>HGQ.out.1 e.symm) _,((HK.out.mono (T:=fun k=>k=g ∨ k=q) fun _ _ h=>.inr h).trans (Kp.setCell (S:=fun k=>k=g) wr ⟨g,0,none⟩ _ rfl) fun _ _ h=>.inl h).drew⟩
       ·have hlt9:1+i < c:=by omega
        have HC2:Hid (∀ j x,(byts (t.drop i))[j]?=some x→w.cell? ⟨b',o+(1+i)+j,none⟩=some x):=lh fun j x hx=>by
         have h1:(byts ((i:Int)::t))[1+i+j]?=some x:=by
          unfold byts at hx ⊢
          rw[List.getElem?_map] at hx ⊢
          rw[List.getElem?_drop] at hx
          rw[show 1+i+j=(i+j)+1 by omega,List.getElem?_cons_succ]
          exact hx
         have h2:=HC.out.2 (1+i+j) x h1
         rw[show o+(1+i+j)=o+(1+i)+j by omega] at h2
         exact h2
        have HDL:=lh hdl
        clear hdl
        go_upto_region 9 with fail
        go_still_tail 10,(by kernel_rfl)
        change wpList _ _ _ _ _ wr.drew
        go_wp2_with fail
        go_ret
        rw[← HDL.out]
        have hk9:Kp (fun k=>k=g ∨ k=q) w (wr.setCell ⟨g,0,none⟩ (.slice (some ⟨b',o+(1+i),none⟩) (t.drop i).length (c - (1+i)))):=(HK.out.mono (T:=fun k=>k=g ∨ k=q) fun _ _ h=>.inr h).trans (Kp.setCell (S:=fun k=>k=g) wr ⟨g,0,none⟩ _ rfl) fun _ _ h=>.inl h
        refine⟨rfl,⟨some ⟨b',o+(1+i),none⟩,c - (1+i),⟨(HRI.out.bk).set 0 _,by dsimp only;omega,by omega,?_,fun b o m e=>(by cases e;exact⟨HB.out,rfl⟩),fun e=>(by cases e),H.out.ne,HT.out.1.drop i⟩⟩,HQI.out.far (p:=⟨g,0,none⟩) (fun e=>HGQ.out.1 e.symm) _,hk9.drew⟩
        refine⟨by rw[byts_len,Nat.mul_one],.inr ⟨b',o+(1+i),rfl,Nat.lt_of_lt_of_le HC.out.1 hk9.size,fun j x hx=>?_⟩⟩
        exact hk9.cell (HC2.out j x hx) (by rintro(e | e);exact H.out.ne (HB.out ▸ e);exact hqb (e ▸ HB.out))
    ·have hK0:0 < K:=of_decide_eq_true dh
     have h1t:0 < t.length:=by omega
     have h1t2:1 < t.length+1:=by omega
     have h1t3:(1:Int) < (t.length:Int)+1:=by omega
     clear h hp hq hc hbl hlc hno ht8 hnn hk8
     go_enter Tryz.func155,Tryz.ntmps155
     go_upto_region 1 with fail
     go_quiet (fail)
     go_wp2_with fail
     have hq0:Bk (w.drewN nq) q 22 #[.int .u64 (val (t.take 0))]:=HQ.out
     go_loopw [69] (fun ix wr=>∃ i:Nat,ix=.int .i64 (i:Int)∧i≤K∧Bk wr q 22 #[.int .u64 (val (t.take i))]∧Kp (fun k=>k=q) w wr) (fun ix _=>K - (intOf ix).toNat)
     case atStart=>exact⟨0,rfl,Nat.zero_le _,hq0,⟨rfl,rfl,rfl,Nat.le_refl _,fun _ _ _=>rfl⟩⟩
     case round =>
      clear hq0
      obtain⟨i,rfl,hi,hqi,hkp⟩:=hrel
      have HQI:=lh hqi
      have HK:=lh hkp
      have HRI:=lh (H.out.kp hkp (fun e=>HGQ.out.1 e) (fun e=>hqb e.symm))
      have hpi:=HP.out.kp hkp (fun e=>HGQ.out.2 e)
      have p0:wr.cell? ⟨p,0,none⟩=some (.pointer (some ⟨g,0,none⟩)):=hpi.cell 0
      have q0:wr.cell? ⟨q,0,none⟩=some (.int .u64 (val (t.take i))):=hqi.cell 0
      have qf:wr.frozen? ⟨q,0,none⟩=false:=hqi.free 0
      clear hqi hkp hpi
      by_cases hlt:i < K
      ·have hx:t[i]?=some (t[i]'(by omega)):=List.getElem?_eq_getElem _
       have hvs:=val_step hx
       have hx8:=HT.out.1 _ (List.mem_of_getElem? hx)
       have hcx:w.cell? ⟨b',o+(1+i),none⟩=some (.int .u8 (t[i]'(by omega))):=HC.out.2 (1+i) _ (by unfold byts;rw[List.getElem?_map,show 1+i=i+1 by omega,List.getElem?_cons_succ,hx];rfl)
       have hcx2:wr.cell? ⟨b',o+1+i,none⟩=some (.int .u8 (t[i]'(by omega))):=by
        rw[show o+1+i=o+(1+i) by omega]
        exact HK.out.cell hcx (fun e=>hqb (e ▸ HB.out))
       generalize t[i]'(by omega)=x at *
       have hv0:=val_nn (HT.out.1.take i)
       have hv1:=val_lt (HT.out.1.take (i+1))
       rw[hvs,List.length_take,Nat.min_eq_left (by omega)] at hv1
       have hpw:(256:Nat) ^ (i+1)≤256 ^ 8:=Nat.pow_le_pow_right (by decide) (by omega)
       have h256:(256:Nat) ^ 8=18446744073709551616:=rfl
       obtain⟨v,hv⟩:∃ v,v=val (t.take i):=⟨_,rfl⟩
       rw[← hv] at q0 hvs hv0 hv1
       have hor:=shl_or hv0 hx8 (by omega)
       have HVS:=lh hvs
       have HQS:Hid (Bk (wr.setCell ⟨q,0,none⟩ (.int .u64 (v*256+x))) q 22 #[.int .u64 (v*256+x)]):=lh (HQI.out.set 0 _)
       have hx80:=hx8.1
       have hx81:=hx8.2
       clear hx hvs hcx hv1 hpw h256 hv hx8
       go_wp2_with fail
       go_roundw
       case rel =>
        refine⟨i+1,by go_num,by omega,?_,HK.out.trans (Kp.setCell (S:=fun k=>k=q) wr ⟨q,0,none⟩ _ rfl) fun _ _ h=>h⟩
        rw[HVS.out]
        exact HQS.out
       case measure=>simp[intOf];omega
      ·obtain rfl:i=K:=by omega
       have hr0:=HRI.out.bk.cell 0
       have r0:wr.cell? ⟨g,0,none⟩=some (.slice (some ⟨b',o,none⟩) (t.length+1) c):=hr0
       have rf:wr.frozen? ⟨g,0,none⟩=false:=HRI.out.bk.free 0
       have hws:IntKind.i64.wrap (1+(i:Int))=1+(i:Int):=IntWalk.i64_in _ (by omega)
       have hws2:wrap64 (1+(i:Int))=1+(i:Int):=by unfold wrap64;omega
       have hdl:(t.drop i).length=t.length - i:=List.length_drop
       clear hr0 q0 qf
       have hi1:(1+(i:Int)).toNat=1+i:=by omega
       have h0s:0≤1+(i:Int):=by omega
       have hle1:1+i≤t.length+1:=by omega
       have hle2:1+(i:Int)≤(t.length:Int)+1:=by omega
       have hlec:1+i≤c:=by omega
       have hl9:t.length+1 - (1+i)=(t.drop i).length:=by rw[hdl];omega
       by_cases hce:1+i=c
       ·have hl0:(t.drop i).length=0:=by rw[hdl];omega
        have HD:Hid (t.drop i=[]):=lh (List.length_eq_zero_iff.1 hl0)
        clear hdl
        go_upto_region 9 with fail
        go_still_tail 10,(by kernel_rfl)
        change wpList _ _ _ _ _ wr.drew
        go_wp2_with fail
        go_ret
        rw[Int.toNat_natCast,HD.out]
        exact⟨rfl,⟨some ⟨b',o,none⟩,0,⟨(HRI.out.bk).set 0 _,Nat.le_refl _,Nat.zero_le _,Sl.nil _ _ _,fun b o m e=>(by cases e;exact⟨HB.out,rfl⟩),fun e=>(by cases e),H.out.ne,B8.nil⟩⟩,HQI.out.far (p:=⟨g,0,none⟩) (fun e=>HGQ.out.1 e.symm) _,((HK.out.mono (T:=fun k=>k=g ∨ k=q) fun _ _ h=>.inr h).trans (Kp.setCell (S:=fun k=>k=g) wr ⟨g,0,none⟩ _ rfl) fun _ _ h=>.inl h).drew⟩
       ·have hlt9:1+i < c:=by omega
        have HC2:Hid (∀ j x,(byts (t.drop i))[j]?=some x→w.cell? ⟨b',o+(1+i)+j,none⟩=some x):=lh fun j x hx=>by
         have h1:(byts ((i:Int)::t))[1+i+j]?=some x:=by
          unfold byts at hx ⊢
          rw[List.getElem?_map] at hx ⊢
          rw[List.getElem?_drop] at hx
          rw[show 1+i+j=(i+j)+1 by omega,List.getElem?_cons_succ]
          exact hx
         have h2:=HC.out.2 (1+i+j) x h1
         rw[show o+(1+i+j)=o+(1+i)+j by omega] at h2
         exact h2
        have HDL:=lh hdl
        clear hdl
        go_upto_region 9 with fail
        go_still_tail 10,(by kernel_rfl)
        change wpList _ _ _ _ _ wr.drew
        go_wp2_with fail
        go_ret
        rw[← HDL.out]
        have hk9:Kp (fun k=>k=g ∨ k=q) w (wr.setCell ⟨g,0,none⟩ (.slice (some ⟨b',o+(1+i),none⟩) (t.drop i).length (c - (1+i)))):=(HK.out.mono (T:=fun k=>k=g ∨ k=q) fun _ _ h=>.inr h).trans (Kp.setCell (S:=fun k=>k=g) wr ⟨g,0,none⟩ _ rfl) fun _ _ h=>.inl h
        refine⟨rfl,⟨some ⟨b',o+(1+i),none⟩,c - (1+i),⟨(HRI.out.bk).set 0 _,by dsimp only;omega,by omega,?_,fun b o m e=>(by cases e;exact⟨HB.out,rfl⟩),fun e=>(by cases e),H.out.ne,HT.out.1.drop i⟩⟩,HQI.out.far (p:=⟨g,0,none⟩) (fun e=>HGQ.out.1 e.symm) _,hk9.drew⟩
        refine⟨by rw[byts_len,Nat.mul_one],.inr ⟨b',o+(1+i),rfl,Nat.lt_of_lt_of_le HC.out.1 hk9.size,fun j x hx=>?_⟩⟩
        exact hk9.cell (HC2.out j x hx) (by rintro(e | e);exact H.out.ne (HB.out ▸ e);exact hqb (e ▸ HB.out))
end
end
section
open Go.RowKit
attribute [local go_sem] Oper.semAt_some
theorem enter_uint1 (args:Array Value) (w:World):(callFunc 155 args).run Tryz.prog w=.ok (.enter 155 args) w:=by go_simp
/-- what a reading function leaves -/
def RdP (w:World) (g bb:Nat) (v:Value) (r:Rd) (e:Ending) (w':World):Prop:=e=.returned v∧RdX w' g bb r∧Kp (fun k=>k=g) w w'
theorem Kp.boxed {w w2 w1:World} {g q:Nat} (hb:Below w.heap.size w w2) (hk:Kp (fun k=>k=g ∨ k=q) w2 w1) (hq:w.heap.size≤q):Kp (fun k=>k=g) w w1:=(Kp.of_below hb).trans hk fun k hk h=>h.resolve_right (by omega)
section
variable {w:World} {g bb:Nat} {r:Rd}
set_option maxHeartbeats 2000000 in
theorem Uint_any (h:RdX w g bb r) (hbb:bb < w.heap.size):Calls Tryz.prog 110 #[.pointer (some ⟨g,0,none⟩)] w (RdP w g bb (.int .u64 r.u.1) r.u.2):=by
 obtain⟨A,c,h⟩:=h
 obtain⟨b,e⟩:=r
 obtain⟨w2,hw2⟩:∃ w2,w2=(w.alloc (.cells #[.pointer (some ⟨g,0,none⟩)] 79)).alloc (.cells #[.int .u64 0] 22):=⟨_,rfl⟩
 have hb2:Below w.heap.size w w2:=by rw[hw2];exact((Below.refl _ _).alloc (Nat.le_refl _) _).alloc (by simp) _
 have hp:Bk w2 w.heap.size 79 #[.pointer (some ⟨g,0,none⟩)]:=by rw[hw2];exact Bk.alloc (Bk.new _ _ _) _
 have hq:Bk w2 (w.heap.size+1) 22 #[.int .u64 0]:=by rw[hw2];exact Bk.here _ _ _ (by simp)
 have h2:=h.below hb2
 have HB2:=lh hb2
 have q0:w2.cell? ⟨w.heap.size+1,0,none⟩=some (.int .u64 0):=hq.cell 0
 have p0:w2.cell? ⟨w.heap.size,0,none⟩=some (.pointer (some ⟨g,0,none⟩)):=hp.cell 0
 by_cases he:e=0
 ·subst he
  cases hn:num b with
  | none =>
   have cT:=try_err (fid:=155) (caps:=#[.pointer (some ⟨w.heap.size,0,none⟩),.pointer (some ⟨w.heap.size+1,0,none⟩)]) enter_uint1 h2 (by decide) (Uint1_no h2 hp hn)
   have HU:Hid ((Rd.mk b 0).u=(0,Rd.bad 11)):=lh (Rd.u_no hn)
   clear h h2 hp hq hb2 hn q0
   go_enter Tryz.func110,Tryz.ntmps110
   go_upto_region 2 with fail
   rw[← hw2]
   clear hw2
   go_wp2_with fail
   refine cT.mono ?_
   rintro e w3 ⟨rfl,hx,hk⟩
   have HX:=lh hx
   have HK:=lh hk
   clear cT hx hk
   go_wp2_with fail
   go_ret
   rw[HU.out]
   exact⟨rfl,HX.out,(Kp.of_below HB2.out).trans HK.out fun _ _ h=>h⟩
  | some ns =>
   obtain⟨n,s⟩:=ns
   have cT:=try_ok (fid:=155) (caps:=#[.pointer (some ⟨w.heap.size,0,none⟩),.pointer (some ⟨w.heap.size+1,0,none⟩)]) enter_uint1 h2 (Uint1_ok h2 hp hq (by omega) hn)
   have HU:Hid ((Rd.mk b 0).u=(n,⟨s,0⟩)):=lh (Rd.u_ok hn)
   clear h h2 hp hq hb2 hn q0
   go_enter Tryz.func110,Tryz.ntmps110
   go_upto_region 2 with fail
   rw[← hw2]
   clear hw2
   go_wp2_with fail
   refine cT.mono ?_
   rintro e w3 ⟨rfl,hx,hq3,hk⟩
   have HX:=lh hx
   have HK:=lh hk
   have q3:w3.cell? ⟨w.heap.size+1,0,none⟩=some (.int .u64 n):=hq3.cell 0
   clear cT hx hk hq3
   go_wp2_with fail
   go_ret
   rw[HU.out]
   exact⟨rfl,HX.out,Kp.boxed HB2.out HK.out (by omega)⟩
 ·have cT:=try_no h2 he (.func (.func 155) #[] #[.pointer (some ⟨w.heap.size,0,none⟩),.pointer (some ⟨w.heap.size+1,0,none⟩)])
  have HU:Hid ((Rd.mk b e).u=(0,⟨b,e⟩)):=lh (Rd.u_e he)
  have HX:Hid (RdX w2 g bb ⟨b,e⟩):=lh ⟨A,c,h2⟩
  clear h h2 hp hq hb2 q0 he
  go_enter Tryz.func110,Tryz.ntmps110
  go_upto_region 2 with fail
  rw[← hw2]
  clear hw2
  go_wp2_with fail
  refine cT.mono ?_
  rintro e' w3 ⟨rfl,rfl⟩
  clear cT
  go_wp2_with fail
  go_ret
  rw[HU.out]
  exact⟨rfl,HX.out,Kp.of_below HB2.out⟩
theorem unzz_xor {m:Int} (h:P64 m):bits .xor .i64 (m / 2) (-(m % 2))=unzz m:=by
 unfold P64 at h
 obtain⟨M,rfl⟩:=Int.eq_ofNat_of_zero_le h.1
 unfold unzz
 have e2:((M / 2:Nat):Int)=(M:Int) / 2:=by omega
 by_cases h1:(M:Int) % 2=1
 ·rw[if_pos h1,h1]
  have hx:=Lib.i64_not (M / 2) (by omega)
  rw[e2] at hx
  rw[← hx]
  show IntKind.i64.wrap ((BitVec.ofInt 64 _ ^^^ BitVec.ofInt 64 _).toNat:Int)=IntKind.i64.wrap ((BitVec.ofInt 64 _ ^^^ BitVec.ofInt 64 _).toNat:Int)
  rw[BitVec.xor_comm]
 ·have h0:(M:Int) % 2=0:=by omega
  rw[if_neg h1,h0]
  rw[show(-0:Int)=0 from rfl,← e2]
  show IntKind.i64.wrap ((BitVec.ofInt 64 _ ^^^ BitVec.ofInt 64 0).toNat:Int)=_
  have hz:BitVec.ofInt 64 0=0#64:=rfl
  have h2:(BitVec.ofInt 64 (((M / 2:Nat)):Int)).toNat=M / 2:=by
   rw[BitVec.ofInt_natCast,BitVec.toNat_ofNat];exact Nat.mod_eq_of_lt (by omega)
  rw[hz,BitVec.xor_zero,h2,IntKind.wrap_i64]
  omega
theorem Rd.u_rg {r:Rd} (hb:B8 r.b):P64 r.u.1:=by
 obtain⟨b,e⟩:=r
 by_cases he:e=0
 ·subst he
  cases hn:num b with
  | none=>rw[Rd.u_no hn];show P64 0;unfold P64;omega
  | some p =>
   obtain⟨n,s⟩:=p
   rw[Rd.u_ok hn]
   exact⟨(num_some hb hn).1,(num_some hb hn).2.1⟩
 ·rw[Rd.u_e he];show P64 0;unfold P64;omega
theorem RdX.b8 {w:World} {g bb:Nat} {r:Rd} (h:RdX w g bb r):B8 r.b:=let ⟨A,c,h⟩:=h;h.b8
set_option maxHeartbeats 2000000 in
theorem Int_any (h:RdX w g bb r) (hbb:bb < w.heap.size):Calls Tryz.prog 126 #[.pointer (some ⟨g,0,none⟩)] w (RdP w g bb (.int .i64 r.i.1) r.i.2):=by
 have cU:=Uint_any h hbb
 have hrg:=Rd.u_rg h.b8
 have HI:Hid (r.i=(unzz r.u.1,r.u.2)):=lh rfl
 obtain⟨u,hu⟩:∃ u,u=r.u:=⟨_,rfl⟩
 rw[← hu] at cU hrg HI
 obtain⟨m,r2⟩:=u
 dsimp only at cU hrg HI
 have HX:=lh (unzz_xor hrg)
 have ha:bits .and .u64 m 1=m % 2:=Lib.u64_and1 m hrg.1 hrg.2
 have hm2:IntKind.i64.wrap (m / 2)=m / 2:=IntWalk.i64_in _ (by unfold P64 at hrg;omega)
 have hm3:IntKind.i64.wrap (m % 2)=m % 2:=IntWalk.i64_in _ (by omega)
 obtain⟨h0,h1⟩:=hrg
 clear h hu
 go_enter Tryz.func126,Tryz.ntmps126
 go_wp2_with fail
 refine cU.mono ?_
 rintro e w2 ⟨rfl,hx,hk⟩
 have HR:=lh (And.intro hx hk)
 clear cU hx hk
 go_wp2_with fail
 go_ret
 rw[HI.out]
 dsimp only
 rw[← HX.out]
 exact⟨rfl,HR.out.1,HR.out.2⟩
end
end
end Go.Proofs.YtmbnlccafcfbeaaGreatDoor
