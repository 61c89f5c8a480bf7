/- Parts of the proof: Wire1, Wire5, Wire6, Wire7, SepF, SepC. -/
import Derived.BigQuiet
import Derived.Deep.DeepCutAuto
import Derived.Deep.QuietTactic
import Derived.IntWalk
import Derived.Laws.Bits64
import Derived.Lib.Zigzag
import Derived.Maps.AppendAt
import Derived.StillTailTactics
import Derived.Test.YtmbnlccafcfbeaaGreatDoorPfA
import Derived.Test.YtmbnlccafcfbeaaGreatDoorProg
import Derived.Test.YtmbnlccafcfbeaaGreatDoorPf0
set_option linter.unusedVariables false
set_option linter.unusedSimpArgs false
set_option linter.unusedSectionVars false
set_option maxRecDepth 100000
set_option maxHeartbeats 64000000
namespace Go.Proofs.YtmbnlccafcfbeaaGreatDoor
section
open Go.RowKit
attribute [local go_sem] Oper.semAt_some
def qh2 (l:List Int):List Value:=l.map (Value.int .u8)
theorem qm6 (l:List Int):(qh2 l).length=l.length:=by simp[qh2]
theorem qr4 (l k:List Int):qh2 (l++k)=qh2 l++qh2 k:=by simp[qh2]
/-- a row behind an append -/
def ApP (B:Nat) (w:World) (V:Value) (l:List Int) (e:Ending) (w':World):Prop:=∃ v,e=.returned v∧w'.ownsRow B 5 1 v l.length (qh2 l)∧Kp (fun k=>V.ownBlock=some k) w w'∧∀ q,v.ownBlock=some q→V.ownBlock=some q ∨ w.heap.size≤q
theorem i_u8:(Tryz.prog.info? 5).map (fun i=>(i.zero,i.size,i.bytes))=some (some (.int .u8 0),1,1):=by kernel_rfl
section
variable {w w1:World} {B c n:Nat} {A:Option Addr} {l:List Int} {x:Int} {t:TypeId} {v v1:Value}
theorem ap_row (h:w1.ownsRow B 5 1 v1 (l.length+1) (qh2 l++[.int .u8 x])):w1.ownsRow B 5 1 v1 (l++[x]).length (qh2 (l++[x])):=by
 rw[qr4,List.length_append];exact h
theorem ap_kp {o:Obj} (h:(w.alloc o).grownBy w1 v.ownBlock):Kp (fun k=>v.ownBlock=some k) w w1:=(Kp.of_below ((Below.refl w.heap.size w).alloc (Nat.le_refl _) o)).trans (Kp.of_grown h fun k hk=>hk) fun k _ hk=>hk
theorem ap_own {o:Obj} (h:v1.ownBlock=v.ownBlock ∨ v1.ownBlock=some (w.alloc o).heap.size):∀ q,v1.ownBlock=some q→v.ownBlock=some q ∨ w.heap.size≤q:=fun k hk=>by
 rcases h with e | e
 ·rw[e] at hk;exact .inl hk
 ·rw[e] at hk;have e2:=Option.some.inj hk
  simp at e2
  exact .inr (by omega)
end
section
variable {w:World} {B c:Nat} {A:Option Addr} {l:List Int} {n:Int}
theorem qd5 (ho:w.ownsRow B 5 1 (.slice A l.length c) l.length (qh2 l)) (hB:B≤w.heap.size) (hn:P64 n) (hl:l.length≤4294967296):Calls Tryz.prog 111 #[.slice A l.length c,uv n] w (ApP B w (.slice A l.length c) (l++qd8 n)):=by
 obtain⟨N,rfl⟩:=Int.eq_ofNat_of_zero_le hn.1;have hN:N < 18446744073709551616:=by unfold P64 at hn;omega
 obtain⟨J,hJ⟩:∃ J,J=(qj7 N).length:=⟨_,rfl⟩
 have hJ8:J≤8:=by rw[hJ];exact qr2 8 N (by omega)
 have HO:=lh ho;have HJ:=lh hJ;have HE:Hid (qd8 (N:Int)=(J:Int)::qj7 N):=lh (by unfold qd8;rw[Int.toNat_natCast,hJ]);obtain⟨i0,hi,hz0,hz1,hz2⟩:=info_parts i_u8;have HI:=lh (And.intro hi (And.intro hz0 (And.intro hz1 hz2)));have hlc:l.length≤c:=by obtain⟨A',c',e,h⟩:=qc1 ho;injection e with _ _ e3;omega
 clear ho hJ hi hz0 hz1 hz2 hn
 go_enter Tryz.func111,Tryz.ntmps111
 go_wp2_with fail
 go_loop [5,6] (fun k r=>∃ (j m:Nat),k=iv (j:Int)∧r=uv (m:Int)∧j+(qj7 m).length=J∧m≤N) (fun _ r=>(intOf r).toNat)
 case atStart=>exact⟨0,N,rfl,rfl,by rw[HJ.o];omega,Nat.le_refl _⟩
 case round =>
  obtain⟨j,m,rfl,rfl,hjm,hm⟩:=hrel
  by_cases h0:m=0
  ·subst h0;rw[qg2] at hjm;obtain rfl:j=J:=by simpa using hjm
   have hwj:IntKind.u8.wrap (j:Int)=(j:Int):=by rw[IntKind.wrap_u8];omega
   clear hjm hm
   go_wp2_with (at_builtin;refine wpList_append_own_at _ rfl (.tmp 15) (.tmp 18) 45 rfl B 5 i0 (.int .u8 0) 1 1 Tryz.underlying45 HI.o.1 HI.o.2.1 HI.o.2.2.1 HI.o.2.2.2 rfl (by decide) _ l.length _ rfl (HO.o.alloc _) ⟨w.heap.size,0,none⟩ 1 1 [.int .u8 (j:Int)] rfl rfl (cell_one_new _ _ _) (by simp[Value.oneCell']) (by unfold maxLen;omega) (by omega) (by simp;omega) ?_;intro v1 w1 ho1 hg1 _ hl1;have HO1:=lh ho1;have HG1:=lh hg1;have HL1:=lh hl1;clear ho1 hg1 hl1)
   clear hwj
   go_loopw [0,7] (fun v ix wr=>∃ q:Nat,ix=iv ((q:Int) - 1)∧q≤j∧wr.ownsRow B 5 1 v (l++((j:Int)::(qj7 N).take (j - q))).length (qh2 (l++((j:Int)::(qj7 N).take (j - q))))∧Kp (fun k=>(Value.slice A l.length c).ownBlock=some k) w wr∧∀ k,v.ownBlock=some k→(Value.slice A l.length c).ownBlock=some k ∨ w.heap.size≤k) (fun _ ix _=>(intOf ix+1).toNat)
   case atStart =>
    refine⟨j,rfl,Nat.le_refl _,?_,?_,fun k hk=>?_⟩
    ·rw[Nat.sub_self,List.take_zero,qr4,List.length_append];exact HO1.o
    ·exact(Kp.of_below ((Below.refl w.heap.size w).alloc (Nat.le_refl _) _)).trans (Kp.of_grown HG1.o fun k hk=>hk) fun k _ hk=>hk
    ·rcases HL1.o with e | e
     ·rw[e] at hk;exact .inl hk
     ·rw[e] at hk;have e2:=Option.some.inj hk
      simp at e2
      exact .inr (by omega)
   case round =>
    clear HO1 HG1 HL1;obtain⟨q,rfl,hq,hown,hkp,hvo⟩:=hrel;have HOW:=lh hown;have HK:=lh hkp;have HV:=lh hvo;obtain⟨A1,c1,rfl,hc1⟩:=qc1 hown;clear hown hkp hvo
    cases q with
    | zero =>
     have e0:(((0:Nat):Int) - 1)=-1:=rfl;rw[e0];have hJd:=HJ.o;have hL:l++((j:Int)::(qj7 N).take (j - 0))=l++qd8 (N:Int):=by rw[HE.o,List.take_of_length_le (by omega)]
     rw[hL] at HOW HV ⊢;clear hL hJd
     go_wp2_with fail
     go_ret;exact⟨.slice A1 (l++qd8 (N:Int)).length c1,rfl,HOW.o,HK.o,HV.o⟩
    | succ p =>
     have e0:(((p+1:Nat):Int) - 1)=(p:Int):=by omega
     rw[e0];have hJd:=HJ.o;have hdt:=digs_take (n:=N) (t:=j - (p+1)) (by omega);rw[← hJd,show j - 1 - (j - (p+1))=p by omega,show j - (p+1)+1=j - p by omega] at hdt
     obtain⟨x,hx⟩:∃ x:Int,x=((N / 256 ^ p % 256:Nat):Int):=⟨_,rfl⟩
     rw[← hx] at hdt
     have hsh:(N:Int) / 2 ^ (8*p) % 256=x:=by
      have e:((256:Nat) ^ p:Nat)=2 ^ (8*p):=by rw[Nat.pow_mul]
      rw[hx,e]
      simp
     have hlen:(l++((j:Int)::(qj7 N).take (j - (p+1)))).length≤4294967305:=by rw[List.length_append,List.length_cons,List.length_take];omega
     have hks:=HK.o.size;have HDT:=lh hdt;have hjp:p < 8:=by omega
     generalize hL:l++((j:Int)::(qj7 N).take (j - (p+1)))=L1 at *;have HL1:=lh hL;clear hx hdt hJd hL
     go_wp2_with (at_builtin;refine wpList_append_own_at _ rfl (.tmp 26) (.tmp 32) 45 rfl B 5 i0 (.int .u8 0) 1 1 Tryz.underlying45 HI.o.1 HI.o.2.1 HI.o.2.2.1 HI.o.2.2.2 rfl (by decide) _ L1.length _ rfl (HOW.o.alloc _) ⟨wr.heap.size,0,none⟩ 1 1 [.int .u8 x] rfl rfl (cell_one_new _ _ _) (by simp[Value.oneCell']) (by unfold maxLen;omega) (by omega) (by simp;omega) ?_;intro v1 w1 ho1 hg1 _ hl1;have HO1:=lh ho1;have HG1:=lh hg1;have HA1:=lh hl1;clear ho1 hg1 hl1)
     go_roundw
     case rel =>
      refine⟨p,by go_num,by omega,?_,?_,fun k hk=>?_⟩
      ·rw[HDT.o,← List.cons_append,← List.append_assoc,HL1.o,qr4,List.length_append];exact HO1.o
      ·exact HK.o.trans ((Kp.of_below ((Below.refl wr.heap.size wr).alloc (Nat.le_refl _) _)).trans (Kp.of_grown (S:=fun k=>(Value.slice A1 L1.length c1).ownBlock=some k) HG1.o fun k hk=>hk) fun k _ hk=>hk) fun k hk h=>(HV.o k h).resolve_right (by omega)
      ·rcases HA1.o with e | e
       ·rw[e] at hk;exact HV.o k hk
       ·rw[e] at hk;have e2:=Option.some.inj hk
        simp at e2
        exact .inr (by omega)
     case measure=>simp[intOf]
  ·have hd:=digs_step h0
   go_wp2_with fail
   go_round
   case rel=>exact⟨j+1,m / 256,by go_num,by go_num,by omega,by omega⟩
   case measure=>simp[intOf];omega
theorem zz_enc {n:Int} (h:I64 n):bits .xor .u64 (IntKind.u64.wrap (IntKind.u64.wrap n*2)) (IntKind.u64.wrap (n / 9223372036854775808))=zz n:=by
 unfold I64 at h
 by_cases h0:0≤n
 ·have e1:IntKind.u64.wrap (IntKind.u64.wrap n*2)=(((2*n).toNat:Nat):Int):=by rw[IntKind.wrap_u64,IntKind.wrap_u64];omega
  have e2:IntKind.u64.wrap (n / 9223372036854775808)=((0:Nat):Int):=by rw[IntKind.wrap_u64];omega
  rw[e1,e2,bits_xor_u64_nat _ _ (by omega) (by decide),Nat.xor_zero];unfold zz;rw[if_pos h0]
  omega
 ·have e1:IntKind.u64.wrap (IntKind.u64.wrap n*2)=(((2*n+18446744073709551616).toNat:Nat):Int):=by rw[IntKind.wrap_u64,IntKind.wrap_u64];omega
  have e2:IntKind.u64.wrap (n / 9223372036854775808)=((2 ^ 64 - 1:Nat):Int):=by
   rw[show n / 9223372036854775808=-1 by omega]
   decide
  rw[e1,e2,bits_xor_u64_nat _ _ (by omega) (by decide),Nat.xor_comm,Lib.xor_ones64 _ (by omega)];unfold zz;rw[if_neg h0]
  omega
theorem AppendInt_any (ho:w.ownsRow B 5 1 (.slice A l.length c) l.length (qh2 l)) (hB:B≤w.heap.size) (hn:I64 n) (hl:l.length≤4294967296):Calls Tryz.prog 127 #[.slice A l.length c,iv n] w (ApP B w (.slice A l.length c) (l++qb7 n)):=by
 have cU:=qd5 ho hB (zz_rg hn) hl;have hz:=zz_enc hn;unfold I64 at hn;obtain⟨n0,n1⟩:=hn;clear ho hB hl
 go_enter Tryz.func127,Tryz.ntmps127
 go_wp2_with fail
 refine cU.mono ?_;rintro e w' ⟨v,rfl,hr⟩;have H:=lh hr;clear cU hr
 go_wp2_with fail
 go_ret;exact⟨v,rfl,H.o⟩
theorem AppendBool_any {x:Bool} (ho:w.ownsRow B 5 1 (.slice A l.length c) l.length (qh2 l)) (hB:B≤w.heap.size) (hl:l.length≤4294967296):Calls Tryz.prog 129 #[.slice A l.length c,.bool x] w (ApP B w (.slice A l.length c) (l++qk0 x)):=by
 have HO:=lh ho;obtain⟨i0,hi,hz0,hz1,hz2⟩:=info_parts i_u8;have HI:=lh (And.intro hi (And.intro hz0 (And.intro hz1 hz2)));clear ho hi hz0 hz1 hz2
 cases x with
 | true =>
  go_enter Tryz.func129,Tryz.ntmps129
  go_wp2_with (at_builtin;refine wpList_append_own_at _ rfl (.tmp 6) (.tmp 7) 45 rfl B 5 i0 (.int .u8 0) 1 1 Tryz.underlying45 HI.o.1 HI.o.2.1 HI.o.2.2.1 HI.o.2.2.2 rfl (by decide) _ l.length _ rfl (HO.o.alloc _) ⟨w.heap.size,0,none⟩ 1 1 [.int .u8 1] rfl rfl (cell_one_new _ _ _) (by simp[Value.oneCell']) (by unfold maxLen;omega) (by omega) (by simp;omega) ?_;intro v1 w1 ho1 hg1 _ hl1;have HO1:=lh ho1;have HG1:=lh hg1;have HL1:=lh hl1;clear ho1 hg1 hl1)
  go_ret;exact⟨v1,rfl,ap_row HO1.o,ap_kp HG1.o,ap_own HL1.o⟩
 | false =>
  go_enter Tryz.func129,Tryz.ntmps129
  go_wp2_with (at_builtin;refine wpList_append_own_at _ rfl (.tmp 9) (.tmp 10) 45 rfl B 5 i0 (.int .u8 0) 1 1 Tryz.underlying45 HI.o.1 HI.o.2.1 HI.o.2.2.1 HI.o.2.2.2 rfl (by decide) _ l.length _ rfl (HO.o.alloc _) ⟨w.heap.size,0,none⟩ 1 1 [.int .u8 0] rfl rfl (cell_one_new _ _ _) (by simp[Value.oneCell']) (by unfold maxLen;omega) (by omega) (by simp;omega) ?_;intro v1 w1 ho1 hg1 _ hl1;have HO1:=lh ho1;have HG1:=lh hg1;have HL1:=lh hl1;clear ho1 hg1 hl1)
  go_ret;exact⟨v1,rfl,ap_row HO1.o,ap_kp HG1.o,ap_own HL1.o⟩
end
end
section
open Go.RowKit
attribute [local go_sem] Oper.semAt_some
theorem setCell_self {w:World} {g i:Nat} {t:TypeId} {cs:Array Value} {v:Value} (h:Bk w g t cs) (hv:cs[i]?=some v):w.setCell ⟨g,i,none⟩ v=w:=by
 have hi:i < cs.size:=(Array.getElem?_eq_some_iff.1 hv).1
 have hcs:cs.setIfInBounds i v=cs:=by
  refine Array.ext (by simp) fun j h1 h2=>?_;rw[Array.getElem_setIfInBounds]
  split
  ·rename_i e
   subst e;have:=(Array.getElem?_eq_some_iff.1 hv).2;rw[this]
  ·rfl
 have hh:(w.setCell ⟨g,i,none⟩ v).heap=w.heap:=by
  refine Array.ext_getElem? fun j=>?_
  by_cases hj:j=g
  ·subst hj;have h1:=h.set i v;rw[hcs] at h1;exact h1.trans h.symm
  ·exact Below.heap_setCell w ⟨g,i,none⟩ v j hj
 have:w.setCell ⟨g,i,none⟩ v={ w with heap:=(w.setCell ⟨g,i,none⟩ v).heap }:=rfl;rw[this,hh]
/-- a reader in memory: at g, its bytes in the block bb -/
structure RdR (w:World) (g bb:Nat) (r:Rd) (A:Option Addr) (c:Nat):Prop where
 bk:Bk w g 103 #[.slice A r.b.length c,iv r.e]
 cap:r.b.length≤c
 cm:c≤9223372036854775807
 sl:Sl w 1 A r.b.length (qh2 r.b)
 at_:∀ b o m,A=some ⟨b,o,m⟩→b=bb∧m=none
 nz:A=none→c=0
 ne:bb≠g
 b8:B8 r.b
section
variable {w w':World} {g bb c:Nat} {r:Rd} {A:Option Addr}
theorem RdR.kp {S:Nat→Prop} (h:RdR w g bb r A c) (hk:Kp S w w') (hg:¬ S g) (hb:¬ S bb):RdR w' g bb r A c :=
 ⟨h.bk.kp hk hg,h.cap,h.cm,by
  refine⟨h.sl.1,?_⟩;rcases h.sl.2 with h0 | ⟨b,o,e,hbl,hc⟩
  ·exact .inl h0
  ·refine .inr ⟨b,o,e,Nat.lt_of_lt_of_le hbl hk.size,fun j x hx=>hk.cell (hc j x hx) ?_⟩;rw[(h.at_ b o none e).1]
   exact hb,h.at_,h.nz,h.ne,h.b8⟩
theorem RdR.below (h:RdR w g bb r A c) (hb:bw w w'):RdR w' g bb r A c:=h.kp (S:=fun _=>False) (Kp.of_below hb) (fun h=>h) (fun h=>h)
theorem RdR.lt (h:RdR w g bb r A c):g < w.heap.size:=h.bk.lt
end
/-- some reader -/
def RdX (w:World) (g bb:Nat) (r:Rd):Prop:=∃ A c,RdR w g bb r A c
theorem RdX.kp {w w':World} {g bb:Nat} {r:Rd} {S:Nat→Prop} (h:RdX w g bb r) (hk:Kp S w w') (hg:¬ S g) (hb:¬ S bb):RdX w' g bb r:=let ⟨A,c,h⟩:=h;⟨A,c,h.kp hk hg hb⟩
theorem RdX.below {w w':World} {g bb:Nat} {r:Rd} (h:RdX w g bb r) (hb:bw w w'):RdX w' g bb r:=let ⟨A,c,h⟩:=h;⟨A,c,h.below hb⟩
section
variable {w:World} {g bb c fid:Nat} {r:Rd} {A:Option Addr} {caps:Array Value} {b b1:List Int} {code:Int} {X:World→Prop}
theorem try_no (h:RdR w g bb r A c) (he:r.e≠0) (F:Value):Calls Tryz.prog 154 #[pq g 0,F] w fun e w1=>e=.returned (bf)∧w=w1:=by
 have c1:cl w g 1 (iv r.e):=h.bk.cell 1
 obtain⟨re,hre⟩:∃ re,re=r.e:=⟨_,rfl⟩
 rw[← hre] at he c1;have d1:(re != 0)=true:=by simpa using he
 clear h hre he
 go_enter Tryz.func154,Tryz.ntmps154
 go_wp2_with fail
 go_ret;exact⟨rfl,rfl⟩
theorem try_ok (hent:∀ args w,(callFunc fid args).run Tryz.prog w=.ok (.enter fid args) w) (h:RdR w g bb ⟨b,0⟩ A c) (hc:Calls Tryz.prog fid caps w fun e w1=>e=.returned (iv 0)∧RdX w1 g bb ⟨b1,0⟩∧X w1):Calls Tryz.prog 154 #[pq g 0,.func (.func fid) #[] caps] w fun e w1=>e=.returned (.bool true)∧RdX w1 g bb ⟨b1,0⟩∧X w1:=by
 have c1:cl w g 1 (iv 0):=h.bk.cell 1;clear h
 go_enter Tryz.func154,Tryz.ntmps154
 go_wp2_with fail
 refine hc.mono ?_;rintro e w1 ⟨rfl,⟨A1,k1,h1⟩,hx⟩;have H1:=lh h1;have HX:=lh hx;have hs:w1.setCell ⟨g,1,none⟩ (iv 0)=w1:=setCell_self h1.bk rfl;have f1:w1.frozen? ⟨g,1,none⟩=false:=h1.bk.free 1;have c1':cl w1 g 1 (iv 0):=h1.bk.cell 1;clear hc c1 h1 hx
 go_wp2_with fail
 go_ret;exact⟨rfl,⟨A1,k1,H1.o⟩,HX.o⟩
theorem qp1 (hent:∀ args w,(callFunc fid args).run Tryz.prog w=.ok (.enter fid args) w) (h:RdR w g bb ⟨b,0⟩ A c) (hcode:code≠0) (hc:Calls Tryz.prog fid caps w fun e w1=>e=.returned (iv code)∧bw w w1):Calls Tryz.prog 154 #[pq g 0,.func (.func fid) #[] caps] w fun e w1=>e=.returned (bf)∧RdX w1 g bb (Rd.bad code)∧Kp (fun k=>k=g) w w1:=by
 have c1:cl w g 1 (iv 0):=h.bk.cell 1;have H:=lh h;have d1:(code != 0)=true:=by simpa using hcode
 have d2:(code == 0)=false:=by simpa using hcode
 clear h hcode
 go_enter Tryz.func154,Tryz.ntmps154
 go_wp2_with fail
 refine hc.mono ?_;rintro e w1 ⟨rfl,hb⟩;have h1:=H.o.below hb;have H1:=lh h1;have HB:=lh hb;have f1:w1.frozen? ⟨g,1,none⟩=false:=h1.bk.free 1;have f0:w1.frozen? ⟨g,0,none⟩=false:=h1.bk.free 0;have c1':cl w1 g 1 (iv 0):=h1.bk.cell 1;have c0':cl w1 g 0 (.slice A b.length c):=h1.bk.cell 0;clear hc c1 h1 hb
 go_wp2_with fail
 go_ret;refine⟨rfl,⟨none,0,⟨?_,Nat.le_refl _,Nat.zero_le _,Sl.nil _ _ _,fun b o m e=>(by cases e),fun _=>rfl,H1.o.ne,B8.nil⟩⟩,(Kp.of_below HB.o).trans ((Kp.setCell (S:=fun k=>k=g) w1 ⟨g,1,none⟩ _ rfl).trans (Kp.setCell (S:=fun k=>k=g) _ ⟨g,0,none⟩ _ rfl) fun _ _ h=>h) fun _ _ h=>h⟩;exact(H1.o.bk.set 1 _).set 0 _
end
section
variable {w:World} {g bb c p q:Nat} {A:Option Addr} {b s:List Int} {n:Int}
theorem num_none_cases (hb:B8 b) (h:num b=none):b=[] ∨ ∃ k t,b=k::t∧(8 < k ∨ (k≤8∧(t.length:Int) < k) ∨ (k≤8∧k≤t.length∧0 < k∧∃ t',t=0::t')):=by
 cases b with
 | nil=>exact .inl rfl
 | cons k t =>
  right
  refine⟨k,t,rfl,?_⟩;unfold num at h;dsimp only at h
  split at h
  ·rename_i hc
   by_cases h1:8 < k
   ·exact .inl h1
   ·by_cases h2:(t.length:Int) < k
    ·exact .inr (.inl ⟨by omega,h2⟩)
    ·rcases hc with e | e | ⟨e1,e2⟩
     ·exact absurd e h1
     ·exact absurd e h2
     ·refine .inr (.inr ⟨by omega,by omega,e1,?_⟩)
      cases t with
      | nil=>cases e2
      | cons y t'=>simp at e2;exact⟨t',by rw[e2]⟩
  ·cases h
theorem Uint1_no (h:RdR w g bb ⟨b,0⟩ A c) (hp:Bk w p 79 #[pq g 0]) (hn:num b=none):Calls Tryz.prog 155 #[pq p 0,pq q 0] w fun e w1=>e=.returned (iv 11)∧bw w w1:=by
 have p0:cl w p 0 (pq g 0):=hp.cell 0;have r0:cl w g 0 (.slice A b.length c):=h.bk.cell 0;have hcm:=h.cm;have hcp:=h.cap;dsimp only at hcp;have HB:Hid (∀ k,bw w (w.drewN k)):=lh fun k=>qf5 (Below.refl _ _) k;rcases num_none_cases h.b8 hn with rfl | ⟨k,t,rfl,hk⟩
 ·clear h hp hn
  go_enter Tryz.func155,Tryz.ntmps155
  go_upto_region 1 with fail
  go_quiet (fail)
  go_wp2_with fail
  go_ret;exact⟨rfl,HB.o _⟩
 ·obtain⟨b',o,hA,hbl,hc⟩:=h.sl.2.resolve_left (by simp);have hk8:=h.b8 k (by simp);have e0:cl w b' o (.int .u8 k):=hc 0 _ rfl;subst hA;have e0':cl w b' (o+0) (.int .u8 k):=e0;have hlc:(k::t).length=t.length+1:=rfl;rw[hlc] at r0 hcp;have HKB:Hid (0≤k∧k≤255):=lh hk8;have d0:((t.length:Int)+1 == 0)=false:=by simpa using (show ¬ ((t.length:Int)+1=0) by omega)
  have d00:((((t.length+1:Nat)):Int) == 0)=false:=by simpa using (show ¬ ((t.length:Int)+1=0) by omega)
  rcases hk with hk | ⟨hk,hl⟩ | ⟨hk,hl,hk0,t',rfl⟩
  ·have d1:decide (k > 8)=true:=decide_eq_true (by omega);clear h hp hn hc hbl hlc hk8
   go_enter Tryz.func155,Tryz.ntmps155
   go_upto_region 1 with fail
   go_quiet (fail)
   go_wp2_with fail
   go_ret;exact⟨rfl,HB.o _⟩
  ·have d1:decide (k > 8)=false:=decide_eq_false (by omega);have d2:decide ((((t.length+1:Nat)):Int)≤k)=true:=decide_eq_true (by omega);have d2':decide ((t.length:Int)+1≤k)=true:=decide_eq_true (by omega);clear h hp hn hc hbl hlc
   go_enter Tryz.func155,Tryz.ntmps155
   go_upto_region 1 with fail
   go_quiet (fail)
   go_wp2_with fail
   go_ret;exact⟨rfl,HB.o _⟩
  ·have d1:decide (k > 8)=false:=decide_eq_false (by omega);have hlt:((0:Int)::t').length=t'.length+1:=rfl;rw[hlt] at r0 hcp hl;have d4:((t'.length:Int)+1+1 == 0)=false:=by simpa using (show ¬ ((t'.length:Int)+1+1=0) by omega)
   have d2:decide ((((t'.length+1+1:Nat)):Int)≤k)=false:=decide_eq_false (by omega);have d2':decide ((t'.length:Int)+1+1≤k)=false:=decide_eq_false (by omega);have d3:decide (k > 0)=true:=decide_eq_true (by omega);have e1:cl w b' (o+1) (.int .u8 0):=hc 1 _ rfl;clear h hp hn hc hbl hlc hlt d0 d00
   go_enter Tryz.func155,Tryz.ntmps155
   go_upto_region 1 with fail
   go_quiet (fail)
   go_wp2_with fail
   go_ret;exact⟨rfl,HB.o _⟩
theorem val_step {t:List Int} {i:Nat} {x:Int} (h:t[i]?=some x):val (t.take (i+1))=val (t.take i)*256+x:=by
 rw[List.take_add_one,h];exact qm3 _ _
theorem shl_or {v x:Int} (hv:0≤v) (hx:0≤x∧x≤255) (h:v*256+x < 18446744073709551616):bits .or .u64 (IntKind.u64.wrap (v*256)) x=v*256+x:=by
 obtain⟨V,rfl⟩:=Int.eq_ofNat_of_zero_le hv;obtain⟨X,rfl⟩:=Int.eq_ofNat_of_zero_le hx.1;have e1:IntKind.u64.wrap ((V:Int)*256)=((V*256:Nat):Int):=by rw[IntKind.wrap_u64];omega
 rw[e1,bits_or_u64_nat _ _ (by omega) (by omega)];have:=Nat.two_pow_add_eq_or_of_lt (i:=8) (b:=X) (by omega) V;rw[show V*256=2 ^ 8*V by omega,← this]
 omega
theorem Uint1_ok (h:RdR w g bb ⟨b,0⟩ A c) (hp:Bk w p 79 #[pq g 0]) (hq:Bk w q 22 #[uv 0]) (hqb:q≠bb) (hn:num b=some (n,s)):Calls Tryz.prog 155 #[pq p 0,pq q 0] w fun e w1=>e=.returned (iv 0)∧RdX w1 g bb ⟨s,0⟩∧(Bk w1 q 22 #[uv n]∧Kp (fun k=>k=g ∨ k=q) w w1):=by
 cases b with
 | nil=>cases hn
 | cons k t =>
  have hnn:=qq8 h.b8 hn;unfold num at hn;dsimp only at hn
  split at hn
  ·cases hn
  ·rename_i hno
   cases hn;have p0:cl w p 0 (pq g 0):=hp.cell 0;have r0:cl w g 0 (.slice A (k::t).length c):=h.bk.cell 0;have hcm:=h.cm;have hcp:=h.cap;dsimp only at hcp;obtain⟨b',o,hA,hbl,hc⟩:=h.sl.2.resolve_left (by simp);have hk8:=h.b8 k (by simp);have ht8:B8 t:=fun x hx=>h.b8 x (by simp[hx]);have e0:cl w b' o (.int .u8 k):=hc 0 _ rfl;have hlc:(k::t).length=t.length+1:=rfl;rw[hlc] at r0 hcp;have d0:((t.length:Int)+1 == 0)=false:=by simpa using (show ¬ ((t.length:Int)+1=0) by omega)
   have d1:decide (k > 8)=false:=decide_eq_false (by omega);have d2:decide ((t.length:Int)+1≤k)=false:=decide_eq_false (by omega);obtain⟨K,rfl⟩:=Int.eq_ofNat_of_zero_le hk8.1;have hK8:K≤8:=by omega
   have hKl:K≤t.length:=by omega
   have hhead:(decide (0 < K)=false) ∨ (decide (0 < K)=true∧∃ y,cl w b' (o+1) (.int .u8 y)∧(y == 0)=false):=by
    by_cases h0:K=0
    ·exact .inl (decide_eq_false (by omega))
    ·refine .inr ⟨decide_eq_true (by omega),?_⟩
     cases t with
     | nil=>simp at hKl;omega
     | cons y t'=>exact⟨y,hc 1 _ rfl,by simpa using fun e=>hno (.inr (.inr ⟨by omega,by rw[e];rfl⟩))⟩
   have H:=lh h;have HP:=lh hp;have HQ:=lh hq;have HB:Hid (b'=bb):=lh (h.at_ b' o none hA).1;have HC:=lh (And.intro hbl hc);have HT:=lh (And.intro ht8 hnn)
   have HGQ:Hid (g≠q∧p≠q):=lh ⟨(fun e=>by
    have h1:=h.bk;rw[e] at h1;unfold Bk at h1 hq;rw[hq] at h1
    cases h1),(fun e=>by
    rw[e] at hp;unfold Bk at hp hq;rw[hq] at hp
    cases hp)⟩
   have hwk:IntKind.i64.wrap (K:Int)=(K:Int):=IntWalk.i64_in _ (by omega);subst hA
   by_cases hc1:c=1
   ·subst hc1;have ht0:t=[]:=List.length_eq_zero_iff.1 (by omega);subst ht0;obtain rfl:K=0:=by simpa using hKl
    have r0':cl w g 0 (.slice (some ⟨b',o,none⟩) 1 1):=r0;have e0':cl w b' o (.int .u8 0):=e0;have rf:w.frozen? ⟨g,0,none⟩=false:=h.bk.free 0;have dh:decide (0 < 0)=false:=by decide
    clear h hp hq hc hbl hlc hno ht8 hnn hk8 hhead r0 e0 d0 d1 d2 hwk hKl hK8 hcp
    go_enter Tryz.func155,Tryz.ntmps155
    go_upto_region 1 with fail
    go_quiet (fail)
    go_wp2_with fail
    go_loopw [69] (fun ix wr=>ix=iv 0∧Kp (fun _=>False) w wr) (fun _ _=>0)
    case atStart=>exact⟨rfl,⟨rfl,rfl,rfl,Nat.le_refl _,fun _ _ _=>rfl⟩⟩
    case round =>
     obtain⟨rfl,hkp⟩:=hrel;have HK:=lh hkp;have HRI:=lh (H.o.kp hkp (fun h=>h) (fun h=>h));have HQI:=lh (HQ.o.kp hkp (fun h=>h));have p0:cl wr p 0 (pq g 0):=(HP.o.kp hkp (fun h=>h)).cell 0;have r0':cl wr g 0 (.slice (some ⟨b',o,none⟩) 1 1):=HRI.o.bk.cell 0;have rf:wr.frozen? ⟨g,0,none⟩=false:=HRI.o.bk.free 0;have hw10:IntKind.i64.wrap (1+0)=1:=by decide
     have hw11:IntKind.i64.wrap 1=1:=by decide
     clear hkp
     go_upto_region 9 with fail
     go_still_tail 10,(by kernel_rfl)
     change wpList _ _ _ _ _ wr.drew
     go_wp2_with fail
     go_ret;exact⟨rfl,⟨some ⟨b',o,none⟩,0,⟨(HRI.o.bk).set 0 _,Nat.le_refl _,Nat.zero_le _,Sl.nil _ _ _,fun b o m e=>(by cases e;exact⟨HB.o,rfl⟩),fun e=>(by cases e),H.o.ne,B8.nil⟩⟩,HQI.o.far (p:=⟨g,0,none⟩) (fun e=>HGQ.o.1 e.symm) _,((HK.o.mono (T:=fun k=>k=g ∨ k=q) fun _ _ h=>h.elim).trans (Kp.setCell (S:=fun k=>k=g ∨ k=q) wr ⟨g,0,none⟩ _ (.inl rfl)) fun _ _ h=>h).drew⟩
   ·rcases hhead with dh | ⟨dh,y,ey,dy⟩
    ·clear h hp hq hc hbl hlc hno ht8 hnn hk8
     go_enter Tryz.func155,Tryz.ntmps155
     go_upto_region 1 with fail
     go_quiet (fail)
     go_wp2_with fail
     have hq0:Bk (w.drewN nq) q 22 #[uv (val (t.take 0))]:=HQ.o
     go_loopw [69] (fun ix wr=>∃ i:Nat,ix=iv (i:Int)∧i≤K∧Bk wr q 22 #[uv (val (t.take i))]∧Kp (fun k=>k=q) w wr) (fun ix _=>K - (intOf ix).toNat)
     case atStart=>exact⟨0,rfl,Nat.zero_le _,hq0,⟨rfl,rfl,rfl,Nat.le_refl _,fun _ _ _=>rfl⟩⟩
     case round =>
      clear hq0;obtain⟨i,rfl,hi,hqi,hkp⟩:=hrel;have HQI:=lh hqi;have HK:=lh hkp;have HRI:=lh (H.o.kp hkp (fun e=>HGQ.o.1 e) (fun e=>hqb e.symm));have hpi:=HP.o.kp hkp (fun e=>HGQ.o.2 e);have p0:cl wr p 0 (pq g 0):=hpi.cell 0;have q0:cl wr q 0 (uv (val (t.take i))):=hqi.cell 0;have qf:wr.frozen? ⟨q,0,none⟩=false:=hqi.free 0;clear hqi hkp hpi
      by_cases hlt:i < K
      ·have hx:t[i]?=some (t[i]'(by omega)):=List.getElem?_eq_getElem _;have hvs:=val_step hx;have hx8:=HT.o.1 _ (List.mem_of_getElem? hx);have hcx:cl w b' (o+(1+i)) (.int .u8 (t[i]'(by omega))):=HC.o.2 (1+i) _ (by unfold qh2;rw[List.getElem?_map,show 1+i=i+1 by omega,List.getElem?_cons_succ,hx];rfl)
       have hcx2:wr.cell? ⟨b',o+1+i,none⟩=some (.int .u8 (t[i]'(by omega))):=by
        rw[show o+1+i=o+(1+i) by omega];exact HK.o.cell hcx (fun e=>hqb (e ▸ HB.o))
       generalize t[i]'(by omega)=x at *;have hv0:=val_nn (HT.o.1.take i);have hv1:=val_lt (HT.o.1.take (i+1));rw[hvs,List.length_take,Nat.min_eq_left (by omega)] at hv1;have hpw:(256:Nat) ^ (i+1)≤256 ^ 8:=Nat.pow_le_pow_right (by decide) (by omega);have h256:(256:Nat) ^ 8=18446744073709551616:=rfl
       obtain⟨v,hv⟩:∃ v,v=val (t.take i):=⟨_,rfl⟩
       rw[← hv] at q0 hvs hv0 hv1;have hor:=shl_or hv0 hx8 (by omega);have HVS:=lh hvs;have HQS:Hid (Bk (wr.setCell ⟨q,0,none⟩ (uv (v*256+x))) q 22 #[uv (v*256+x)]):=lh (HQI.o.set 0 _);have hx80:=hx8.1;have hx81:=hx8.2;clear hx hvs hcx hv1 hpw h256 hv hx8
       go_wp2_with fail
       go_roundw
       case rel =>
        refine⟨i+1,by go_num,by omega,?_,HK.o.trans (Kp.setCell (S:=fun k=>k=q) wr ⟨q,0,none⟩ _ rfl) fun _ _ h=>h⟩;rw[HVS.o];exact HQS.o
       case measure=>simp[intOf];omega
      ·obtain rfl:i=K:=by omega
       have hr0:=HRI.o.bk.cell 0;have r0:cl wr g 0 (.slice (some ⟨b',o,none⟩) (t.length+1) c):=hr0;have rf:wr.frozen? ⟨g,0,none⟩=false:=HRI.o.bk.free 0;have hws:IntKind.i64.wrap (1+(i:Int))=1+(i:Int):=IntWalk.i64_in _ (by omega);have hws2:wrap64 (1+(i:Int))=1+(i:Int):=by unfold wrap64;omega
       have hdl:(t.drop i).length=t.length - i:=List.length_drop;clear hr0 q0 qf;have hi1:(1+(i:Int)).toNat=1+i:=by omega
       have h0s:0≤1+(i:Int):=by omega
       have hle1:1+i≤t.length+1:=by omega
       have hle2:1+(i:Int)≤(t.length:Int)+1:=by omega
       have hlec:1+i≤c:=by omega
       have hl9:t.length+1 - (1+i)=(t.drop i).length:=by rw[hdl];omega
       by_cases hce:1+i=c
       ·have hl0:(t.drop i).length=0:=by rw[hdl];omega
        have HD:Hid (t.drop i=[]):=lh (List.length_eq_zero_iff.1 hl0);clear hdl
        go_upto_region 9 with fail
        go_still_tail 10,(by kernel_rfl)
        change wpList _ _ _ _ _ wr.drew
        go_wp2_with fail
        go_ret;rw[Int.toNat_natCast,HD.o];exact⟨rfl,⟨some ⟨b',o,none⟩,0,⟨(HRI.o.bk).set 0 _,Nat.le_refl _,Nat.zero_le _,Sl.nil _ _ _,fun b o m e=>(by cases e;exact⟨HB.o,rfl⟩),fun e=>(by cases e),H.o.ne,B8.nil⟩⟩,HQI.o.far (p:=⟨g,0,none⟩) (fun e=>HGQ.o.1 e.symm) _,((HK.o.mono (T:=fun k=>k=g ∨ k=q) fun _ _ h=>.inr h).trans (Kp.setCell (S:=fun k=>k=g) wr ⟨g,0,none⟩ _ rfl) fun _ _ h=>.inl h).drew⟩
       ·have hlt9:1+i < c:=by omega
        have HC2:Hid (∀ j x,(qh2 (t.drop i))[j]?=some x→w.cell? ⟨b',o+(1+i)+j,none⟩=some x):=lh fun j x hx=>by
         have h1:(qh2 ((i:Int)::t))[1+i+j]?=some x:=by
          unfold qh2 at hx ⊢;rw[List.getElem?_map] at hx ⊢;rw[List.getElem?_drop] at hx;rw[show 1+i+j=(i+j)+1 by omega,List.getElem?_cons_succ];exact hx
         have h2:=HC.o.2 (1+i+j) x h1;rw[show o+(1+i+j)=o+(1+i)+j by omega] at h2;exact h2
        have HDL:=lh hdl;clear hdl
        go_upto_region 9 with fail
        go_still_tail 10,(by kernel_rfl)
        change wpList _ _ _ _ _ wr.drew
        go_wp2_with fail
        go_ret;rw[← HDL.o];have hk9:Kp (fun k=>k=g ∨ k=q) w (wr.setCell ⟨g,0,none⟩ (.slice (some ⟨b',o+(1+i),none⟩) (t.drop i).length (c - (1+i)))):=(HK.o.mono (T:=fun k=>k=g ∨ k=q) fun _ _ h=>.inr h).trans (Kp.setCell (S:=fun k=>k=g) wr ⟨g,0,none⟩ _ rfl) fun _ _ h=>.inl h;refine⟨rfl,⟨some ⟨b',o+(1+i),none⟩,c - (1+i),⟨(HRI.o.bk).set 0 _,by dsimp only;omega,by omega,?_,fun b o m e=>(by cases e;exact⟨HB.o,rfl⟩),fun e=>(by cases e),H.o.ne,HT.o.1.drop i⟩⟩,HQI.o.far (p:=⟨g,0,none⟩) (fun e=>HGQ.o.1 e.symm) _,hk9.drew⟩;refine⟨by rw[qm6,Nat.mul_one],.inr ⟨b',o+(1+i),rfl,Nat.lt_of_lt_of_le HC.o.1 hk9.size,fun j x hx=>?_⟩⟩;exact hk9.cell (HC2.o j x hx) (by rintro(e | e);exact H.o.ne (HB.o ▸ e);exact hqb (e ▸ HB.o))
    ·have hK0:0 < K:=of_decide_eq_true dh;have h1t:0 < t.length:=by omega
     have h1t2:1 < t.length+1:=by omega
     have h1t3:(1:Int) < (t.length:Int)+1:=by omega
     clear h hp hq hc hbl hlc hno ht8 hnn hk8
     go_enter Tryz.func155,Tryz.ntmps155
     go_upto_region 1 with fail
     go_quiet (fail)
     go_wp2_with fail
     have hq0:Bk (w.drewN nq) q 22 #[uv (val (t.take 0))]:=HQ.o
     go_loopw [69] (fun ix wr=>∃ i:Nat,ix=iv (i:Int)∧i≤K∧Bk wr q 22 #[uv (val (t.take i))]∧Kp (fun k=>k=q) w wr) (fun ix _=>K - (intOf ix).toNat)
     case atStart=>exact⟨0,rfl,Nat.zero_le _,hq0,⟨rfl,rfl,rfl,Nat.le_refl _,fun _ _ _=>rfl⟩⟩
     case round =>
      clear hq0;obtain⟨i,rfl,hi,hqi,hkp⟩:=hrel;have HQI:=lh hqi;have HK:=lh hkp;have HRI:=lh (H.o.kp hkp (fun e=>HGQ.o.1 e) (fun e=>hqb e.symm));have hpi:=HP.o.kp hkp (fun e=>HGQ.o.2 e);have p0:cl wr p 0 (pq g 0):=hpi.cell 0;have q0:cl wr q 0 (uv (val (t.take i))):=hqi.cell 0;have qf:wr.frozen? ⟨q,0,none⟩=false:=hqi.free 0;clear hqi hkp hpi
      by_cases hlt:i < K
      ·have hx:t[i]?=some (t[i]'(by omega)):=List.getElem?_eq_getElem _;have hvs:=val_step hx;have hx8:=HT.o.1 _ (List.mem_of_getElem? hx);have hcx:cl w b' (o+(1+i)) (.int .u8 (t[i]'(by omega))):=HC.o.2 (1+i) _ (by unfold qh2;rw[List.getElem?_map,show 1+i=i+1 by omega,List.getElem?_cons_succ,hx];rfl)
       have hcx2:wr.cell? ⟨b',o+1+i,none⟩=some (.int .u8 (t[i]'(by omega))):=by
        rw[show o+1+i=o+(1+i) by omega];exact HK.o.cell hcx (fun e=>hqb (e ▸ HB.o))
       generalize t[i]'(by omega)=x at *;have hv0:=val_nn (HT.o.1.take i);have hv1:=val_lt (HT.o.1.take (i+1));rw[hvs,List.length_take,Nat.min_eq_left (by omega)] at hv1;have hpw:(256:Nat) ^ (i+1)≤256 ^ 8:=Nat.pow_le_pow_right (by decide) (by omega);have h256:(256:Nat) ^ 8=18446744073709551616:=rfl
       obtain⟨v,hv⟩:∃ v,v=val (t.take i):=⟨_,rfl⟩
       rw[← hv] at q0 hvs hv0 hv1;have hor:=shl_or hv0 hx8 (by omega);have HVS:=lh hvs;have HQS:Hid (Bk (wr.setCell ⟨q,0,none⟩ (uv (v*256+x))) q 22 #[uv (v*256+x)]):=lh (HQI.o.set 0 _);have hx80:=hx8.1;have hx81:=hx8.2;clear hx hvs hcx hv1 hpw h256 hv hx8
       go_wp2_with fail
       go_roundw
       case rel =>
        refine⟨i+1,by go_num,by omega,?_,HK.o.trans (Kp.setCell (S:=fun k=>k=q) wr ⟨q,0,none⟩ _ rfl) fun _ _ h=>h⟩;rw[HVS.o];exact HQS.o
       case measure=>simp[intOf];omega
      ·obtain rfl:i=K:=by omega
       have hr0:=HRI.o.bk.cell 0;have r0:cl wr g 0 (.slice (some ⟨b',o,none⟩) (t.length+1) c):=hr0;have rf:wr.frozen? ⟨g,0,none⟩=false:=HRI.o.bk.free 0;have hws:IntKind.i64.wrap (1+(i:Int))=1+(i:Int):=IntWalk.i64_in _ (by omega);have hws2:wrap64 (1+(i:Int))=1+(i:Int):=by unfold wrap64;omega
       have hdl:(t.drop i).length=t.length - i:=List.length_drop;clear hr0 q0 qf;have hi1:(1+(i:Int)).toNat=1+i:=by omega
       have h0s:0≤1+(i:Int):=by omega
       have hle1:1+i≤t.length+1:=by omega
       have hle2:1+(i:Int)≤(t.length:Int)+1:=by omega
       have hlec:1+i≤c:=by omega
       have hl9:t.length+1 - (1+i)=(t.drop i).length:=by rw[hdl];omega
       by_cases hce:1+i=c
       ·have hl0:(t.drop i).length=0:=by rw[hdl];omega
        have HD:Hid (t.drop i=[]):=lh (List.length_eq_zero_iff.1 hl0);clear hdl
        go_upto_region 9 with fail
        go_still_tail 10,(by kernel_rfl)
        change wpList _ _ _ _ _ wr.drew
        go_wp2_with fail
        go_ret;rw[Int.toNat_natCast,HD.o];exact⟨rfl,⟨some ⟨b',o,none⟩,0,⟨(HRI.o.bk).set 0 _,Nat.le_refl _,Nat.zero_le _,Sl.nil _ _ _,fun b o m e=>(by cases e;exact⟨HB.o,rfl⟩),fun e=>(by cases e),H.o.ne,B8.nil⟩⟩,HQI.o.far (p:=⟨g,0,none⟩) (fun e=>HGQ.o.1 e.symm) _,((HK.o.mono (T:=fun k=>k=g ∨ k=q) fun _ _ h=>.inr h).trans (Kp.setCell (S:=fun k=>k=g) wr ⟨g,0,none⟩ _ rfl) fun _ _ h=>.inl h).drew⟩
       ·have hlt9:1+i < c:=by omega
        have HC2:Hid (∀ j x,(qh2 (t.drop i))[j]?=some x→w.cell? ⟨b',o+(1+i)+j,none⟩=some x):=lh fun j x hx=>by
         have h1:(qh2 ((i:Int)::t))[1+i+j]?=some x:=by
          unfold qh2 at hx ⊢;rw[List.getElem?_map] at hx ⊢;rw[List.getElem?_drop] at hx;rw[show 1+i+j=(i+j)+1 by omega,List.getElem?_cons_succ];exact hx
         have h2:=HC.o.2 (1+i+j) x h1;rw[show o+(1+i+j)=o+(1+i)+j by omega] at h2;exact h2
        have HDL:=lh hdl;clear hdl
        go_upto_region 9 with fail
        go_still_tail 10,(by kernel_rfl)
        change wpList _ _ _ _ _ wr.drew
        go_wp2_with fail
        go_ret;rw[← HDL.o];have hk9:Kp (fun k=>k=g ∨ k=q) w (wr.setCell ⟨g,0,none⟩ (.slice (some ⟨b',o+(1+i),none⟩) (t.drop i).length (c - (1+i)))):=(HK.o.mono (T:=fun k=>k=g ∨ k=q) fun _ _ h=>.inr h).trans (Kp.setCell (S:=fun k=>k=g) wr ⟨g,0,none⟩ _ rfl) fun _ _ h=>.inl h;refine⟨rfl,⟨some ⟨b',o+(1+i),none⟩,c - (1+i),⟨(HRI.o.bk).set 0 _,by dsimp only;omega,by omega,?_,fun b o m e=>(by cases e;exact⟨HB.o,rfl⟩),fun e=>(by cases e),H.o.ne,HT.o.1.drop i⟩⟩,HQI.o.far (p:=⟨g,0,none⟩) (fun e=>HGQ.o.1 e.symm) _,hk9.drew⟩;refine⟨by rw[qm6,Nat.mul_one],.inr ⟨b',o+(1+i),rfl,Nat.lt_of_lt_of_le HC.o.1 hk9.size,fun j x hx=>?_⟩⟩;exact hk9.cell (HC2.o j x hx) (by rintro(e | e);exact H.o.ne (HB.o ▸ e);exact hqb (e ▸ HB.o))
end
end
section
open Go.RowKit
attribute [local go_sem] Oper.semAt_some
theorem qt6 (args:Array Value) (w:World):(callFunc 155 args).run Tryz.prog w=.ok (.enter 155 args) w:=by go_simp
/-- what a reading function leaves -/
def RdP (w:World) (g bb:Nat) (v:Value) (r:Rd) (e:Ending) (w':World):Prop:=e=.returned v∧RdX w' g bb r∧Kp (fun k=>k=g) w w'
theorem Kp.boxed {w w2 w1:World} {g q:Nat} (hb:bw w w2) (hk:Kp (fun k=>k=g ∨ k=q) w2 w1) (hq:w.heap.size≤q):Kp (fun k=>k=g) w w1:=(Kp.of_below hb).trans hk fun k hk h=>h.resolve_right (by omega)
section
variable {w:World} {g bb:Nat} {r:Rd}
theorem qr6 (h:RdX w g bb r) (hbb:bb < w.heap.size):Calls Tryz.prog 110 #[pq g 0] w (RdP w g bb (uv r.u.1) r.u.2):=by
 obtain⟨A,c,h⟩:=h;obtain⟨b,e⟩:=r
 obtain⟨w2,hw2⟩:∃ w2,w2=(w.alloc (.cells #[pq g 0] 79)).alloc (.cells #[uv 0] 22):=⟨_,rfl⟩
 have hb2:bw w w2:=by rw[hw2];exact((Below.refl _ _).alloc (Nat.le_refl _) _).alloc (by simp) _
 have hp:Bk w2 w.heap.size 79 #[pq g 0]:=by rw[hw2];exact Bk.alloc (Bk.new _ _ _) _
 have hq:Bk w2 (w.heap.size+1) 22 #[uv 0]:=by rw[hw2];exact Bk.here _ _ _ (by simp)
 have h2:=h.below hb2;have HB2:=lh hb2;have q0:cl w2 (w.heap.size+1) 0 (uv 0):=hq.cell 0;have p0:cl w2 w.heap.size 0 (pq g 0):=hp.cell 0
 by_cases he:e=0
 ·subst he
  cases hn:num b with
  | none =>
   have cT:=qp1 (fid:=155) (caps:=#[pq w.heap.size 0,.pointer (some ⟨w.heap.size+1,0,none⟩)]) qt6 h2 (by decide) (Uint1_no h2 hp hn);have HU:Hid ((Rd.mk b 0).u=(0,Rd.bad 11)):=lh (Rd.u_no hn);clear h h2 hp hq hb2 hn q0
   go_enter Tryz.func110,Tryz.ntmps110
   go_upto_region 2 with fail
   rw[← hw2];clear hw2
   go_wp2_with fail
   refine cT.mono ?_;rintro e w3 ⟨rfl,hx,hk⟩;have HX:=lh hx;have HK:=lh hk;clear cT hx hk
   go_wp2_with fail
   go_ret;rw[HU.o];exact⟨rfl,HX.o,(Kp.of_below HB2.o).trans HK.o fun _ _ h=>h⟩
  | some ns =>
   obtain⟨n,s⟩:=ns;have cT:=try_ok (fid:=155) (caps:=#[pq w.heap.size 0,.pointer (some ⟨w.heap.size+1,0,none⟩)]) qt6 h2 (Uint1_ok h2 hp hq (by omega) hn);have HU:Hid ((Rd.mk b 0).u=(n,⟨s,0⟩)):=lh (Rd.u_ok hn);clear h h2 hp hq hb2 hn q0
   go_enter Tryz.func110,Tryz.ntmps110
   go_upto_region 2 with fail
   rw[← hw2];clear hw2
   go_wp2_with fail
   refine cT.mono ?_;rintro e w3 ⟨rfl,hx,hq3,hk⟩;have HX:=lh hx;have HK:=lh hk;have q3:cl w3 (w.heap.size+1) 0 (uv n):=hq3.cell 0;clear cT hx hk hq3
   go_wp2_with fail
   go_ret;rw[HU.o];exact⟨rfl,HX.o,Kp.boxed HB2.o HK.o (by omega)⟩
 ·have cT:=try_no h2 he (.func (.func 155) #[] #[pq w.heap.size 0,.pointer (some ⟨w.heap.size+1,0,none⟩)]);have HU:Hid ((Rd.mk b e).u=(0,⟨b,e⟩)):=lh (Rd.u_e he);have HX:Hid (RdX w2 g bb ⟨b,e⟩):=lh ⟨A,c,h2⟩;clear h h2 hp hq hb2 q0 he
  go_enter Tryz.func110,Tryz.ntmps110
  go_upto_region 2 with fail
  rw[← hw2];clear hw2
  go_wp2_with fail
  refine cT.mono ?_;rintro e' w3 ⟨rfl,rfl⟩;clear cT
  go_wp2_with fail
  go_ret;rw[HU.o];exact⟨rfl,HX.o,Kp.of_below HB2.o⟩
theorem unzz_xor {m:Int} (h:P64 m):bits .xor .i64 (m / 2) (-(m % 2))=unzz m:=by
 unfold P64 at h;obtain⟨M,rfl⟩:=Int.eq_ofNat_of_zero_le h.1;unfold unzz;have e2:((M / 2:Nat):Int)=(M:Int) / 2:=by omega
 by_cases h1:(M:Int) % 2=1
 ·rw[if_pos h1,h1];have hx:=Lib.i64_not (M / 2) (by omega);rw[e2] at hx;rw[← hx]
  show IntKind.i64.wrap ((BitVec.ofInt 64 _ ^^^ BitVec.ofInt 64 _).toNat:Int)=IntKind.i64.wrap ((BitVec.ofInt 64 _ ^^^ BitVec.ofInt 64 _).toNat:Int)
  rw[BitVec.xor_comm]
 ·have h0:(M:Int) % 2=0:=by omega
  rw[if_neg h1,h0];rw[show(-0:Int)=0 from rfl,← e2]
  show IntKind.i64.wrap ((BitVec.ofInt 64 _ ^^^ BitVec.ofInt 64 0).toNat:Int)=_
  have hz:BitVec.ofInt 64 0=0#64:=rfl
  have h2:(BitVec.ofInt 64 (((M / 2:Nat)):Int)).toNat=M / 2:=by
   rw[BitVec.ofInt_natCast,BitVec.toNat_ofNat];exact Nat.mod_eq_of_lt (by omega)
  rw[hz,BitVec.xor_zero,h2,IntKind.wrap_i64]
  omega
theorem Rd.u_rg {r:Rd} (hb:B8 r.b):P64 r.u.1:=by
 obtain⟨b,e⟩:=r
 by_cases he:e=0
 ·subst he
  cases hn:num b with
  | none=>rw[Rd.u_no hn];show P64 0;unfold P64;omega
  | some p =>
   obtain⟨n,s⟩:=p;rw[Rd.u_ok hn];exact⟨(qq8 hb hn).1,(qq8 hb hn).2.1⟩
 ·rw[Rd.u_e he];show P64 0;unfold P64;omega
theorem RdX.b8 {w:World} {g bb:Nat} {r:Rd} (h:RdX w g bb r):B8 r.b:=let ⟨A,c,h⟩:=h;h.b8
theorem Int_any (h:RdX w g bb r) (hbb:bb < w.heap.size):Calls Tryz.prog 126 #[pq g 0] w (RdP w g bb (iv r.i.1) r.i.2):=by
 have cU:=qr6 h hbb;have hrg:=Rd.u_rg h.b8;have HI:Hid (r.i=(unzz r.u.1,r.u.2)):=lh rfl
 obtain⟨u,hu⟩:∃ u,u=r.u:=⟨_,rfl⟩
 rw[← hu] at cU hrg HI;obtain⟨m,r2⟩:=u;dsimp only at cU hrg HI;have HX:=lh (unzz_xor hrg);have ha:bits .and .u64 m 1=m % 2:=Lib.u64_and1 m hrg.1 hrg.2;have hm2:IntKind.i64.wrap (m / 2)=m / 2:=IntWalk.i64_in _ (by unfold P64 at hrg;omega);have hm3:IntKind.i64.wrap (m % 2)=m % 2:=IntWalk.i64_in _ (by omega);obtain⟨h0,h1⟩:=hrg;clear h hu
 go_enter Tryz.func126,Tryz.ntmps126
 go_wp2_with fail
 refine cU.mono ?_;rintro e w2 ⟨rfl,hx,hk⟩;have HR:=lh (And.intro hx hk);clear cU hx hk
 go_wp2_with fail
 go_ret;rw[HI.o];dsimp only;rw[← HX.o];exact⟨rfl,HR.o.1,HR.o.2⟩
end
end
section
open Go.RowKit
attribute [local go_sem] Oper.semAt_some
theorem qm0 (args:Array Value) (w:World):(callFunc 176 args).run Tryz.prog w=.ok (.enter 176 args) w:=by go_simp
section
variable {w:World} {g bb a p q c:Nat} {A:Option Addr} {b:List Int} {n most:Int}
theorem Count1_big (ha:Bk w a 3 #[iv most]) (hq:Bk w q 22 #[uv n]) (h0:0≤most) (h1:most≤4294967296) (hn:most < n):Calls Tryz.prog 176 #[pq a 0,pq q 0,pq p 0] w fun e w1=>e=.returned (iv 8)∧bw w w1:=by
 have a0:cl w a 0 (iv most):=ha.cell 0;have q0:cl w q 0 (uv n):=hq.cell 0;have hw:IntKind.u64.wrap most=most:=by rw[IntKind.wrap_u64];omega
 clear ha hq
 go_enter Tryz.func176,Tryz.ntmps176
 go_wp2_with fail
 go_ret;exact⟨rfl,Below.refl _ _⟩
theorem Count1_bad (h:RdR w g bb ⟨b,0⟩ A c) (ha:Bk w a 3 #[iv most]) (hq:Bk w q 22 #[uv n]) (hp:Bk w p 79 #[pq g 0]) (h0:0≤most) (h1:most≤4294967296) (hn:n≤most) (hl:(b.length:Int) < n):Calls Tryz.prog 176 #[pq a 0,pq q 0,pq p 0] w fun e w1=>e=.returned (iv 11)∧bw w w1:=by
 have a0:cl w a 0 (iv most):=ha.cell 0;have q0:cl w q 0 (uv n):=hq.cell 0;have p0:cl w p 0 (pq g 0):=hp.cell 0;have r0:cl w g 0 (.slice A b.length c):=h.bk.cell 0;have hw:IntKind.u64.wrap most=most:=by rw[IntKind.wrap_u64];omega
 have hw2:IntKind.u64.wrap (b.length:Int)=(b.length:Int):=by rw[IntKind.wrap_u64];omega
 have d2:decide (n > (b.length:Int))=true:=decide_eq_true (by omega);have HB:Hid (∀ k,bw w (w.drewN k)):=lh fun k=>qf5 (Below.refl _ _) k;clear ha hq hp h
 go_enter Tryz.func176,Tryz.ntmps176
 go_upto_region 3 with fail
 go_quiet (fail)
 go_wp2_with fail
 go_ret;exact⟨rfl,HB.o _⟩
theorem Count1_ok (h:RdR w g bb ⟨b,0⟩ A c) (ha:Bk w a 3 #[iv most]) (hq:Bk w q 22 #[uv n]) (hp:Bk w p 79 #[pq g 0]) (h0:0≤most) (h1:most≤4294967296) (hn:n≤most) (hl:n≤(b.length:Int)):Calls Tryz.prog 176 #[pq a 0,pq q 0,pq p 0] w fun e w1=>e=.returned (iv 0)∧RdX w1 g bb ⟨b,0⟩∧bw w w1:=by
 have a0:cl w a 0 (iv most):=ha.cell 0;have q0:cl w q 0 (uv n):=hq.cell 0;have p0:cl w p 0 (pq g 0):=hp.cell 0;have r0:cl w g 0 (.slice A b.length c):=h.bk.cell 0;have hw:IntKind.u64.wrap most=most:=by rw[IntKind.wrap_u64];omega
 have hcm:=h.cm;have hcp:=h.cap;dsimp only at hcp;have hw2:IntKind.u64.wrap (b.length:Int)=(b.length:Int):=by rw[IntKind.wrap_u64];omega
 have d2:decide (n > (b.length:Int))=false:=decide_eq_false (by omega)
 have HB:Hid (∀ k,RdX (w.drewN k) g bb ⟨b,0⟩∧bw w (w.drewN k)):=lh fun k=>⟨⟨A,c,h.below (qf5 (Below.refl _ _) k)⟩,qf5 (Below.refl _ _) k⟩
 clear ha hq hp h
 go_enter Tryz.func176,Tryz.ntmps176
 go_upto_region 3 with fail
 go_quiet (fail)
 go_wp2_with fail
 go_ret;exact⟨rfl,HB.o _⟩
end
section
variable {w:World} {g bb:Nat} {r:Rd} {most:Int}
theorem qm2 (h:RdX w g bb r) (hbb:bb < w.heap.size) (h0:0≤most) (h1:most≤4294967296):Calls Tryz.prog 159 #[pq g 0,iv most] w (RdP w g bb (iv (r.count most).1) (r.count most).2):=by
 obtain⟨w2,hw2⟩:∃ w2,w2=(w.alloc (.cells #[pq g 0] 79)).alloc (.cells #[iv most] 3):=⟨_,rfl⟩
 have hb2:bw w w2:=by rw[hw2];exact((Below.refl _ _).alloc (Nat.le_refl _) _).alloc (by simp) _
 have hsz:w2.heap.size=w.heap.size+2:=by rw[hw2];simp
 have hp:Bk w2 w.heap.size 79 #[pq g 0]:=by rw[hw2];exact Bk.alloc (Bk.new _ _ _) _
 have ha:Bk w2 (w.heap.size+1) 3 #[iv most]:=by rw[hw2];exact Bk.here _ _ _ (by simp)
 have cU:=qr6 (h.below hb2) (by omega);have hrg:=Rd.u_rg h.b8;have HCT:Hid (r.count most=if r.u.2.e≠0 then (0,r.u.2) else if most < 0 ∨ most < r.u.1 then (0,Rd.bad 8) else if (r.u.2.b.length:Int) < r.u.1 then (0,Rd.bad 11) else r.u):=lh rfl
 have HG:Hid (w.heap.size≠g∧w.heap.size+1≠g):=lh (by
  obtain⟨A,c,h⟩:=h;have:=h.bk.lt
  omega)
 obtain⟨u,hu⟩:∃ u,u=r.u:=⟨_,rfl⟩
 rw[← hu] at cU hrg HCT;obtain⟨n,⟨b,e⟩⟩:=u;dsimp only at cU hrg HCT;have p0:cl w2 w.heap.size 0 (pq g 0):=hp.cell 0;have HP:=lh (And.intro hp ha);have HB2:=lh (And.intro hb2 hsz);have HRG:=lh hrg;clear h hu hp ha hb2 hsz hrg
 go_enter Tryz.func159,Tryz.ntmps159
 go_upto_region 1 with fail
 rw[← hw2];clear hw2
 go_wp2_with fail
 refine cU.mono ?_;rintro e' w3 ⟨rfl,hx,hk⟩
 obtain⟨w4,hw4⟩:∃ w4,w4=w3.alloc (.cells #[uv n] 22):=⟨_,rfl⟩
 obtain⟨q,hq⟩:∃ q,q=w3.heap.size:=⟨_,rfl⟩
 have hb4:bw w3 w4:=by rw[hw4];exact(Below.refl _ _).alloc (Nat.le_refl _) _
 have hqk:Bk w4 q 22 #[uv n]:=by rw[hw4,hq];exact Bk.new _ _ _
 have hp3:=HP.o.1.kp hk HG.o.1;have ha3:=HP.o.2.kp hk HG.o.2;have hp4:=hp3.below hb4 hp3.lt;have ha4:=ha3.below hb4 ha3.lt;have HX4:=hx.below hb4;have HK4:Hid (Kp (fun k=>k=g) w w4):=lh ((Kp.of_below HB2.o.1).trans (hk.trans (Kp.of_below (S:=fun k=>k=g) hb4) fun _ _ h=>h) fun _ _ h=>h);clear cU hx hk p0 hp3 ha3 hb4
 go_upto_region 2 with fail
 rw[← hw4,← hq];have p4:cl w4 w.heap.size 0 (pq g 0):=hp4.cell 0;have q4:cl w4 q 0 (uv n):=hqk.cell 0;have HQ4:=lh hqk;clear hw4 hq;obtain⟨A,c,h4⟩:=HX4;have H4:=lh h4
 by_cases he:e=0
 ·subst he
  by_cases hm:most < n
  ·have cT:=qp1 (fid:=176) (caps:=#[.pointer (some ⟨w.heap.size+1,0,none⟩),pq q 0,pq w.heap.size 0]) qm0 h4 (by decide) (Count1_big ha4 hqk h0 h1 hm);rw[if_neg (by simp),if_pos (.inr hm)] at HCT;clear h4 hp4 ha4 hqk hm q4
   go_wp2_with fail
   refine cT.mono ?_;rintro e w5 ⟨rfl,hx,hk⟩;have HX:=lh (And.intro hx (HK4.o.trans hk fun _ _ h=>h));clear cT hx hk
   go_wp2_with fail
   go_ret;rw[HCT.o];exact⟨rfl,HX.o.1,HX.o.2⟩
  ·by_cases hl:(b.length:Int) < n
   ·have cT:=qp1 (fid:=176) (caps:=#[.pointer (some ⟨w.heap.size+1,0,none⟩),pq q 0,pq w.heap.size 0]) qm0 h4 (by decide) (Count1_bad h4 ha4 hqk hp4 h0 h1 (by omega) hl);rw[if_neg (by simp),if_neg (by omega),if_pos hl] at HCT;clear h4 hp4 ha4 hqk hm q4 hl
    go_wp2_with fail
    refine cT.mono ?_;rintro e w5 ⟨rfl,hx,hk⟩;have HX:=lh (And.intro hx (HK4.o.trans hk fun _ _ h=>h));clear cT hx hk
    go_wp2_with fail
    go_ret;rw[HCT.o];exact⟨rfl,HX.o.1,HX.o.2⟩
   ·have cT:=try_ok (fid:=176) (caps:=#[.pointer (some ⟨w.heap.size+1,0,none⟩),pq q 0,pq w.heap.size 0]) qm0 h4 (Count1_ok h4 ha4 hqk hp4 h0 h1 (by omega) (by omega));rw[if_neg (by simp),if_neg (by omega),if_neg hl] at HCT;have hwn:IntKind.i64.wrap n=n:=IntWalk.i64_in _ (by have:=HRG.o;unfold P64 at this;omega);clear h4 hp4 ha4 hqk hm q4 hl
    go_wp2_with fail
    refine cT.mono ?_;rintro e w5 ⟨rfl,hx,hb⟩;have HX:=lh (And.intro hx (HK4.o.trans (Kp.of_below (S:=fun k=>k=g) hb) fun _ _ h=>h));have q5:cl w5 q 0 (uv n):=(HQ4.o.below hb HQ4.o.lt).cell 0;clear cT hx hb
    go_wp2_with fail
    go_ret;rw[HCT.o];exact⟨rfl,HX.o.1,HX.o.2⟩
 ·have cT:=try_no h4 he (.func (.func 176) #[] #[.pointer (some ⟨w.heap.size+1,0,none⟩),pq q 0,pq w.heap.size 0]);rw[if_pos he] at HCT;clear h4 hp4 ha4 hqk q4 he
  go_wp2_with fail
  refine cT.mono ?_;rintro e' w5 ⟨rfl,rfl⟩;clear cT
  go_wp2_with fail
  go_ret;rw[HCT.o];exact⟨rfl,⟨A,c,H4.o⟩,HK4.o⟩
end
end
section
open Go.RowKit
section
variable {P:Program} {W w w1:World} {vs:Nat→Value}
def Ent.of (T:Value→World→Prop) (hT:∀ v w w',T v w→bw w w'→T v w') (ob:Value→Option Nat:=fun _=>none):Ent W:=⟨[],fun _ v w=>T v w,ob,fun _ v w w' h _ hb=>hT v w w' h hb,fun _ _ _ _ _ h=>h⟩
def Ent.ex (T:Value→Prop):Ent W:=⟨[],fun _ v _=>T v,fun _=>none,fun _ _ _ _ h _ _=>h,fun _ _ _ _ _ h=>h⟩
def Ent.val (x:Value):Ent W:=Ent.ex fun v=>v=x
def Ent.blk (t:TypeId) (cs:Array Value):Ent W:=Ent.of (fun v w=>∃ g,v=pq g 0∧Bk w g t cs) (fun v w w' ⟨g,e,h⟩ hb=>⟨g,e,h.below hb h.lt⟩) blkOf
def EL (l:List (Ent W)) (i:Nat):Ent W:=l.getD i (Ent.val undef)
/-- what the operation leaves -/
def qf6 (E:Ent W) (vs:Nat→Value) (w:World) (v:Value) (w':World):Prop:=E.R vs v w'∧bw w w'∧∀ k,E.ob v=some k→w.heap.size≤k∧k < w'.heap.size
theorem qb5 {X x:Value} (h:x=X):Made P (qf6 (Ent.val (W:=W) X) vs w) (.ok (.value x) w):=⟨h,Below.refl _ _,(fun k hk=>nomatch hk)⟩
theorem adds_quiet {f:FuncId} {args:Array Value} {X:Value} (h:Calls P f args w fun e w'=>e=.returned X∧∃ n,w'=w.drewN n):Made P (qf6 (Ent.val (W:=W) X) vs w) (.ok (.enter f args) w) :=
 h.mono fun e w' ⟨he,n,hw⟩=>⟨_,he,rfl,by subst hw;exact qf5 (Below.refl _ _) n,(fun k hk=>nomatch hk)⟩
theorem qc3 {f:FuncId} {args:Array Value} {X:Value} (h:Calls P f args w fun e w'=>e=.returned X∧bw w w'):Made P (qf6 (Ent.val (W:=W) X) vs w) (.ok (.enter f args) w) :=
 h.mono fun e w' ⟨he,hb⟩=>⟨_,he,rfl,hb,(fun k hk=>nomatch hk)⟩
theorem qv5 {f:FuncId} {args:Array Value} {T:Value→World→Prop} {hT:∀ v w w',T v w→bw w w'→T v w'} {ob:Value→Option Nat} {Q:Ending→World→Prop} (h:Calls P f args w Q) (hQ:∀ e w',Q e w'→∃ v,e=.returned v∧T v w'∧bw w w'∧∀ k,ob v=some k→w.heap.size≤k∧k < w'.heap.size):Made P (qf6 (Ent.of (W:=W) T hT ob) vs w) (.ok (.enter f args) w) :=
 h.mono fun e w' hq=>let ⟨v,he,h1,h2,h3⟩:=hQ e w' hq;⟨v,he,h1,h2,h3⟩
/-- .. without guarded operations -/
theorem qi5 {id:Nat} {a0:Act} {W:World} {l:List Oper} {Q:Exit→Act→World→Prop} (n:Nat) (ds:Nat→List Nat) (E:Nat→Ent W) (hm:P.follows .mixedOrders=true) (hBB:sepG true l.toArray l.length n ds (fun _=>[])=true) (hb:sepB l.toArray l.length n ds (fun _=>[])=true)
  (hdl:(List.range n).all (fun i=>(E i).dl.all ((ds i).contains ·))=true)
  (hN:(List.range n).all (fun i=>match qb9 l.toArray i with | some d=>decide (d < a0.tmps.size) | none=>true)=true)
  (hstep:∀ i,i < n→∀ o,l[i]?=some o→∀ vs w,bw W w→(∀ j∈ds i,(E j).R vs (vs j) w)→Made P (qf6 (E i) vs w) ((execOp (frm l.toArray a0 vs (ds i)).eval o).run P w))
  (hend:∀ vs w,bw W w→(∀ i,i < n→(E i).R vs (vs i) w∧∀ k,(E i).ob (vs i)=some k→W.heap.size≤k∧k < w.heap.size)→(∀ i,i < n→∀ i',i' < n→i≠i'→∀ k,(E i).ob (vs i)=some k→(E i').ob (vs i')≠some k)→wpList P l.toArray Q (l.drop n) (frm l.toArray a0 vs (List.range n)) w) :
  (Code.region id l.toArray true).wp P Q a0 W :=
 qm8 n ds E hm hBB (fun i hi o ho g b hgb=>by rw[sepB_bare hb i hi o (by simpa using ho)] at hgb;cases hgb) hdl hN hstep hend
end
end
section
open Go.RowKit
def pureOp:Op→Bool
 | .move _=>true
 | .assign _=>true
 | .extract _ _=>true
 | _=>false
structure SepF (ops:Array Oper) (n:Nat) (fl:Nat→Bool):Prop where
 pure:∀ i,i < n→fl i=true→∀ o,ops[i]?=some o→pureOp o.op=true∧o.guard=none
 bare:∀ k,n≤k→∀ o,ops[k]?=some o→o.guard=none
 topnd:∀ k,n≤k→∀ o,ops[k]?=some o→∀ t,.tmp t∈o.op.operands→∀ j,j < n→fl j=true→qb9 ops j=some t→qf0 ops k j=true
 tdst:∀ k,n≤k→∀ d,qb9 ops k=some d→∀ j,j < n→qb9 ops j≠some d∧(fl j=true→∀ o,ops[j]?=some o→.tmp d ∉ o.op.operands)
def sepF (ops:Array Oper) (n:Nat) (fl:Nat→Bool):Bool :=
 (List.range n).all (fun i=>!fl i || ((ops[i]?).map fun o=>pureOp o.op && o.guard.isNone).getD true) &&
 (List.range ops.size).all (fun k=>decide (k < n) || ((ops[k]?).map fun o=>o.guard.isNone && (List.range n).all fun j =>
  (!fl j || o.op.operands.all fun x=>match x with | .tmp t=>qb9 ops j != some t || qf0 ops k j | _=>true) &&
  (match o.dst with
   | some d=>qb9 ops j != some d && (!fl j || ((ops[j]?).map fun oj=>oj.op.operands.all fun x=>match x with | .tmp t=>t != d | _=>true).getD true)
   | none=>true)).getD true)
theorem SepF.of {ops:Array Oper} {n:Nat} {fl:Nat→Bool} (h:sepF ops n fl=true):SepF ops n fl:=by
 unfold sepF at h;simp only[Bool.and_eq_true,List.all_eq_true,List.mem_range,Bool.or_eq_true,decide_eq_true_eq] at h;obtain⟨h1,h2⟩:=h
 have key:∀ k,n≤k→∀ o,ops[k]?=some o→(o.guard.isNone=true∧∀ j,j < n→((!fl j)=true ∨ (o.op.operands.all fun x=>match x with | .tmp t=>qb9 ops j != some t || qf0 ops k j | _=>true)=true)∧(match o.dst with
   | some d=>qb9 ops j != some d && (!fl j || ((ops[j]?).map fun oj=>oj.op.operands.all fun x=>match x with | .tmp t=>t != d | _=>true).getD true)
   | none=>true)=true):=fun k hk o ho=>by
  have hlt:k < ops.size:=(Array.getElem?_eq_some_iff.1 ho).1;rcases h2 k hlt with h | h
  ·omega
  ·rw[ho] at h;simp only[Option.map_some,Option.getD_some,Bool.and_eq_true,List.all_eq_true,List.mem_range,Bool.or_eq_true] at h;exact⟨h.1,fun j hj=>h.2 j hj⟩
 refine⟨fun i hi hf o ho=>?_,fun k hk o ho=>?_,fun k hk o ho t ht j hj hf hd=>?_,fun k hk d hd j hj=>?_⟩
 ·rcases h1 i hi with h | h
  ·rw[hf] at h;cases h
  ·rw[ho] at h;simp only[Option.map_some,Option.getD_some,Bool.and_eq_true] at h;exact⟨h.1,by simpa using h.2⟩
 ·simpa using (key k hk o ho).1
 ·rcases ((key k hk o ho).2 j hj).1 with h | h
  ·rw[hf] at h;cases h
  ·have:=(Array.all_eq_true_iff_forall_mem.1 h) _ ht
   simpa [hd] using this
 ·obtain⟨o,ho⟩:∃ o,ops[k]?=some o:=by
   unfold qb9 at hd
   cases h:ops[k]? with
   | none=>rw[h] at hd;cases hd
   | some o=>exact⟨o,rfl⟩
  have h3:=((key k hk o ho).2 j hj).2;have hod:o.dst=some d:=by unfold qb9 at hd;rw[ho] at hd;exact hd
  rw[hod] at h3;simp only[Bool.and_eq_true,bne_iff_ne,ne_eq,Bool.or_eq_true] at h3;refine⟨h3.1,fun hf oj hoj hm=>?_⟩;rcases h3.2 with h4 | h4
  ·rw[hf] at h4;cases h4
  ·rw[hoj] at h4;simp only[Option.map_some,Option.getD_some] at h4;have:=(Array.all_eq_true_iff_forall_mem.1 h4) _ hm
   simp at this
section
variable {P:Program} {ops:Array Oper} {N n:Nat} {ds eats:Nat→List Nat} {fl:Nat→Bool} {W:World} {B:Nat} {ini:Nat→Option Nat} {a0:Act} {Q:Exit→Act→World→Prop} {ob:Nat→Value→Option Nat} {R:Nat→(Nat→Value)→Value→World→Prop}
/-- the tail has begun: the frame as it is (a), and as it would be if no operation had come late (b) -/
structure TInv (P:Program) (ops:Array Oper) (N n m:Nat) (fl:Nat→Bool) (vs:Nat→Value) (L:Array Bool) (a b:Act):Prop where
 lsize:L.size=N
 lo:∀ j,j < n→L.getD j false=false→fl j=true
 tl:∀ j,n≤j→j < m→L.getD j false=true
 th:∀ j,m≤j→j < N→L.getD j true=false
 defers:a.defers=b.defers
 size:a.tmps.size=b.tmps.size
 same:∀ d,(∀ j,j < n→L.getD j false=false→qb9 ops j≠some d)→a.tmps[d]?=b.tmps[d]?
 ahead:∀ j,j < n→L.getD j false=false→∀ d,qb9 ops j=some d→d < b.tmps.size→b.tmps[d]?=some (vs j)
 run:∀ j,j < n→L.getD j false=false→∀ o,ops[j]?=some o→∀ w,(execOp b.eval o).run P w=.ok (.value (vs j)) w
theorem qm4 {a:Act} {d e:Nat} {v:Value}:(a.put (some d) v).tmps[e]?=if e=d then (if d < a.tmps.size then some v else none) else a.tmps[e]?:=by
 simp only[Act.put]
 by_cases h:e=d
 ·subst h;rw[if_pos rfl]
  by_cases hl:e < a.tmps.size
  ·rw[if_pos hl,Array.getElem?_setIfInBounds_self_of_lt hl]
  ·rw[if_neg hl,Array.getElem?_eq_none (by simpa using hl)]
 ·rw[if_neg h,Array.getElem?_setIfInBounds_ne (Ne.symm h)]
theorem put_size {a:Act} {d:Option Tmp} {v:Value}:(a.put d v).tmps.size=a.tmps.size:=by cases d <;> simp[Act.put]
theorem put_defers {a:Act} {d:Option Tmp} {v:Value}:(a.put d v).defers=a.defers:=by cases d <;> rfl
/-- one that comes up: the count goes down -/
theorem count_step {L:Array Bool} {i f:Nat} (hL:L.size=N) (hr:i∈Region.ready .any ops L) (hf:((List.range N).filter fun i=>!L.getD i true).length=f+1):((List.range N).filter fun j=>!(L.setIfInBounds i true).getD j true).length=f:=by
 have hlt:=qi8 hr;have hun:=(mem_ready.1 hr).1
 have h1:((List.range N).filter fun j=>!(L.setIfInBounds i true).getD j true)=((List.range N).filter fun j=>!L.getD j true).filter (· != i):=by
  rw[List.filter_filter];refine List.filter_congr fun j hj=>?_
  by_cases h:i=j
  ·subst h;rw[qf1 hlt]
   simp
  ·rw[getD_set_ne true h]
   simp[Ne.symm h]
 rw[h1];have hnd:((List.range N).filter fun j=>!L.getD j true).Nodup:=List.nodup_range.filter _;have hmem:i∈(List.range N).filter fun j=>!L.getD j true:=List.mem_filter.2 ⟨List.mem_range.2 (by rw[hL] at hlt;exact hlt),by rw[hun];rfl⟩;rw[← List.Nodup.erase_eq_filter hnd,List.length_erase_of_mem hmem,hf]
 rfl
/-- .. with guarded operations whose guards hold -/
theorem ql5 {id:Nat} {a0:Act} {W:World} {l:List Oper} {Q:Exit→Act→World→Prop} (n:Nat) (ds:Nat→List Nat) (E:Nat→Ent W) (hm:P.follows .mixedOrders=true) (hBB:sepG true l.toArray l.length n ds (fun _=>[])=true)
  (hdl:(List.range n).all (fun i=>(E i).dl.all ((ds i).contains ·))=true)
  (hN:(List.range n).all (fun i=>match qb9 l.toArray i with | some d=>decide (d < a0.tmps.size) | none=>true)=true)
  (hgd:∀ i,i < n→∀ o,l[i]?=some o→∀ g b,o.guard=some (g,b)→∀ vs v w,(E g).R vs v w→v=.bool b)
  (hstep:∀ i,i < n→∀ o,l[i]?=some o→∀ vs w,bw W w→(∀ j∈ds i,(E j).R vs (vs j) w)→Made P (qf6 (E i) vs w) ((execOp (frm l.toArray a0 vs (ds i)).eval o).run P w))
  (hend:∀ vs w,bw W w→(∀ i,i < n→(E i).R vs (vs i) w∧∀ k,(E i).ob (vs i)=some k→W.heap.size≤k∧k < w.heap.size)→(∀ i,i < n→∀ i',i' < n→i≠i'→∀ k,(E i).ob (vs i)=some k→(E i').ob (vs i')≠some k)→wpList P l.toArray Q (l.drop n) (frm l.toArray a0 vs (List.range n)) w) :
  (Code.region id l.toArray true).wp P Q a0 W :=
 qm8 n ds E hm hBB hgd hdl hN hstep hend
end
end
section
open Go.RowKit
section
variable {P:Program} {ops:Array Oper} {N n:Nat} {ds eats:Nat→List Nat} {fl:Nat→Bool} {md:Nat} {W:World} {B:Nat} {ini:Nat→Option Nat} {a0:Act} {Q:Exit→Act→World→Prop} {ob:Nat→Value→Option Nat} {R:Nat→(Nat→Value)→Value→World→Prop}
end
end
section
open Go.RowKit
/-- what can be read off the region's text -/
def sepI (ops:Array Oper) (N:Nat) (ds:Nat→List Nat):Bool :=
 decide (ops.size=N) && Region.noSelect ops &&
 (List.range N).all (fun i=>((ops[i]?).map (fun o=>o.guard.isNone)).getD true && (ds i).all (qf0 ops i) &&
  (List.range N).all (fun j=>((qb9 ops i).isNone || qb9 ops i != qb9 ops j || i == j) &&
   ((ops[i]?).map fun o=>o.op.operands.all fun x=>match x with | .tmp t=>qb9 ops j != some t || (ds i).contains j | _=>true).getD true) &&
  ((ops[i]?).map fun o=>o.after.all fun e=>!Region.binds .any e || decide (e.on < i)).getD true)
structure SepI (ops:Array Oper) (N:Nat) (ds:Nat→List Nat):Prop where
 size:ops.size=N
 sel:Region.noSelect ops=true
 bare:∀ i,i < N→∀ o,ops[i]?=some o→o.guard=none
 back:∀ i,i < N→∀ o,ops[i]?=some o→∀ e∈o.after,Region.binds .any e=true→e.on < i
 dep:∀ i,i < N→∀ j∈ds i,qf0 ops i j=true
 opnd:∀ i,i < N→∀ o,ops[i]?=some o→∀ t,.tmp t∈o.op.operands→∀ j,j < N→qb9 ops j=some t→j∈ds i
 dist:∀ i,i < N→∀ j,j < N→∀ d,qb9 ops i=some d→qb9 ops j=some d→i=j
theorem SepI.of {ops:Array Oper} {N:Nat} {ds:Nat→List Nat} (h:sepI ops N ds=true):SepI ops N ds:=by
 unfold sepI at h;rw[Bool.and_eq_true,Bool.and_eq_true] at h;obtain⟨⟨h1,h2⟩,h3⟩:=h;have h1:=of_decide_eq_true h1
 have key:∀ i,i < N→((((ops[i]?).map (fun o=>o.guard.isNone)).getD true=true∧(ds i).all (qf0 ops i)=true)∧(List.range N).all (fun j=>((qb9 ops i).isNone || qb9 ops i != qb9 ops j || i == j) && ((ops[i]?).map fun o=>o.op.operands.all fun x=>match x with | .tmp t=>qb9 ops j != some t || (ds i).contains j | _=>true).getD true)=true)∧((ops[i]?).map fun o=>o.after.all fun e=>!Region.binds .any e || decide (e.on < i)).getD true=true:=fun i hi=>by
  have:=List.all_eq_true.1 h3 i (List.mem_range.2 hi);rw[Bool.and_eq_true,Bool.and_eq_true,Bool.and_eq_true] at this;exact this
 refine⟨h1,h2,fun i hi o ho=>?_,fun i hi o ho e he hb=>?_,fun i hi j hj=>?_,fun i hi o ho t ht j hj hd=>?_,fun i hi j hj d hdi hdj=>?_⟩
 ·have:=(key i hi).1.1.1;rw[ho] at this
  simpa using this
 ·have:=(key i hi).2;rw[ho] at this;simp only[Option.map_some,Option.getD_some] at this;have h5:=Array.all_eq_true'.1 this e he;rw[hb] at h5
  simpa using h5
 ·exact List.all_eq_true.1 (key i hi).1.1.2 j hj
 ·have h4:=List.all_eq_true.1 (key i hi).1.2 j (List.mem_range.2 hj);rw[Bool.and_eq_true] at h4;have h5:=h4.2;rw[ho] at h5;simp only[Option.map_some,Option.getD_some] at h5;have h6:=Array.all_eq_true'.1 h5 _ ht;simp only[hd] at h6
  simpa using h6
 ·have h4:=List.all_eq_true.1 (key i hi).1.2 j (List.mem_range.2 hj);rw[Bool.and_eq_true] at h4;have h5:=h4.1;rw[hdi,hdj] at h5
  simpa using h5
structure FInv (ops:Array Oper) (N:Nat) (I:Array Bool→(Nat→Value)→World→Prop) (a0:Act) (vs:Nat→Value) (L:Array Bool) (a:Act) (w:World):Prop where
 defers:a.defers=a0.defers
 size:a.tmps.size=a0.tmps.size
 slot:∀ i,i < N→L.getD i false=true→∀ d,qb9 ops i=some d→d < a0.tmps.size→a.tmps[d]?=some (vs i)
 rest:∀ d,(∀ i,i < N→L.getD i false=true→qb9 ops i≠some d)→a.tmps[d]?=a0.tmps[d]?
 lsize:L.size=N
 inv:I L vs w
section
variable {P:Program} {ops:Array Oper} {N:Nat} {ds:Nat→List Nat} {a0:Act}
theorem qt4 (vs:Nat→Value):∀ l,(frm ops a0 vs l).defers=a0.defers
 | []=>rfl
 | i::l=>by unfold frm;rw[put_defers,qt4 vs l]
theorem frmI_size (vs:Nat→Value):∀ l,(frm ops a0 vs l).tmps.size=a0.tmps.size
 | []=>rfl
 | i::l=>by unfold frm;rw[put_size,frmI_size vs l]
theorem qo1 (vs:Nat→Value):∀ l d,(∀ i∈l,qb9 ops i≠some d)→(frm ops a0 vs l).tmps[d]?=a0.tmps[d]?
 | [],_,_=>rfl
 | k::l,d,h=>by
  unfold frm;have ih:=qo1 vs l d fun i hi=>h i (List.mem_cons_of_mem _ hi)
  cases hkd:qb9 ops k with
  | none=>exact ih
  | some e =>
   rw[qm4,if_neg (fun h2=>h k (List.mem_cons_self ..) (by rw[hkd,h2]))];exact ih
end
end
section
open Go.RowKit
/-- the values of what is done, where they are known ahead -/
def Vals (VL:List (Option Value)) (L:Array Bool) (vs:Nat→Value):Prop:=∀ i v,VL[i]?=some (some v)→L.getD i false=true→vs i=v
theorem Vals.put {VL:List (Option Value)} {L:Array Bool} {vs:Nat→Value} {i:Nat} {v:Value} (h:Vals VL L vs) (hv:∀ x,VL[i]?=some (some x)→v=x):Vals VL (L.setIfInBounds i true) (fun j=>if j=i then v else vs j):=fun k x hk hl=>by
 by_cases hki:k=i
 ·subst hki
  show(if k=k then v else vs k)=x
  rw[if_pos rfl];exact hv x hk
 ·show(if k=i then v else vs k)=x
  rw[if_neg hki];rw[getD_set_ne false (fun e=>hki e.symm)] at hl;exact h k x hk hl
/-- one of two, by whether an operation is done -/
def stg {α:Type} (L:Array Bool) (i:Nat) (x y:α):α:=if L.getD i false=true then y else x
theorem qa3 {α:Type} {L:Array Bool} {i k:Nat} (x y:α) (h:i≠k):stg (L.setIfInBounds i true) k x y=stg L k x y:=by
 unfold stg;rw[getD_set_ne false h]
theorem qj5 {α:Type} {L:Array Bool} {i:Nat} (x y:α) (h:i < L.size):stg (L.setIfInBounds i true) i x y=y:=by
 unfold stg;rw[if_pos (by simp[h])]
theorem qh0 {α:Type} {L:Array Bool} {i:Nat} (x y:α) (h:L.getD i false=true):stg L i x y=y:=by unfold stg;rw[if_pos h]
theorem qa7 {P:Program} {T:Value→World→Prop} {w':World} (h:T undef w'):Made P T (.ok .skip w'):=h
theorem qg6 {P:Program} {T:Value→World→Prop} {f:FuncId} {args:Array Value} {w:World} (h:Calls P f args w fun e w'=>∃ v,e=.returned v∧T v w'):Made P T (.ok (.enter f args) w):=h
section
variable {L:Array Bool} {vs:Nat→Value} {w w':World} {i k nx j p:Nat} {v:Value} {T:Value→World→Prop}
/-- a fact of an operation's value, once it is done -/
def Fk (k:Nat) (T:Value→World→Prop) (L:Array Bool) (vs:Nat→Value) (w:World):Prop:=L.getD k false=true→T (vs k) w
theorem Fk.new (h:T v w'):Fk i T (L.setIfInBounds i true) (fun j=>if j=i then v else vs j) w':=fun _=>by
 show T (if i=i then v else vs i) w'
 rw[if_pos rfl];exact h
/-- a fact of an operation's value, until another one takes it over -/
def Rk (k nx:Nat) (T:Value→World→Prop) (L:Array Bool) (vs:Nat→Value) (w:World):Prop:=L.getD k false=true→L.getD nx true=false→T (vs k) w
theorem Rk.new (h:T v w'):Rk i nx T (L.setIfInBounds i true) (fun j=>if j=i then v else vs j) w':=fun _ _=>by
 show T (if i=i then v else vs i) w'
 rw[if_pos rfl];exact h
/-- the same value -/
def Sk (k j:Nat) (L:Array Bool) (vs:Nat→Value):Prop:=L.getD k false=true→vs k=vs j
theorem Sk.new (hk:j≠i) (h:v=vs j):Sk i j (L.setIfInBounds i true) (fun j=>if j=i then v else vs j):=fun _=>by
 show(if i=i then v else vs i)=(if j=i then v else vs j)
 rw[if_pos rfl,if_neg hk];exact h
/-- a part of a value -/
def Xk (k j p:Nat) (L:Array Bool) (vs:Nat→Value):Prop:=L.getD k false=true→∃ l:Array Value,vs j=.tuple l∧l[p]?=some (vs k)
theorem Xk.new {l:Array Value} (hk:j≠i) (h:vs j=.tuple l) (hp:l[p]?=some v):Xk i j p (L.setIfInBounds i true) (fun j=>if j=i then v else vs j):=fun _=>by
 show ∃ l:Array Value,(if j=i then v else vs j)=.tuple l∧l[p]?=some (if i=i then v else vs i)
 rw[if_pos rfl,if_neg hk];exact⟨l,h,hp⟩
end
end
section
open Go.RowKit
theorem done_set {L:Array Bool} {i j:Nat} (h:L.getD j false=true):(L.setIfInBounds i true).getD j false=true:=by
 by_cases hij:i=j
 ·subst hij
  have hlt:i < L.size:=Nat.lt_of_not_le fun hn=>by
   rw[Array.getD_eq_getD_getElem?,Array.getElem?_eq_none hn] at h;cases h
  simp[hlt]
 ·rw[getD_set_ne false hij];exact h
/-- what is done is closed under what an operation qf0 for -/
def Clo (ops:Array Oper) (L:Array Bool):Prop:=∀ k j,L.getD k false=true→qf0 ops k j=true→L.getD j false=true
theorem Clo.nd {ops:Array Oper} {L:Array Bool} (h:Clo ops L) {i k:Nat} (hi:L.getD i false=false) (hw:qf0 ops k i=true):L.getD k false=false:=by
 cases hk:L.getD k false with
 | false=>rfl
 | true=>rw[h k i hk hw] at hi;cases hi
/-- the facts of the operations' values; nx: the operation that takes a value over -/
structure RgI (W:World) (B N:Nat) (T:Nat→Value→World→Prop) (nx:Nat→Nat) (L:Array Bool) (vs:Nat→Value) (w:World):Prop where
 b:Below B W w
 f:∀ k,k < N→L.getD k false=true→(nx k≠k→L.getD (nx k) false=false)→T k (vs k) w
section
variable {W w w':World} {B N i:Nat} {T:Nat→Value→World→Prop} {nx:Nat→Nat} {L:Array Bool} {vs:Nat→Value} {v:Value}
end
end
end Go.Proofs.YtmbnlccafcfbeaaGreatDoor
