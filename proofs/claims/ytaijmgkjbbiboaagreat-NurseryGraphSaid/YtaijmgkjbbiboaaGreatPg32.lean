/- Parts of the proof: NurQ, RBldD, RNurB, Env10, Door10. -/
import Derived.BigQuiet
import Derived.Deep.QuietTactic
import Derived.HandedShaped
import Derived.JoinedOf
import Derived.OpenShut
import Derived.ProofKit
import Derived.SizedLaws
import Derived.Test.YtaijmgkjbbiboaaGreatPgA
import Derived.Test.YtaijmgkjbbiboaaGreatRows
import Derived.Test.YtaijmgkjbbiboaaGreatPg0
import Derived.Test.YtaijmgkjbbiboaaGreatPg17
import Derived.Test.YtaijmgkjbbiboaaGreatPg19
import Derived.Test.YtaijmgkjbbiboaaGreatPg21
import Derived.Test.YtaijmgkjbbiboaaGreatPg22
import Derived.Test.YtaijmgkjbbiboaaGreatPg23
import Derived.Test.YtaijmgkjbbiboaaGreatPg25
import Derived.Test.YtaijmgkjbbiboaaGreatPg26
import Derived.Test.YtaijmgkjbbiboaaGreatPg29
import Derived.Test.YtaijmgkjbbiboaaGreatPg31
set_option linter.unusedVariables false
set_option linter.unusedSimpArgs false
set_option linter.unusedSectionVars false
set_option maxRecDepth 100000
namespace Go.Proofs.YtaijmgkjbbiboaaGreat
section
theorem ygW_frW {a:Int} (h0:0≤a) (h1:a≤4294967295):ygW (frW a)=decide (16777216≤a):=by
 unfold ygW;rw[adr_frW h0 h1]
def Mm.emp (m:Mm):Mm:=⟨m.old,{ m.yng with ws:=[] }⟩
theorem Mm.emp_at {m:Mm} {a:Int} (h:m.old.has a=true):m.emp.at_ a=m.at_ a∧m.emp.hdr a=m.hdr a∧m.emp.sp a=m.old∧m.sp a=m.old:=by
 have h1:m.emp.sp a=m.old:=by
  unfold Mm.sp
  rw[if_pos (show m.emp.old.has a=true from h)]
  rfl
 have h2:m.sp a=m.old:=by
  unfold Mm.sp
  rw[if_pos h]
 unfold Mm.at_ Mm.hdr
 rw[h1,h2]
 exact⟨rfl,rfl,rfl,rfl⟩
theorem Mm.Ok.hdr_old {m:Mm} (h:m.Ok) {b:Int} (h0:(m.hdr b).1=0) (hb:b < 16777216):m.old.has b=true:=by
 have h1:=Mm.hdr_has h0
 unfold Mm.has Mm.sp at h1
 split at h1
 ·exact h1
 ·have:=h.yng_ge h1;omega
structure Fin10 (m:Mm) (cs roots L U Z:List Int):Prop where
 ok:m.Ok
 hl:m.OrdI L
 hL:L=(m.order cs roots).1
 cr:m.CrI L (m.crossing (cardIn cs))
 hf:m.old.top+m.need L≤m.old.limit
 hU:U=m.upd L (m.plc m.old.top L) (m.crossing (cardIn cs)) m.old.ws
 hZ:Z=L.flatMap (m.cpy L (m.plc m.old.top L))
 rt:∀ x∈roots,m.Met L x
 sl:∀ a∈L,∀ x∈m.slW a,m.Met L x
theorem collect_0 {m:Mm} (ok:m.Ok) {chk:Int} {cs roots:List Int} (h:(m.collect chk cs roots).e=0):∃ L U Z,Fin10 m cs roots L U Z∧(m.order cs roots).2=false∧chk=0∧m.collect chk cs roots=⟨0,(m.mid U Z).emp,[],roots.map (m.mvd L (m.plc m.old.top L)),L.length⟩:=by
 by_cases h1:(m.order cs roots).2=true ∨ chk≠0
 ·unfold Mm.collect at h
  rw[if_pos h1] at h
  cases h
 ·by_cases h2:m.old.top+m.need (m.order cs roots).1 > m.old.limit
  ·unfold Mm.collect at h
   rw[if_neg h1,if_pos h2] at h
   cases h
  ·have h3:(m.order cs roots).2=false:=by
    cases he:(m.order cs roots).2 with
    | false=>rfl
    | true=>exact absurd (.inl he) h1
   have h4:chk=0:=by
    by_cases he:chk=0
    ·exact he
    ·exact absurd (.inr he) h1
   have hmt:=Mm.order_met ok h3
   refine⟨_,_,_,⟨ok,m.order_I cs roots,rfl,ok.crI h3,by omega,rfl,rfl,hmt.1,hmt.2.2⟩,h3,h4,?_⟩
   unfold Mm.collect
   rw[if_neg h1,if_neg h2]
   rfl
section
variable {m:Mm} {cs roots L U Z:List Int}
theorem Fin10.upd (h:Fin10 m cs roots L U Z):UpdI m L (m.plc m.old.top L) U:=by
 rw[h.hU]
 exact(UpdI.upd h.ok (ts:=m.plc m.old.top L) _ rfl h.cr).1
theorem Mm.cpy_u {m:Mm} (ok:m.Ok) (l ts:List Int) (a:Int):∀ x∈m.cpy l ts a,U64 x:=by
 have h0:U64 0:=by constructor <;> omega
 have hg:∀ b,U64 ((m.at_ b).getD 0):=fun b=>by
  cases hb:m.at_ b with
  | none=>exact h0
  | some x =>
   unfold Mm.at_ Mm.sp at hb
   split at hb
   ·exact ok.o.at_u hb
   ·exact ok.y.at_u hb
 intro x hx
 unfold Mm.cpy at hx
 obtain⟨k,_,rfl⟩:=List.mem_map.1 hx
 split
 ·exact Mm.mvd_u _ _ _ (hg _)
 ·exact hg _
theorem Fin10.laid (h:Fin10 m cs roots L U Z):LaidZ m L Z:=by
 rw[h.hZ]
 refine Mm.laid_of h.hl (fun a _=>m.cpy_len _ _ a) (fun a _=>Mm.cpy_u h.ok _ _ a) fun a ha=>?_
 have h4:=wH_ge (Mm.hdr_valid (h.hl.ok a ha).1)
 have e0:=m.cpy_get L (m.plc m.old.top L) a (k:=0) (by omega)
 have e1:=m.cpy_get L (m.plc m.old.top L) a (k:=1) (by omega)
 rw[if_neg (by omega)] at e0 e1
 exact⟨by simpa using e0,by simpa using e1⟩
theorem Fin10.mid (h:Fin10 m cs roots L U Z):Mid m L (m.plc m.old.top L) (m.mid U Z):=Mid.of h.ok h.hl h.upd h.laid h.hf
theorem Fin10.mok (h:Fin10 m cs roots L U Z):(m.mid U Z).Ok:=h.mid.ok
theorem Fin10.newlt (h:Fin10 m cs roots L U Z) {r:Int} (h0:0≤r) (hr:Lst L r):0≤newAt L (m.plc m.old.top L) r∧newAt L (m.plc m.old.top L) r < 16777216:=by
 by_cases hm:r∈L
 ·exact(h.mid.nw r hm).2.2
 ·rw[newAt_no hm]
  refine⟨h0,?_⟩
  by_cases hg:16777216≤r
  ·exact absurd (hr hg) hm
  ·omega
theorem Mm.upd_get (m:Mm) (l ts:List Int):∀ (cr ws:List Int),cr.Nodup→(∀ b∈cr,m.old.base≤b)→∀ i:Nat,(m.upd l ts cr ws)[i]?=if (m.old.base+(i:Int))∈cr then (ws[i]?).map (m.mvd l ts) else ws[i]?
 | [],ws,_,_,i=>by rw[if_neg (by simp)];rfl
 | a::cr,ws,hn,hb,i=>by
  have hn1:=List.nodup_cons.1 hn
  have ha:=hb a (by simp)
  unfold Mm.upd
  rw[Mm.upd_get m l ts cr _ hn1.2 (fun b h=>hb b (by simp[h])) i,List.getElem?_set]
  by_cases hi:(a - m.old.base).toNat=i
  ·subst hi
   have e:m.old.base+(((a - m.old.base).toNat:Nat):Int)=a:=by omega
   rw[e,if_neg hn1.1,if_pos rfl]
   by_cases hl:(a - m.old.base).toNat < ws.length
   ·rw[if_pos hl,if_pos List.mem_cons_self,List.getElem?_eq_getElem hl]
    rfl
   ·rw[if_neg hl,if_pos List.mem_cons_self,List.getElem?_eq_none (by omega)]
    rfl
  ·rw[if_neg hi]
   have e:m.old.base+(i:Int)≠a:=by omega
   simp only[List.mem_cons,e,false_or]
theorem Fin10.get (h:Fin10 m cs roots L U Z) (i:Nat):U[i]?=if (i:Int)∈m.crossing (cardIn cs) then (m.old.ws[i]?).map (m.mvd L (m.plc m.old.top L)) else m.old.ws[i]?:=by
 have h1:=m.upd_get L (m.plc m.old.top L) (m.crossing (cardIn cs)) m.old.ws h.cr.nd (fun b hb=>(Spc.has_iff.1 (h.cr.ok b hb).1).1) i
 rw[h.ok.ob,Int.zero_add] at h1
 rw[h.hU]
 exact h1
/-- an old word behind a collection -/
theorem Fin10.keep (h:Fin10 m cs roots L U Z) {a:Nat} (ha:a < m.old.ws.length):∃ x,m.old.ws[a]?=some x∧(m.mid U Z).emp.at_ (a:Int)=some (if (a:Int)∈m.crossing (cardIn cs) then m.mvd L (m.plc m.old.top L) x else x)∧((a:Int)∈m.crossing (cardIn cs)→m.Met L x∧ygW x=true)∧(m.mid U Z).old.has (a:Int)=true:=by
 have hb:(m.mid U Z).old.base=0:=h.ok.ob
 have hx:m.old.ws[a]?=some m.old.ws[a]:=List.getElem?_eq_getElem ha
 have hl:=h.upd.len
 have e:(m.mid U Z).old.at_ (a:Int)=some (if (a:Int)∈m.crossing (cardIn cs) then m.mvd L (m.plc m.old.top L) m.old.ws[a] else m.old.ws[a]):=by
  refine Spc.at_of hb (by omega) ?_
  show(U++Z)[((a:Int)).toNat]?=_
  rw[Int.toNat_natCast,List.getElem?_append_left (by omega),h.get a,hx]
  split <;> rfl
 have hh:=Spc.at_has e
 have h2:=Mm.emp_at hh
 refine⟨_,hx,?_,fun hm=>?_,hh⟩
 ·rw[h2.1]
  unfold Mm.at_
  rw[h2.2.2.2]
  exact e
 ·obtain⟨_,x,_,h4,h5,h6⟩:=h.cr.ok _ hm
  have h7:=(Spc.at_zero h.ok.ob h4).2
  rw[Int.toNat_natCast,hx] at h7
  cases h7
  exact⟨h6,h5⟩
theorem Fin10.nhas (h:Fin10 m cs roots L U Z) {i:Nat} {a:Int} (ha:L[i]?=some a) {k:Int} (h0:0≤k) (hk:k < wH (m.hdr a).2):(m.mid U Z).old.has (m.old.top+m.need (L.take i)+k)=true:=by
 have h1:=mid_len (m0:=m) h.upd.len h.laid.len
 have h2:=m.need_le ha
 have h3:=m.need_nn (L.take i)
 refine Spc.has_iff.2 ⟨?_,?_⟩
 ·show m.old.base≤_
  unfold Spc.top
  omega
 ·show _ < m.old.base+_
  unfold Spc.top
  omega
theorem Fin10.copy (h:Fin10 m cs roots L U Z) {i:Nat} {a:Int} (ha:L[i]?=some a):(m.mid U Z).emp.hdr (m.old.top+m.need (L.take i))=(0,(m.hdr a).2)∧(m.mid U Z).emp.at_ (m.old.top+m.need (L.take i)+1)=m.at_ (a+1):=by
 have h1:=mid_nw h.ok h.hl h.upd h.laid h.hf ha
 have h4:=wH_ge (Mm.hdr_valid (h.hl.ok a (List.mem_of_getElem? ha)).1)
 have g0:=h.nhas ha (k:=0) (by omega) (by omega)
 have g1:=h.nhas ha (k:=1) (by omega) (by omega)
 rw[Int.add_zero] at g0
 rw[(Mm.emp_at g0).2.1,(Mm.emp_at g1).1]
 exact h1
/-- a word of a copy -/
theorem Fin10.word (h:Fin10 m cs roots L U Z) {i:Nat} {a:Int} (ha:L[i]?=some a) {k:Nat} (hk:(k:Int) < wH (m.hdr a).2):(m.mid U Z).emp.at_ (m.old.top+m.need (L.take i)+(k:Int))=some (if 2≤k∧(k:Int) < 2+slotN (m.hdr a).2 then m.mvd L (m.plc m.old.top L) ((m.at_ (a+(k:Int))).getD 0) else (m.at_ (a+(k:Int))).getD 0):=by
 have g0:=h.nhas ha (k:=k) (by omega) hk
 rw[(Mm.emp_at g0).1]
 unfold Mm.at_
 rw[(Mm.emp_at g0).2.2.2]
 have hz:Z[(m.need (L.take i)).toNat+k]?=(m.cpy L (m.plc m.old.top L) a)[k]?:=by
  have h3:=m.flat_len (f:=m.cpy L (m.plc m.old.top L)) (l:=L.take i) fun b hb=>m.cpy_len L (m.plc m.old.top L) b
  have e:(m.need (L.take i)).toNat=((L.take i).flatMap (m.cpy L (m.plc m.old.top L))).length:=by omega
  rw[h.hZ,e]
  exact flat_get ha (by rw[m.cpy_len];omega)
 rw[m.cpy_get L (m.plc m.old.top L) a hk] at hz
 have h5:=mid_new (U:=U) h.ok h.upd.len hz
 have h6:=m.need_nn (L.take i)
 rw[show m.old.top+m.need (L.take i)+(k:Int)=m.old.top+(((m.need (L.take i)).toNat+k:Nat):Int) by omega]
 exact h5
theorem covered_mem {m:Mm} {cs:List Int} (h:(m.crossing (cardIn cs)).length=(m.crossing fun _=>true).length):∀ b∈m.crossing fun _=>true,b∈m.crossing (cardIn cs):=by
 rw[crossing_filter m (cardIn cs)] at h ⊢
 have h1:=List.length_filter_eq_length_iff.1 h
 intro b hb
 exact List.mem_filter.2 ⟨hb,h1 b hb⟩
end
end
section
open Go.RowKit Go.Sort
attribute [local go_sem] Oper.semAt_some onlyN_normal
theorem i_word10:(Tryz.prog.info? 54).map (fun i=>(i.zero,i.size,i.bytes))=some (some (.int .u64 0),1,8):=by kernel_rfl
def Rts10P (w:World) (l:List Int) (e:Ending) (w':World):Prop:=∃ v,e=.returned v∧w'.ownsRow w.heap.size 54 1 v l.length (wds l)∧Below w.heap.size w w'
section
variable {w:World} {s:W10} {A1 A2 A Ax Ac:Option Addr} {c1 c2 c cx cc:Nat} {Vh:Value} {ch:List Int}
set_option maxHeartbeats 4000000 in
theorem Roots10_any (h:IS w s.xs Ax cx) (hl:s.xs.length≤1000000) (h2:IS w ch Ac cc) (hl2:ch.length≤1000000) (hr:∀ x∈ch,-9223372036854775808≤x∧x≤9223372036854775807):Calls Tryz.prog 13 #[.agg #[.int .i64 s.m.old.base,.int .i64 s.m.old.limit,.slice A1 s.m.old.ws.length c1,.int .i64 s.m.yng.base,.int .i64 s.m.yng.limit,.slice A2 s.m.yng.ws.length c2,.slice A s.cs.length c,.slice Ax s.xs.length cx,Vh],.slice Ac ch.length cc] w (Rts10P w (rts10 s.xs ch)):=by
 have H:=lh h
 have H2:=lh h2
 have HR:=lh hr
 have hcap2:=h2.cap
 obtain⟨i0,hi,hz0,hz1,hz2⟩:=info_parts i_word10
 have HI:=lh (And.intro hi (And.intro hz0 (And.intro hz1 hz2)))
 clear h h2 hr hi hz0 hz1 hz2
 go_enter Tryz.func13,Tryz.ntmps13
 go_upto_region 1 with fail
 have HB0:Hid (Below w.heap.size w (w.alloc (.cells #[.int .i64 s.m.old.base,.int .i64 s.m.old.limit,.slice A1 s.m.old.ws.length c1,.int .i64 s.m.yng.base,.int .i64 s.m.yng.limit,.slice A2 s.m.yng.ws.length c2,.slice A s.cs.length c,.slice Ax s.xs.length cx,Vh] 40))):=lh ((Below.refl _ _).alloc (Nat.le_refl _) _)
 have HX0:Hid (Bk (w.alloc (.cells #[.int .i64 s.m.old.base,.int .i64 s.m.old.limit,.slice A1 s.m.old.ws.length c1,.int .i64 s.m.yng.base,.int .i64 s.m.yng.limit,.slice A2 s.m.yng.ws.length c2,.slice A s.cs.length c,.slice Ax s.xs.length cx,Vh] 40)) w.heap.size 40 #[.int .i64 s.m.old.base,.int .i64 s.m.old.limit,.slice A1 s.m.old.ws.length c1,.int .i64 s.m.yng.base,.int .i64 s.m.yng.limit,.slice A2 s.m.yng.ws.length c2,.slice A s.cs.length c,.slice Ax s.xs.length cx,Vh]):=lh (Bk.new _ _ _)
 generalize w.alloc (.cells #[.int .i64 s.m.old.base,.int .i64 s.m.old.limit,.slice A1 s.m.old.ws.length c1,.int .i64 s.m.yng.base,.int .i64 s.m.yng.limit,.slice A2 s.m.yng.ws.length c2,.slice A s.cs.length c,.slice Ax s.xs.length cx,Vh] 40)=w1 at *
 obtain⟨Nb,hNb⟩:∃ Nb,Nb=w.heap.size:=⟨_,rfl⟩
 rw[← hNb] at HX0
 rw[← hNb]
 clear hNb
 go_wp2_with fail
 go_loopw [5,6] (fun v i wr=>∃ j:Nat,i=.int .i64 (j:Int)∧j≤ch.length∧wr.ownsRow w.heap.size 54 1 v j (wds (rts10 s.xs (ch.take j)))∧Below w.heap.size w wr∧Bk wr Nb 40 #[.int .i64 s.m.old.base,.int .i64 s.m.old.limit,.slice A1 s.m.old.ws.length c1,.int .i64 s.m.yng.base,.int .i64 s.m.yng.limit,.slice A2 s.m.yng.ws.length c2,.slice A s.cs.length c,.slice Ax s.xs.length cx,Vh]) (fun _ i _=>ch.length - (intOf i).toNat)
 case atStart =>
  refine⟨0,rfl,Nat.zero_le _,?_,HB0.out.alloc HB0.out.size _,HX0.out.alloc _⟩
  exact ownEmpty 1 (Bk.new _ _ _) HB0.out.size
 case round =>
  clear HB0 HX0
  obtain⟨j,rfl,hj,hown,hb,hbx⟩:=hrel
  have HO:=lh hown
  have HB:=lh hb
  have HBX:=lh hbx
  clear hb hbx
  by_cases hlt:j < ch.length
  ·obtain⟨b,o,rfl,hbl,hcc⟩:=H2.out.sl.get hlt
   have t1:ch[j]?=some ch[j]:=List.getElem?_eq_getElem hlt
   have e1:wr.cell? ⟨b,o+j,none⟩=some (.int .i64 ch[j]):=(HB.out.cell (p:=⟨b,o+j,none⟩) hbl).trans (hcc j _ (ints_get t1))
   have hxr:=HR.out ch[j] (List.getElem_mem hlt)
   have htk:Hid (rts10 s.xs (ch.take (j+1))=rts10 s.xs (ch.take j)++[if 0≤ch[j]∧s.xs≠[] then frW (objAt s.xs ch[j]) else 21]):=lh (by
    unfold rts10;rw[List.take_add_one,t1,List.map_append];rfl)
   generalize ch[j]=x at e1 hxr htk
   have hcj:j < cc:=by omega
   have HE1:=lh (And.intro hbl e1)
   obtain⟨A0,c0,rfl,hac⟩:=own_shape hown
   clear t1 hcc hown hbl
   by_cases hx0:0≤x
   ·by_cases hln:s.xs=[]
    ·have HT:Hid (rts10 s.xs (ch.take (j+1))=rts10 s.xs (ch.take j)++[21]):=lh (by rw[htk.out,if_neg (fun e=>e.2 hln)])
     have hd:decide (0 < s.xs.length)=false:=decide_eq_false (by rw[hln];simp)
     have hd2:decide ((0:Int) < (s.xs.length:Int))=false:=decide_eq_false (by rw[hln];simp)
     have m7:wr.cell? ⟨Nb,7,none⟩=some (.slice Ax s.xs.length cx):=HBX.out.cell 7
     clear htk hln
     go_upto_region 8 with fail
     obtain⟨w9,hw9⟩:∃ w9,w9=wr:=⟨_,rfl⟩
     have HO9:=HO
     have HB9:=HB
     have HBX9:=HBX
     rw[← hw9] at *
     clear hw9 m7 e1 HE1 HO HB HBX
     have hsz9:=HB9.out.size
     go_wp2_with (at_builtin;refine wpList_append_own_at _ rfl (.tmp 37) (.tmp 39) 31 rfl w.heap.size 54 i0 (.int .u64 0) 1 8 Tryz.underlying31 HI.out.1 HI.out.2.1 HI.out.2.2.1 HI.out.2.2.2 rfl (by decide) _ j _ rfl (HO9.out.alloc _) ⟨w9.heap.size,0,none⟩ 1 1 [.int .u64 21] rfl rfl (cell_one_new _ _ _) (by simp[Value.oneCell']) (by unfold maxLen;omega) (by omega) (by simp;omega) ?_;intro v' w3 hown3 hg3 _ hloc;have HOWN3:=lh hown3;have HG3:=lh hg3;clear hown3 hg3 hloc)
     go_roundw
     case rel =>
      refine⟨j+1,by go_num,by omega,?_,?_,?_⟩
      ·rw[HT.out,show wds (rts10 s.xs (ch.take j)++[21])=wds (rts10 s.xs (ch.take j))++[.int .u64 21] by simp[wds]];exact HOWN3.out
      ·exact(HB9.out.alloc (by have:=HB9.out.size;omega) _).grown HG3.out (by have:=HB9.out.size;simp;omega) (fun k hk=>(HO9.out.lt k hk).1)
      ·exact(HBX9.out.alloc _).grown HG3.out (fun e=>ownRow_bk HO9.out HBX9.out (by decide) e.symm)
     case measure=>simp[intOf];omega
    ·have hlp:0 < s.xs.length:=List.length_pos_iff.2 hln
     have HT0:Hid (rts10 s.xs (ch.take (j+1))=rts10 s.xs (ch.take j)++[frW (objAt s.xs x)]):=lh (by rw[htk.out,if_pos ⟨hx0,hln⟩])
     have m7:wr.cell? ⟨Nb,7,none⟩=some (.slice Ax s.xs.length cx):=HBX.out.cell 7
     have hd:decide (0 < s.xs.length)=true:=decide_eq_true hlp
     clear htk hln
     go_upto_region 7 with fail
     have cP:=fun n=>Pick10_any (w:=wr.drewN n) (IS.below (H.out.below HB.out) (below_drewN (Below.refl _ wr) n)) hl x hxr
     have cF:=fun w=>RFromAddress_any (objAt s.xs x) w
     unfold frA at cF
     obtain⟨y,er,hy1,hy2⟩:∃ y er,frW (objAt s.xs x)=y∧(if inA (objAt s.xs x)=true then Value.tuple #[.int .u64 (adW (objAt s.xs x)),.int .i64 0] else .tuple #[.int .u64 0,.int .i64 2])=.tuple #[.int .u64 y,.int .i64 er]:=by
      unfold frW
      cases inA (objAt s.xs x) with
      | true=>exact⟨_,_,rfl,rfl⟩
      | false=>exact⟨_,_,rfl,rfl⟩
     have HT:Hid (rts10 s.xs (ch.take (j+1))=rts10 s.xs (ch.take j)++[y]):=lh (by rw[HT0.out,hy1])
     simp only[hy2] at cF
     clear hy1 hy2 HT0
     go_quiet (first | (go_at_call 47;exact Calls.quiet_of_same ((cP _).mono fun _ _ h=>⟨h.1,h.2.symm⟩)) | (go_at_call 19;exact Calls.quiet_of_same ((cF _).mono fun _ _ h=>⟨h.1,h.2.symm⟩)))
     have hbq:=below_drewN (Below.refl wr.heap.size wr) nq
     have HO9:=lh (own_local HO.out fun k hk=>hbq.block k (HO.out.lt k hk).2)
     have HB9:=lh (HB.out.trans (hbq.mono HB.out.size))
     have HBX9:=lh (HBX.out.below hbq HBX.out.lt)
     clear hbq cP cF m7 e1 HE1 HO HB HBX
     generalize wr.drewN nq=w9 at *
     have hsz9:=HB9.out.size
     go_wp2_with (at_builtin;refine wpList_append_own_at _ rfl (.tmp 37) (.tmp 39) 31 rfl w.heap.size 54 i0 (.int .u64 0) 1 8 Tryz.underlying31 HI.out.1 HI.out.2.1 HI.out.2.2.1 HI.out.2.2.2 rfl (by decide) _ j _ rfl (HO9.out.alloc _) ⟨w9.heap.size,0,none⟩ 1 1 [.int .u64 y] rfl rfl (cell_one_new _ _ _) (by simp[Value.oneCell']) (by unfold maxLen;omega) (by omega) (by simp;omega) ?_;intro v' w3 hown3 hg3 _ hloc;have HOWN3:=lh hown3;have HG3:=lh hg3;clear hown3 hg3 hloc)
     go_roundw
     case rel =>
      refine⟨j+1,by go_num,by omega,?_,?_,?_⟩
      ·rw[HT.out,show wds (rts10 s.xs (ch.take j)++[y])=wds (rts10 s.xs (ch.take j))++[.int .u64 y] by simp[wds]];exact HOWN3.out
      ·exact(HB9.out.alloc (by have:=HB9.out.size;omega) _).grown HG3.out (by have:=HB9.out.size;simp;omega) (fun k hk=>(HO9.out.lt k hk).1)
      ·exact(HBX9.out.alloc _).grown HG3.out (fun e=>ownRow_bk HO9.out HBX9.out (by decide) e.symm)
     case measure=>simp[intOf];omega
   ·have HT:Hid (rts10 s.xs (ch.take (j+1))=rts10 s.xs (ch.take j)++[21]):=lh (by rw[htk.out,if_neg (fun e=>hx0 e.1)])
    clear htk
    go_upto_region 8 with fail
    obtain⟨w9,hw9⟩:∃ w9,w9=wr:=⟨_,rfl⟩
    have HO9:=HO
    have HB9:=HB
    have HBX9:=HBX
    rw[← hw9] at *
    clear hw9 e1 HE1 HO HB HBX
    have hsz9:=HB9.out.size
    go_wp2_with (at_builtin;refine wpList_append_own_at _ rfl (.tmp 37) (.tmp 39) 31 rfl w.heap.size 54 i0 (.int .u64 0) 1 8 Tryz.underlying31 HI.out.1 HI.out.2.1 HI.out.2.2.1 HI.out.2.2.2 rfl (by decide) _ j _ rfl (HO9.out.alloc _) ⟨w9.heap.size,0,none⟩ 1 1 [.int .u64 21] rfl rfl (cell_one_new _ _ _) (by simp[Value.oneCell']) (by unfold maxLen;omega) (by omega) (by simp;omega) ?_;intro v' w3 hown3 hg3 _ hloc;have HOWN3:=lh hown3;have HG3:=lh hg3;clear hown3 hg3 hloc)
    go_roundw
    case rel =>
     refine⟨j+1,by go_num,by omega,?_,?_,?_⟩
     ·rw[HT.out,show wds (rts10 s.xs (ch.take j)++[21])=wds (rts10 s.xs (ch.take j))++[.int .u64 21] by simp[wds]];exact HOWN3.out
     ·exact(HB9.out.alloc (by have:=HB9.out.size;omega) _).grown HG3.out (by have:=HB9.out.size;simp;omega) (fun k hk=>(HO9.out.lt k hk).1)
     ·exact(HBX9.out.alloc _).grown HG3.out (fun e=>ownRow_bk HO9.out HBX9.out (by decide) e.symm)
    case measure=>simp[intOf];omega
  ·obtain⟨A0,c0,rfl,hac⟩:=own_shape hown
   clear hown
   go_wp2_with fail
   go_ret
   have e:j=ch.length:=by omega
   have ho:=HO.out
   rw[e,List.take_of_length_le (Nat.le_refl _)] at ho
   refine⟨_,rfl,?_,HB.out⟩
   have e2:(rts10 s.xs ch).length=ch.length:=by simp[rts10]
   rw[e2,e]
   exact ho
end
end
section
open Go.RowKit Go.Sort
attribute [local go_sem] Oper.semAt_some onlyN_normal
section
variable {w0 w:World} {m:Mm} {A1 A2 Al Aw:Option Addr} {u1 u2 cl cw:Nat} {l ws:List Int}
end
def WsT (B:Nat) (l:List Int) (v:Value) (w:World):Prop:=∃ A c,v=.slice A l.length c∧Sl w 1 A l.length (wds l)∧l.length≤c∧∀ b o,A=some ⟨b,o,none⟩→B≤b∧b < w.heap.size
theorem WsT.bl {B:Nat} {l:List Int} (v:Value) (w w':World) (h:WsT B l v w) (hb:Below w.heap.size w w'):WsT B l v w':=by
 obtain⟨A,c,e,h1,h2,h3⟩:=h
 exact⟨A,c,e,h1.below hb,h2,fun b o e=>⟨(h3 b o e).1,Nat.lt_of_lt_of_le (h3 b o e).2 hb.size⟩⟩
theorem WsT.of {B:Nat} {w w':World} {l:List Int} {v:Value} (h:w'.ownsRow w.heap.size 54 1 v l.length (wds l)) (hB:B≤w.heap.size):WsT B l v w':=by
 obtain⟨A,c,rfl,hc⟩:=own_shape h
 refine⟨A,c,rfl,own_sl h,hc,fun b o e=>?_⟩
 have:=h.lt b (by rw[e];rfl)
 omega
section
variable {w:World} {m:Mm} {A1 A2 Ar A:Option Addr} {u1 u2 u cr:Nat} {cs roots:List Int}
end
end
section
open Go.RowKit Go.Sort
attribute [local go_sem] Oper.semAt_some onlyN_normal
/-- the blocks that a collection writes -/
def colS (g1 g2:Nat) (V1 V2:Value) (bt q:Nat):Prop:=q=g1 ∨ q=g2 ∨ V1.ownBlock=some q ∨ V2.ownBlock=some q ∨ q=bt
structure Env10 (w0 wn:World) (bm bx B1 g1 g2 gt bt k:Nat) (V1 V2:Value) (m:Mm) (cs:List Int) (s:W10) (A1:Option Addr) (c1:Nat) (A2:Option Addr) (c2:Nat) (A:Option Addr) (c:Nat) (Ax:Option Addr) (cx:Nat) (Ah:Option Addr) (ch:Nat):Prop where
 bl:Below w0.heap.size w0 wn
 h0:w0.heap.size≤B1
 hB:B1≤wn.heap.size
 mr:MR wn B1 g1 g2 V1 V2 m
 cr:CR wn B1 gt bt k cs
 kl:k≤1000
 rm:RM wn s.m A1 c1 A2 c2
 rc:RC wn s.cs A c
 ax:IS wn s.xs Ax cx
 far:∀ b o,A1=some ⟨b,o,none⟩ ∨ A2=some ⟨b,o,none⟩ ∨ A=some ⟨b,o,none⟩ ∨ Ax=some ⟨b,o,none⟩→b < B1
 hm:Bk wn bm 29 #[.pointer (some ⟨g1,0,none⟩),.pointer (some ⟨g2,0,none⟩)]
 hx:Bk wn bx 40 #[.int .i64 s.m.old.base,.int .i64 s.m.old.limit,.slice A1 s.m.old.ws.length c1,.int .i64 s.m.yng.base,.int .i64 s.m.yng.limit,.slice A2 s.m.yng.ws.length c2,.slice A s.cs.length c,.slice Ax s.xs.length cx,.slice Ah s.hs.length ch]
section
variable {w0 wn w':World} {bm bx B1 g1 g2 gt bt k:Nat} {V1 V2:Value} {m:Mm} {cs:List Int} {s:W10} {A1:Option Addr} {c1:Nat} {A2:Option Addr} {c2:Nat} {A:Option Addr} {c:Nat} {Ax:Option Addr} {cx:Nat} {Ah:Option Addr} {ch:Nat}
theorem Env10.below (h:Env10 w0 wn bm bx B1 g1 g2 gt bt k V1 V2 m cs s A1 c1 A2 c2 A c Ax cx Ah ch) (hb:Below wn.heap.size wn w'):Env10 w0 w' bm bx B1 g1 g2 gt bt k V1 V2 m cs s A1 c1 A2 c2 A c Ax cx Ah ch :=
 ⟨h.bl.trans (hb.mono h.bl.size),h.h0,Nat.le_trans h.hB hb.size,h.mr.below hb,h.cr.below hb,h.kl,h.rm.below hb,h.rc.below hb,h.ax.below hb,h.far,h.hm.below hb h.hm.lt,h.hx.below hb h.hx.lt⟩
/-- what a collection does not write -/
theorem Env10.off (h:Env10 w0 wn bm bx B1 g1 g2 gt bt k V1 V2 m cs s A1 c1 A2 c2 A c Ax cx Ah ch) {q:Nat} {t:TypeId} {C:Array Value} (hk:Bk wn q t C) (h1:t≠123) (h2:t≠54):¬ colS g1 g2 V1 V2 bt q:=fun e=>by
 rcases e with e | e | e | e | e
 ·exact Bk.neT hk h.mr.o.hd h1 e
 ·exact Bk.neT hk h.mr.y.hd h1 e
 ·exact h.mr.o.own_ne hk h2 e
 ·exact h.mr.y.own_ne hk h2 e
 ·exact h.cr.mp.neB hk e
theorem Env10.ge (h:Env10 w0 wn bm bx B1 g1 g2 gt bt k V1 V2 m cs s A1 c1 A2 c2 A c Ax cx Ah ch) {q:Nat} (e:colS g1 g2 V1 V2 bt q):B1≤q:=by
 rcases e with e | e | e | e | e
 ·rw[e];exact h.mr.o.ge
 ·rw[e];exact h.mr.y.ge
 ·exact(h.mr.o.own.lt q e).1
 ·exact(h.mr.y.own.lt q e).1
 ·rw[e];exact h.cr.gm
theorem Env10.lt (h:Env10 w0 wn bm bx B1 g1 g2 gt bt k V1 V2 m cs s A1 c1 A2 c2 A c Ax cx Ah ch) {q:Nat} (e:colS g1 g2 V1 V2 bt q):q < wn.heap.size:=by
 rcases e with e | e | e | e | e
 ·rw[e];exact h.mr.o.hd.lt
 ·rw[e];exact h.mr.y.hd.lt
 ·exact(h.mr.o.own.lt q e).2
 ·exact(h.mr.y.own.lt q e).2
 ·rw[e];exact h.cr.mp.lt
theorem IS.kpD {S:Nat→Prop} {w w':World} {l:List Int} {A:Option Addr} {c:Nat} (h:IS w l A c) (hk:Kp S w w') (hs:∀ b o,A=some ⟨b,o,none⟩→¬ S b):IS w' l A c:=⟨h.sl.kpN hk hs,h.cap⟩
theorem Env10.col (h:Env10 w0 wn bm bx B1 g1 g2 gt bt k V1 V2 m cs s A1 c1 A2 c2 A c Ax cx Ah ch) {C:Col} {e:Ending} (hp:ColP wn B1 B1 g1 g2 gt bt k V1 V2 C e w'):∃ v V1' V2' k',e=.returned (.tuple #[v,.int .i64 (C.n:Int),.int .i64 C.e])∧w'.ownsRow wn.heap.size 54 1 v C.out.length (wds C.out)∧Env10 w0 w' bm bx B1 g1 g2 gt bt k' V1' V2' C.m C.cs s A1 c1 A2 c2 A c Ax cx Ah ch∧(∀ q,v.ownBlock=some q→¬ colS g1 g2 V1' V2' bt q)∧Kp (colS g1 g2 V1 V2 bt) wn w':=by
 obtain⟨v,V1',V2',k',he,ho,hmr,hcr,⟨n1,n2,n3⟩,hk,hkk⟩:=hp
 have hfar:∀ b o,A1=some ⟨b,o,none⟩ ∨ A2=some ⟨b,o,none⟩ ∨ A=some ⟨b,o,none⟩ ∨ Ax=some ⟨b,o,none⟩→¬ colS g1 g2 V1 V2 bt b:=fun b o e hb=>by
  have h1:=h.far b o e
  have h2:=h.ge hb
  omega
 have hk':Kp (colS g1 g2 V1 V2 bt) wn w':=hk
 refine⟨v,V1',V2',k',he,ho,⟨hk'.toBelow h.bl h.bl.size fun q e=>Nat.le_trans h.h0 (h.ge e),h.h0,Nat.le_trans h.hB hk.size,hmr,hcr,?_,h.rm.kp hk' fun b o e=>hfar b o (e.imp id .inl),h.rc.kp hk' fun b o e=>hfar b o (.inr (.inr (.inl e))),h.ax.kpD hk' fun b o e=>hfar b o (.inr (.inr (.inr e))),h.far,h.hm.kp hk' (h.off h.hm (by decide) (by decide)),h.hx.kp hk' (h.off h.hx (by decide) (by decide))⟩,fun q hq e=>?_,hk'⟩
 ·rcases hkk with e | e
  ·rw[e];exact h.kl
  ·omega
 ·have h1:=(ho.lt q hq).1
  have h2:=h.mr.o.hd.lt
  have h3:=h.mr.y.hd.lt
  have h4:=h.cr.mp.lt
  rcases e with e | e | e | e | e
  ·omega
  ·omega
  ·exact(n3 q hq).1 e
  ·exact(n3 q hq).2 e
  ·omega
theorem Env10.roots (h:Env10 w0 wn bm bx B1 g1 g2 gt bt k V1 V2 m cs s A1 c1 A2 c2 A c Ax cx Ah ch) {chs:List Int} {Ac:Option Addr} {cc:Nat} (hx:s.xs.length≤1000000) (h2:IS wn chs Ac cc) (hl2:chs.length≤1000000) (hr:∀ x∈chs,-9223372036854775808≤x∧x≤9223372036854775807):Calls Tryz.prog 13 #[.agg #[.int .i64 s.m.old.base,.int .i64 s.m.old.limit,.slice A1 s.m.old.ws.length c1,.int .i64 s.m.yng.base,.int .i64 s.m.yng.limit,.slice A2 s.m.yng.ws.length c2,.slice A s.cs.length c,.slice Ax s.xs.length cx,.slice Ah s.hs.length ch],.slice Ac chs.length cc] wn (Rts10P wn (rts10 s.xs chs)):=Roots10_any h.ax hx h2 hl2 hr
theorem Env10.collect (h:Env10 w0 wn bm bx B1 g1 g2 gt bt k V1 V2 m cs s A1 c1 A2 c2 A c Ax cx Ah ch) {roots:List Int} {Ar:Option Addr} {cr:Nat} (hs:Sl wn 1 Ar roots.length (wds roots)) (hlc:roots.length≤cr) (hll:roots.length≤1000) (hru:∀ x∈roots,U64 x) (hA:∀ b o,Ar=some ⟨b,o,none⟩→b < wn.heap.size∧¬ colS g1 g2 V1 V2 bt b) (hm:m.size≤40000000):Calls Tryz.prog 17 #[.agg #[.pointer (some ⟨g1,0,none⟩),.pointer (some ⟨g2,0,none⟩)],.pointer (some ⟨gt,0,none⟩),.slice Ar roots.length cr] wn (ColP wn B1 B1 g1 g2 gt bt k V1 V2 (m.collect m.yng.chk cs roots)) :=
 Collect_any h.mr h.hB h.cr hs hlc (by omega) hru (fun b o e=>⟨(hA b o e).1,fun e'=>(hA b o e).2 (.inl e'),fun e'=>(hA b o e).2 (.inr (.inr (.inl e'))),fun e'=>(hA b o e).2 (.inr (.inr (.inr (.inl e'))))⟩) hm
end
theorem Env10.start {w w2:World} {s:W10} {e:Ending} (hp:Op10P w s e w2) (hl:s.cs.length≤1000):∃ g1 g2 V1 V2 gt bt k A1 c1 A2 c2 A c Ax cx Ah ch B1,e=.returned (.tuple #[.agg #[.pointer (some ⟨g1,0,none⟩),.pointer (some ⟨g2,0,none⟩)],.pointer (some ⟨gt,0,none⟩),.agg #[.int .i64 s.m.old.base,.int .i64 s.m.old.limit,.slice A1 s.m.old.ws.length c1,.int .i64 s.m.yng.base,.int .i64 s.m.yng.limit,.slice A2 s.m.yng.ws.length c2,.slice A s.cs.length c,.slice Ax s.xs.length cx,.slice Ah s.hs.length ch],.bool true])∧Env10 w ((w2.alloc (.cells #[.pointer (some ⟨g1,0,none⟩),.pointer (some ⟨g2,0,none⟩)] 29)).alloc (.cells #[.int .i64 s.m.old.base,.int .i64 s.m.old.limit,.slice A1 s.m.old.ws.length c1,.int .i64 s.m.yng.base,.int .i64 s.m.yng.limit,.slice A2 s.m.yng.ws.length c2,.slice A s.cs.length c,.slice Ax s.xs.length cx,.slice Ah s.hs.length ch] 40)) w2.heap.size (w2.heap.size+1) B1 g1 g2 gt bt k V1 V2 s.m s.cs s A1 c1 A2 c2 A c Ax cx Ah ch:=by
 obtain⟨g1,g2,V1,V2,gt,bt,k,A1,c1,A2,c2,A,c,Ax,cx,Ah,ch,B1,rfl,h1,h2,hmr,hcr,hk,hrm,hrc,hax,hah,hfar,hb⟩:=hp
 have hb1:Below w2.heap.size w2 ((w2.alloc (.cells #[.pointer (some ⟨g1,0,none⟩),.pointer (some ⟨g2,0,none⟩)] 29)).alloc (.cells #[.int .i64 s.m.old.base,.int .i64 s.m.old.limit,.slice A1 s.m.old.ws.length c1,.int .i64 s.m.yng.base,.int .i64 s.m.yng.limit,.slice A2 s.m.yng.ws.length c2,.slice A s.cs.length c,.slice Ax s.xs.length cx,.slice Ah s.hs.length ch] 40)):=((Below.refl _ w2).alloc (Nat.le_refl _) _).alloc (by simp) _
 obtain⟨A',c',e',hc'⟩:=own_shape hax
 injection e' with e1 e2 e3
 subst e1 e3
 refine⟨g1,g2,V1,V2,gt,bt,k,A1,c1,A2,c2,A,c,Ax,cx,Ah,ch,B1,rfl,hb.trans (hb1.mono hb.size),h1,Nat.le_trans h2 hb1.size,hmr.below hb1,hcr.below hb1,by omega,hrm.below hb1,hrc.below hb1,⟨(own_sl hax).below hb1,hc'⟩,fun b o e=>hfar b o (by rcases e with e | e | e | e;exact .inl e;exact .inr (.inl e);exact .inr (.inr (.inl e));exact .inr (.inr (.inr (.inl e)))),Bk.alloc (Bk.new _ _ _) _,Bk.here _ _ _ (by simp)⟩
theorem In10.size {limit:Int} {s:W10} {n:Nat} (h:In10 limit s n):s.m.size≤40000000:=by
 have h1:=h.ok.o.lim
 have h2:=h.ok.ol
 have h3:=h.ok.y.lim
 have h4:=h.ly
 have h5:=h.ok.yb
 have h6:=h.ok.ob
 unfold lim at h4
 unfold Mm.size
 omega
theorem Many10_any {w:World} {Al:Option Addr} {n cl r:Nat}:Calls Tryz.prog 10 #[.slice Al n cl,.int .i64 (r:Int)] w fun e w'=>e=.returned (.bool (decide (60 < n ∨ 20 < r)))∧w=w':=by
 by_cases h0:60 < n
 ·have d0:decide ((n:Int) > 60)=true:=decide_eq_true (by omega)
  have HR:Hid (60 < n):=lh h0
  clear h0
  go_enter Tryz.func10,Tryz.ntmps10
  go_wp2_with fail
  go_ret
  exact⟨ret_bool (decide_eq_true (.inl HR.out)).symm,rfl⟩
 ·have d0:decide ((n:Int) > 60)=false:=decide_eq_false (by omega)
  have HR:Hid (¬ 60 < n):=lh h0
  clear h0
  by_cases h1:20 < r
  ·have d1:decide ((r:Int) > 20)=true:=decide_eq_true (by omega)
   have HR1:=lh h1
   clear h1
   go_enter Tryz.func10,Tryz.ntmps10
   go_wp2_with fail
   go_ret
   exact⟨ret_bool (decide_eq_true (.inr HR1.out)).symm,rfl⟩
  ·have d1:decide ((r:Int) > 20)=false:=decide_eq_false (by omega)
   have HR1:=lh h1
   clear h1
   go_enter Tryz.func10,Tryz.ntmps10
   go_wp2_with fail
   go_ret
   exact⟨ret_bool (decide_eq_false (by rintro(h | h);exact HR.out h;exact HR1.out h)).symm,rfl⟩
end
section
open Go.ChangeShapes Go.WideShapes Go.ChangeAt Go.RowKit Go.Deep
theorem own:ownKnob Tryz.prog.godebug=none:=by kernel_rfl
theorem laidOut:laidOutB Tryz.prog=true:=by kernel_rfl
def OpR (w:World) (o:OpV) (r:List Value):Prop:=r=o.cells.toList∧o.Ok
theorem cellsOp:Tryz.prog.cellsOf 87=9:=by kernel_rfl
def IntR (w:World) (x:Int) (r:List Value):Prop:=r=[.int .i64 x]∧-9223372036854775808≤x∧x≤9223372036854775807
section
variable {H:Type} {enc:TypeId × Value→H} {w:World} {base:Nat} {spare:Nat→Bool} {held:Bool}
theorem open_opR (fuel:Nat) (cs:List Value) (x:DataW H × List MemPlace) (hlen:cs.length=9) (h:DataW.trod enc Tryz.prog w base spare held fuel 87 cs=some x) (_:Wgt Tryz.prog 87 x.1):∃ y,OpR w y cs:=by
 obtain⟨xs,n,_,_,_,hxl,hg⟩:=DataW.trod_struct Tryz.underlying87 h
 match cs,hlen with
 | [u0,u1,u2,u3,u4,u5,u6,u7,u8],_ =>
  match xs,hxl with
  | [y0,y1,y2,y3,y4,y5,y6],_ =>
   have h0:DataW.trod enc Tryz.prog w base spare held n 5 (([u0,u1,u2,u3,u4,u5,u6,u7,u8].drop 0).take (Tryz.prog.cellsOf 5))=some y0:=hg 0 _ rfl
   have h1:DataW.trod enc Tryz.prog w base spare held n 58 (([u0,u1,u2,u3,u4,u5,u6,u7,u8].drop 1).take (Tryz.prog.cellsOf 58))=some y1:=hg 1 _ rfl
   have h2:DataW.trod enc Tryz.prog w base spare held n 3 (([u0,u1,u2,u3,u4,u5,u6,u7,u8].drop 4).take (Tryz.prog.cellsOf 3))=some y2:=hg 2 _ rfl
   have h3:DataW.trod enc Tryz.prog w base spare held n 3 (([u0,u1,u2,u3,u4,u5,u6,u7,u8].drop 5).take (Tryz.prog.cellsOf 3))=some y3:=hg 3 _ rfl
   have h4:DataW.trod enc Tryz.prog w base spare held n 3 (([u0,u1,u2,u3,u4,u5,u6,u7,u8].drop 6).take (Tryz.prog.cellsOf 3))=some y4:=hg 4 _ rfl
   have h5:DataW.trod enc Tryz.prog w base spare held n 54 (([u0,u1,u2,u3,u4,u5,u6,u7,u8].drop 7).take (Tryz.prog.cellsOf 54))=some y5:=hg 5 _ rfl
   have h6:DataW.trod enc Tryz.prog w base spare held n 4 (([u0,u1,u2,u3,u4,u5,u6,u7,u8].drop 8).take (Tryz.prog.cellsOf 4))=some y6:=hg 6 _ rfl
   rw[cellsInt] at h2 h3 h4
   rw[cellsU8] at h0
   rw[cellsHdr] at h1
   rw[cellsU64] at h5
   rw[cellsBool] at h6
   obtain⟨k,e0,_,w0⟩:=DataW.trod_int Tryz.underlying5 (show DataW.trod enc Tryz.prog w base spare held n 5 [u0]=some y0 from h0)
   obtain⟨hd,e1⟩:=open_hdr (show DataW.trod enc Tryz.prog w base spare held n 58 [u1,u2,u3]=some y1 from h1)
   obtain⟨a,e2,_,w2⟩:=DataW.trod_int Tryz.underlying3 (show DataW.trod enc Tryz.prog w base spare held n 3 [u4]=some y2 from h2)
   obtain⟨b,e3,_,w3⟩:=DataW.trod_int Tryz.underlying3 (show DataW.trod enc Tryz.prog w base spare held n 3 [u5]=some y3 from h3)
   obtain⟨i,e4,_,w4⟩:=DataW.trod_int Tryz.underlying3 (show DataW.trod enc Tryz.prog w base spare held n 3 [u6]=some y4 from h4)
   obtain⟨v,e5,_,w5⟩:=DataW.trod_int Tryz.underlying54 (show DataW.trod enc Tryz.prog w base spare held n 54 [u7]=some y5 from h5)
   obtain⟨r,e6,_⟩:=DataW.trod_bool Tryz.underlying4 (show DataW.trod enc Tryz.prog w base spare held n 4 [u8]=some y6 from h6)
   simp only[List.cons.injEq,and_true] at e0 e1 e2 e3 e4 e5 e6
   obtain⟨rfl,rfl,rfl⟩:=e1
   subst e0 e2 e3 e4 e5 e6
   have k0:0≤k∧k≤255:=by simp[Lit.wf,IntKind.min,IntKind.max,IntKind.signed,IntKind.bits] at w0;omega
   have v0:U64 v:=by unfold U64;simp[Lit.wf,IntKind.min,IntKind.max,IntKind.signed,IntKind.bits] at w5;omega
   exact⟨⟨k,hd,a,b,i,v,r⟩,rfl,⟨k0.1,k0.2,(wf_i64b w2).1,(wf_i64b w2).2,(wf_i64b w3).1,(wf_i64b w3).2,v0⟩⟩
theorem open_int1 (fuel:Nat) (cs:List Value) (x:DataW H × List MemPlace) (hlen:cs.length=1) (h:DataW.trod enc Tryz.prog w base spare held fuel 3 cs=some x) (_:Wgt Tryz.prog 3 x.1):∃ y,IntR w y cs:=by
 match cs,hlen with
 | [u0],_ =>
  obtain⟨k,e0,_,w0⟩:=DataW.trod_int Tryz.underlying3 h
  simp only[List.cons.injEq,and_true] at e0
  subst e0
  exact⟨k,rfl,wf_i64b w0⟩
end
section
variable {w:World}
theorem open_ops10 {H:Type} {enc:TypeId × Value→H} {base b0:Nat} {r:_root_.Go.Reach} {spare:Nat→Bool} {held:Bool} {v:Value} {d:DataW H} {p:List MemPlace} (hv:Value.okWide Tryz.prog w r b0 22 v) (h:DataW.Trod enc Tryz.prog w base spare held 22 v d p) (hw:Wgt Tryz.prog 22 d) :
  ∃ A c ops,v=.slice A ops.length c∧ops.length≤c∧Op10 w A ops:=by
 obtain⟨X,l,c,rfl⟩:=Go.WideShapes.okWide_slice Tryz.underlying22 hv
 obtain⟨fuel,hf⟩:=h
 obtain⟨A,n,c',e,h1,h2,xs,hxs⟩:=open_slR OpR Tryz.underlying22 cellsOp (show Tryz.prog.bytesOf 87=72 by kernel_rfl) (by omega) (by omega) open_opR (show DataW.trod enc Tryz.prog w base spare held fuel 22 [.slice X l c]=some (d,p) from hf) hw
 obtain⟨g1,g2⟩:=hxs
 subst g1
 refine⟨A,c',xs,e,h1,?_⟩
 rcases g2 with g2 | ⟨b,o,g3,g4,g5⟩
 ·exact .inl (List.length_eq_zero_iff.1 g2)
 ·refine .inr ⟨b,o,g3,g4,fun i x hx=>?_⟩
  obtain⟨r,_,⟨hr,hok⟩,hc⟩:=g5 i x hx
  exact⟨hok,fun j v hv=>hc j v (by rw[hr];simpa using hv)⟩
theorem open_ints10 {H:Type} {enc:TypeId × Value→H} {base b0:Nat} {r:_root_.Go.Reach} {spare:Nat→Bool} {held:Bool} {v:Value} {d:DataW H} {p:List MemPlace} (hv:Value.okWide Tryz.prog w r b0 23 v) (h:DataW.Trod enc Tryz.prog w base spare held 23 v d p) (hw:Wgt Tryz.prog 23 d) :
  ∃ A c l,v=.slice A l.length c∧l.length≤140737488351232∧IS w l A c∧∀ x∈l,-9223372036854775808≤x∧x≤9223372036854775807:=by
 obtain⟨X,l,c,rfl⟩:=Go.WideShapes.okWide_slice Tryz.underlying23 hv
 obtain⟨fuel,hf⟩:=h
 obtain⟨A,n,c',e,h1,h2,xs,hxs⟩:=open_slR IntR Tryz.underlying23 cellsInt (show Tryz.prog.bytesOf 3=8 by kernel_rfl) (by omega) (by omega) open_int1 (show DataW.trod enc Tryz.prog w base spare held fuel 23 [.slice X l c]=some (d,p) from hf) hw
 have hall:=hxs.all (P:=fun x=>-9223372036854775808≤x∧x≤9223372036854775807) fun x r hr=>hr.2
 obtain⟨g1,g2⟩:=hxs
 subst g1
 refine⟨A,c',xs,e,h2,⟨⟨by simp[ints],?_⟩,h1⟩,hall⟩
 rcases g2 with g2 | ⟨b,o,g3,g4,g5⟩
 ·exact .inl g2
 ·refine .inr ⟨b,o,g3,g4,fun j v hv=>?_⟩
  obtain⟨x,hx,rfl⟩:∃ x,xs[j]?=some x∧.int .i64 x=v:=by simpa [ints] using hv
  obtain⟨r,_,⟨hr,_⟩,hc⟩:=g5 j x hx
  have:=hc 0 (.int .i64 x) (by rw[hr];rfl)
  simpa using this
end
end
end Go.Proofs.YtaijmgkjbbiboaaGreat
