/- Parts of the proof: NurQ, RBldD, RNurA. -/
import Derived.BigQuiet
import Derived.Deep.QuietTactic
import Derived.Test.YtaijmgkjbbiboaaGreatPcA
import Derived.Test.YtaijmgkjbbiboaaGreatPc17
import Derived.Test.YtaijmgkjbbiboaaGreatPc19
import Derived.Test.YtaijmgkjbbiboaaGreatPc21
import Derived.Test.YtaijmgkjbbiboaaGreatPc22
import Derived.Test.YtaijmgkjbbiboaaGreatPc26
import Derived.Test.YtaijmgkjbbiboaaGreatPc29
import Derived.Test.YtaijmgkjbbiboaaGreatPc31
set_option linter.unusedVariables false
set_option linter.unusedSimpArgs false
set_option linter.unusedSectionVars false
set_option maxRecDepth 100000
namespace Go.Proofs.YtaijmgkjbbiboaaGreat
section
structure Fin10 (m:Mm) (cs roots L U Z:List Int):Prop where
 ok:m.Ok
 hl:m.OrdI L
 hL:L=(m.order cs roots).1
 cr:m.CrI L (m.crossing (cardIn cs))
 hf:m.old.top+m.need L≤m.old.limit
 hU:U=m.upd L (m.plc m.old.top L) (m.crossing (cardIn cs)) m.old.ws
 hZ:Z=L.flatMap (m.cpy L (m.plc m.old.top L))
 rt:∀ x∈roots,m.Met L x
 sl:∀ a∈L,∀ x∈m.slW a,m.Met L x
section
variable {m:Mm} {cs roots L U Z:List Int}
theorem Mm.cpy_u {m:Mm} (ok:m.Ok) (l ts:List Int) (a:Int):∀ x∈m.cpy l ts a,U64 x:=by
 have h0:U64 0:=by constructor <;> omega
 have hg:∀ b,U64 ((m.at_ b).getD 0):=fun b=>by
  cases hb:m.at_ b with
  | none=>exact h0
  | some x =>
   unfold Mm.at_ Mm.sp at hb
   split at hb
   ·exact ok.o.at_u hb
   ·exact ok.y.at_u hb
 intro x hx
 unfold Mm.cpy at hx
 obtain⟨k,_,rfl⟩:=List.mem_map.1 hx
 split
 ·exact Mm.mvd_u _ _ _ (hg _)
 ·exact hg _
theorem Mm.upd_get (m:Mm) (l ts:List Int):∀ (cr ws:List Int),cr.Nodup→(∀ b∈cr,m.old.base≤b)→∀ i:Nat,(m.upd l ts cr ws)[i]?=if (m.old.base+(i:Int))∈cr then (ws[i]?).map (m.mvd l ts) else ws[i]?
 | [],ws,_,_,i=>by rw[if_neg (by simp)];rfl
 | a::cr,ws,hn,hb,i=>by
  have hn1:=List.nodup_cons.1 hn
  have ha:=hb a (by simp)
  unfold Mm.upd
  rw[Mm.upd_get m l ts cr _ hn1.2 (fun b h=>hb b (by simp[h])) i,List.getElem?_set]
  by_cases hi:(a - m.old.base).toNat=i
  ·subst hi
   have e:m.old.base+(((a - m.old.base).toNat:Nat):Int)=a:=by omega
   rw[e,if_neg hn1.1,if_pos rfl]
   by_cases hl:(a - m.old.base).toNat < ws.length
   ·rw[if_pos hl,if_pos List.mem_cons_self,List.getElem?_eq_getElem hl]
    rfl
   ·rw[if_neg hl,if_pos List.mem_cons_self,List.getElem?_eq_none (by omega)]
    rfl
  ·rw[if_neg hi]
   have e:m.old.base+(i:Int)≠a:=by omega
   simp only[List.mem_cons,e,false_or]
end
end
section
open Go.RowKit Go.Sort
attribute [local go_sem] Oper.semAt_some onlyN_normal
theorem i_word10:(Tryz.prog.info? 54).map (fun i=>(i.zero,i.size,i.bytes))=some (some (.int .u64 0),1,8):=by kernel_rfl
def Rts10P (w:World) (l:List Int) (e:Ending) (w':World):Prop:=∃ v,e=.returned v∧w'.ownsRow w.heap.size 54 1 v l.length (wds l)∧Below w.heap.size w w'
section
variable {w:World} {s:W10} {A1 A2 A Ax Ac:Option Addr} {c1 c2 c cx cc:Nat} {Vh:Value} {ch:List Int}
set_option maxHeartbeats 4000000 in
theorem Roots10_any (h:IS w s.xs Ax cx) (hl:s.xs.length≤1000000) (h2:IS w ch Ac cc) (hl2:ch.length≤1000000) (hr:∀ x∈ch,-9223372036854775808≤x∧x≤9223372036854775807):Calls Tryz.prog 13 #[.agg #[.int .i64 s.m.old.base,.int .i64 s.m.old.limit,.slice A1 s.m.old.ws.length c1,.int .i64 s.m.yng.base,.int .i64 s.m.yng.limit,.slice A2 s.m.yng.ws.length c2,.slice A s.cs.length c,.slice Ax s.xs.length cx,Vh],.slice Ac ch.length cc] w (Rts10P w (rts10 s.xs ch)):=by
 have H:=lh h
 have H2:=lh h2
 have HR:=lh hr
 have hcap2:=h2.cap
 obtain⟨i0,hi,hz0,hz1,hz2⟩:=info_parts i_word10
 have HI:=lh (And.intro hi (And.intro hz0 (And.intro hz1 hz2)))
 clear h h2 hr hi hz0 hz1 hz2
 go_enter Tryz.func13,Tryz.ntmps13
 go_upto_region 1 with fail
 have HB0:Hid (Below w.heap.size w (w.alloc (.cells #[.int .i64 s.m.old.base,.int .i64 s.m.old.limit,.slice A1 s.m.old.ws.length c1,.int .i64 s.m.yng.base,.int .i64 s.m.yng.limit,.slice A2 s.m.yng.ws.length c2,.slice A s.cs.length c,.slice Ax s.xs.length cx,Vh] 40))):=lh ((Below.refl _ _).alloc (Nat.le_refl _) _)
 have HX0:Hid (Bk (w.alloc (.cells #[.int .i64 s.m.old.base,.int .i64 s.m.old.limit,.slice A1 s.m.old.ws.length c1,.int .i64 s.m.yng.base,.int .i64 s.m.yng.limit,.slice A2 s.m.yng.ws.length c2,.slice A s.cs.length c,.slice Ax s.xs.length cx,Vh] 40)) w.heap.size 40 #[.int .i64 s.m.old.base,.int .i64 s.m.old.limit,.slice A1 s.m.old.ws.length c1,.int .i64 s.m.yng.base,.int .i64 s.m.yng.limit,.slice A2 s.m.yng.ws.length c2,.slice A s.cs.length c,.slice Ax s.xs.length cx,Vh]):=lh (Bk.new _ _ _)
 generalize w.alloc (.cells #[.int .i64 s.m.old.base,.int .i64 s.m.old.limit,.slice A1 s.m.old.ws.length c1,.int .i64 s.m.yng.base,.int .i64 s.m.yng.limit,.slice A2 s.m.yng.ws.length c2,.slice A s.cs.length c,.slice Ax s.xs.length cx,Vh] 40)=w1 at *
 obtain⟨Nb,hNb⟩:∃ Nb,Nb=w.heap.size:=⟨_,rfl⟩
 rw[← hNb] at HX0
 rw[← hNb]
 clear hNb
 go_wp2_with fail
 go_loopw [5,6] (fun v i wr=>∃ j:Nat,i=.int .i64 (j:Int)∧j≤ch.length∧wr.ownsRow w.heap.size 54 1 v j (wds (rts10 s.xs (ch.take j)))∧Below w.heap.size w wr∧Bk wr Nb 40 #[.int .i64 s.m.old.base,.int .i64 s.m.old.limit,.slice A1 s.m.old.ws.length c1,.int .i64 s.m.yng.base,.int .i64 s.m.yng.limit,.slice A2 s.m.yng.ws.length c2,.slice A s.cs.length c,.slice Ax s.xs.length cx,Vh]) (fun _ i _=>ch.length - (intOf i).toNat)
 case atStart =>
  refine⟨0,rfl,Nat.zero_le _,?_,HB0.out.alloc HB0.out.size _,HX0.out.alloc _⟩
  exact ownEmpty 1 (Bk.new _ _ _) HB0.out.size
 case round =>
  clear HB0 HX0
  obtain⟨j,rfl,hj,hown,hb,hbx⟩:=hrel
  have HO:=lh hown
  have HB:=lh hb
  have HBX:=lh hbx
  clear hb hbx
  by_cases hlt:j < ch.length
  ·obtain⟨b,o,rfl,hbl,hcc⟩:=H2.out.sl.get hlt
   have t1:ch[j]?=some ch[j]:=List.getElem?_eq_getElem hlt
   have e1:wr.cell? ⟨b,o+j,none⟩=some (.int .i64 ch[j]):=(HB.out.cell (p:=⟨b,o+j,none⟩) hbl).trans (hcc j _ (ints_get t1))
   have hxr:=HR.out ch[j] (List.getElem_mem hlt)
   have htk:Hid (rts10 s.xs (ch.take (j+1))=rts10 s.xs (ch.take j)++[if 0≤ch[j]∧s.xs≠[] then frW (objAt s.xs ch[j]) else 21]):=lh (by
    unfold rts10;rw[List.take_add_one,t1,List.map_append];rfl)
   generalize ch[j]=x at e1 hxr htk
   have hcj:j < cc:=by omega
   have HE1:=lh (And.intro hbl e1)
   obtain⟨A0,c0,rfl,hac⟩:=own_shape hown
   clear t1 hcc hown hbl
   by_cases hx0:0≤x
   ·by_cases hln:s.xs=[]
    ·have HT:Hid (rts10 s.xs (ch.take (j+1))=rts10 s.xs (ch.take j)++[21]):=lh (by rw[htk.out,if_neg (fun e=>e.2 hln)])
     have hd:decide (0 < s.xs.length)=false:=decide_eq_false (by rw[hln];simp)
     have hd2:decide ((0:Int) < (s.xs.length:Int))=false:=decide_eq_false (by rw[hln];simp)
     have m7:wr.cell? ⟨Nb,7,none⟩=some (.slice Ax s.xs.length cx):=HBX.out.cell 7
     clear htk hln
     go_upto_region 8 with fail
     obtain⟨w9,hw9⟩:∃ w9,w9=wr:=⟨_,rfl⟩
     have HO9:=HO
     have HB9:=HB
     have HBX9:=HBX
     rw[← hw9] at *
     clear hw9 m7 e1 HE1 HO HB HBX
     have hsz9:=HB9.out.size
     go_wp2_with (at_builtin;refine wpList_append_own_at _ rfl (.tmp 37) (.tmp 39) 31 rfl w.heap.size 54 i0 (.int .u64 0) 1 8 Tryz.underlying31 HI.out.1 HI.out.2.1 HI.out.2.2.1 HI.out.2.2.2 rfl (by decide) _ j _ rfl (HO9.out.alloc _) ⟨w9.heap.size,0,none⟩ 1 1 [.int .u64 21] rfl rfl (cell_one_new _ _ _) (by simp[Value.oneCell']) (by unfold maxLen;omega) (by omega) (by simp;omega) ?_;intro v' w3 hown3 hg3 _ hloc;have HOWN3:=lh hown3;have HG3:=lh hg3;clear hown3 hg3 hloc)
     go_roundw
     case rel =>
      refine⟨j+1,by go_num,by omega,?_,?_,?_⟩
      ·rw[HT.out,show wds (rts10 s.xs (ch.take j)++[21])=wds (rts10 s.xs (ch.take j))++[.int .u64 21] by simp[wds]];exact HOWN3.out
      ·exact(HB9.out.alloc (by have:=HB9.out.size;omega) _).grown HG3.out (by have:=HB9.out.size;simp;omega) (fun k hk=>(HO9.out.lt k hk).1)
      ·exact(HBX9.out.alloc _).grown HG3.out (fun e=>ownRow_bk HO9.out HBX9.out (by decide) e.symm)
     case measure=>simp[intOf];omega
    ·have hlp:0 < s.xs.length:=List.length_pos_iff.2 hln
     have HT0:Hid (rts10 s.xs (ch.take (j+1))=rts10 s.xs (ch.take j)++[frW (objAt s.xs x)]):=lh (by rw[htk.out,if_pos ⟨hx0,hln⟩])
     have m7:wr.cell? ⟨Nb,7,none⟩=some (.slice Ax s.xs.length cx):=HBX.out.cell 7
     have hd:decide (0 < s.xs.length)=true:=decide_eq_true hlp
     clear htk hln
     go_upto_region 7 with fail
     have cP:=fun n=>Pick10_any (w:=wr.drewN n) (IS.below (H.out.below HB.out) (below_drewN (Below.refl _ wr) n)) hl x hxr
     have cF:=fun w=>RFromAddress_any (objAt s.xs x) w
     unfold frA at cF
     obtain⟨y,er,hy1,hy2⟩:∃ y er,frW (objAt s.xs x)=y∧(if inA (objAt s.xs x)=true then Value.tuple #[.int .u64 (adW (objAt s.xs x)),.int .i64 0] else .tuple #[.int .u64 0,.int .i64 2])=.tuple #[.int .u64 y,.int .i64 er]:=by
      unfold frW
      cases inA (objAt s.xs x) with
      | true=>exact⟨_,_,rfl,rfl⟩
      | false=>exact⟨_,_,rfl,rfl⟩
     have HT:Hid (rts10 s.xs (ch.take (j+1))=rts10 s.xs (ch.take j)++[y]):=lh (by rw[HT0.out,hy1])
     simp only[hy2] at cF
     clear hy1 hy2 HT0
     go_quiet (first | (go_at_call 47;exact Calls.quiet_of_same ((cP _).mono fun _ _ h=>⟨h.1,h.2.symm⟩)) | (go_at_call 19;exact Calls.quiet_of_same ((cF _).mono fun _ _ h=>⟨h.1,h.2.symm⟩)))
     have hbq:=below_drewN (Below.refl wr.heap.size wr) nq
     have HO9:=lh (own_local HO.out fun k hk=>hbq.block k (HO.out.lt k hk).2)
     have HB9:=lh (HB.out.trans (hbq.mono HB.out.size))
     have HBX9:=lh (HBX.out.below hbq HBX.out.lt)
     clear hbq cP cF m7 e1 HE1 HO HB HBX
     generalize wr.drewN nq=w9 at *
     have hsz9:=HB9.out.size
     go_wp2_with (at_builtin;refine wpList_append_own_at _ rfl (.tmp 37) (.tmp 39) 31 rfl w.heap.size 54 i0 (.int .u64 0) 1 8 Tryz.underlying31 HI.out.1 HI.out.2.1 HI.out.2.2.1 HI.out.2.2.2 rfl (by decide) _ j _ rfl (HO9.out.alloc _) ⟨w9.heap.size,0,none⟩ 1 1 [.int .u64 y] rfl rfl (cell_one_new _ _ _) (by simp[Value.oneCell']) (by unfold maxLen;omega) (by omega) (by simp;omega) ?_;intro v' w3 hown3 hg3 _ hloc;have HOWN3:=lh hown3;have HG3:=lh hg3;clear hown3 hg3 hloc)
     go_roundw
     case rel =>
      refine⟨j+1,by go_num,by omega,?_,?_,?_⟩
      ·rw[HT.out,show wds (rts10 s.xs (ch.take j)++[y])=wds (rts10 s.xs (ch.take j))++[.int .u64 y] by simp[wds]];exact HOWN3.out
      ·exact(HB9.out.alloc (by have:=HB9.out.size;omega) _).grown HG3.out (by have:=HB9.out.size;simp;omega) (fun k hk=>(HO9.out.lt k hk).1)
      ·exact(HBX9.out.alloc _).grown HG3.out (fun e=>ownRow_bk HO9.out HBX9.out (by decide) e.symm)
     case measure=>simp[intOf];omega
   ·have HT:Hid (rts10 s.xs (ch.take (j+1))=rts10 s.xs (ch.take j)++[21]):=lh (by rw[htk.out,if_neg (fun e=>hx0 e.1)])
    clear htk
    go_upto_region 8 with fail
    obtain⟨w9,hw9⟩:∃ w9,w9=wr:=⟨_,rfl⟩
    have HO9:=HO
    have HB9:=HB
    have HBX9:=HBX
    rw[← hw9] at *
    clear hw9 e1 HE1 HO HB HBX
    have hsz9:=HB9.out.size
    go_wp2_with (at_builtin;refine wpList_append_own_at _ rfl (.tmp 37) (.tmp 39) 31 rfl w.heap.size 54 i0 (.int .u64 0) 1 8 Tryz.underlying31 HI.out.1 HI.out.2.1 HI.out.2.2.1 HI.out.2.2.2 rfl (by decide) _ j _ rfl (HO9.out.alloc _) ⟨w9.heap.size,0,none⟩ 1 1 [.int .u64 21] rfl rfl (cell_one_new _ _ _) (by simp[Value.oneCell']) (by unfold maxLen;omega) (by omega) (by simp;omega) ?_;intro v' w3 hown3 hg3 _ hloc;have HOWN3:=lh hown3;have HG3:=lh hg3;clear hown3 hg3 hloc)
    go_roundw
    case rel =>
     refine⟨j+1,by go_num,by omega,?_,?_,?_⟩
     ·rw[HT.out,show wds (rts10 s.xs (ch.take j)++[21])=wds (rts10 s.xs (ch.take j))++[.int .u64 21] by simp[wds]];exact HOWN3.out
     ·exact(HB9.out.alloc (by have:=HB9.out.size;omega) _).grown HG3.out (by have:=HB9.out.size;simp;omega) (fun k hk=>(HO9.out.lt k hk).1)
     ·exact(HBX9.out.alloc _).grown HG3.out (fun e=>ownRow_bk HO9.out HBX9.out (by decide) e.symm)
    case measure=>simp[intOf];omega
  ·obtain⟨A0,c0,rfl,hac⟩:=own_shape hown
   clear hown
   go_wp2_with fail
   go_ret
   have e:j=ch.length:=by omega
   have ho:=HO.out
   rw[e,List.take_of_length_le (Nat.le_refl _)] at ho
   refine⟨_,rfl,?_,HB.out⟩
   have e2:(rts10 s.xs ch).length=ch.length:=by simp[rts10]
   rw[e2,e]
   exact ho
end
end
section
open Go.RowKit Go.Sort
attribute [local go_sem] Oper.semAt_some onlyN_normal
section
variable {w:World} {A:Option Addr} {c:Nat}
theorem R10has_any {l:List Int} (h:IS w l A c) (hl:l.length≤140737488355328) (n:Int):Calls Tryz.prog 113 #[.slice A l.length c,.int .i64 n] w fun e w'=>e=.returned (.bool (l.contains n))∧w=w':=by
 have H:=lh h
 have hcap:=h.cap
 obtain⟨R,hR⟩:∃ R,R=l.contains n:=⟨_,rfl⟩
 rw[← hR]
 have HR:=lh hR
 clear h hR
 go_enter Tryz.func113,Tryz.ntmps113
 go_wp2_with fail
 go_loop [5] (fun i=>∃ j:Nat,i=.int .i64 (j:Int)∧j≤l.length∧(l.drop j).contains n=R) (fun i=>l.length - (intOf i).toNat)
 case atStart=>exact⟨0,rfl,Nat.zero_le _,by rw[List.drop_zero];exact HR.out.symm⟩
 case round =>
  obtain⟨j,rfl,hj,hc⟩:=hrel
  have HC:=lh hc
  clear hc
  by_cases hlt:j < l.length
  ·obtain⟨b,o,rfl,hbl,hcc⟩:=H.out.sl.get hlt
   have t1:l[j]?=some l[j]:=List.getElem?_eq_getElem hlt
   have e1:w.cell? ⟨b,o+j,none⟩=some (.int .i64 l[j]):=hcc j _ (ints_get t1)
   have hd:Hid (l.drop j=l[j]::l.drop (j+1)):=lh (List.drop_eq_getElem_cons hlt)
   generalize l[j]=x at e1 hd t1
   have hcj:j < c:=by omega
   clear t1 hcc
   by_cases hxy:x=n
   ·have hb:(x == n)=true:=by simp[hxy]
    have HX:=lh hxy
    clear hxy
    go_wp2_with fail
    go_ret
    refine⟨ret_bool ?_,rfl⟩
    rw[← HC.out,hd.out,HX.out]
    simp
   ·have hb:(x == n)=false:=by simp[hxy]
    have HX:=lh hxy
    clear hxy
    go_wp2_with fail
    go_round
    case rel =>
     refine⟨j+1,by go_num,by omega,?_⟩
     rw[← HC.out,hd.out,List.contains_cons,show(n == x)=false from beq_false_of_ne fun e=>HX.out e.symm,Bool.false_or]
    case measure=>simp[intOf];omega
  ·go_wp2_with fail
   go_ret
   refine⟨ret_bool ?_,rfl⟩
   rw[← HC.out,List.drop_eq_nil_of_le (by omega)]
   rfl
end
def rldP (o:Option (Option Int)):Value:=match o with
 | some none=>.tuple #[.int .i64 0,.bool false,.bool false]
 | none=>.tuple #[.int .i64 0,.bool false,.bool true]
 | some (some r)=>.tuple #[.int .i64 r,.bool true,.bool false]
section
variable {w:World} {m:Mm} {A1 A2:Option Addr} {c1 c2:Nat}
set_option maxHeartbeats 2000000 in
theorem Rleads_any (h:RM w m A1 c1 A2 c2) (ok:m.Ok) {x:Int} (hx:U64 x):Calls Tryz.prog 108 #[.agg (rmC m A1 c1 A2 c2),.int .u64 x] w fun e w'=>e=.returned (rldP (m.ld x))∧Below w.heap.size w w':=by
 have HB:=lh (boxR w m A1 c1 A2 c2)
 have HQ:=lh (Bk.new w 35 (rmC m A1 c1 A2 c2))
 have cA:=fun w=>RAddress_any hx w
 have cY:=fun w=>Young_any hx w
 have cR:=fun {w2:World} (hb:Below (w.alloc (.cells (rmC m A1 c1 A2 c2) 35)).heap.size (w.alloc (.cells (rmC m A1 c1 A2 c2) 35)) w2) (a:Int)=>RResolve_any ((h.below HB.out).below hb) ok a
 unfold adrV at cA
 unfold rmV at cR
 have hld:m.ld x=if ygW x=true then m.rfr x else some none:=rfl
 cases hy:ygW x with
 | false =>
  rw[hy] at hld cY
  have HR:=lh (show m.ld x=some none from hld)
  clear h hx hld hy
  go_enter Tryz.func108,Tryz.ntmps108
  go_wp2_with fail
  refine(cY _).mono ?_
  rintro e w1 ⟨rfl,rfl⟩
  go_wp2_with fail
  go_ret3
  rw[HR.out]
  exact⟨rfl,HB.out⟩
 | true =>
  rw[hy] at hld cY
  cases hd:adr x with
  | none=>unfold ygW at hy;rw[hd] at hy;cases hy
  | some a =>
   simp only[hd] at cA
   have hbad:=fun h=>resolve_bad (m:=m) (a:=a) h
   have cR:=fun {w2:World} hb=>cR (w2:=w2) hb a
   have hrf:m.rfr x=if (m.resolve a).2=0 then some (some (m.resolve a).1) else none:=by
    unfold Mm.rfr
    rw[hd]
   obtain⟨⟨r,er⟩,hr⟩:∃ q,q=m.resolve a:=⟨_,rfl⟩
   simp only[← hr] at cR hbad hrf
   by_cases he:er=0
   ·subst he
    have HR:=lh (show m.ld x=some (some r) from by rw[hld];simpa using hrf)
    clear h hx hld hy hr hd hbad hrf
    go_enter Tryz.func108,Tryz.ntmps108
    go_wp2_with fail
    refine(cY _).mono ?_
    rintro e w1 ⟨rfl,rfl⟩
    go_wp2_with fail
    refine(cA _).mono ?_
    rintro e w1 ⟨rfl,rfl⟩
    go_wp2_with fail
    refine(cR (Below.refl _ _)).mono ?_
    rintro e w2 ⟨rfl,hb⟩
    have HB2:=lh (HB.out.trans (hb.mono HB.out.size))
    clear hb
    go_wp2_with fail
    go_ret3
    rw[HR.out]
    exact⟨rfl,HB2.out⟩
   ·obtain rfl:=hbad he
    have HR:=lh (show m.ld x=none from by rw[hld];simpa [he] using hrf)
    have e1:(er == 0)=false:=by simp[he]
    have e2:(er != 0)=true:=by simp[he]
    clear h hx hld hy hr hd hbad hrf he
    go_enter Tryz.func108,Tryz.ntmps108
    go_wp2_with fail
    refine(cY _).mono ?_
    rintro e w1 ⟨rfl,rfl⟩
    go_wp2_with fail
    refine(cA _).mono ?_
    rintro e w1 ⟨rfl,rfl⟩
    go_wp2_with fail
    refine(cR (Below.refl _ _)).mono ?_
    rintro e w2 ⟨rfl,hb⟩
    have HB2:=lh (HB.out.trans (hb.mono HB.out.size))
    clear hb
    go_wp2_with fail
    go_ret3
    rw[HR.out]
    exact⟨rfl,HB2.out⟩
theorem Mm.slW_take (m:Mm) (a:Int) {j:Nat} (h:j < (slotN (m.hdr a).2).toNat):(m.slW a).take (j+1)=(m.slW a).take j++[(m.at_ (a+2+(j:Int))).getD 0]:=by
 have e:(m.slW a)[j]?=some ((m.at_ (a+2+(j:Int))).getD 0):=by unfold Mm.slW;rw[List.getElem?_map,List.getElem?_range h];rfl
 rw[List.take_add_one,e]
 rfl
theorem Mm.slW_len (m:Mm) (a:Int):(m.slW a).length=(slotN (m.hdr a).2).toNat:=by unfold Mm.slW;simp
set_option maxHeartbeats 4000000 in
theorem Rslots_nur (h:RM w m A1 c1 A2 c2) (ok:m.Ok) (a:Int):Calls Tryz.prog 82 #[.agg (rmC m A1 c1 A2 c2),.int .i64 a] w fun e w'=>∃ v,e=.returned v∧w'.ownsRow w.heap.size 54 1 v (m.slW a).length (wds (m.slW a))∧Below w.heap.size w w':=by
 have HB:=lh (boxR w m A1 c1 A2 c2)
 have HQ:=lh (Bk.new w 35 (rmC m A1 c1 A2 c2))
 have H0:=lh h
 have H:=lh (h.below HB.out)
 have cH:=RHeader_any H.out a
 unfold rmV hdrV Hdr.val at cH
 have hr:(m.hdr a).1=0→0≤a∧a≤4294967295:=fun e=>hdr_rg ok e
 have hvv:(m.hdr a).1=0→0≤(m.hdr a).2.f∧(m.hdr a).2.f≤30:=fun e=>by have:=vH_bound (Mm.hdr_valid e);omega
 have hz:(m.hdr a).1≠0→(m.hdr a).2=Hdr.zero:=Mm.hdr_zero
 have HST:=lh (fun(j:Nat) (hj:j < (slotN (m.hdr a).2).toNat)=>m.slW_take a hj)
 have hsl:=m.slW_len a
 obtain⟨L,hL⟩:∃ L,L=m.slW a:=⟨_,rfl⟩
 rw[← hL] at HST hsl ⊢
 obtain⟨nn,hnn⟩:∃ nn:Nat,nn=(slotN (m.hdr a).2).toNat:=⟨_,rfl⟩
 rw[← hnn] at HST hsl
 have HSL:=lh hsl
 have cS:=fun w=>RSlots_any (m.hdr a).2 w
 obtain⟨i0,hi,hz0,hz1,hz2⟩:=info_parts i_word
 have HI:=lh (And.intro hi (And.intro hz0 (And.intro hz1 hz2)))
 have hsn:slotN (m.hdr a).2=(nn:Int)∧nn≤30∧(0 < nn→0≤a∧a≤4294967295):=by
  by_cases e0:(m.hdr a).1=0
  ·have h1:=hvv e0
   have h2:=hr e0
   have:0≤slotN (m.hdr a).2∧slotN (m.hdr a).2≤30:=by unfold slotN;split <;> (try split) <;> omega
   omega
  ·have h1:=hz e0
   rw[h1] at hnn ⊢
   have:slotN Hdr.zero=0:=rfl
   omega
 rw[hsn.1] at cS
 have hld:∀ b,∃ er,atV (m.at_ b)=.tuple #[.int .u64 ((m.at_ b).getD 0),.int .i64 er]:=fun b=>by
  cases m.at_ b with
  | none=>exact⟨_,rfl⟩
  | some x=>exact⟨_,rfl⟩
 have HLD:=lh hld
 generalize (m.hdr a).1=er at *
 generalize (m.hdr a).2=hd at *
 obtain⟨hk,hc,hf⟩:=hd
 dsimp only at cH cS
 have hn30:=hsn.2.1
 have hra:=hsn.2.2
 clear h hr hvv hz hsl hL hnn hi hz0 hz1 hz2 hsn hld
 go_enter Tryz.func82,Tryz.ntmps82
 go_upto_region 1 with fail
 generalize w.alloc (.cells (rmC m A1 c1 A2 c2) 35)=w0 at *
 obtain⟨Nm,hNm⟩:∃ Nm,Nm=w.heap.size:=⟨_,rfl⟩
 rw[← hNm] at HQ ⊢
 have q0:w0.cell? ⟨Nm,0,none⟩=some (.int .i64 m.old.base):=HQ.out.cell 0
 have q1:w0.cell? ⟨Nm,1,none⟩=some (.int .i64 m.old.limit):=HQ.out.cell 1
 have q2:w0.cell? ⟨Nm,2,none⟩=some (.slice A1 m.old.ws.length c1):=HQ.out.cell 2
 have q3:w0.cell? ⟨Nm,3,none⟩=some (.int .i64 m.yng.base):=HQ.out.cell 3
 have q4:w0.cell? ⟨Nm,4,none⟩=some (.int .i64 m.yng.limit):=HQ.out.cell 4
 have q5:w0.cell? ⟨Nm,5,none⟩=some (.slice A2 m.yng.ws.length c2):=HQ.out.cell 5
 clear hNm
 go_wp2_with fail
 refine cH.mono ?_
 rintro e w1 ⟨rfl,hb⟩
 have hbx:=hb.trans ((((Below.refl w1.heap.size w1).alloc (Nat.le_refl _) (.cells #[.int .i64 hk,.int .i64 hc,.int .i64 hf] 58)).alloc (by simp) (.cells #[] 54)).mono hb.size)
 clear cH q0 q1 q2 q3 q4 q5
 go_upto_region 4 with fail
 have HQ1:=lh (HQ.out.below hbx HQ.out.lt)
 have H1:=lh (H.out.below hbx)
 have HB1:=lh (HB.out.trans (hbx.mono HB.out.size))
 have HH1:Hid (Bk ((w1.alloc (.cells #[.int .i64 hk,.int .i64 hc,.int .i64 hf] 58)).alloc (.cells #[] 54)) w1.heap.size 58 #[.int .i64 hk,.int .i64 hc,.int .i64 hf]):=lh ((Bk.new _ _ _).alloc _)
 have hw1:w.heap.size≤w1.heap.size:=Nat.le_trans HB.out.size hb.size
 have HE1:Hid (((w1.alloc (.cells #[.int .i64 hk,.int .i64 hc,.int .i64 hf] 58)).alloc (.cells #[] 54)).ownsRow w.heap.size 54 1 (.slice (some ⟨w1.heap.size+1,0,none⟩) 0 0) 0 (wds [])):=lh (ownEmpty 1 (Bk.here _ _ _ (by simp)) (by omega))
 clear hbx hb H HB HQ
 generalize (w1.alloc (.cells #[.int .i64 hk,.int .i64 hc,.int .i64 hf] 58)).alloc (.cells #[] 54)=w2 at *
 generalize w1.heap.size=Nh at *
 go_loopw [7,8] (fun v i wr=>∃ j:Nat,i=.int .i64 (j:Int)∧j≤nn∧wr.ownsRow w.heap.size 54 1 v j (wds (L.take j))∧Bk wr Nh 58 #[.int .i64 hk,.int .i64 hc,.int .i64 hf]∧Bk wr Nm 35 (rmC m A1 c1 A2 c2)∧Below w.heap.size w wr) (fun _ i _=>nn - (intOf i).toNat)
 case atStart=>exact⟨0,rfl,Nat.zero_le _,HE1.out,HH1.out,HQ1.out,HB1.out⟩
 case round =>
  clear HE1 HH1 HQ1 H1 HB1
  obtain⟨j,rfl,hj,hown,hbh,hbm,hb⟩:=hrel
  have HOW:=lh hown
  have HH:=lh hbh
  have HM:=lh hbm
  have HR:=lh (H0.out.below hb)
  have HB:=lh hb
  have c0:wr.cell? ⟨Nh,0,none⟩=some (.int .i64 hk):=hbh.cell 0
  have c1':wr.cell? ⟨Nh,1,none⟩=some (.int .i64 hc):=hbh.cell 1
  have c2':wr.cell? ⟨Nh,2,none⟩=some (.int .i64 hf):=hbh.cell 2
  obtain⟨A0,k0,rfl,hk0⟩:=own_shape hown
  clear hown hbh hbm hb
  go_wp2_with fail
  refine(cS _).mono ?_
  rintro e w3 ⟨rfl,hb⟩
  have hm3:=HM.out.below hb HM.out.lt
  have HM3:=lh hm3
  have HH3:=lh (HH.out.below hb HH.out.lt)
  have HR3:=lh (HR.out.below hb)
  have HB3:=lh (HB.out.trans (hb.mono HB.out.size))
  have HO3:=lh (own_local HOW.out fun k hk=>hb.block k (HOW.out.lt k hk).2)
  clear hb HM HH HR HB HOW c0 c1' c2'
  by_cases hlt:j < nn
  ·have hlI:(j:Int) < (nn:Int):=by omega
   have HS:=lh (HST.out j hlt)
   obtain⟨ra0,ra1⟩:=hra (by omega)
   have hwp:IntKind.i64.wrap (a+2)=a+2:=IntWalk.i64_in _ (by omega)
   have hwp2:IntKind.i64.wrap (a+2+(j:Int))=a+2+(j:Int):=IntWalk.i64_in _ (by omega)
   have cL:=RLoad_any HR3.out (a+2+(j:Int))
   obtain⟨ee,hee⟩:=HLD.out (a+2+(j:Int))
   rw[hee] at cL
   unfold rmV at cL
   generalize (m.at_ (a+2+(j:Int))).getD 0=x at cL HS
   have q0:w3.cell? ⟨Nm,0,none⟩=some (.int .i64 m.old.base):=hm3.cell 0
   have q1:w3.cell? ⟨Nm,1,none⟩=some (.int .i64 m.old.limit):=hm3.cell 1
   have q2:w3.cell? ⟨Nm,2,none⟩=some (.slice A1 m.old.ws.length c1):=hm3.cell 2
   have q3:w3.cell? ⟨Nm,3,none⟩=some (.int .i64 m.yng.base):=hm3.cell 3
   have q4:w3.cell? ⟨Nm,4,none⟩=some (.int .i64 m.yng.limit):=hm3.cell 4
   have q5:w3.cell? ⟨Nm,5,none⟩=some (.slice A2 m.yng.ws.length c2):=hm3.cell 5
   clear hee hm3
   go_wp2_with fail
   refine cL.mono ?_
   rintro e w4 ⟨rfl,hb⟩
   have HM4:=lh (HM3.out.below hb HM3.out.lt)
   have HH4:=lh (HH3.out.below hb HH3.out.lt)
   have HR4:=lh (HR3.out.below hb)
   have HB4:=lh (HB3.out.trans (hb.mono HB3.out.size))
   have HO4:=lh (own_local HO3.out fun k hk=>hb.block k (HO3.out.lt k hk).2)
   have hw4:=HB4.out.size
   clear hb cL HM3 HH3 HR3 HB3 HO3 q0 q1 q2 q3 q4 q5 hwp hwp2
   go_wp2_with (at_builtin;refine wpList_append_own_at _ rfl (.tmp 33) (.tmp 35) 31 rfl w.heap.size 54 i0 (.int .u64 0) 1 8 Tryz.underlying31 HI.out.1 HI.out.2.1 HI.out.2.2.1 HI.out.2.2.2 rfl (by decide) _ j _ rfl (HO4.out.alloc _) ⟨w4.heap.size,0,none⟩ 1 1 [.int .u64 x] rfl rfl (cell_one_new _ _ _) (by simp[Value.oneCell']) (by unfold maxLen;omega) (by omega) (by simp;omega) ?_;intro v' w5 hown3 hg3 _ hloc;have HO5:=lh hown3;have HG5:=lh hg3;clear hown3 hg3 hloc)
   go_roundw
   case rel =>
    have hoa:=HO4.out.alloc (.cells #[.int .u64 x] 54)
    have hba:Below w4.heap.size w4 (w4.alloc (.cells #[.int .u64 x] 54)):=(Below.refl _ _).alloc (Nat.le_refl _) _
    refine⟨j+1,by go_num,by omega,?_,?_,?_,?_⟩
    ·rw[HS.out,show wds (L.take j++[x])=wds (L.take j)++[.int .u64 x] by simp[wds]];exact HO5.out
    ·exact(HH4.out.alloc _).grown HG5.out fun e=>ownRow_bk hoa (HH4.out.alloc _) (by decide) e.symm
    ·exact(HM4.out.alloc _).grown HG5.out fun e=>ownRow_bk hoa (HM4.out.alloc _) (by decide) e.symm
    ·exact(HB4.out.alloc (by omega) _).grown HG5.out (by simp;omega) (fun k hk=>(HO4.out.lt k hk).1)
   case measure=>simp[intOf];omega
  ·have hlI:¬ (j:Int) < (nn:Int):=by omega
   have hO:=HO3.out
   rw[List.take_of_length_le (by have:=HSL.out;omega)] at hO
   have hjn:j=nn:=by omega
   rw[hjn] at hO
   have HO:=lh hO
   clear hO hm3
   go_wp2_with fail
   go_ret
   refine⟨_,rfl,?_,HB3.out⟩
   rw[HSL.out]
   exact HO.out
end
end
end Go.Proofs.YtaijmgkjbbiboaaGreat
