/- Parts of the proof: RSpace, Obj4. -/
import Derived.Deep.CutRange
import Derived.Outline
import Derived.OwnWalk
import Derived.Test.YtaijmgkjbbiboaaGreatPcA
import Derived.Test.YtaijmgkjbbiboaaGreatPc3
import Derived.Test.YtaijmgkjbbiboaaGreatPc5
set_option linter.unusedVariables false
set_option linter.unusedSimpArgs false
set_option linter.unusedSectionVars false
set_option maxRecDepth 100000
namespace Go.Proofs.YtaijmgkjbbiboaaGreat
section
open Go.RowKit Go.Sort
/-- the words of the space s lie in the slice A with capacity c -/
structure RS (w:World) (s:Spc) (A:Option Addr) (c:Nat):Prop where
 sl:Sl w 1 A s.ws.length (wds s.ws)
 cap:s.ws.length≤c
 u:∀ x∈s.ws,U64 x
 b0:0≤s.base
 lim:s.base+s.ws.length≤s.limit
 l0:s.limit≤4294967296
 lt:∀ b o,A=some ⟨b,o,none⟩→b < w.heap.size
def rsV (s:Spc) (A:Option Addr) (c:Nat):Value:=.agg #[.int .i64 s.base,.int .i64 s.limit,.slice A s.ws.length c]
theorem RS.below {w w':World} {s:Spc} {A:Option Addr} {c:Nat} (h:RS w s A c) (hb:Below w.heap.size w w'):RS w' s A c:=⟨h.sl.below hb,h.cap,h.u,h.b0,h.lim,h.l0,fun b o e=>Nat.lt_of_lt_of_le (h.lt b o e) hb.size⟩
section
variable {w:World} {s:Spc} {A:Option Addr} {c:Nat}
theorem boxS (w:World) (s:Spc) (A:Option Addr) (c:Nat):Below w.heap.size w (w.alloc (.cells #[.int .i64 s.base,.int .i64 s.limit,.slice A s.ws.length c] 33)):=(Below.refl _ _).alloc (Nat.le_refl _) _
theorem RTop_any (h:RS w s A c):Calls Tryz.prog 52 #[rsV s A c] w fun e w'=>e=.returned (.int .i64 s.top)∧Below w.heap.size w w':=by
 have b0:=h.b0
 have b1:=h.lim
 have b2:=h.l0
 have HB:=lh (boxS w s A c)
 clear h
 unfold Spc.top rsV
 go_enter Tryz.func52,Tryz.ntmps52
 go_wp2_with fail
 go_ret
 exact⟨rfl,HB.out⟩
theorem RContains_any (h:RS w s A c) (a:Int):Calls Tryz.prog 68 #[rsV s A c,.int .i64 a] w fun e w'=>e=.returned (.bool (s.has a))∧Below w.heap.size w w':=by
 have HB:=lh (boxS w s A c)
 have cT:=RTop_any (h.below HB.out)
 unfold Spc.top rsV at cT
 unfold rsV
 clear h
 by_cases h0:s.base≤a
 ·have hk:Hid (s.has a=decide (a < s.base+(s.ws.length:Int))):=lh (by unfold Spc.has;simp[h0])
  go_enter Tryz.func68,Tryz.ntmps68
  go_wp2_with fail
  refine cT.mono ?_
  rintro e w1 ⟨rfl,hb⟩
  have HB2:=lh (HB.out.trans (hb.mono HB.out.size))
  clear hb
  go_wp2_with fail
  go_ret
  exact⟨ret_bool hk.out.symm,HB2.out⟩
 ·have hk:Hid (s.has a=false):=lh (decide_eq_false (by omega))
  have h1:a < s.base:=by omega
  go_enter Tryz.func68,Tryz.ntmps68
  go_wp2_with fail
  go_ret
  exact⟨ret_bool hk.out.symm,HB.out⟩
set_option maxHeartbeats 1000000 in
theorem RSLoad_any (h:RS w s A c) (a:Int):Calls Tryz.prog 67 #[rsV s A c,.int .i64 a] w fun e w'=>e=.returned (ldV s a)∧Below w.heap.size w w':=by
 have HB:=lh (boxS w s A c)
 have cC:=RContains_any (h.below HB.out) a
 have HQ:=lh (Bk.new w 33 #[.int .i64 s.base,.int .i64 s.limit,.slice A s.ws.length c])
 unfold ldV
 unfold rsV at cC ⊢
 cases hh:s.has a with
 | false =>
  rw[Spc.at_none hh]
  simp only[hh] at cC ⊢
  clear hh h
  go_enter Tryz.func67,Tryz.ntmps67
  go_wp2_with fail
  refine cC.mono ?_
  rintro e w1 ⟨rfl,hb⟩
  have HB2:=lh (HB.out.trans (hb.mono HB.out.size))
  clear hb
  go_wp2_with fail
  go_ret2
  exact⟨rfl,HB2.out⟩
 | true =>
  obtain⟨i,hi,hil,x,hx,hat⟩:=Spc.at_some hh
  rw[hat]
  simp only[hh] at cC ⊢
  obtain⟨b,o,rfl,hbl,hcells⟩:=h.sl.get hil
  have b0:=h.b0
  have b1:=h.lim
  have b2:=h.l0
  have hle:=h.cap
  have HC:=lh (hcells i _ (wds_get hx))
  obtain rfl:a=s.base+i:=by omega
  have hw2:s.base+(i:Int) - s.base=(i:Int):=by omega
  have i1:i < c:=by omega
  clear h hh hat hcells hi hx
  go_enter Tryz.func67,Tryz.ntmps67
  go_wp2_with fail
  refine cC.mono ?_
  rintro e w1 ⟨rfl,hb⟩
  have HB2:=lh (HB.out.trans (hb.mono HB.out.size))
  have h1:=HQ.out.below hb HQ.out.lt
  have c0:w1.cell? ⟨w.heap.size,0,none⟩=some (.int .i64 s.base):=h1.cell 0
  have c2:w1.cell? ⟨w.heap.size,2,none⟩=some (.slice (some ⟨b,o,none⟩) s.ws.length c):=h1.cell 2
  have cx:w1.cell? ⟨b,o+i,none⟩=some (.int .u64 x):=((bcell HB2.out).1 _ _ hbl).trans HC.out
  clear hb h1
  go_wp2_with fail
  go_ret2
  exact⟨rfl,HB2.out⟩
end
end
section
open Go.RowKit Go.Sort
theorem i_u64:(Tryz.prog.info? 54).map (fun i=>(i.zero,i.size,i.bytes))=some (some (.int .u64 0),1,8):=by kernel_rfl
theorem wds_one (l:List Int):∀ u∈wds l,u.oneCell'=true:=by
 intro u hu
 obtain⟨x,_,rfl⟩:=List.mem_map.1 hu
 rfl
theorem RS.put {w w':World} {s:Spc} {A:Option Addr} {c:Nat} (h:RS w s A c) {x:Int} (hx:U64 x) {i:Nat} {A':Option Addr} {c':Nat} (hc:s.ws.length≤c') (hsl:Sl w' 1 A' s.ws.length ((wds s.ws).set i (.int .u64 x))) (hlt:∀ b o,A'=some ⟨b,o,none⟩→b < w'.heap.size):RS w' { s with ws:=s.ws.set i x } A' c':=by
 refine⟨?_,by simpa using hc,fun y hy=>?_,h.b0,by simpa using h.lim,h.l0,hlt⟩
 ·have:wds (s.ws.set i x)=(wds s.ws).set i (.int .u64 x):=by simp[wds,List.map_set]
  simp only[List.length_set]
  rw[this]
  exact hsl
 ·rcases List.mem_or_eq_of_mem_set hy with h1 | h1
  ·exact h.u y h1
  ·rw[h1];exact hx
theorem Sl.far {w:World} {s n b o:Nat} {xs:List Value} (h:Sl w s (some ⟨b,o,none⟩) n xs) {p:Addr} (hp:b≠p.block) (u:Value):Sl (w.setCell p u) s (some ⟨b,o,none⟩) n xs:=by
 refine⟨h.1,?_⟩
 rcases h.2 with h0 | ⟨b',o',e,hb,hc⟩
 ·exact .inl h0
 ·cases e
  exact .inr ⟨b,o,rfl,by simpa [World.setCell] using hb,fun j x hx=>cellFar u (hc j x hx) hp⟩
/-- a slice that came back lies where the old one lay, or in new memory -/
def Nw (H:Nat) (A A':Option Addr):Prop:=∀ b o,A'=some ⟨b,o,none⟩→A'=A ∨ H≤b
theorem Nw.refl (H:Nat) (A:Option Addr):Nw H A A:=fun _ _ _=>.inl rfl
theorem Nw.ge {H b o:Nat} (A:Option Addr) (h:H≤b):Nw H A (some ⟨b,o,none⟩):=fun _ _ e=>.inr (by cases e;exact h)
theorem Nw.mono {H H':Nat} {A A':Option Addr} (h:Nw H A A') (hh:H'≤H):Nw H' A A':=fun b o e=>(h b o e).imp id fun h1=>Nat.le_trans hh h1
theorem Nw.trans {H H':Nat} {A A' A'':Option Addr} (h:Nw H A A') (h':Nw H' A' A'') (hh:H≤H'):Nw H A A'':=fun b o e=>by
 rcases h' b o e with h1 | h1
 ·rw[h1] at e ⊢;exact h b o e
 ·exact .inr (Nat.le_trans hh h1)
theorem Nw.own {w:World} {H e s n m c:Nat} {A A':Option Addr} {xs:List Value} (h:w.ownsRow H e s (.slice A' m c) n xs):Nw H A A':=fun b o he=>by
 subst he
 exact .inr (h.lt b rfl).1
def RStP (w:World) (A0:Option Addr) (s:Spc) (r:Int) (e:Ending) (w':World):Prop:=∃ A c,e=.returned (.tuple #[rsV s A c,.int .i64 r])∧RS w' s A c∧Below w.heap.size w w'∧Nw w.heap.size A0 A
section
variable {w:World} {s:Spc} {A:Option Addr} {c:Nat}
set_option maxHeartbeats 2000000 in
theorem RSStore_any (h:RS w s A c) (a:Int) {x:Int} (hx:U64 x):Calls Tryz.prog 117 #[rsV s A c,.int .i64 a,.int .u64 x] w (RStP w A (s.put a x) (if s.has a=true then 0 else 2)):=by
 obtain⟨i9,hi9,hi0,hi1,hi2⟩:=info_parts i_u64
 have HI:=lh (And.intro hi9 (And.intro hi0 (And.intro hi1 hi2)))
 clear hi9 hi0 hi1 hi2
 have hb0:Below w.heap.size w ((w.alloc (.cells #[.int .i64 s.base,.int .i64 s.limit,.slice A s.ws.length c] 33)).alloc (.cells #[.int .i64 0,.int .i64 0,.slice none 0 0] 33)):=((Below.refl _ _).alloc (Nat.le_refl _) _).alloc (by simp) _
 have HB:=lh hb0
 have cC:=RContains_any (h.below hb0) a
 have HQ:Hid (Bk ((w.alloc (.cells #[.int .i64 s.base,.int .i64 s.limit,.slice A s.ws.length c] 33)).alloc (.cells #[.int .i64 0,.int .i64 0,.slice none 0 0] 33)) w.heap.size 33 #[.int .i64 s.base,.int .i64 s.limit,.slice A s.ws.length c]):=lh ((Bk.new _ _ _).alloc _)
 have HZ:Hid (Bk ((w.alloc (.cells #[.int .i64 s.base,.int .i64 s.limit,.slice A s.ws.length c] 33)).alloc (.cells #[.int .i64 0,.int .i64 0,.slice none 0 0] 33)) (w.heap.size+1) 33 #[.int .i64 0,.int .i64 0,.slice none 0 0]):=lh (Bk.here _ _ _ (by simp))
 unfold Spc.put
 unfold rsV at cC ⊢
 have H:=lh h
 have hl1:=h.lim
 have hl2:=h.l0
 have hl0:=h.b0
 cases hh:s.has a with
 | false =>
  simp only[hh,Bool.false_eq_true,if_false] at cC ⊢
  clear hh h hb0
  go_enter Tryz.func117,Tryz.ntmps117
  go_wp2_with fail
  refine cC.mono ?_
  rintro e w1 ⟨rfl,hb⟩
  have HB2:=lh (HB.out.trans (hb.mono HB.out.size))
  have q1:=HQ.out.below hb HQ.out.lt
  have z1:=HZ.out.below hb HZ.out.lt
  have c0:w1.cell? ⟨w.heap.size,0,none⟩=some (.int .i64 s.base):=q1.cell 0
  have c1:w1.cell? ⟨w.heap.size,1,none⟩=some (.int .i64 s.limit):=q1.cell 1
  have c2:w1.cell? ⟨w.heap.size,2,none⟩=some (.slice A s.ws.length c):=q1.cell 2
  have d0:w1.cell? ⟨w.heap.size+1,0,none⟩=some (.int .i64 0):=z1.cell 0
  have d1:w1.cell? ⟨w.heap.size+1,1,none⟩=some (.int .i64 0):=z1.cell 1
  have d2:w1.cell? ⟨w.heap.size+1,2,none⟩=some (.slice none 0 0):=z1.cell 2
  have f0:w1.frozen? ⟨w.heap.size+1,0,none⟩=false:=z1.free 0
  have f1:w1.frozen? ⟨w.heap.size+1,1,none⟩=false:=z1.free 1
  have f2:w1.frozen? ⟨w.heap.size+1,2,none⟩=false:=z1.free 2
  clear hb q1 z1
  go_wp2_with fail
  refine bodyPost_ret (v:=.tuple #[.agg #[.int .i64 s.base,.int .i64 s.limit,.slice A s.ws.length c],.int .i64 2]) (by simp[results,Tryz.results117,go_sem,d0,d1,d2]) rfl ?_
  have hbb:=((HB2.out.setCell (p:=⟨w.heap.size+1,0,none⟩) (by simp) (.int .i64 s.base)).setCell (p:=⟨w.heap.size+1,1,none⟩) (by simp) (.int .i64 s.limit)).setCell (p:=⟨w.heap.size+1,2,none⟩) (by simp) (.slice A s.ws.length c)
  exact⟨A,c,rfl,H.out.below hbb,hbb,Nw.refl _ _⟩
 | true =>
  obtain⟨i,hi,hil,x0,hx0,hat⟩:=Spc.at_some hh
  simp only[hh,if_true] at cC ⊢
  have hSL:=lh h.sl
  have HX:=lh hx
  have HX0:=lh hx0
  obtain rfl:a=s.base+i:=by omega
  have hti:(s.base+(i:Int) - s.base).toNat=i:=by omega
  rw[hti]
  have hw2:s.base+(i:Int) - s.base=(i:Int):=by omega
  clear h hh hat hi hx0 hx hti hb0
  go_enter Tryz.func117,Tryz.ntmps117
  go_wp2_with fail
  refine cC.mono ?_
  rintro e w1 ⟨rfl,hb⟩
  have HB2:=lh (HB.out.trans (hb.mono HB.out.size))
  have q1:=HQ.out.below hb HQ.out.lt
  have z1:=HZ.out.below hb HZ.out.lt
  have Q1:=lh q1
  have Z1:=lh z1
  have c2:w1.cell? ⟨w.heap.size,2,none⟩=some (.slice A s.ws.length c):=q1.cell 2
  have hz1:=z1.lt
  have hz2:w.heap.size≠w1.heap.size:=by omega
  have hz3:w.heap.size < w1.heap.size:=by omega
  clear hb q1 z1
  go_upto_region 4 with (at_builtin;refine wpList_app rfl (.tmp 14) (.tmp 16) 31 rfl Tryz.underlying31 HI.out.1 HI.out.2.1 HI.out.2.2.1 HI.out.2.2.2 rfl (by decide) (v:=.slice (some ⟨w1.heap.size,0,none⟩) 0 0) (n:=0) (xs:=[]) (base:=w1.heap.size) rfl (ownEmpty 1 (Bk.new _ _ _) (Nat.le_refl _)) (A:=A) (m:=s.ws.length) (c:=c) (news:=wds s.ws) rfl ((hSL.out.below HB2.out).below ((Below.refl _ _).alloc (Nat.le_refl _) _)) (wds_one _) (by unfold maxLen;omega) (by omega) (by simp) ?_;intro v2 w2 hown hgr h4;simp only[Nat.zero_add,List.nil_append] at hown;obtain⟨b,cap,rfl,hle,hbb,hblt,hsl⟩:=ownSls hown (by omega);have HOWN:=lh hown;have HGR:=lh hgr;have HSL2:=lh hsl;clear hown hgr h4 hsl)
  have c0':w2.cell? ⟨w.heap.size,0,none⟩=some (.int .i64 s.base):=((Q1.out.alloc _).grown HGR.out (by simp[Value.ownBlock] <;> omega)).cell 0
  have hx2:w2.cell? ⟨b,i,none⟩=some (.int .u64 x0):=by
   obtain⟨b',o',hA,_,hc⟩:=HSL2.out.get hil
   cases hA
   have:=hc i _ (wds_get HX0.out)
   rwa [Nat.zero_add] at this
  have hf2:w2.frozen? ⟨b,i,none⟩=false:=by
   obtain⟨_,⟨h2,_⟩ | ⟨g',cap',cur,hv,_,h4,_⟩⟩:=HOWN.out
   ·cases h2
   ·cases hv
    exact(show Bk w2 b _ cur from h4).free i
  have icap:i < cap:=by omega
  go_upto_region 5 with fail
  have hbb2:w1.heap.size≤b:=hbb
  have hgw:∀ k,k < w1.heap.size→some k≠(Value.slice (some ⟨w1.heap.size,0,none⟩) 0 0).ownBlock:=fun k hk e=>by simp[Value.ownBlock] at e;omega
  have hq3:Bk (w2.setCell ⟨b,i,none⟩ (.int .u64 x)) w.heap.size 33 #[.int .i64 s.base,.int .i64 s.limit,.slice A s.ws.length c]:=((Q1.out.alloc _).grown HGR.out (hgw _ hz3)).far (by show w.heap.size≠b;omega) _
  have hz3':Bk (w2.setCell ⟨b,i,none⟩ (.int .u64 x)) (w.heap.size+1) 33 #[.int .i64 0,.int .i64 0,.slice none 0 0]:=((Z1.out.alloc _).grown HGR.out (hgw _ hz1)).far (by show w.heap.size+1≠b;omega) _
  have hsl3:Sl (w2.setCell ⟨b,i,none⟩ (.int .u64 x)) 1 (some ⟨b,0,none⟩) s.ws.length ((wds s.ws).set i (.int .u64 x)):=by
   have:=ownSetAt HOWN.out hil (.int .u64 x)
   rw[Nat.zero_add] at this
   exact own_sl this
  have hbel:Below w.heap.size w (w2.setCell ⟨b,i,none⟩ (.int .u64 x)):=by
   have h1:Below w1.heap.size w1 (w1.alloc (.cells #[] 54)):=(Below.refl _ _).alloc (Nat.le_refl _) _
   have h2:Below w1.heap.size (w1.alloc (.cells #[] 54)) w2:=(Below.refl _ _).grown HGR.out (by simp) (fun k hk=>by simp[Value.ownBlock] at hk;omega)
   exact(HB2.out.trans ((h1.trans h2).mono HB2.out.size)).setCell (p:=⟨b,i,none⟩) (by show w.heap.size≤b;omega) _
  have hbl3:b < (w2.setCell ⟨b,i,none⟩ (.int .u64 x)).heap.size:=by simp[World.setCell];exact hblt
  obtain⟨w3,hw3⟩:∃ w3,w2.setCell ⟨b,i,none⟩ (.int .u64 x)=w3:=⟨_,rfl⟩
  rw[hw3] at hq3 hz3' hsl3 hbel hbl3 ⊢
  clear hw3 hx2 hf2 c0'
  have HSL3:=lh hsl3
  have HBL3:=lh hbel
  have q0:w3.cell? ⟨w.heap.size,0,none⟩=some (.int .i64 s.base):=hq3.cell 0
  have q1:w3.cell? ⟨w.heap.size,1,none⟩=some (.int .i64 s.limit):=hq3.cell 1
  have q2:w3.cell? ⟨w.heap.size,2,none⟩=some (.slice A s.ws.length c):=hq3.cell 2
  have qf:w3.frozen? ⟨w.heap.size,2,none⟩=false:=hq3.free 2
  have d0:w3.cell? ⟨w.heap.size+1,0,none⟩=some (.int .i64 0):=hz3'.cell 0
  have d1:w3.cell? ⟨w.heap.size+1,1,none⟩=some (.int .i64 0):=hz3'.cell 1
  have d2:w3.cell? ⟨w.heap.size+1,2,none⟩=some (.slice none 0 0):=hz3'.cell 2
  have f0:w3.frozen? ⟨w.heap.size+1,0,none⟩=false:=hz3'.free 0
  have f1:w3.frozen? ⟨w.heap.size+1,1,none⟩=false:=hz3'.free 1
  have f2:w3.frozen? ⟨w.heap.size+1,2,none⟩=false:=hz3'.free 2
  clear hq3 hz3' hsl3 hbel
  go_wp2_with fail
  refine bodyPost_ret (v:=.tuple #[.agg #[.int .i64 s.base,.int .i64 s.limit,.slice (some ⟨b,0,none⟩) s.ws.length cap],.int .i64 0]) (by simp[results,Tryz.results117,go_sem,d0,d1,d2]) rfl ?_
  have hbb:=(((HBL3.out.setCell (p:=⟨w.heap.size,2,none⟩) (by simp) (.slice (some ⟨b,0,none⟩) s.ws.length cap)).setCell (p:=⟨w.heap.size+1,0,none⟩) (by simp) (.int .i64 s.base)).setCell (p:=⟨w.heap.size+1,1,none⟩) (by simp) (.int .i64 s.limit)).setCell (p:=⟨w.heap.size+1,2,none⟩) (by simp) (.slice (some ⟨b,0,none⟩) s.ws.length cap)
  refine⟨some ⟨b,0,none⟩,cap,by simp[rsV],?_,hbb,Nw.ge _ (by omega)⟩
  refine RS.put H.out HX.out hle ?_ (fun b' o' e=>by cases e;simpa [World.setCell] using hbl3)
  exact(((HSL3.out.far (by show b≠w.heap.size;omega) _).far (by show b≠w.heap.size+1;omega) _).far (by show b≠w.heap.size+1;omega) _).far (by show b≠w.heap.size+1;omega) _
end
end
section
open Go.RowKit Go.Sort
/-- a store past the barrier: the error, the memory, the cards -/
def bst (m:Mm) (cs:List Int) (a i x:Int):Int × Mm × List Int :=
 if m.fldE a i≠0 then (m.fldE a i,m,cs)
 else if m.old.has a=true∧ygW x=true then ((cardMark cs (a+2+i)).1,m.put (a+2+i) x,(cardMark cs (a+2+i)).2)
 else (0,m.put (a+2+i) x,cs)
theorem Mm.Ok.setF_ok {m:Mm} (h:m.Ok) {a i x:Int} (he:m.fldE a i=0):m.setF a i x=(0,m.put (a+2+i) x):=by
 obtain⟨h1,h2,h3,h4⟩:=Mm.fldE_ok he
 have hv:=Mm.hdr_valid h1
 have h5:=(wH_ge hv).2
 have h6:=(h.has_near h1 (j:=2+i) (by omega) (by omega)).1
 unfold Mm.setF
 rw[if_neg (by simp[he])]
 unfold Mm.store
 rw[show a+2+i=a+(2+i) by omega,if_pos h6]
section
variable {w w':World} {B g1 g2 gt b n:Nat} {V1 V2:Value} {m:Mm} {cs:List Int}
end
end
end Go.Proofs.YtaijmgkjbbiboaaGreat
