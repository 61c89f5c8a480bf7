/- Parts of the proof: New, Size, Walk, Objects. -/
import Derived.Deep.CutRange
import Derived.LoopIn
import Derived.LoopNIn
import Derived.Maps.AppendAt
import Derived.OwnWalkIn
import Derived.RangeFuncBound
import Derived.RangeFuncBox
import Derived.RangeFuncCalls
import Derived.RangeFuncLeaves
import Derived.RangeFuncNested
import Derived.Shelf.Abstract
import Derived.Shelf.RegionOpen
import Derived.TacticsInMore
import Derived.Test.YtaijmgkjbbiboaaGreatPcA
import Derived.Test.YtaijmgkjbbiboaaGreatPc13
set_option linter.unusedVariables false
set_option linter.unusedSimpArgs false
set_option linter.unusedSectionVars false
set_option maxRecDepth 100000
namespace Go.Proofs.YtaijmgkjbbiboaaGreat
section
open Go.RowKit Go.Sort
/-- a space without words -/
def Spc.new (b n:Int):Spc:=⟨b,b+n,[]⟩
def lim (l:Int):Int:=min (max l 0) 16777216
theorem lim_bound (l:Int):0≤lim l∧lim l≤16777216:=by unfold lim;omega
theorem run_max2 {P:Program} (ts:Array TypeId) (t:TypeId) (x y:Int) (w:World):(Builtin.max_ ts t #[.int .i64 x,.int .i64 y]).run P w=.ok (.int .i64 (max x y)) w:=by
 have h:(Builtin.max_ ts t #[.int .i64 x,.int .i64 y]).run P w=.ok (.int .i64 (if y > x then y else x)) w:=by
  simp[Builtin.max_,Builtin.max2]
 rw[h]
 congr 2
 split <;> omega
theorem run_min2 {P:Program} (ts:Array TypeId) (t:TypeId) (x y:Int) (w:World):(Builtin.min_ ts t #[.int .i64 x,.int .i64 y]).run P w=.ok (.int .i64 (min x y)) w:=by
 have h:(Builtin.min_ ts t #[.int .i64 x,.int .i64 y]).run P w=.ok (.int .i64 (if y < x then y else x)) w:=by
  simp[Builtin.min_,Builtin.min2]
 rw[h]
 congr 2
 split <;> omega
section
variable {w:World}
def NewP (w:World) (s:Spc) (e:Ending) (w':World):Prop:=∃ g,e=.returned (.pointer (some ⟨g,0,none⟩))∧SpR w' w.heap.size g s (.slice none 0 0)∧Below w.heap.size w w'
theorem SNew_any (b n:Int) (hb:b=0 ∨ b=16777216) (h0:0≤n) (h1:n≤16777216):Calls Tryz.prog 91 #[.int .i64 b,.int .i64 (b+n)] w (NewP w (Spc.new b n)):=by
 have hmx:∀ (ts:Array TypeId) (t:TypeId) (x y:Int) (w:World),(Builtin.max_ ts t #[.int .i64 x,.int .i64 y]).run Tryz.prog w=.ok (.int .i64 (max x y)) w:=run_max2
 have hmn:∀ (ts:Array TypeId) (t:TypeId) (x y:Int) (w:World),(Builtin.min_ ts t #[.int .i64 x,.int .i64 y]).run Tryz.prog w=.ok (.int .i64 (min x y)) w:=run_min2
 obtain⟨b',hb'⟩:∃ b',b'=max b 0:=⟨_,rfl⟩
 obtain⟨l',hl'⟩:∃ l',l'=min (b+n) (max (max b 0) 4294967296):=⟨_,rfl⟩
 have e1:=lh (show max b 0=b by omega)
 have e2:=lh (show max (min (b+n) (max b (max 0 4294967296))) (max b 0)=b+n by omega)
 have HB:=lh hb
 clear hb' hl' b' l' hb
 go_enter Tryz.func91,Tryz.ntmps91
 go_wp2_with fail
 go_ret
 refine⟨w.heap.size,rfl,⟨?_,⟨rfl,.inl ⟨rfl,rfl⟩⟩,Nat.le_refl _,(fun x hx=>by cases hx),?_,?_,?_⟩,(Below.refl _ _).alloc (Nat.le_refl _) _⟩
 ·rw[e2.out,e1.out]
  exact Bk.new w 123 #[.int .i64 b,.int .i64 (b+n),.slice none 0 0]
 ·show 0≤b;rcases HB.out with h | h <;> omega
 ·show b+0≤b+n;omega
 ·show b+n≤4294967296;rcases HB.out with h | h <;> omega
/-- an empty memory -/
def Mm.new (l:Int):Mm:=⟨Spc.new 0 (lim l),Spc.new 16777216 (lim l)⟩
theorem Mm.new_ok (l:Int):(Mm.new l).Ok:=by
 have:=lim_bound l
 refine⟨⟨(fun x hx=>by cases hx),Int.le_refl _,?_,?_⟩,⟨(fun x hx=>by cases hx),(by show(0:Int)≤16777216;decide),?_,?_⟩,rfl,?_,rfl⟩
 ·show(0:Int)+0≤0+lim l;omega
 ·show 0+lim l≤4294967296;omega
 ·show(16777216:Int)+0≤16777216+lim l;omega
 ·show 16777216+lim l≤4294967296;omega
 ·show 0+lim l≤16777216;omega
def ONewP (w:World) (m:Mm) (e:Ending) (w':World):Prop:=∃ g1 g2,e=.returned (memV g1 g2)∧MR w' w.heap.size g1 g2 (.slice none 0 0) (.slice none 0 0) m∧Below w.heap.size w w'
set_option maxHeartbeats 1000000 in
theorem ONew_any (l:Int):Calls Tryz.prog 42 #[.int .i64 l] w (ONewP w (Mm.new l)):=by
 have hmx:∀ (ts:Array TypeId) (t:TypeId) (x y:Int) (w:World),(Builtin.max_ ts t #[.int .i64 x,.int .i64 y]).run Tryz.prog w=.ok (.int .i64 (max x y)) w:=run_max2
 have hmn:∀ (ts:Array TypeId) (t:TypeId) (x y:Int) (w:World),(Builtin.min_ ts t #[.int .i64 x,.int .i64 y]).run Tryz.prog w=.ok (.int .i64 (min x y)) w:=run_min2
 obtain⟨l0,l1⟩:=lim_bound l
 have hok:=lh (Mm.new_ok l)
 have hl:=lh (show min (max l 0) 16777216=lim l from rfl)
 have HB:Hid (Below w.heap.size w (w.alloc (.cells #[.pointer none,.pointer none] 29))):=lh ((Below.refl _ _).alloc (Nat.le_refl _) _)
 have B0:=lh (Bk.new w 29 #[.pointer none,.pointer none])
 have c1:=fun w=>SNew_any (w:=w) 0 (lim l) (.inl rfl) l0 l1
 have c2:=fun w=>SNew_any (w:=w) 16777216 (lim l) (.inr rfl) l0 l1
 simp only[Int.zero_add] at c1
 unfold Mm.new
 obtain⟨n,hn⟩:∃ n,n=lim l:=⟨_,rfl⟩
 rw[← hn] at c1 c2 l0 l1 hl ⊢
 have hok2:Hid ((⟨Spc.new 0 n,Spc.new 16777216 n⟩:Mm).Ok):=by rw[hn];exact hok
 clear hn hok
 go_enter Tryz.func42,Tryz.ntmps42
 go_upto_region 2 with fail
 rw[hl.out]
 go_wp2_with fail
 refine(c1 _).mono ?_
 rintro e w1 ⟨g1,rfl,hs1,hb⟩
 have HB1:=lh (HB.out.trans (hb.mono HB.out.size))
 have B1:=lh (B0.out.below hb B0.out.lt)
 have HS1:=lh hs1
 clear hs1 hb
 go_wp2_with fail
 refine(c2 _).mono ?_
 rintro e w2 ⟨g2,rfl,hs2,hb⟩
 have HB2:=lh (HB1.out.trans (hb.mono HB1.out.size))
 have b2:=B1.out.below hb B1.out.lt
 have HS1':=lh (HS1.out.below hb)
 have HS2:=lh hs2
 have d0:w2.cell? ⟨w.heap.size,0,none⟩=some (.pointer none):=b2.cell 0
 have d1:w2.cell? ⟨w.heap.size,1,none⟩=some (.pointer none):=b2.cell 1
 have f0:w2.frozen? ⟨w.heap.size,0,none⟩=false:=b2.free 0
 have f1:w2.frozen? ⟨w.heap.size,1,none⟩=false:=b2.free 1
 have hg1:=HS1.out.hd.lt
 clear hs2 hb b2
 go_wp2_with fail
 have hbb:=(HB2.out.setCell (p:=⟨w.heap.size,0,none⟩) (Nat.le_refl _) (.pointer (some ⟨g1,0,none⟩))).setCell (p:=⟨w.heap.size,1,none⟩) (Nat.le_refl _) (.pointer (some ⟨g2,0,none⟩))
 have hge1:=HS1.out.ge
 have hge2:=HS2.out.ge
 simp only[World.size_alloc] at hge1
 refine bodyPost_ret (v:=.agg #[.pointer (some ⟨g1,0,none⟩),.pointer (some ⟨g2,0,none⟩)]) (by simp[results,Tryz.results42,go_sem,d0,d1]) rfl ⟨g1,g2,rfl,⟨?_,?_,hok2.out,by omega,fun k hk=>by cases hk⟩,hbb⟩
 ·exact⟨(HS1'.out.hd.far (p:=⟨w.heap.size,0,none⟩) (by show g1≠w.heap.size;omega) _).far (p:=⟨w.heap.size,1,none⟩) (by show g1≠w.heap.size;omega) _,⟨rfl,.inl ⟨rfl,rfl⟩⟩,by omega,HS1'.out.u,HS1'.out.b0,HS1'.out.lim,HS1'.out.l0⟩
 ·exact⟨(HS2.out.hd.far (p:=⟨w.heap.size,0,none⟩) (by show g2≠w.heap.size;omega) _).far (p:=⟨w.heap.size,1,none⟩) (by show g2≠w.heap.size;omega) _,⟨rfl,.inl ⟨rfl,rfl⟩⟩,by omega,HS2.out.u,HS2.out.b0,HS2.out.lim,HS2.out.l0⟩
theorem RSNew_any (b n:Int) (hb:b=0 ∨ b=16777216) (h0:0≤n) (h1:n≤16777216):Calls Tryz.prog 114 #[.int .i64 b,.int .i64 (b+n)] w fun e w'=>e=.returned (.agg #[.int .i64 b,.int .i64 (b+n),.slice none 0 0])∧Below w.heap.size w w':=by
 have hmx:∀ (ts:Array TypeId) (t:TypeId) (x y:Int) (w:World),(Builtin.max_ ts t #[.int .i64 x,.int .i64 y]).run Tryz.prog w=.ok (.int .i64 (max x y)) w:=run_max2
 have hmn:∀ (ts:Array TypeId) (t:TypeId) (x y:Int) (w:World),(Builtin.min_ ts t #[.int .i64 x,.int .i64 y]).run Tryz.prog w=.ok (.int .i64 (min x y)) w:=run_min2
 have e1:=lh (show max b 0=b by omega)
 have e2:=lh (show max (min (b+n) (max b (max 0 4294967296))) (max b 0)=b+n by omega)
 have HB:Hid (Below w.heap.size w (w.alloc (.cells #[.int .i64 0,.int .i64 0,.slice none 0 0] 33))):=lh ((Below.refl _ _).alloc (Nat.le_refl _) _)
 clear hb
 go_enter Tryz.func114,Tryz.ntmps114
 go_wp2_with fail
 rw[e2.out,e1.out]
 exact bodyPost_ret (v:=.agg #[.int .i64 b,.int .i64 (b+n),.slice none 0 0]) (by simp[results,Tryz.results114,go_sem]) rfl ⟨rfl,(Below.refl _ _).alloc (Nat.le_refl _) _⟩
def RMNewP (w:World) (m:Mm) (e:Ending) (w':World):Prop:=e=.returned (rmV m none 0 none 0)∧Below w.heap.size w w'
set_option maxHeartbeats 1000000 in
theorem RMNew_any (l:Int):Calls Tryz.prog 83 #[.int .i64 l] w (RMNewP w (Mm.new l)):=by
 have hmx:∀ (ts:Array TypeId) (t:TypeId) (x y:Int) (w:World),(Builtin.max_ ts t #[.int .i64 x,.int .i64 y]).run Tryz.prog w=.ok (.int .i64 (max x y)) w:=run_max2
 have hmn:∀ (ts:Array TypeId) (t:TypeId) (x y:Int) (w:World),(Builtin.min_ ts t #[.int .i64 x,.int .i64 y]).run Tryz.prog w=.ok (.int .i64 (min x y)) w:=run_min2
 obtain⟨l0,l1⟩:=lim_bound l
 have hl:=lh (show max 0 (min l 16777216)=lim l by unfold lim;omega)
 have HB:Hid (Below w.heap.size w (w.alloc (.cells #[.int .i64 0,.int .i64 0,.slice none 0 0,.int .i64 0,.int .i64 0,.slice none 0 0] 35))):=lh ((Below.refl _ _).alloc (Nat.le_refl _) _)
 have B0:=lh (Bk.new w 35 #[.int .i64 0,.int .i64 0,.slice none 0 0,.int .i64 0,.int .i64 0,.slice none 0 0])
 have c1:=fun w=>RSNew_any (w:=w) 0 (lim l) (.inl rfl) l0 l1
 have c2:=fun w=>RSNew_any (w:=w) 16777216 (lim l) (.inr rfl) l0 l1
 simp only[Int.zero_add] at c1
 unfold Mm.new
 obtain⟨n,hn⟩:∃ n,n=lim l:=⟨_,rfl⟩
 rw[← hn] at c1 c2 l0 l1 hl ⊢
 clear hn
 go_enter Tryz.func83,Tryz.ntmps83
 go_upto_region 2 with fail
 rw[hl.out]
 go_wp2_with fail
 refine(c1 _).mono ?_
 rintro e w1 ⟨rfl,hb⟩
 have HB1:=lh (HB.out.trans (hb.mono HB.out.size))
 have B1:=lh (B0.out.below hb B0.out.lt)
 clear hb
 go_wp2_with fail
 refine(c2 _).mono ?_
 rintro e w2 ⟨rfl,hb⟩
 have HB2:=lh (HB1.out.trans (hb.mono HB1.out.size))
 have b2:=B1.out.below hb B1.out.lt
 have d0:w2.cell? ⟨w.heap.size,0,none⟩=some (.int .i64 0):=b2.cell 0
 have d1:w2.cell? ⟨w.heap.size,1,none⟩=some (.int .i64 0):=b2.cell 1
 have d2:w2.cell? ⟨w.heap.size,2,none⟩=some (.slice none 0 0):=b2.cell 2
 have d3:w2.cell? ⟨w.heap.size,3,none⟩=some (.int .i64 0):=b2.cell 3
 have d4:w2.cell? ⟨w.heap.size,4,none⟩=some (.int .i64 0):=b2.cell 4
 have d5:w2.cell? ⟨w.heap.size,5,none⟩=some (.slice none 0 0):=b2.cell 5
 have f0:w2.frozen? ⟨w.heap.size,0,none⟩=false:=b2.free 0
 have f1:w2.frozen? ⟨w.heap.size,1,none⟩=false:=b2.free 1
 have f2:w2.frozen? ⟨w.heap.size,2,none⟩=false:=b2.free 2
 have f3:w2.frozen? ⟨w.heap.size,3,none⟩=false:=b2.free 3
 have f4:w2.frozen? ⟨w.heap.size,4,none⟩=false:=b2.free 4
 have f5:w2.frozen? ⟨w.heap.size,5,none⟩=false:=b2.free 5
 clear hb b2
 go_wp2_with fail
 have hbb:=(below_set3 (g:=w.heap.size) HB2.out (Nat.le_refl _) (.int .i64 0) (.int .i64 n) (.slice none 0 0))
 have hbb2:=((hbb.setCell (p:=⟨w.heap.size,3,none⟩) (Nat.le_refl _) (.int .i64 16777216)).setCell (p:=⟨w.heap.size,4,none⟩) (Nat.le_refl _) (.int .i64 (16777216+n))).setCell (p:=⟨w.heap.size,5,none⟩) (Nat.le_refl _) (.slice none 0 0)
 refine bodyPost_ret (v:=.agg #[.int .i64 0,.int .i64 n,.slice none 0 0,.int .i64 16777216,.int .i64 (16777216+n),.slice none 0 0]) (by simp[results,Tryz.results83,go_sem,d0,d1,d2,d3,d4,d5]) rfl ⟨?_,hbb2⟩
 unfold rmV Spc.new
 simp
theorem RM.new (w:World) (l:Int):RM w (Mm.new l) none 0 none 0 :=
 have ho:=(Mm.new_ok l).o
 have hy:=(Mm.new_ok l).y
 ⟨⟨Sl.nil _ _ _,Nat.le_refl _,ho.u,ho.b0,ho.lim,ho.l0,(fun _ _ e=>nomatch e)⟩,⟨Sl.nil _ _ _,Nat.le_refl _,hy.u,hy.b0,hy.lim,hy.l0,(fun _ _ e=>nomatch e)⟩⟩
theorem RC.new (w:World):RC w [] none 0:=⟨⟨Sl.nil _ _ _,Nat.le_refl _⟩,Nat.zero_le _,fun _=>⟨rfl,rfl⟩⟩
def CNewP (w:World) (e:Ending) (w':World):Prop:=∃ g b,e=.returned (.pointer (some ⟨g,0,none⟩))∧CR w' w.heap.size g b 0 []∧Below w.heap.size w w'
theorem CNew_any:Calls Tryz.prog 43 #[] w (CNewP w):=by
 have hmm:=@run_makeMap Tryz.prog
 have HM:=lh (MapT.made Tryz.prog 3 4 w)
 go_enter Tryz.func43,Tryz.ntmps43
 go_wp2_with fail
 go_ret
 exact⟨w.heap.size+1,w.heap.size,by simp,⟨Bk.here _ _ _ (by simp),(HM.out.block (Below.heap_alloc _ _ _ (by simp))).congr (fun x _=>by simp),by omega,Nat.le_refl _⟩,((Below.refl _ _).alloc (Nat.le_refl _) _).alloc (by simp) _⟩
end
end
section
open Go.RowKit Go.Sort
theorem Words_zero (w:World):Calls Tryz.prog 74 #[.agg #[.int .i64 0,.int .i64 0,.int .i64 0]] w fun e w'=>e=.returned (.int .i64 0)∧Below w.heap.size w w':=Words_any Hdr.zero w
section
variable {w:World} {B g:Nat} {s:Spc} {V:Value}
set_option maxHeartbeats 1000000 in
theorem size_short (h:SpR w B g s V) (i:Nat) (hi:s.ws.length < i+2) (hib:i≤s.ws.length):Calls Tryz.prog 112 #[.pointer (some ⟨g,0,none⟩),.int .i64 (i:Int)] w fun e w'=>e=.returned (.int .i64 0)∧Below w.heap.size w w':=by
 obtain⟨A,c,rfl,hle⟩:=own_shape h.own
 have b0:=h.b0
 have b1:=h.lim
 have b2:=h.l0
 have c2:w.cell? ⟨g,2,none⟩=some (.slice A s.ws.length c):=h.hd.cell 2
 have H:=lh h
 clear h
 go_enter Tryz.func112,Tryz.ntmps112
 go_wp2_with fail
 go_ret
 exact⟨rfl,Below.refl _ _⟩
set_option maxHeartbeats 1000000 in
theorem size_nd (h:SpR w B g s V) (i:Nat) (hi:i+2≤s.ws.length) {x v:Int} (hx:s.ws[i]?=some x) (hv:s.ws[i+1]?=some v) (hd:dH x=none):Calls Tryz.prog 112 #[.pointer (some ⟨g,0,none⟩),.int .i64 (i:Int)] w fun e w'=>e=.returned (.int .i64 0)∧Below w.heap.size w w':=by
 have hux:=h.u x (List.mem_of_getElem? hx)
 have huv:=h.u v (List.mem_of_getElem? hv)
 obtain⟨A,c,rfl,hle⟩:=own_shape h.own
 have b0:=h.b0
 have b1:=h.lim
 have b2:=h.l0
 have c2:w.cell? ⟨g,2,none⟩=some (.slice A s.ws.length c):=h.hd.cell 2
 have H:=lh h
 obtain⟨b,oo,rfl,hbl,hcells⟩:=(own_sl h.own).get (k:=i) (by omega)
 have cx:w.cell? ⟨b,oo+i,none⟩=some (.int .u64 x):=hcells i _ (wds_get hx)
 have CX:=lh cx
 have CV:=lh (show w.cell? ⟨b,oo+(i+1),none⟩=some (.int .u64 v) from hcells (i+1) _ (wds_get hv))
 have i1:i < c:=by omega
 have i2:i+1 < c:=by omega
 have i3:i < s.ws.length:=by omega
 have i4:i+1 < s.ws.length:=by omega
 have j3:(i:Int) < (s.ws.length:Int):=by omega
 have j4:(i:Int)+1 < (s.ws.length:Int):=by omega
 have cD:=fun w=>Decode_none hux hd w
 have cW:=fun w=>Words_zero w
 clear h hcells hx hv hux huv hd
 go_enter Tryz.func112,Tryz.ntmps112
 go_wp2_with fail
 refine(cD _).mono ?_
 rintro e w1 ⟨rfl,hb⟩
 have HB1:=lh hb
 have hsz:=hb.size
 have q2:=(Bk.new w1 58 #[.int .i64 0,.int .i64 0,.int .i64 0])
 have hB2:=hb.alloc hb.size (.cells #[.int .i64 0,.int .i64 0,.int .i64 0] 58)
 clear hb
 go_upto_region 4 with fail
 obtain⟨w2,hw2⟩:∃ w2,w1.alloc (.cells #[.int .i64 0,.int .i64 0,.int .i64 0] 58)=w2:=⟨_,rfl⟩
 rw[hw2] at q2 hB2 ⊢
 have HB2:=lh hB2
 have k0:=q2.cell 0
 have k1:=q2.cell 1
 have k2:=q2.cell 2
 simp only[List.getElem?_toArray,List.getElem?_cons_zero,List.getElem?_cons_succ] at k0 k1 k2
 clear hw2 q2 hB2
 go_wp2_with fail
 refine(cW _).mono ?_
 rintro e w3 ⟨rfl,hb⟩
 have HB3:=lh (HB2.out.trans (hb.mono HB2.out.size))
 have c23:w3.cell? ⟨g,2,none⟩=some (.slice (some ⟨b,oo,none⟩) s.ws.length c):=(H.out.below HB3.out).hd.cell 2
 have cv:w3.cell? ⟨b,oo+(i+1),none⟩=some (.int .u64 v):=((bcell HB3.out).1 _ _ hbl).trans CV.out
 clear hb k0 k1 k2
 go_wp2_with fail
 go_ret
 exact⟨rfl,HB3.out⟩
set_option maxHeartbeats 1000000 in
theorem size_id (h:SpR w B g s V) (i:Nat) (hi:i+2≤s.ws.length) {x v:Int} (hx:s.ws[i]?=some x) (hv:s.ws[i+1]?=some v) {hh:Hdr} (hd:dH x=some hh) (hz:dI v=Id.zero):Calls Tryz.prog 112 #[.pointer (some ⟨g,0,none⟩),.int .i64 (i:Int)] w fun e w'=>e=.returned (.int .i64 0)∧Below w.heap.size w w':=by
 have hux:=h.u x (List.mem_of_getElem? hx)
 have huv:=h.u v (List.mem_of_getElem? hv)
 obtain⟨A,c,rfl,hle⟩:=own_shape h.own
 have b0:=h.b0
 have b1:=h.lim
 have b2:=h.l0
 have c2:w.cell? ⟨g,2,none⟩=some (.slice A s.ws.length c):=h.hd.cell 2
 have H:=lh h
 obtain⟨b,oo,rfl,hbl,hcells⟩:=(own_sl h.own).get (k:=i) (by omega)
 have cx:w.cell? ⟨b,oo+i,none⟩=some (.int .u64 x):=hcells i _ (wds_get hx)
 have CX:=lh cx
 have CV:=lh (show w.cell? ⟨b,oo+(i+1),none⟩=some (.int .u64 v) from hcells (i+1) _ (wds_get hv))
 have i1:i < c:=by omega
 have i2:i+1 < c:=by omega
 have i3:i < s.ws.length:=by omega
 have i4:i+1 < s.ws.length:=by omega
 have j3:(i:Int) < (s.ws.length:Int):=by omega
 have j4:(i:Int)+1 < (s.ws.length:Int):=by omega
 have cD:=fun w=>Decode_some hux hd w
 have cW:=fun w=>Words_of hh w
 have hwb:=wH_bound hh
 have cI:=fun w=>DecodeID_zero huv hz w
 clear h hcells hx hv hux huv hd hz
 go_enter Tryz.func112,Tryz.ntmps112
 go_wp2_with fail
 refine(cD _).mono ?_
 rintro e w1 ⟨rfl,hb⟩
 have HB1:=lh hb
 have hsz:=hb.size
 have q2:=(Bk.new w1 58 #[.int .i64 hh.k,.int .i64 hh.c,.int .i64 hh.f])
 have hB2:=hb.alloc hb.size (.cells #[.int .i64 hh.k,.int .i64 hh.c,.int .i64 hh.f] 58)
 clear hb
 go_upto_region 4 with fail
 obtain⟨w2,hw2⟩:∃ w2,w1.alloc (.cells #[.int .i64 hh.k,.int .i64 hh.c,.int .i64 hh.f] 58)=w2:=⟨_,rfl⟩
 rw[hw2] at q2 hB2 ⊢
 have HB2:=lh hB2
 have k0:=q2.cell 0
 have k1:=q2.cell 1
 have k2:=q2.cell 2
 simp only[List.getElem?_toArray,List.getElem?_cons_zero,List.getElem?_cons_succ] at k0 k1 k2
 clear hw2 q2 hB2
 go_wp2_with fail
 refine(cW _).mono ?_
 rintro e w3 ⟨rfl,hb⟩
 have HB3:=lh (HB2.out.trans (hb.mono HB2.out.size))
 have c23:w3.cell? ⟨g,2,none⟩=some (.slice (some ⟨b,oo,none⟩) s.ws.length c):=(H.out.below HB3.out).hd.cell 2
 have cv:w3.cell? ⟨b,oo+(i+1),none⟩=some (.int .u64 v):=((bcell HB3.out).1 _ _ hbl).trans CV.out
 clear hb k0 k1 k2
 go_wp2_with fail
 refine(cI _).mono ?_
 rintro e w4 ⟨rfl,hb⟩
 have HB4:=lh (HB3.out.trans (hb.mono HB3.out.size))
 have c24:w4.cell? ⟨g,2,none⟩=some (.slice (some ⟨b,oo,none⟩) s.ws.length c):=(H.out.below HB4.out).hd.cell 2
 clear hb
 go_wp2_with fail
 go_ret
 exact⟨rfl,HB4.out⟩
set_option maxHeartbeats 1000000 in
theorem size_far (h:SpR w B g s V) (i:Nat) (hi:i+2≤s.ws.length) {x v:Int} (hx:s.ws[i]?=some x) (hv:s.ws[i+1]?=some v) {hh:Hdr} (hd:dH x=some hh) (hz:dI v≠Id.zero) (hn:s.ws.length < i+wH hh):Calls Tryz.prog 112 #[.pointer (some ⟨g,0,none⟩),.int .i64 (i:Int)] w fun e w'=>e=.returned (.int .i64 0)∧Below w.heap.size w w':=by
 have hux:=h.u x (List.mem_of_getElem? hx)
 have huv:=h.u v (List.mem_of_getElem? hv)
 obtain⟨A,c,rfl,hle⟩:=own_shape h.own
 have b0:=h.b0
 have b1:=h.lim
 have b2:=h.l0
 have c2:w.cell? ⟨g,2,none⟩=some (.slice A s.ws.length c):=h.hd.cell 2
 have H:=lh h
 obtain⟨b,oo,rfl,hbl,hcells⟩:=(own_sl h.own).get (k:=i) (by omega)
 have cx:w.cell? ⟨b,oo+i,none⟩=some (.int .u64 x):=hcells i _ (wds_get hx)
 have CX:=lh cx
 have CV:=lh (show w.cell? ⟨b,oo+(i+1),none⟩=some (.int .u64 v) from hcells (i+1) _ (wds_get hv))
 have i1:i < c:=by omega
 have i2:i+1 < c:=by omega
 have i3:i < s.ws.length:=by omega
 have i4:i+1 < s.ws.length:=by omega
 have j3:(i:Int) < (s.ws.length:Int):=by omega
 have j4:(i:Int)+1 < (s.ws.length:Int):=by omega
 have cD:=fun w=>Decode_some hux hd w
 have cW:=fun w=>Words_of hh w
 have hwb:=wH_bound hh
 obtain⟨pq,qq,hp,cI⟩:∃ p q:Int,Hid ((p == 0)=false)∧∀ w,Calls Tryz.prog 72 #[.int .u64 v] w fun e w'=>e=.returned (.agg #[.int .i64 p,.int .i64 q])∧Below w.heap.size w w' :=
  ⟨(dI v).m,(dI v).s,lh (by have h1:=(vI_iff _).1 (dI_ne hz);simp;omega),fun w=>DecodeID_any huv w⟩
 have hpo:=hp.out
 clear h hcells hx hv hux huv hd hz
 go_enter Tryz.func112,Tryz.ntmps112
 go_wp2_with fail
 refine(cD _).mono ?_
 rintro e w1 ⟨rfl,hb⟩
 have HB1:=lh hb
 have hsz:=hb.size
 have q2:=(Bk.new w1 58 #[.int .i64 hh.k,.int .i64 hh.c,.int .i64 hh.f])
 have hB2:=hb.alloc hb.size (.cells #[.int .i64 hh.k,.int .i64 hh.c,.int .i64 hh.f] 58)
 clear hb
 go_upto_region 4 with fail
 obtain⟨w2,hw2⟩:∃ w2,w1.alloc (.cells #[.int .i64 hh.k,.int .i64 hh.c,.int .i64 hh.f] 58)=w2:=⟨_,rfl⟩
 rw[hw2] at q2 hB2 ⊢
 have HB2:=lh hB2
 have k0:=q2.cell 0
 have k1:=q2.cell 1
 have k2:=q2.cell 2
 simp only[List.getElem?_toArray,List.getElem?_cons_zero,List.getElem?_cons_succ] at k0 k1 k2
 clear hw2 q2 hB2
 go_wp2_with fail
 refine(cW _).mono ?_
 rintro e w3 ⟨rfl,hb⟩
 have HB3:=lh (HB2.out.trans (hb.mono HB2.out.size))
 have c23:w3.cell? ⟨g,2,none⟩=some (.slice (some ⟨b,oo,none⟩) s.ws.length c):=(H.out.below HB3.out).hd.cell 2
 have cv:w3.cell? ⟨b,oo+(i+1),none⟩=some (.int .u64 v):=((bcell HB3.out).1 _ _ hbl).trans CV.out
 clear hb k0 k1 k2
 go_wp2_with fail
 refine(cI _).mono ?_
 rintro e w4 ⟨rfl,hb⟩
 have HB4:=lh (HB3.out.trans (hb.mono HB3.out.size))
 have c24:w4.cell? ⟨g,2,none⟩=some (.slice (some ⟨b,oo,none⟩) s.ws.length c):=(H.out.below HB4.out).hd.cell 2
 clear hb
 go_wp2_with fail
 go_ret
 exact⟨rfl,HB4.out⟩
set_option maxHeartbeats 1000000 in
theorem size_ok (h:SpR w B g s V) (i:Nat) (hi:i+2≤s.ws.length) {x v:Int} (hx:s.ws[i]?=some x) (hv:s.ws[i+1]?=some v) {hh:Hdr} (hd:dH x=some hh) (hz:dI v≠Id.zero) (hn:i+wH hh≤s.ws.length):Calls Tryz.prog 112 #[.pointer (some ⟨g,0,none⟩),.int .i64 (i:Int)] w fun e w'=>e=.returned (.int .i64 (wH hh))∧Below w.heap.size w w':=by
 have hux:=h.u x (List.mem_of_getElem? hx)
 have huv:=h.u v (List.mem_of_getElem? hv)
 obtain⟨A,c,rfl,hle⟩:=own_shape h.own
 have b0:=h.b0
 have b1:=h.lim
 have b2:=h.l0
 have c2:w.cell? ⟨g,2,none⟩=some (.slice A s.ws.length c):=h.hd.cell 2
 have H:=lh h
 obtain⟨b,oo,rfl,hbl,hcells⟩:=(own_sl h.own).get (k:=i) (by omega)
 have cx:w.cell? ⟨b,oo+i,none⟩=some (.int .u64 x):=hcells i _ (wds_get hx)
 have CX:=lh cx
 have CV:=lh (show w.cell? ⟨b,oo+(i+1),none⟩=some (.int .u64 v) from hcells (i+1) _ (wds_get hv))
 have i1:i < c:=by omega
 have i2:i+1 < c:=by omega
 have i3:i < s.ws.length:=by omega
 have i4:i+1 < s.ws.length:=by omega
 have j3:(i:Int) < (s.ws.length:Int):=by omega
 have j4:(i:Int)+1 < (s.ws.length:Int):=by omega
 have cD:=fun w=>Decode_some hux hd w
 have cW:=fun w=>Words_of hh w
 have hwb:=wH_bound hh
 obtain⟨pq,qq,hp,cI⟩:∃ p q:Int,Hid ((p == 0)=false)∧∀ w,Calls Tryz.prog 72 #[.int .u64 v] w fun e w'=>e=.returned (.agg #[.int .i64 p,.int .i64 q])∧Below w.heap.size w w' :=
  ⟨(dI v).m,(dI v).s,lh (by have h1:=(vI_iff _).1 (dI_ne hz);simp;omega),fun w=>DecodeID_any huv w⟩
 have hpo:=hp.out
 clear h hcells hx hv hux huv hd hz
 go_enter Tryz.func112,Tryz.ntmps112
 go_wp2_with fail
 refine(cD _).mono ?_
 rintro e w1 ⟨rfl,hb⟩
 have HB1:=lh hb
 have hsz:=hb.size
 have q2:=(Bk.new w1 58 #[.int .i64 hh.k,.int .i64 hh.c,.int .i64 hh.f])
 have hB2:=hb.alloc hb.size (.cells #[.int .i64 hh.k,.int .i64 hh.c,.int .i64 hh.f] 58)
 clear hb
 go_upto_region 4 with fail
 obtain⟨w2,hw2⟩:∃ w2,w1.alloc (.cells #[.int .i64 hh.k,.int .i64 hh.c,.int .i64 hh.f] 58)=w2:=⟨_,rfl⟩
 rw[hw2] at q2 hB2 ⊢
 have HB2:=lh hB2
 have k0:=q2.cell 0
 have k1:=q2.cell 1
 have k2:=q2.cell 2
 simp only[List.getElem?_toArray,List.getElem?_cons_zero,List.getElem?_cons_succ] at k0 k1 k2
 clear hw2 q2 hB2
 go_wp2_with fail
 refine(cW _).mono ?_
 rintro e w3 ⟨rfl,hb⟩
 have HB3:=lh (HB2.out.trans (hb.mono HB2.out.size))
 have c23:w3.cell? ⟨g,2,none⟩=some (.slice (some ⟨b,oo,none⟩) s.ws.length c):=(H.out.below HB3.out).hd.cell 2
 have cv:w3.cell? ⟨b,oo+(i+1),none⟩=some (.int .u64 v):=((bcell HB3.out).1 _ _ hbl).trans CV.out
 clear hb k0 k1 k2
 go_wp2_with fail
 refine(cI _).mono ?_
 rintro e w4 ⟨rfl,hb⟩
 have HB4:=lh (HB3.out.trans (hb.mono HB3.out.size))
 have c24:w4.cell? ⟨g,2,none⟩=some (.slice (some ⟨b,oo,none⟩) s.ws.length c):=(H.out.below HB4.out).hd.cell 2
 clear hb
 go_wp2_with fail
 go_ret
 exact⟨rfl,HB4.out⟩
theorem size_any (h:SpR w B g s V) (i:Nat) (hib:i≤s.ws.length):Calls Tryz.prog 112 #[.pointer (some ⟨g,0,none⟩),.int .i64 (i:Int)] w fun e w'=>e=.returned (.int .i64 (s.size i:Int))∧Below w.heap.size w w':=by
 by_cases hi:i+2≤s.ws.length
 ·have hx:s.ws[i]?=some (s.ws[i]'(by omega)):=List.getElem?_eq_getElem _
  have hv:s.ws[i+1]?=some (s.ws[i+1]'(by omega)):=List.getElem?_eq_getElem _
  generalize s.ws[i]'(by omega)=x at hx
  generalize s.ws[i+1]'(by omega)=v at hv
  unfold Spc.size
  simp only[hx,hv]
  cases hd:dH x with
  | none=>exact size_nd h i hi hx hv hd
  | some hh =>
   simp only[]
   by_cases hz:dI v=Id.zero
   ·rw[if_neg (by simp[hz])];exact size_id h i hi hx hv hd hz
   ·by_cases hn:i+wH hh≤s.ws.length
    ·rw[if_pos ⟨hz,hn⟩]
     have:=wH_bound hh
     rw[show(((wH hh).toNat:Nat):Int)=wH hh by omega]
     exact size_ok h i hi hx hv hd hz hn
    ·rw[if_neg (fun h=>hn h.2)];exact size_far h i hi hx hv hd hz (by omega)
 ·have:s.size i=0:=by
   have:=s.size_le i
   omega
  rw[this]
  exact size_short h i (by omega) hib
end
end
section
open Go.RowKit Go.Sort Go.Shelf
attribute [local go_sem] Oper.semAt_some
/-- what a walk yields from an index on -/
def Spc.rst (s:Spc) (i:Nat):List (Int × Bool):=(s.walkFrom i).1.map (fun(j:Nat)=>(s.base+(j:Int),true))++[(s.base+((s.walkFrom i).2:Int),false)]
theorem Spc.rst_zero (s:Spc) {i:Nat} (h:s.size i=0):s.rst i=[(s.base+(i:Int),false)]:=by unfold Spc.rst;rw[Spc.walkFrom_zero s h];rfl
theorem Spc.rst_pos (s:Spc) {i:Nat} (h:s.size i≠0):s.rst i=(s.base+(i:Int),true)::s.rst (i+s.size i):=by unfold Spc.rst;rw[Spc.walkFrom_pos s h];rfl
theorem grownBy_of_below {w w':World} (h:Below w.heap.size w w'):w.grownBy w' none:=⟨h.os,h.tape,h.output,h.size,fun k hk _=>h.block k hk⟩
theorem toW {n:Nat} {P:Program} {f:FuncId} {args:Array Value} {w:World} {R:Ending→World→Prop} (h:Calls P f args w R):CallsIn Fence.wide n P f args w R:=callsIn_wide.2 h
def enc2 (x:Int × Bool):Array Value:=#[.int .i64 x.1,.bool x.2]
/-- what the iterator reads: the space and the variable that leads to it -/
structure WQ (B g Bn:Nat) (s:Spc) (V:Value) (W:World):Prop where
 s:SpR W B g s V
 b:Bk W Bn 27 #[.pointer (some ⟨g,0,none⟩)]
theorem WQ.below {B g Bn:Nat} {s:Spc} {V:Value} {W W':World} (h:WQ B g Bn s V W) (hb:Below W.heap.size W W'):WQ B g Bn s V W':=⟨h.s.below hb,h.b.below hb h.b.lt⟩
theorem SpR.grown {B g:Nat} {s:Spc} {V:Value} {W W':World} {row:Option Nat} (h:SpR W B g s V) (hg:W.grownBy W' row) (h1:some g≠row) (h2:∀ k,V.ownBlock=some k→some k≠row):SpR W' B g s V :=
 ⟨h.hd.grown hg h1,own_local h.own fun k hk=>hg.block k (h.own.lt k hk).2 (h2 k hk),h.ge,h.u,h.b0,h.lim,h.l0⟩
theorem SpR.own_cells {B g:Nat} {s:Spc} {V:Value} {W:World} (h:SpR W B g s V) {k:Nat} (hk:V.ownBlock=some k):∃ cur,Bk W k 54 cur:=by
 obtain⟨_,⟨rfl,_⟩ | ⟨g',cap,cur,rfl,_,h4,_⟩⟩:=h.own
 ·cases hk
 ·injection hk with hk
  exact⟨cur,by rw[← hk];exact h4⟩
theorem WQ.putObj {B g Bn:Nat} {s:Spc} {V:Value} {W:World} (h:WQ B g Bn s V W) {l:Nat} {o o':Obj} (hl:W.heap[l]?=some o) (ho:o.isCells=false):WQ B g Bn s V (W.putObj l o'):=by
 have key:∀ k t cs,Bk W k t cs→some k≠some l:=fun k t cs hk e=>by
  injection e with e
  unfold Bk at hk
  rw[e,hl] at hk
  cases hk
  cases ho
 refine⟨h.s.grown (grownBy_putObj' W l o') (key _ _ _ h.s.hd) fun k hk=>?_,h.b.grown (grownBy_putObj' W l o') (key _ _ _ h.b)⟩
 obtain⟨cur,hc⟩:=h.s.own_cells hk
 exact key _ _ _ hc
set_option maxHeartbeats 2000000 in
theorem walk1_in {B g Bn:Nat} {s:Spc} {V:Value} (n:Nat) (hn:2≤n) (l:Nat) (J Jx:List (Int × Bool)→World→Prop) (W:World) (hW:WQ B g Bn s V W) (hJ:AbidesFrom W.heap.size J)
  (hY:∀ pre x W1,J pre W1→pre.length < (s.rst 0).length→YieldAt Fence.wide (n - 1) Tryz.prog l (enc2 x) W1 fun e W' =>
   (e=.returned (.bool true)∧J (pre++[x]) W'∧(WQ B g Bn s V W1→WQ B g Bn s V W')) ∨ (e=.returned (.bool false)∧Jx (pre++[x]) W'))
  (h0:J [] W) :
  CallsIn Fence.wide n Tryz.prog 111 #[.func (.yield l) #[] #[],.pointer (some ⟨Bn,0,none⟩)] W fun e W'=>(∃ v,e=.returned v)∧((∃ ys,ys=s.rst 0∧J ys W') ∨ (∃ pre,pre <+: s.rst 0∧Jx pre W')):=by
 have b0:=hW.s.b0
 have b1:=hW.s.lim
 have b2:=hW.s.l0
 have HW:=lh hW
 have HJ:=lh hJ
 have HY:=lh hY
 have H0:=lh h0
 have cN:W.cell? ⟨Bn,0,none⟩=some (.pointer (some ⟨g,0,none⟩)):=hW.b.cell 0
 have cS0:=toW (n:=n - 1) (size_any hW.s 0 (Nat.zero_le _))
 simp only[Int.natCast_zero,Int.ofNat_zero,Int.cast_ofNat_Int] at cS0
 clear hW hJ hY h0
 refine callsIn_of_wp Tryz.func111 rfl trivial ?_ rfl
 simp only[Tryz.ntmps111,List.size_toArray,List.length_cons,List.length_nil,Nat.reduceAdd,Nat.reduceSub,Array.replicate_succ,Array.replicate_zero,List.push_toArray,List.append_toArray,List.nil_append,List.cons_append]
 have h1n:1≤n:=by omega
 gi_wp2_with fail
 refine⟨trivial,cS0.mono ?_⟩
 rintro e w1 ⟨rfl,hb⟩
 have HB1:=lh (HW.out.below hb)
 have HJ1:=lh (HJ.out _ _ _ _ H0.out (grownBy_of_below hb) (fun r e=>by cases e))
 have HG1:=lh hb.size
 clear hb cN
 gi_wp2_with fail
 gi_loopw [3,4] (fun i nn wr=>∃ (idx:Nat) (pre:List (Int × Bool)),idx≤s.ws.length∧i=.int .i64 (idx:Int)∧nn=.int .i64 (s.size idx:Int)∧s.rst 0=pre++s.rst idx∧J pre wr∧WQ B g Bn s V wr) (fun i _ _=>s.ws.length - (intOf i).toNat)
 case atStart=>exact⟨0,[],Nat.zero_le _,rfl,rfl,rfl,HJ1.out,HB1.out⟩
 case round =>
  obtain⟨idx,pre,hidx,rfl,rfl,hrst,hJp,hbw⟩:=hrel
  have hr:wr.cell? ⟨Bn,0,none⟩=some (.pointer (some ⟨g,0,none⟩)):=hbw.b.cell 0
  have hr0:wr.cell? ⟨g,0,none⟩=some (.int .i64 s.base):=hbw.s.hd.cell 0
  have HBW:=lh hbw
  have HJP:=lh hJp
  have HR:=lh hrst
  clear hbw hJp hrst
  by_cases hz:s.size idx=0
  ·have HZ:=lh hz
   have hr1:=Spc.rst_zero s hz
   obtain⟨fn,tmps,assign,body,hy,hRd⟩:=HY.out pre (s.base+(idx:Int),false) wr HJP.out (by rw[HR.out,hr1];simp)
   unfold enc2 at hy
   dsimp only at hy
   have HR1:=lh (HR.out.trans (by rw[hr1]))
   simp only[hz]
   clear hr1 hz
   gi_wp2_with fail
   refine hRd.mono ?_
   rintro e W3 (⟨rfl,hJ3,hk3⟩ | ⟨rfl,hJx3⟩)
   ·gi_wp2_with fail
    go_end0
    exact⟨⟨_,rfl⟩,.inl ⟨_,rfl,by rw[HR1.out];exact hJ3⟩⟩
   ·gi_wp2_with fail
    go_end0
    exact⟨⟨_,rfl⟩,.inr ⟨_,by rw[HR1.out];exact List.prefix_refl _,hJx3⟩⟩
  ·have HZ:=lh hz
   have hsz:=s.size_le idx
   obtain⟨hs4,hs5,hs6⟩:4≤s.size idx∧idx+s.size idx≤s.ws.length∧s.size idx≤32:=by omega
   have hr1:=Spc.rst_pos s hz
   obtain⟨fn,tmps,assign,body,hy,hRd⟩:=HY.out pre (s.base+(idx:Int),true) wr HJP.out (by rw[HR.out,hr1];simp)
   unfold enc2 at hy
   dsimp only at hy
   have HR1:Hid (s.rst 0=(pre++[(s.base+(idx:Int),true)])++s.rst (idx+s.size idx)):=lh (HR.out.trans (by rw[hr1];simp))
   obtain⟨sz,hszE⟩:∃ sz,sz=s.size idx:=⟨_,rfl⟩
   rw[← hszE] at hs4 hs5 hs6 HR1 ⊢
   clear hr1 hz hsz hszE
   gi_wp2_with fail
   refine hRd.mono ?_
   rintro e W3 (⟨rfl,hJ3,hk3⟩ | ⟨rfl,hJx3⟩)
   ·have HB3:=lh (hk3 HBW.out)
    have HJ3:=lh hJ3
    have cS:=toW (n:=n - 1) (size_any HB3.out.s (idx+sz) hs5)
    have hr:W3.cell? ⟨Bn,0,none⟩=some (.pointer (some ⟨g,0,none⟩)):=HB3.out.b.cell 0
    simp only[Int.natCast_add] at cS
    clear hJ3 hk3
    gi_wp2_with fail
    refine⟨trivial,cS.mono ?_⟩
    rintro e w4 ⟨rfl,hb⟩
    have HJ4:=lh (HJ.out _ _ _ _ HJ3.out (grownBy_of_below hb) (fun r e=>by cases e))
    have HB4:=lh (HB3.out.below hb)
    clear hb
    gi_wp2_with fail
    go_roundw
    case rel=>exact⟨idx+sz,_,hs5,by simp,rfl,HR1.out,HJ4.out,HB4.out⟩
    case measure=>simp[intOf];omega
   ·gi_wp2_with fail
    refine bodyPost_ret (results_none rfl _ _ _) rfl ?_
    exact⟨⟨_,rfl⟩,.inr ⟨_,⟨_,HR1.out.symm⟩,hJx3⟩⟩
theorem walk_stops {B g Bn:Nat} {s:Spc} {V:Value} (n:Nat) (hn:2≤n) (w:World) (h:WQ B g Bn s V w) :
  SeqStopsK Fence.wide n Tryz.prog 111 #[.pointer (some ⟨Bn,0,none⟩)] enc2 (fun X Y=>WQ B g Bn s V X→WQ B g Bn s V Y) (fun ys=>ys=s.rst 0) (fun pre=>pre <+: s.rst 0) (s.rst 0).length w :=
 fun l J Jx W hW hJ _ hY h0=>walk1_in n hn l J Jx W (h.below hW) hJ hY h0
theorem walk_any (g:Nat) (w:World):Calls Tryz.prog 80 #[.pointer (some ⟨g,0,none⟩)] w fun e w'=>e=.returned (.func (.func 111) #[] #[.pointer (some ⟨w.heap.size,0,none⟩)])∧w.alloc (.cells #[.pointer (some ⟨g,0,none⟩)] 27)=w':=by
 go_enter Tryz.func80,Tryz.ntmps80
 go_wp2_with fail
 go_ret
 exact⟨rfl,rfl⟩
end
section
open Go.RowKit Go.Sort Go.Shelf
attribute [local go_sem] Oper.semAt_some
theorem Spc.walkN_length (s:Spc):∀ f i,(s.walkN f i).1.length≤f
 | 0,i=>Nat.le_refl _
 | f+1,i=>by
  unfold Spc.walkN
  split
  ·simp
  ·have:=Spc.walkN_length s f (i+s.size i)
   simp
   exact this
theorem Spc.rst_length (s:Spc):(s.rst 0).length≤s.ws.length+1:=by
 have:=Spc.walkN_length s s.ws.length 0
 unfold Spc.rst Spc.walkFrom
 simp
 exact this
/-- the addresses of the objects among what has come -/
def objF (pre:List (Int × Bool)):List Int:=(pre.filter (·.2)).map (·.1)
theorem objF_hit (pre:List (Int × Bool)) (a:Int):objF (pre++[(a,true)])=objF pre++[a]:=by simp[objF]
theorem objF_miss (pre:List (Int × Bool)) (a:Int):objF (pre++[(a,false)])=objF pre:=by simp[objF]
theorem objF_length (pre:List (Int × Bool)):(objF pre).length≤pre.length:=by simp[objF];exact List.length_filter_le _ _
theorem objF_rst (s:Spc):objF (s.rst 0)=s.objs:=by
 unfold Spc.rst Spc.objs Spc.walk objF
 rw[List.filter_append,List.map_append]
 have h1:((s.walkFrom 0).1.map (fun(j:Nat)=>(s.base+(j:Int),true))).filter (·.2)=(s.walkFrom 0).1.map (fun(j:Nat)=>(s.base+(j:Int),true)):=List.filter_eq_self.2 fun x hx=>by
  obtain⟨j,_,rfl⟩:=List.mem_map.1 hx
  rfl
 rw[h1]
 simp[Spc.walkFrom]
theorem SpR.belowN {W W':World} {B g n₀:Nat} {s:Spc} {V:Value} (h:SpR W B g s V) (hb:Below n₀ W W') (h1:g < n₀) (h2:∀ k,V.ownBlock=some k→k < n₀):SpR W' B g s V :=
 ⟨h.hd.below hb h1,own_local h.own fun k hk=>hb.block k (h2 k hk),h.ge,h.u,h.b0,h.lim,h.l0⟩
theorem own_ne_type {W:World} {base size n g:Nat} {e t:TypeId} {v:Value} {xs:List Value} {cs:Array Value} (h:W.ownsRow base e size v n xs) (hk:Bk W g t cs) (ht:t≠e):some g≠v.ownBlock:=fun he=>by
 obtain⟨_,⟨rfl,_⟩ | ⟨g2,cap,cur,rfl,_,h4,_⟩⟩:=h
 ·cases he
 ·injection he with he
  change g=g2 at he
  rw[← he] at h4
  unfold Bk at hk
  rw[hk] at h4
  injection h4 with h4
  injection h4 with _ h4
  exact ht h4
section
variable {w:World} {B g:Nat} {s:Spc} {V:Value}
set_option maxHeartbeats 4000000 in
theorem Objects_in (n:Nat) (hn:5≤n) (h:SpR w B g s V) :
  CallsIn Fence.wide n Tryz.prog 36 #[.pointer (some ⟨g,0,none⟩)] w fun e W'=>∃ v,e=.returned v∧W'.ownsRow w.heap.size 3 1 v s.objs.length (ints s.objs)∧Below w.heap.size w W':=by
 have h1:1≤n:=by omega
 obtain⟨i0,hi,hz0,hz1,hz2⟩:=info_parts i_int
 have hrl:=s.rst_length
 have hl1:=h.lim
 have hl2:=h.l0
 have hl0:=h.b0
 have hgl:=h.hd.lt
 have hvl:∀ k,V.ownBlock=some k→k < w.heap.size:=fun k hk=>(h.own.lt k hk).2
 refine callsIn_of_wp_marks Tryz.func36 rfl trivial ?_ rfl
 simp only[Tryz.ntmps36,List.size_toArray,List.length_cons,List.length_nil,Nat.reduceAdd,Nat.reduceSub,Array.replicate_succ,Array.replicate_zero,List.push_toArray,List.append_toArray,List.nil_append,List.cons_append]
 gi_wp2_with fail
 refine⟨trivial,(toW (walk_any g _)).mono ?_⟩
 rintro e w' ⟨rfl,rfl⟩
 gi_wp2_with fail
 have bO:=Boxed.new w 23 (.slice none 0 0)
 have hB0:Below w.heap.size w ((w.alloc (.cells #[.slice none 0 0] 23)).alloc (.cells #[.pointer (some ⟨g,0,none⟩)] 27)):=((Below.refl _ w).alloc (Nat.le_refl _) _).alloc (by simp) _
 have hWQ:WQ B g (w.heap.size+1) s V ((w.alloc (.cells #[.slice none 0 0] 23)).alloc (.cells #[.pointer (some ⟨g,0,none⟩)] 27)):=⟨h.below hB0,Bk.here _ _ _ (by simp)⟩
 refine wpIn_rangeFunc_ownG rfl h1 (gf:=111) (lb:=#[.pointer (some ⟨w.heap.size+1,0,none⟩)]) rfl trivial (enters_of Tryz.func111 (by kernel_rfl) rfl)
  (walk_stops (n - 1) (by omega) _ hWQ) (fun h k hx=>k (h hx)) (fun W l o o' hl ho hc _ hq=>hq.putObj ho hc) (Below.refl _ _) (fun x=>by unfold enc2;rfl)
  (fun pre W=>((∃ v,Boxed W w.heap.size 23 v∧W.ownsRow w.heap.size 3 1 v (objF pre).length (ints (objF pre))∧True)∧Below w.heap.size w W))
  (fun _ _ _=>False)
  (OwnFrom.and (Own.from (holdsRow_own w.heap.size w.heap.size 23 3 1 (fun pre=>(objF pre).length) (fun pre=>ints (objF pre)) (fun _ _=>True)) _) (ownFrom_below (Nat.le_refl _) (by simp;omega)))
  (fun _ _ _ _ _ hs _ _=>hs)
  ⟨⟨_,bO.alloc _,World.ownsRow_nil _ _ _ _,trivial⟩,hB0⟩
  (fun x=>{ tmps:=#[.pointer (some ⟨g,0,none⟩),undef,.slice none 0 0,.pointer (some ⟨w.heap.size,0,none⟩),.int .i64 x.1,.bool x.2,.pointer (some ⟨g,0,none⟩),.func (.func 111) #[] #[.pointer (some ⟨w.heap.size+1,0,none⟩)],.int .i64 x.1,.bool x.2,undef,undef,undef,undef,undef,undef],defers:=[] }) ?assign ?body ?done ?stop
 case assign =>
  intro l x W K hK
  unfold enc2
  gi_wp2
  exact hK
 case body =>
  rintro l pre ⟨a,b⟩ W ⟨⟨v,hv,hrow,-⟩,hB⟩ hlt
  have hc:=hv.cell
  have hpl:=objF_length pre
  cases b with
  | true =>
   gi_wp2_with (gi_at_builtin;refine wpListIn_append_own _ rfl _ _ 23 rfl w.heap.size 3 i0 (.int .i64 0) 1 8 Tryz.underlying23 hi hz0 hz1 hz2 rfl (by decide) _ _ _ rfl (hrow.alloc _) ⟨W.heap.size,0,none⟩ 1 1 [.int .i64 a] rfl rfl (cell_one_new _ _ _) (by simp[Value.oneCell']) (by unfold maxLen;omega) (by omega) (by have:=hB.size;simp;omega) ?_;intro v' w1 hown' hgrow _;obtain⟨g',cap',rfl⟩:=ownsRow_succ hown';obtain⟨hv1,hv2,hr2,hk2,hb2⟩:=hv.appended (by decide) hrow hB.size (Nat.le_refl _) hown' hgrow;have hc1:=hv1.cell;have hf1:=hv1.frozen)
   refine⟨hk2.from _,fun hq=>⟨hq.s.belowN hb2 hgl hvl,?_⟩,⟨_,hv2,by rw[objF_hit];simpa [ints] using hr2,trivial⟩,hB.trans hb2⟩
   exact((hq.b.alloc _).grown hgrow (own_ne_type hrow hq.b (by decide))).far (p:=⟨w.heap.size,0,none⟩) (by show w.heap.size+1≠w.heap.size;omega) _
  | false =>
   gi_wp2_with fail
   exact⟨KeepsFrom.refl _ _,fun hq=>hq,⟨v,hv,by rw[objF_miss];exact hrow,trivial⟩,hB⟩
 case done =>
  rintro D ys W hD rfl ⟨⟨v,hv,hrow,-⟩,hB⟩ hK
  have hc:=hv.cell
  gi_wp2
  refine⟨by simp,.inl ⟨_,_,rfl,run_takeDeferred hK,?_⟩⟩
  refine⟨_,results_tmp rfl _ _ _,v,rfl,?_,hB.trans (belowK_b (w:=w) (Nat.le_refl _) W D _ _ (by simp at hD;omega) hK rfl rfl)⟩
  rw[← objF_rst]
  exact ownsRow_putObj hrow _ hK rfl
 case stop =>
  rintro D c pre W _ _ h _
  exact h.elim
end
end
end Go.Proofs.YtaijmgkjbbiboaaGreat
