/- Parts of the proof: RResolve. -/
import Derived.Test.YtaijmgkjbbiboaaGreatPcA
import Derived.Test.YtaijmgkjbbiboaaGreatPc11
import Derived.Test.YtaijmgkjbbiboaaGreatPc6
set_option linter.unusedVariables false
set_option linter.unusedSimpArgs false
set_option linter.unusedSectionVars false
set_option maxRecDepth 100000
namespace Go.Proofs.YtaijmgkjbbiboaaGreat
section
open Go.RowKit Go.Sort
section
variable {w w':World} {g:Nat} {t:TypeId} {x0 x1 x2 x3 x4 x5:Value}
theorem Bk.c3 (h:Bk w g t #[x0,x1,x2]):w.cell? ⟨g,0,none⟩=some x0∧w.cell? ⟨g,1,none⟩=some x1∧w.cell? ⟨g,2,none⟩=some x2:=⟨h.cell 0,h.cell 1,h.cell 2⟩
theorem Bk.c6 (h:Bk w g t #[x0,x1,x2,x3,x4,x5]):w.cell? ⟨g,0,none⟩=some x0∧w.cell? ⟨g,1,none⟩=some x1∧w.cell? ⟨g,2,none⟩=some x2∧w.cell? ⟨g,3,none⟩=some x3∧w.cell? ⟨g,4,none⟩=some x4∧w.cell? ⟨g,5,none⟩=some x5:=⟨h.cell 0,h.cell 1,h.cell 2,h.cell 3,h.cell 4,h.cell 5⟩
theorem Bk.f6 (h:Bk w g t #[x0,x1,x2,x3,x4,x5]):w.frozen? ⟨g,0,none⟩=false∧w.frozen? ⟨g,1,none⟩=false∧w.frozen? ⟨g,2,none⟩=false∧w.frozen? ⟨g,3,none⟩=false∧w.frozen? ⟨g,4,none⟩=false∧w.frozen? ⟨g,5,none⟩=false:=⟨h.free 0,h.free 1,h.free 2,h.free 3,h.free 4,h.free 5⟩
theorem Bk.put6 (h:Bk w g t #[x0,x1,x2,x3,x4,x5]) (v0 v1 v2 v3 v4 v5:Value):∃ w',(((((w.setCell ⟨g,0,none⟩ v0).setCell ⟨g,1,none⟩ v1).setCell ⟨g,2,none⟩ v2).setCell ⟨g,3,none⟩ v3).setCell ⟨g,4,none⟩ v4).setCell ⟨g,5,none⟩ v5=w'∧Bk w' g t #[v0,v1,v2,v3,v4,v5]∧Kp (fun k=>k=g) w w':=by
 refine⟨_,rfl,(((((h.set 0 v0).set 1 v1).set 2 v2).set 3 v3).set 4 v4).set 5 v5,?_⟩
 have k:∀ {w1:World} (i:Nat) (v:Value),Kp (fun k=>k=g) w w1→Kp (fun k=>k=g) w (w1.setCell ⟨g,i,none⟩ v):=fun i v h1=>h1.trans (Kp.setCell (S:=fun k=>k=g) _ ⟨g,i,none⟩ v rfl) fun _ _ h=>h
 exact k 5 v5 (k 4 v4 (k 3 v3 (k 2 v2 (k 1 v1 (k 0 v0 (Kp.refl _ _))))))
theorem RS.priv {s:Spc} {A:Option Addr} {c:Nat} {cs:Array Value} (h:RS w s A c) (hb:Bk w g t cs) (hn:noW cs=true) (hk:Kp (fun k=>k=g) w w'):RS w' s A c:=by
 have ha:=h.away hb hn
 refine⟨⟨h.sl.1,h.sl.2.imp id ?_⟩,h.cap,h.u,h.b0,h.lim,h.l0,fun b o e=>Nat.lt_of_lt_of_le (h.lt b o e) hk.size⟩
 rintro⟨b,o,e,hl,hc⟩
 refine⟨b,o,e,Nat.lt_of_lt_of_le hl hk.size,fun j x hx=>?_⟩
 rcases ha with h0 | h1
 ·have:=h.sl.1
  rw[h0] at this
  rw[List.length_eq_zero_iff.1 (this.trans (Nat.zero_mul _))] at hx
  cases hx
 ·exact hk.cell (hc j x hx) (h1 b o e)
theorem RM.priv {m:Mm} {A1 A2:Option Addr} {c1 c2:Nat} {cs:Array Value} (h:RM w m A1 c1 A2 c2) (hb:Bk w g t cs) (hn:noW cs=true) (hk:Kp (fun k=>k=g) w w'):RM w' m A1 c1 A2 c2:=⟨h.o.priv hb hn hk,h.y.priv hb hn hk⟩
theorem Kp.below {B:Nat} {w0:World} (hk:Kp (fun k=>k=g) w w') (hb:Below B w0 w) (h1:B≤w.heap.size) (h2:B≤g):Below B w0 w':=hk.toBelow hb h1 fun k h=>by rw[h];exact h2
end
abbrev rmC (m:Mm) (A1:Option Addr) (c1:Nat) (A2:Option Addr) (c2:Nat):Array Value:=#[.int .i64 m.old.base,.int .i64 m.old.limit,.slice A1 m.old.ws.length c1,.int .i64 m.yng.base,.int .i64 m.yng.limit,.slice A2 m.yng.ws.length c2]
abbrev zC:Array Value:=#[.int .i64 0,.int .i64 0,.slice none 0 0,.int .i64 0,.int .i64 0,.slice none 0 0]
theorem Mm.store_bl (m:Mm) (a x:Int):(m.store a x).2.old.base=m.old.base∧(m.store a x).2.old.limit=m.old.limit∧(m.store a x).2.old.ws.length=m.old.ws.length∧(m.store a x).2.yng.base=m.yng.base∧(m.store a x).2.yng.limit=m.yng.limit∧(m.store a x).2.yng.ws.length=m.yng.ws.length:=by
 by_cases h:m.old.has a=true <;> simp[Mm.store,Mm.put,h,Spc.put_base,Spc.put_limit,Spc.put_len]
def RMwP (w:World) (B1 B2:Option Addr) (m:Mm) (e:Ending) (w':World):Prop:=∃ A1 c1 A2 c2,e=.returned (rmV m A1 c1 A2 c2)∧RM w' m A1 c1 A2 c2∧Below w.heap.size w w'∧Nw w.heap.size B1 A1∧Nw w.heap.size B2 A2
section
variable {w:World} {m:Mm} {A1 A2:Option Addr} {c1 c2:Nat}
set_option maxHeartbeats 4000000 in
theorem RWrite_any (h:RM w m A1 c1 A2 c2) (ok:m.Ok) {a kind:Int} (hh:(m.hdr a).1=0) (hk:kind=3 ∨ kind=4) {pl:List Int} (hp:∀ x∈pl,U64 x) {A:Option Addr} {cc:Nat} (hs:Sl w 1 A pl.length (wds pl)) (hcc:pl.length≤cc) (hl:pl.length≤2) :
  Calls Tryz.prog 118 #[rmV m A1 c1 A2 c2,.int .i64 a,.int .i64 kind,.slice A pl.length cc] w (RMwP w A1 A2 (m.write a kind pl)):=by
 obtain⟨x,v,hx,hdx,_,_,_⟩:=Spc.hdr_ok hh
 have hx2:m.at_ a=some x:=hx
 have hdx:dH x=some (m.hdr a).2:=hdx
 have HV:Hid (vH (m.hdr a).2=true):=lh (Mm.hdr_valid hh)
 have HA:Hid (0≤a∧a≤4294967296):=lh (Mm.res_has ok (Mm.hdr_has hh))
 have HM:Hid (m.has a=true):=lh (Mm.hdr_has hh)
 obtain⟨⟨k1,e1,f1⟩,hhd⟩:∃ hd,m.hdr a=(0,hd):=⟨(m.hdr a).2,Prod.ext hh rfl⟩
 have HHD:=lh hhd
 have hb0:=boxR2 w m A1 c1 A2 c2 (.cells zC 35)
 have H0:=lh (h.below hb0)
 have HQ0:Hid (Bk ((w.alloc (.cells (rmC m A1 c1 A2 c2) 35)).alloc (.cells zC 35)) w.heap.size 35 (rmC m A1 c1 A2 c2)):=lh ((Bk.new _ _ _).alloc _)
 have HZ0:Hid (Bk ((w.alloc (.cells (rmC m A1 c1 A2 c2) 35)).alloc (.cells zC 35)) (w.heap.size+1) 35 zC):=lh (Bk.here _ _ _ (by simp))
 have HSw:=lh hs
 have cL:=RLoad_any H0.out a
 rw[hx2] at cL
 unfold atV rmV at cL
 have xu:U64 x:=ok.at_u hx2
 have cD:=fun w=>RDecode_some xu hdx w
 have cW:=fun w=>RWords_of (m.hdr a).2 w
 have cC:=fun w=>RChange_any xu kind w
 unfold chV at cC
 rw[hdx] at cC
 rw[hhd] at cD cW cC HV
 simp only[if_pos hk] at cC
 simp only at cD cW HV
 have HB0:=lh hb0
 have HP:=lh hp
 have H:=lh h
 have OK:=lh ok
 unfold rmV
 clear h hs hb0 hx hx2 hdx hhd xu hp hh ok
 go_enter Tryz.func118,Tryz.ntmps118
 go_wp2_with fail
 generalize (w.alloc (.cells (rmC m A1 c1 A2 c2) 35)).alloc (.cells zC 35)=w0 at *
 refine cL.mono ?_
 rintro e w1 ⟨rfl,hb⟩
 have HB1:=lh (HB0.out.trans (hb.mono HB0.out.size))
 have H1:=lh (H0.out.below hb)
 have HQ1:=lh (HQ0.out.below hb HQ0.out.lt)
 have HZ1:=lh (HZ0.out.below hb HZ0.out.lt)
 clear hb cL
 go_wp2_with fail
 refine(cD _).mono ?_
 rintro e w2 ⟨rfl,hb⟩
 have HB2:=lh (HB1.out.trans (hb.mono HB1.out.size))
 have H2:=lh (H1.out.below hb)
 have HQ2:=lh (HQ1.out.below hb HQ1.out.lt)
 have HZ2:=lh (HZ1.out.below hb HZ1.out.lt)
 clear hb cD
 go_wp2_with fail
 have hb:=(Below.refl _ w2).alloc (Nat.le_refl _) (.cells #[.int .i64 k1,.int .i64 e1,.int .i64 f1] 58)
 have HB3:=lh (HB2.out.trans (hb.mono HB2.out.size))
 have H3:=lh (H2.out.below hb)
 have HQ3:=lh (HQ2.out.below hb HQ2.out.lt)
 have HZ3:=lh (HZ2.out.below hb HZ2.out.lt)
 have HT3:Hid (Bk (w2.alloc (.cells #[.int .i64 k1,.int .i64 e1,.int .i64 f1] 58)) w2.heap.size 58 #[.int .i64 k1,.int .i64 e1,.int .i64 f1]):=lh (Bk.here _ _ _ rfl)
 have HG:Hid (w.heap.size+1 < w2.heap.size):=lh HZ2.out.lt
 clear hb
 generalize w2.alloc (.cells #[.int .i64 k1,.int .i64 e1,.int .i64 f1] 58)=w3 at *
 generalize w2.heap.size=gt at HT3 HG ⊢
 refine(cC _).mono ?_
 rintro e w4 ⟨rfl,hb⟩
 have HB4:=lh (HB3.out.trans (hb.mono HB3.out.size))
 have H4:=lh (H3.out.below hb)
 have HQ4:=lh (HQ3.out.below hb HQ3.out.lt)
 have HZ4:=lh (HZ3.out.below hb HZ3.out.lt)
 have HT4:=lh (HT3.out.below hb HT3.out.lt)
 clear hb cC
 have hv2:vH ⟨kind,e1,f1⟩=true:=vH_change HV.out hk
 obtain⟨k0,k1',k2,k3,k4,k5⟩:=HQ4.out.c6
 have cS:=RStore_any H4.out a (eH_u64 hv2)
 have hst:m.store a (eH ⟨kind,e1,f1⟩)=(0,m.put a (eH ⟨kind,e1,f1⟩)):=by unfold Mm.store;rw[if_pos HM.out]
 obtain⟨o1,o2,o3,y1,y2,y3⟩:=Mm.store_bl m a (eH ⟨kind,e1,f1⟩)
 rw[hst] at cS o1 o2 o3 y1 y2 y3
 unfold rmV at cS
 simp only at cS o1 o2 o3 y1 y2 y3
 have HPO:Hid ((m.put a (eH ⟨kind,e1,f1⟩)).Ok):=lh (OK.out.put a (eH_u64 hv2))
 obtain⟨m1,hm1⟩:∃ m1,m1=m.put a (eH ⟨kind,e1,f1⟩):=⟨_,rfl⟩
 rw[← hm1] at cS o1 o2 o3 y1 y2 y3 HPO
 have HM1:=lh hm1
 have HBL:=lh (And.intro o1 (And.intro o2 (And.intro o3 (And.intro y1 (And.intro y2 y3)))))
 clear hst hv2 hm1 o1 o2 o3 y1 y2 y3
 go_wp2_with fail
 refine cS.mono ?_
 rintro e w5 ⟨A1',c1',A2',c2',rfl,hm5,hb,n1,n2⟩
 have HN5:=lh (And.intro (n1.mono HB4.out.size) (n2.mono HB4.out.size))
 have HB5:=lh (HB4.out.trans (hb.mono HB4.out.size))
 have H5:=lh hm5
 have HQ5:=lh (HQ4.out.below hb HQ4.out.lt)
 have HZ5:=lh (HZ4.out.below hb HZ4.out.lt)
 have HT5:=lh (HT4.out.below hb HT4.out.lt)
 clear hm5 hb n1 n2 cS k0 k1' k2 k3 k4 k5
 obtain⟨k0,k1',k2,k3,k4,k5⟩:=HQ5.out.c6
 obtain⟨f0,f1',f2,f3,f4,f5⟩:=HQ5.out.f6
 unfold rmV
 go_wp2_with fail
 obtain⟨w6,hw6,hq6,hk6⟩:=HQ5.out.put6 (.int .i64 m1.old.base) (.int .i64 m1.old.limit) (.slice A1' m1.old.ws.length c1') (.int .i64 m1.yng.base) (.int .i64 m1.yng.limit) (.slice A2' m1.yng.ws.length c2')
 rw[hw6]
 have HB6:=lh (hk6.below HB5.out HB5.out.size (Nat.le_refl _))
 have H6:=lh (H5.out.priv HQ5.out rfl hk6)
 have HZ6:=lh (HZ5.out.kp hk6 (Nat.succ_ne_self _))
 have HT6:=lh (HT5.out.kp hk6 (by have:=HG.out;omega))
 have HQ6:=lh hq6
 clear hw6 hq6 hk6 k0 k1' k2 k3 k4 k5 f0 f1' f2 f3 f4 f5
 obtain⟨cnt,hcnt⟩:∃ cnt:Nat,wH ⟨k1,e1,f1⟩=(cnt:Int)+2:=⟨(wH ⟨k1,e1,f1⟩ - 2).toNat,by have:=wH_ge HV.out;omega⟩
 have hcb:cnt≤32:=by have:=wH_bound ⟨k1,e1,f1⟩;omega
 have HC:=lh hcnt
 have HCB:=lh hcb
 simp only[hcnt] at cW
 clear hcnt hcb
 go_loopw [15] (fun i_ wr=>∃ (j:Nat) (A1':Option Addr) (c1':Nat) (A2':Option Addr) (c2':Nat) (mj:Mm),i_=.int .i64 ((j:Int)+2)∧j≤cnt∧Hid (mj=m1.puts (a+2) ((padW cnt pl).take j))∧Hid (RM wr mj A1' c1' A2' c2')∧Hid (Bk wr w.heap.size 35 (rmC mj A1' c1' A2' c2'))∧Hid (Bk wr (w.heap.size+1) 35 zC)∧Hid (Bk wr gt 58 #[.int .i64 k1,.int .i64 e1,.int .i64 f1])∧Hid (Below w.heap.size w wr)∧Hid (Nw w.heap.size A1 A1'∧Nw w.heap.size A2 A2')) (fun i_ _=>cnt+2 - (intOf i_).toNat)
 case atStart=>exact⟨0,A1',c1',A2',c2',m1,by simp,Nat.zero_le _,lh (by simp[Mm.puts]),H6,HQ6,HZ6,HT6,HB6,HN5⟩
 case round =>
  obtain⟨j,B1,d1,B2,d2,mj,rfl,hj,HMJ,HM7,HQ7,HZ7,HT7,HB7,HN7⟩:=hrel
  clear HQ6 HZ6 HT6 HB6 H6 HQ5 HZ5 HT5 HB5 H5 HQ4 HZ4 HT4 HB4 H4 HQ3 HZ3 HT3 HB3 H3 HQ2 HZ2 HB2 H2 HQ1 HZ1 HB1 H1
  obtain⟨t0,t1,t2⟩:=HT7.out.c3
  have HAo:=HA.out
  have hcb:=HCB.out
  have hgt:=HT7.out.lt
  by_cases hlt:j < cnt
  ·go_wp2_with fail
   refine(cW _).mono ?_
   rintro e w8 ⟨rfl,hb⟩
   have HM8:=lh (HM7.out.below hb)
   have HQ8:=lh (HQ7.out.below hb HQ7.out.lt)
   have HZ8:=lh (HZ7.out.below hb HZ7.out.lt)
   have HT8:=lh (HT7.out.below hb HT7.out.lt)
   have HB8:=lh (HB7.out.trans (hb.mono HB7.out.size))
   clear hb t0 t1 t2
   obtain⟨k0,k1',k2,k3,k4,k5⟩:=HQ8.out.c6
   have hw2:(j:Int)+2 - 2=(j:Int):=by omega
   have cS:=fun {y:Int} (hy:U64 y)=>RStore_any HM8.out (a+((j:Int)+2)) hy
   unfold rmV at cS
   have HFIN:∀ y,pl.getD j 0=y→Hid ((mj.store (a+((j:Int)+2)) y).2=m1.puts (a+2) ((padW cnt pl).take (j+1))):=fun y hy=>lh (by
    rw[padW_take cnt pl j hlt,Mm.puts_snoc]
    have e2:((padW cnt pl).take j).length=j:=by rw[List.length_take,padW_length];omega
    rw[e2,hy,← HMJ.out]
    show mj.put _ y=mj.put _ y
    congr 1
    omega)
   by_cases hp1:j < pl.length
   ·obtain⟨bb,oo,rfl,hb1,hc1⟩:=(HSw.out.below HB8.out).get hp1
    have t1:pl[j]?=some pl[j]:=List.getElem?_eq_getElem hp1
    have e1:w8.cell? ⟨bb,oo+j,none⟩=some (.int .u64 pl[j]):=hc1 j _ (by simp[wds,hp1])
    generalize pl[j]=y at e1 t1
    have HT:=lh t1
    have hjc:j < cc:=by omega
    have HF:=HFIN y (by simp[List.getD,t1])
    obtain⟨m2,hm2⟩:∃ m2,m2=(mj.store (a+((j:Int)+2)) y).2:=⟨_,rfl⟩
    have cS:=cS (HP.out y (List.mem_of_getElem? t1))
    rw[← hm2] at cS HF
    clear t1 hc1 HFIN hm2
    go_wp2_with fail
    refine cS.mono ?_
    rintro e w9 ⟨B3,d3,B4,d4,rfl,hm9,hb,n1,n2⟩
    have HQ9:=HQ8.out.below hb HQ8.out.lt
    obtain⟨s0,s1,s2,s3,s4,s5⟩:=HQ9.c6
    obtain⟨f0,f1',f2,f3,f4,f5⟩:=HQ9.f6
    have HQ9:=lh HQ9
    have HM9:=lh hm9
    have HZ9:=lh (HZ8.out.below hb HZ8.out.lt)
    have HT9:=lh (HT8.out.below hb HT8.out.lt)
    have HB9:=lh (HB8.out.trans (hb.mono HB8.out.size))
    have HN9:=lh (And.intro (HN7.out.1.trans n1 HB8.out.size) (HN7.out.2.trans n2 HB8.out.size))
    unfold rmV
    clear hm9 hb n1 n2 k0 k1' k2 k3 k4 k5 cS
    go_wp2_with fail
    obtain⟨w6,hw6,hq6,hk6⟩:=HQ9.out.put6 (.int .i64 m2.old.base) (.int .i64 m2.old.limit) (.slice B3 m2.old.ws.length d3) (.int .i64 m2.yng.base) (.int .i64 m2.yng.limit) (.slice B4 m2.yng.ws.length d4)
    rw[hw6]
    have HB6:=lh (hk6.below HB9.out HB9.out.size (Nat.le_refl _))
    have H6:=lh (HM9.out.priv HQ9.out rfl hk6)
    have HZ6:=lh (HZ9.out.kp hk6 (Nat.succ_ne_self _))
    have HT6:=lh (HT9.out.kp hk6 (by have:=HG.out;omega))
    have HQ6:=lh hq6
    clear hw6 hq6 hk6 s0 s1 s2 s3 s4 s5 f0 f1' f2 f3 f4 f5
    go_wp2_with fail
    go_roundw
    case rel=>exact⟨j+1,B3,d3,B4,d4,m2,by go_num,by omega,HF,H6,HQ6,HZ6,HT6,HB6,HN9⟩
    case measure=>simp[intOf];omega
   ·have hz:pl.getD j 0=0:=by rw[List.getD,List.getElem?_eq_none (by omega)];rfl
    have HF:=HFIN 0 hz
    have hge:¬ (j:Int) < (pl.length:Int):=by omega
    obtain⟨m2,hm2⟩:∃ m2,m2=(mj.store (a+((j:Int)+2)) 0).2:=⟨_,rfl⟩
    have cS:=cS (y:=0) ⟨by decide,by decide⟩
    rw[← hm2] at cS HF
    clear hz HFIN hm2
    go_wp2_with fail
    refine cS.mono ?_
    rintro e w9 ⟨B3,d3,B4,d4,rfl,hm9,hb,n1,n2⟩
    have HQ9:=HQ8.out.below hb HQ8.out.lt
    obtain⟨s0,s1,s2,s3,s4,s5⟩:=HQ9.c6
    obtain⟨f0,f1',f2,f3,f4,f5⟩:=HQ9.f6
    have HQ9:=lh HQ9
    have HM9:=lh hm9
    have HZ9:=lh (HZ8.out.below hb HZ8.out.lt)
    have HT9:=lh (HT8.out.below hb HT8.out.lt)
    have HB9:=lh (HB8.out.trans (hb.mono HB8.out.size))
    have HN9:=lh (And.intro (HN7.out.1.trans n1 HB8.out.size) (HN7.out.2.trans n2 HB8.out.size))
    unfold rmV
    clear hm9 hb n1 n2 k0 k1' k2 k3 k4 k5 cS
    go_wp2_with fail
    obtain⟨w6,hw6,hq6,hk6⟩:=HQ9.out.put6 (.int .i64 m2.old.base) (.int .i64 m2.old.limit) (.slice B3 m2.old.ws.length d3) (.int .i64 m2.yng.base) (.int .i64 m2.yng.limit) (.slice B4 m2.yng.ws.length d4)
    rw[hw6]
    have HB6:=lh (hk6.below HB9.out HB9.out.size (Nat.le_refl _))
    have H6:=lh (HM9.out.priv HQ9.out rfl hk6)
    have HZ6:=lh (HZ9.out.kp hk6 (Nat.succ_ne_self _))
    have HT6:=lh (HT9.out.kp hk6 (by have:=HG.out;omega))
    have HQ6:=lh hq6
    clear hw6 hq6 hk6 s0 s1 s2 s3 s4 s5 f0 f1' f2 f3 f4 f5
    go_wp2_with fail
    go_roundw
    case rel=>exact⟨j+1,B3,d3,B4,d4,m2,by go_num,by omega,HF,H6,HQ6,HZ6,HT6,HB6,HN9⟩
    case measure=>simp[intOf];omega
  ·obtain rfl:j=cnt:=by omega
   have hge:¬ ((j:Int)+2 < (j:Int)+2):=by omega
   go_wp2_with fail
   refine(cW _).mono ?_
   rintro e w8 ⟨rfl,hb⟩
   have HM8:=lh (HM7.out.below hb)
   have HQ8:=lh (HQ7.out.below hb HQ7.out.lt)
   have HZ8:=lh (HZ7.out.below hb HZ7.out.lt)
   have HB8:=lh (HB7.out.trans (hb.mono HB7.out.size))
   clear hb t0 t1 t2
   obtain⟨k0,k1',k2,k3,k4,k5⟩:=HQ8.out.c6
   obtain⟨z0,z1,z2,z3,z4,z5⟩:=HZ8.out.c6
   obtain⟨f0,f1',f2,f3,f4,f5⟩:=HZ8.out.f6
   go_wp2_with fail
   obtain⟨w9,hw9,hq9,hk9⟩:=HZ8.out.put6 (.int .i64 mj.old.base) (.int .i64 mj.old.limit) (.slice B1 mj.old.ws.length d1) (.int .i64 mj.yng.base) (.int .i64 mj.yng.limit) (.slice B2 mj.yng.ws.length d2)
   rw[hw9]
   have hm9:=HM8.out.priv HZ8.out rfl hk9
   have hb9:=hk9.below HB8.out HB8.out.size (Nat.le_succ _)
   obtain⟨d0,e1,e2,e3,e4,e5⟩:=hq9.c6
   refine bodyPost_ret (v:=rmV mj B1 d1 B2 d2) (by simp[results,Tryz.results118,go_sem,d0,e1,e2,e3,e4,e5,rmV]) rfl ?_
   have hE:m.write a kind pl=mj:=by
    have e1:=HMJ.out
    rw[List.take_of_length_le (by rw[padW_length];omega)] at e1
    unfold Mm.write
    rw[HHD.out]
    simp only
    rw[e1,HM1.out,HC.out]
    congr 2
    omega
   rw[hE]
   exact⟨B1,d1,B2,d2,rfl,hm9,hb9,HN7.out.1,HN7.out.2⟩
end
end
section
open Go.RowKit Go.Sort
theorem Mm.resN_step (m:Mm) (f:Nat) (a:Int):m.resN (f+1) a=match m.nxt a with
  | none=>none
  | some none=>some a
  | some (some b)=>m.resN f b:=by
 conv=>lhs;unfold Mm.resN
 rcases m.nxt a with _ | _ | _ <;> rfl
section
variable {w:World} {m:Mm} {A1 A2:Option Addr} {c1 c2:Nat}
/-- what resolving asks of a memory -/
structure Mm.Ok2 (m:Mm):Prop where
 o:m.old.Ok
 y:m.yng.Ok
 fwd:∀ a,(m.hdr a).1=0→(m.hdr a).2.k=4→∃ x,m.at_ (a+2)=some x∧m.nxt a=match adr x with | some b=>some (some b) | none=>none
 u:∀ a x,m.at_ a=some x→U64 x
 has:∀ a,m.has a=true→0≤a∧a≤4294967296
theorem Mm.Ok.two {m:Mm} (ok:m.Ok):m.Ok2:=⟨ok.o,ok.y,fun a h h4=>Mm.nxt_fwd ok h h4,fun a x h=>ok.at_u h,fun a h=>Mm.res_has ok h⟩
set_option maxHeartbeats 4000000 in
theorem RResolve_go (h:RM w m A1 c1 A2 c2) (ok:m.Ok2) (a:Int):Calls Tryz.prog 64 #[rmV m A1 c1 A2 c2,.int .i64 a] w fun e w'=>e=.returned (.tuple #[.int .i64 (m.resolve a).1,.int .i64 (m.resolve a).2])∧Below w.heap.size w w':=by
 have hb0:=boxR w m A1 c1 A2 c2
 have H0:=lh (h.below hb0)
 have HQ0:Hid (Bk (w.alloc (.cells (rmC m A1 c1 A2 c2) 35)) w.heap.size 35 (rmC m A1 c1 A2 c2)):=lh (Bk.here _ _ _ rfl)
 have HB0:=lh hb0
 have OK:=lh ok
 have cL:=RLoad_any H0.out a
 rw[Mm.resolve_eq]
 unfold rmV at cL ⊢
 cases hh:m.has a with
 | false =>
  rw[show m.at_ a=none from Spc.at_none hh] at cL
  unfold atV at cL
  rw[if_pos rfl]
  clear h hb0 hh
  go_enter Tryz.func64,Tryz.ntmps64
  go_wp2_with fail
  refine cL.mono ?_
  rintro e w1 ⟨rfl,hb⟩
  have HB1:=lh (HB0.out.trans (hb.mono HB0.out.size))
  clear hb cL
  go_wp2_with fail
  go_ret2
  exact⟨rfl,HB1.out⟩
 | true =>
  obtain⟨x0,hx0⟩:∃ x,m.at_ a=some x:=by
   obtain⟨_,_,_,x,_,hx⟩:=Spc.at_some hh
   exact⟨x,hx⟩
  rw[hx0] at cL
  unfold atV at cL
  rw[if_neg (by decide)]
  have HAB:=lh (ok.has _ hh)
  clear h hb0 hx0
  have HH:=lh hh
  clear hh
  obtain⟨N,hN⟩:∃ N,N=m.size+1:=⟨_,rfl⟩
  have HN:=lh hN
  rw[← hN]
  obtain⟨p,q,hp⟩:∃ p q,rsv (m.resN N a)=(p,q):=⟨_,_,rfl⟩
  have HP:=lh hp
  rw[hp]
  simp only
  have hsz:m.old.ws.length+m.yng.ws.length+1=N:=hN.symm
  have hbd:N≤8589934593:=by
   have h1:=OK.out.o.lim;have h2:=OK.out.o.l0;have h3:=OK.out.y.lim;have h4:=OK.out.y.l0;have h5:=OK.out.o.b0;have h6:=OK.out.y.b0
   omega
  have HSZ:=lh hsz
  have HBD:=lh hbd
  clear hp hN hsz hbd
  go_enter Tryz.func64,Tryz.ntmps64
  go_wp2_with fail
  generalize w.alloc (.cells (rmC m A1 c1 A2 c2) 35)=w0 at *
  refine cL.mono ?_
  rintro e w1 ⟨rfl,hb⟩
  have H1:=lh (H0.out.below hb)
  have HQ1:=lh (HQ0.out.below hb HQ0.out.lt)
  have HB1:=lh (HB0.out.trans (hb.mono HB0.out.size))
  clear hb cL
  go_wp2_with fail
  go_loopw [1,8] (fun a_ k_ wr=>∃ (a':Int) (k:Nat),a_=.int .i64 a'∧k_=.int .i64 (k:Int)∧k≤N∧(0≤a'∧a'≤4294967296)∧Hid (m.resN N a=m.resN (N - k) a')∧Hid (RM wr m A1 c1 A2 c2)∧Hid (Bk wr w.heap.size 35 (rmC m A1 c1 A2 c2))∧Hid (Below w.heap.size w wr)) (fun _ k_ _=>N - (intOf k_).toNat)
  case atStart=>exact⟨a,0,rfl,rfl,Nat.zero_le _,HAB.out,lh rfl,H1,HQ1,HB1⟩
  case round =>
   obtain⟨a',k,rfl,rfl,hk,ha',HR,HM,HQ,HB⟩:=hrel
   obtain⟨q0,q1,q2,q3,q4,q5⟩:=HQ.out.c6
   have hsz:=HSZ.out
   have hbd:=HBD.out
   have l1:m.old.ws.length≤8589934593:=by omega
   have l2:m.yng.ws.length≤8589934593:=by omega
   by_cases hlt:k < N
   ·have hc:(k:Int)≤(m.old.ws.length:Int)+(m.yng.ws.length:Int):=by omega
    have hst:m.resN N a=match m.nxt a' with
      | none=>none
      | some none=>some a'
      | some (some b)=>m.resN (N - (k+1)) b:=by
     rw[HR.out,show N - k=(N - (k+1))+1 by omega,Mm.resN_step]
    have HST:=lh hst
    clear hst
    have cH:=RHeader_any HM.out a'
    unfold hdrV Hdr.val rmV at cH
    obtain⟨er,hd,hhd⟩:∃ er hd,m.hdr a'=(er,hd):=⟨_,_,rfl⟩
    rw[hhd] at cH
    simp only at cH
    have HHD:=lh hhd
    clear hhd
    by_cases he:er=0
    ·subst he
     by_cases hk4:hd.k=4
     ·obtain⟨x,hx,hnx⟩:=OK.out.fwd a' (by rw[HHD.out]) (by rw[HHD.out];exact hk4)
      have heq:(hd.k != 4)=false:=by simp[hk4]
      have HX:=lh hx
      have HNX:=lh hnx
      have cA:=fun w=>RAddress_any (OK.out.u _ _ hx) w
      unfold adrV at cA
      clear hk4 hx hnx
      go_wp2_with fail
      refine cH.mono ?_
      rintro e w4 ⟨rfl,hb⟩
      have HB4:=lh (HB.out.trans (hb.mono HB.out.size))
      have HM4:=lh (HM.out.below hb)
      have HQ4:=lh (HQ.out.below hb HQ.out.lt)
      have hlt4:w.heap.size < w4.heap.size:=HQ4.out.lt
      have hne4:w.heap.size≠w4.heap.size:=by omega
      clear hb cH q0 q1 q2 q3 q4 q5
      obtain⟨q0,q1,q2,q3,q4,q5⟩:=HQ4.out.c6
      go_wp2_with fail
      have hb5:Below w4.heap.size w4 (w4.alloc (.cells #[.int .i64 hd.k,.int .i64 hd.c,.int .i64 hd.f] 58)):=(Below.refl _ _).alloc (Nat.le_refl _) _
      have HB5:=lh (HB4.out.trans (hb5.mono HB4.out.size))
      have HM5:=lh (HM4.out.below hb5)
      have HQ5:=lh (HQ4.out.below hb5 HQ4.out.lt)
      clear hb5 q0 q1 q2 q3 q4 q5
      generalize w4.alloc (.cells #[.int .i64 hd.k,.int .i64 hd.c,.int .i64 hd.f] 58)=w5 at *
      have cL:=RLoad_any HM5.out (a'+2)
      rw[HX.out] at cL
      unfold atV rmV at cL
      refine cL.mono ?_
      rintro e w6 ⟨rfl,hb⟩
      have HB6:=lh (HB5.out.trans (hb.mono HB5.out.size))
      have HM6:=lh (HM5.out.below hb)
      have HQ6:=lh (HQ5.out.below hb HQ5.out.lt)
      clear hb cL
      go_wp2_with fail
      refine(cA _).mono ?_
      rintro e w7 ⟨rfl,rfl⟩
      cases had:adr x with
      | none =>
       have hp:=HP.out
       rw[HST.out,HNX.out,had] at hp
       cases hp
       clear had cA
       go_wp2_with fail
       go_ret2
       exact⟨rfl,HB6.out⟩
      | some b =>
       have hb1:=adr_some had
       have hb2:=OK.out.u _ _ HX.out
       have hnn:m.resN N a=m.resN (N - (k+1)) b:=by rw[HST.out,HNX.out,had]
       have hbd:0≤b∧b≤4294967296:=by unfold adW at hb1;unfold U64 at hb2;omega
       have HR':=lh hnn
       clear had cA hb1 hb2 hnn
       go_wp2_with fail
       go_roundw
       case rel=>exact⟨b,k+1,rfl,by go_num,by omega,hbd,HR',HM6,HQ6,HB6⟩
       case measure=>simp[intOf];omega
     ·have hne:(hd.k != 4)=true:=by simp[hk4]
      have hp:=HP.out
      rw[HST.out,Mm.nxt_end (by rw[HHD.out]) (by rw[HHD.out];exact hk4)] at hp
      cases hp
      clear hk4
      go_wp2_with fail
      refine cH.mono ?_
      rintro e w4 ⟨rfl,hb⟩
      have HB4:=lh (HB.out.trans (hb.mono HB.out.size))
      clear hb cH
      go_wp2_with fail
      go_ret2
      exact⟨rfl,HB4.out.trans (((Below.refl _ _).alloc (Nat.le_refl _) _).mono HB4.out.size)⟩
    ·have he1:(er == 0)=false:=by simp[he]
     have he2:(er != 0)=true:=by simp[he]
     have hp:=HP.out
     rw[HST.out,Mm.nxt_err (by rw[HHD.out];exact he)] at hp
     cases hp
     clear he
     go_wp2_with fail
     refine cH.mono ?_
     rintro e w4 ⟨rfl,hb⟩
     have HB4:=lh (HB.out.trans (hb.mono HB.out.size))
     clear hb cH
     go_wp2_with fail
     go_ret2
     exact⟨rfl,HB4.out.trans (((Below.refl _ _).alloc (Nat.le_refl _) _).mono HB4.out.size)⟩
   ·obtain rfl:k=N:=by omega
    have hc:¬ ((k:Int)≤(m.old.ws.length:Int)+(m.yng.ws.length:Int)):=by omega
    have hp:=HP.out
    rw[HR.out,Nat.sub_self] at hp
    cases hp
    go_wp2_with fail
    go_ret2
    exact⟨rfl,HB.out⟩
/-- a result that hands the memory back as it was -/
theorem RResolve_any (h:RM w m A1 c1 A2 c2) (ok:m.Ok) (a:Int):Calls Tryz.prog 64 #[rmV m A1 c1 A2 c2,.int .i64 a] w fun e w'=>e=.returned (.tuple #[.int .i64 (m.resolve a).1,.int .i64 (m.resolve a).2])∧Below w.heap.size w w':=RResolve_go h ok.two a
set_option maxHeartbeats 4000000 in
theorem RToStub_any (h:RM w m A1 c1 A2 c2) (ok:m.Ok) (a o:Int) {x:Int} (hx:U64 x):Calls Tryz.prog 90 #[rmV m A1 c1 A2 c2,.int .i64 a,.int .i64 o,.int .u64 x] w (RMStP w A1 A2 (m.toStub a o x).2 (m.toStub a o x).1):=by
 have hb0:=boxR2 w m A1 c1 A2 c2 (.cells zC 35)
 have H0:=lh (h.below hb0)
 have HQ0:Hid (Bk ((w.alloc (.cells (rmC m A1 c1 A2 c2) 35)).alloc (.cells zC 35)) w.heap.size 35 (rmC m A1 c1 A2 c2)):=lh ((Bk.new _ _ _).alloc _)
 have HZ0:Hid (Bk ((w.alloc (.cells (rmC m A1 c1 A2 c2) 35)).alloc (.cells zC 35)) (w.heap.size+1) 35 zC):=lh (Bk.here _ _ _ (by simp))
 have HB0:=lh hb0
 have H:=lh h
 have OK:=lh ok
 have cH:=RHeader_any H0.out a
 unfold hdrV Hdr.val rmV at cH
 have HX:=lh hx
 unfold rmV Mm.toStub
 obtain⟨er,⟨k1,e1,f1⟩,hhd⟩:∃ er hd,m.hdr a=(er,hd):=⟨_,_,rfl⟩
 have HHD:=lh hhd
 rw[hhd] at cH ⊢
 simp only at cH ⊢
 clear h hb0 hhd hx ok
 by_cases he:er=0
 ·subst he
  rw[if_neg (by decide)]
  by_cases h3:k1=3
  ·have h3b:(k1 == 3)=true:=by simp[h3]
   rw[if_pos (Or.inl h3)]
   clear h3
   go_enter Tryz.func90,Tryz.ntmps90
   go_wp2_with fail
   generalize (w.alloc (.cells (rmC m A1 c1 A2 c2) 35)).alloc (.cells zC 35)=w0 at *
   refine cH.mono ?_
   rintro e w1 ⟨rfl,hb⟩
   have HB1:=lh (HB0.out.trans (hb.mono HB0.out.size))
   have HQ1:=lh (HQ0.out.below hb HQ0.out.lt)
   have HZ1:=lh (HZ0.out.below hb HZ0.out.lt)
   have H1:=lh (H0.out.below hb)
   clear hb cH
   go_upto_region 2 with fail
   have hb:=(Below.refl _ w1).alloc (Nat.le_refl _) (.cells #[.int .i64 k1,.int .i64 e1,.int .i64 f1] 58)
   have HB2:=lh (HB1.out.trans (hb.mono HB1.out.size))
   have HQ2:=lh (HQ1.out.below hb HQ1.out.lt)
   have HZ2:=lh (HZ1.out.below hb HZ1.out.lt)
   have H2:=lh (H1.out.below hb)
   have HT2:Bk (w1.alloc (.cells #[.int .i64 k1,.int .i64 e1,.int .i64 f1] 58)) w1.heap.size 58 #[.int .i64 k1,.int .i64 e1,.int .i64 f1]:=Bk.here _ _ _ rfl
   generalize w1.alloc (.cells #[.int .i64 k1,.int .i64 e1,.int .i64 f1] 58)=w2 at *
   generalize w1.heap.size=gt at HT2 ⊢
   obtain⟨th0,th1,th2⟩:=HT2.c3
   have HT2:=lh HT2
   clear hb
   obtain⟨q0,q1,q2,q3,q4,q5⟩:=HQ2.out.c6
   obtain⟨z0,z1,z2,z3,z4,z5⟩:=HZ2.out.c6
   obtain⟨g0,g1',g2,g3,g4,g5⟩:=HZ2.out.f6
   go_wp2_with fail
   obtain⟨w6,hw6,hq6,hk6⟩:=HZ2.out.put6 (.int .i64 m.old.base) (.int .i64 m.old.limit) (.slice A1 m.old.ws.length c1) (.int .i64 m.yng.base) (.int .i64 m.yng.limit) (.slice A2 m.yng.ws.length c2)
   rw[hw6]
   have hb6:=hk6.below HB2.out HB2.out.size (Nat.le_succ _)
   obtain⟨d0,d1,d2,d3,d4,d5⟩:=hq6.c6
   refine bodyPost_ret (v:=.tuple #[rmV m A1 c1 A2 c2,.int .i64 7]) (by simp[results,Tryz.results90,go_sem,d0,d1,d2,d3,d4,d5,rmV]) rfl ?_
   exact⟨A1,c1,A2,c2,rfl,H.out.below hb6,hb6,Nw.refl _ _,Nw.refl _ _⟩
  ·have h3b:(k1 == 3)=false:=by simp[h3]
   by_cases h4:k1=4
   ·have h4b:(k1 == 4)=true:=by simp[h4]
    rw[if_pos (Or.inr h4)]
    clear h3 h4
    go_enter Tryz.func90,Tryz.ntmps90
    go_wp2_with fail
    generalize (w.alloc (.cells (rmC m A1 c1 A2 c2) 35)).alloc (.cells zC 35)=w0 at *
    refine cH.mono ?_
    rintro e w1 ⟨rfl,hb⟩
    have HB1:=lh (HB0.out.trans (hb.mono HB0.out.size))
    have HQ1:=lh (HQ0.out.below hb HQ0.out.lt)
    have HZ1:=lh (HZ0.out.below hb HZ0.out.lt)
    have H1:=lh (H0.out.below hb)
    clear hb cH
    go_upto_region 2 with fail
    have hb:=(Below.refl _ w1).alloc (Nat.le_refl _) (.cells #[.int .i64 k1,.int .i64 e1,.int .i64 f1] 58)
    have HB2:=lh (HB1.out.trans (hb.mono HB1.out.size))
    have HQ2:=lh (HQ1.out.below hb HQ1.out.lt)
    have HZ2:=lh (HZ1.out.below hb HZ1.out.lt)
    have H2:=lh (H1.out.below hb)
    have HT2:Bk (w1.alloc (.cells #[.int .i64 k1,.int .i64 e1,.int .i64 f1] 58)) w1.heap.size 58 #[.int .i64 k1,.int .i64 e1,.int .i64 f1]:=Bk.here _ _ _ rfl
    generalize w1.alloc (.cells #[.int .i64 k1,.int .i64 e1,.int .i64 f1] 58)=w2 at *
    generalize w1.heap.size=gt at HT2 ⊢
    obtain⟨th0,th1,th2⟩:=HT2.c3
    have HT2:=lh HT2
    clear hb
    obtain⟨q0,q1,q2,q3,q4,q5⟩:=HQ2.out.c6
    obtain⟨z0,z1,z2,z3,z4,z5⟩:=HZ2.out.c6
    obtain⟨g0,g1',g2,g3,g4,g5⟩:=HZ2.out.f6
    go_wp2_with fail
    obtain⟨w6,hw6,hq6,hk6⟩:=HZ2.out.put6 (.int .i64 m.old.base) (.int .i64 m.old.limit) (.slice A1 m.old.ws.length c1) (.int .i64 m.yng.base) (.int .i64 m.yng.limit) (.slice A2 m.yng.ws.length c2)
    rw[hw6]
    have hb6:=hk6.below HB2.out HB2.out.size (Nat.le_succ _)
    obtain⟨d0,d1,d2,d3,d4,d5⟩:=hq6.c6
    refine bodyPost_ret (v:=.tuple #[rmV m A1 c1 A2 c2,.int .i64 7]) (by simp[results,Tryz.results90,go_sem,d0,d1,d2,d3,d4,d5,rmV]) rfl ?_
    exact⟨A1,c1,A2,c2,rfl,H.out.below hb6,hb6,Nw.refl _ _,Nw.refl _ _⟩
   ·have h4b:(k1 == 4)=false:=by simp[h4]
    rw[if_neg (fun h=>h.elim h3 h4)]
    clear h3 h4
    by_cases ho1:o < 1
    ·rw[if_pos (Or.inl ho1)]
     go_enter Tryz.func90,Tryz.ntmps90
     go_wp2_with fail
     generalize (w.alloc (.cells (rmC m A1 c1 A2 c2) 35)).alloc (.cells zC 35)=w0 at *
     refine cH.mono ?_
     rintro e w1 ⟨rfl,hb⟩
     have HB1:=lh (HB0.out.trans (hb.mono HB0.out.size))
     have HQ1:=lh (HQ0.out.below hb HQ0.out.lt)
     have HZ1:=lh (HZ0.out.below hb HZ0.out.lt)
     have H1:=lh (H0.out.below hb)
     clear hb cH
     go_upto_region 2 with fail
     have hb:=(Below.refl _ w1).alloc (Nat.le_refl _) (.cells #[.int .i64 k1,.int .i64 e1,.int .i64 f1] 58)
     have HB2:=lh (HB1.out.trans (hb.mono HB1.out.size))
     have HQ2:=lh (HQ1.out.below hb HQ1.out.lt)
     have HZ2:=lh (HZ1.out.below hb HZ1.out.lt)
     have H2:=lh (H1.out.below hb)
     have HT2:Bk (w1.alloc (.cells #[.int .i64 k1,.int .i64 e1,.int .i64 f1] 58)) w1.heap.size 58 #[.int .i64 k1,.int .i64 e1,.int .i64 f1]:=Bk.here _ _ _ rfl
     generalize w1.alloc (.cells #[.int .i64 k1,.int .i64 e1,.int .i64 f1] 58)=w2 at *
     generalize w1.heap.size=gt at HT2 ⊢
     obtain⟨th0,th1,th2⟩:=HT2.c3
     have HT2:=lh HT2
     clear hb
     obtain⟨q0,q1,q2,q3,q4,q5⟩:=HQ2.out.c6
     obtain⟨z0,z1,z2,z3,z4,z5⟩:=HZ2.out.c6
     obtain⟨g0,g1',g2,g3,g4,g5⟩:=HZ2.out.f6
     go_wp2_with fail
     obtain⟨w6,hw6,hq6,hk6⟩:=HZ2.out.put6 (.int .i64 m.old.base) (.int .i64 m.old.limit) (.slice A1 m.old.ws.length c1) (.int .i64 m.yng.base) (.int .i64 m.yng.limit) (.slice A2 m.yng.ws.length c2)
     rw[hw6]
     have hb6:=hk6.below HB2.out HB2.out.size (Nat.le_succ _)
     obtain⟨d0,d1,d2,d3,d4,d5⟩:=hq6.c6
     refine bodyPost_ret (v:=.tuple #[rmV m A1 c1 A2 c2,.int .i64 1]) (by simp[results,Tryz.results90,go_sem,d0,d1,d2,d3,d4,d5,rmV]) rfl ?_
     exact⟨A1,c1,A2,c2,rfl,H.out.below hb6,hb6,Nw.refl _ _,Nw.refl _ _⟩
    ·by_cases ho2:8 < o
     ·rw[if_pos (Or.inr ho2)]
      go_enter Tryz.func90,Tryz.ntmps90
      go_wp2_with fail
      generalize (w.alloc (.cells (rmC m A1 c1 A2 c2) 35)).alloc (.cells zC 35)=w0 at *
      refine cH.mono ?_
      rintro e w1 ⟨rfl,hb⟩
      have HB1:=lh (HB0.out.trans (hb.mono HB0.out.size))
      have HQ1:=lh (HQ0.out.below hb HQ0.out.lt)
      have HZ1:=lh (HZ0.out.below hb HZ0.out.lt)
      have H1:=lh (H0.out.below hb)
      clear hb cH
      go_upto_region 2 with fail
      have hb:=(Below.refl _ w1).alloc (Nat.le_refl _) (.cells #[.int .i64 k1,.int .i64 e1,.int .i64 f1] 58)
      have HB2:=lh (HB1.out.trans (hb.mono HB1.out.size))
      have HQ2:=lh (HQ1.out.below hb HQ1.out.lt)
      have HZ2:=lh (HZ1.out.below hb HZ1.out.lt)
      have H2:=lh (H1.out.below hb)
      have HT2:Bk (w1.alloc (.cells #[.int .i64 k1,.int .i64 e1,.int .i64 f1] 58)) w1.heap.size 58 #[.int .i64 k1,.int .i64 e1,.int .i64 f1]:=Bk.here _ _ _ rfl
      generalize w1.alloc (.cells #[.int .i64 k1,.int .i64 e1,.int .i64 f1] 58)=w2 at *
      generalize w1.heap.size=gt at HT2 ⊢
      obtain⟨th0,th1,th2⟩:=HT2.c3
      have HT2:=lh HT2
      clear hb
      obtain⟨q0,q1,q2,q3,q4,q5⟩:=HQ2.out.c6
      obtain⟨z0,z1,z2,z3,z4,z5⟩:=HZ2.out.c6
      obtain⟨g0,g1',g2,g3,g4,g5⟩:=HZ2.out.f6
      go_wp2_with fail
      obtain⟨w6,hw6,hq6,hk6⟩:=HZ2.out.put6 (.int .i64 m.old.base) (.int .i64 m.old.limit) (.slice A1 m.old.ws.length c1) (.int .i64 m.yng.base) (.int .i64 m.yng.limit) (.slice A2 m.yng.ws.length c2)
      rw[hw6]
      have hb6:=hk6.below HB2.out HB2.out.size (Nat.le_succ _)
      obtain⟨d0,d1,d2,d3,d4,d5⟩:=hq6.c6
      refine bodyPost_ret (v:=.tuple #[rmV m A1 c1 A2 c2,.int .i64 1]) (by simp[results,Tryz.results90,go_sem,d0,d1,d2,d3,d4,d5,rmV]) rfl ?_
      exact⟨A1,c1,A2,c2,rfl,H.out.below hb6,hb6,Nw.refl _ _,Nw.refl _ _⟩
     ·rw[if_neg (fun h=>h.elim ho1 ho2)]
      have cw:Lit.wf (.int .u64 o)=true:=by simp[Lit.wf,IntKind.min,IntKind.max,IntKind.signed,IntKind.bits];omega
      have HO:Hid (U64 o):=lh ⟨by omega,by omega⟩
      go_enter Tryz.func90,Tryz.ntmps90
      go_wp2_with fail
      generalize (w.alloc (.cells (rmC m A1 c1 A2 c2) 35)).alloc (.cells zC 35)=w0 at *
      refine cH.mono ?_
      rintro e w1 ⟨rfl,hb⟩
      have HB1:=lh (HB0.out.trans (hb.mono HB0.out.size))
      have HQ1:=lh (HQ0.out.below hb HQ0.out.lt)
      have HZ1:=lh (HZ0.out.below hb HZ0.out.lt)
      have H1:=lh (H0.out.below hb)
      clear hb cH
      go_upto_region 2 with fail
      have hb:=(Below.refl _ w1).alloc (Nat.le_refl _) (.cells #[.int .i64 k1,.int .i64 e1,.int .i64 f1] 58)
      have HB2:=lh (HB1.out.trans (hb.mono HB1.out.size))
      have HQ2:=lh (HQ1.out.below hb HQ1.out.lt)
      have HZ2:=lh (HZ1.out.below hb HZ1.out.lt)
      have H2:=lh (H1.out.below hb)
      have HT2:Bk (w1.alloc (.cells #[.int .i64 k1,.int .i64 e1,.int .i64 f1] 58)) w1.heap.size 58 #[.int .i64 k1,.int .i64 e1,.int .i64 f1]:=Bk.here _ _ _ rfl
      generalize w1.alloc (.cells #[.int .i64 k1,.int .i64 e1,.int .i64 f1] 58)=w2 at *
      generalize w1.heap.size=gt at HT2 ⊢
      obtain⟨th0,th1,th2⟩:=HT2.c3
      have HT2:=lh HT2
      clear hb
      obtain⟨q0,q1,q2,q3,q4,q5⟩:=HQ2.out.c6
      obtain⟨z0,z1,z2,z3,z4,z5⟩:=HZ2.out.c6
      obtain⟨g0,g1',g2,g3,g4,g5⟩:=HZ2.out.f6
      go_wp2_with fail
      have hbA:Below w2.heap.size w2 (w2.alloc (.cells #[.int .u64 (o),.int .u64 (x)] 54)):=(Below.refl _ _).alloc (Nat.le_refl _) _
      have HBA:=lh (HB2.out.trans (hbA.mono HB2.out.size))
      have HZA:=lh (HZ2.out.below hbA HZ2.out.lt)
      have cW:=RWrite_any (H2.out.below hbA) OK.out (kind:=3) (by rw[HHD.out]) (.inl rfl) (pl:=[o,x]) (A:=some ⟨w2.heap.size,0,none⟩) (cc:=2) (fun y hy=>by rcases List.mem_cons.1 hy with rfl | hy;exact HO.out;rw[List.mem_singleton.1 hy];exact HX.out) (Sl.new w2 54 [.int .u64 (o),.int .u64 (x)]) (Nat.le_refl _) (by simp)
      unfold rmV at cW
      clear hbA
      refine cW.mono ?_
      rintro e w5 ⟨B1,d1,B2,d2,rfl,hm5,hb,n1,n2⟩
      have HB5:=lh (HBA.out.trans (hb.mono HBA.out.size))
      have HN5:=lh (And.intro (n1.mono HBA.out.size) (n2.mono HBA.out.size))
      have HM5:=lh hm5
      have HZ5:=lh (HZA.out.below hb HZA.out.lt)
      unfold rmV
      clear hb n1 n2 hm5 cW q0 q1 q2 q3 q4 q5 z0 z1 z2 z3 z4 z5 g0 g1' g2 g3 g4 g5
      generalize m.write a 3 [o,x]=m5 at *
      obtain⟨z0,z1,z2,z3,z4,z5⟩:=HZ5.out.c6
      obtain⟨g0,g1',g2,g3,g4,g5⟩:=HZ5.out.f6
      go_wp2_with fail
      obtain⟨w6,hw6,hq6,hk6⟩:=HZ5.out.put6 (.int .i64 m5.old.base) (.int .i64 m5.old.limit) (.slice B1 m5.old.ws.length d1) (.int .i64 m5.yng.base) (.int .i64 m5.yng.limit) (.slice B2 m5.yng.ws.length d2)
      rw[hw6]
      have hb6:=hk6.below HB5.out HB5.out.size (Nat.le_succ _)
      have hm6:=HM5.out.priv HZ5.out rfl hk6
      obtain⟨d0,d1',d2',d3,d4,d5⟩:=hq6.c6
      refine bodyPost_ret (v:=.tuple #[rmV m5 B1 d1 B2 d2,.int .i64 0]) (by simp[results,Tryz.results90,go_sem,d0,d1',d2',d3,d4,d5,rmV]) rfl ?_
      exact⟨B1,d1,B2,d2,rfl,hm6,hb6,HN5.out.1,HN5.out.2⟩
 ·rw[if_pos he]
  have he1:(er == 0)=false:=by simp[he]
  have he2:(er != 0)=true:=by simp[he]
  clear he
  go_enter Tryz.func90,Tryz.ntmps90
  go_wp2_with fail
  generalize (w.alloc (.cells (rmC m A1 c1 A2 c2) 35)).alloc (.cells zC 35)=w0 at *
  refine cH.mono ?_
  rintro e w1 ⟨rfl,hb⟩
  have HB1:=lh (HB0.out.trans (hb.mono HB0.out.size))
  have HQ1:=lh (HQ0.out.below hb HQ0.out.lt)
  have HZ1:=lh (HZ0.out.below hb HZ0.out.lt)
  have H1:=lh (H0.out.below hb)
  clear hb cH
  go_upto_region 2 with fail
  have hb:=(Below.refl _ w1).alloc (Nat.le_refl _) (.cells #[.int .i64 k1,.int .i64 e1,.int .i64 f1] 58)
  have HB2:=lh (HB1.out.trans (hb.mono HB1.out.size))
  have HQ2:=lh (HQ1.out.below hb HQ1.out.lt)
  have HZ2:=lh (HZ1.out.below hb HZ1.out.lt)
  have H2:=lh (H1.out.below hb)
  have HT2:Bk (w1.alloc (.cells #[.int .i64 k1,.int .i64 e1,.int .i64 f1] 58)) w1.heap.size 58 #[.int .i64 k1,.int .i64 e1,.int .i64 f1]:=Bk.here _ _ _ rfl
  generalize w1.alloc (.cells #[.int .i64 k1,.int .i64 e1,.int .i64 f1] 58)=w2 at *
  generalize w1.heap.size=gt at HT2 ⊢
  obtain⟨th0,th1,th2⟩:=HT2.c3
  have HT2:=lh HT2
  clear hb
  obtain⟨q0,q1,q2,q3,q4,q5⟩:=HQ2.out.c6
  obtain⟨z0,z1,z2,z3,z4,z5⟩:=HZ2.out.c6
  obtain⟨g0,g1',g2,g3,g4,g5⟩:=HZ2.out.f6
  go_wp2_with fail
  obtain⟨w6,hw6,hq6,hk6⟩:=HZ2.out.put6 (.int .i64 m.old.base) (.int .i64 m.old.limit) (.slice A1 m.old.ws.length c1) (.int .i64 m.yng.base) (.int .i64 m.yng.limit) (.slice A2 m.yng.ws.length c2)
  rw[hw6]
  have hb6:=hk6.below HB2.out HB2.out.size (Nat.le_succ _)
  obtain⟨d0,d1,d2,d3,d4,d5⟩:=hq6.c6
  refine bodyPost_ret (v:=.tuple #[rmV m A1 c1 A2 c2,.int .i64 er]) (by simp[results,Tryz.results90,go_sem,d0,d1,d2,d3,d4,d5,rmV]) rfl ?_
  exact⟨A1,c1,A2,c2,rfl,H.out.below hb6,hb6,Nw.refl _ _,Nw.refl _ _⟩
set_option maxHeartbeats 4000000 in
theorem RToForward_any (h:RM w m A1 c1 A2 c2) (ok:m.Ok) (a t2:Int):Calls Tryz.prog 89 #[rmV m A1 c1 A2 c2,.int .i64 a,.int .i64 t2] w (RMStP w A1 A2 (m.toFwd a t2).2 (m.toFwd a t2).1):=by
 have hb0:=boxR2 w m A1 c1 A2 c2 (.cells zC 35)
 have H0:=lh (h.below hb0)
 have HQ0:Hid (Bk ((w.alloc (.cells (rmC m A1 c1 A2 c2) 35)).alloc (.cells zC 35)) w.heap.size 35 (rmC m A1 c1 A2 c2)):=lh ((Bk.new _ _ _).alloc _)
 have HZ0:Hid (Bk ((w.alloc (.cells (rmC m A1 c1 A2 c2) 35)).alloc (.cells zC 35)) (w.heap.size+1) 35 zC):=lh (Bk.here _ _ _ (by simp))
 have HB0:=lh hb0
 have H:=lh h
 have OK:=lh ok
 have cH:=RHeader_any H0.out a
 unfold hdrV Hdr.val rmV at cH
 unfold rmV Mm.toFwd
 obtain⟨er,⟨k1,e1,f1⟩,hhd⟩:∃ er hd,m.hdr a=(er,hd):=⟨_,_,rfl⟩
 have HHD:=lh hhd
 rw[hhd] at cH ⊢
 simp only at cH ⊢
 clear h hb0 hhd ok
 by_cases he:er=0
 ·subst he
  rw[if_neg (by decide)]
  by_cases h4:k1=4
  ·have h4b:(k1 == 4)=true:=by simp[h4]
   rw[if_pos h4]
   clear h4
   go_enter Tryz.func89,Tryz.ntmps89
   go_wp2_with fail
   generalize (w.alloc (.cells (rmC m A1 c1 A2 c2) 35)).alloc (.cells zC 35)=w0 at *
   refine cH.mono ?_
   rintro e w1 ⟨rfl,hb⟩
   have HB1:=lh (HB0.out.trans (hb.mono HB0.out.size))
   have HQ1:=lh (HQ0.out.below hb HQ0.out.lt)
   have HZ1:=lh (HZ0.out.below hb HZ0.out.lt)
   have H1:=lh (H0.out.below hb)
   clear hb cH
   go_upto_region 2 with fail
   have hb:=(Below.refl _ w1).alloc (Nat.le_refl _) (.cells #[.int .i64 k1,.int .i64 e1,.int .i64 f1] 58)
   have HB2:=lh (HB1.out.trans (hb.mono HB1.out.size))
   have HQ2:=lh (HQ1.out.below hb HQ1.out.lt)
   have HZ2:=lh (HZ1.out.below hb HZ1.out.lt)
   have H2:=lh (H1.out.below hb)
   have HT2:Bk (w1.alloc (.cells #[.int .i64 k1,.int .i64 e1,.int .i64 f1] 58)) w1.heap.size 58 #[.int .i64 k1,.int .i64 e1,.int .i64 f1]:=Bk.here _ _ _ rfl
   generalize w1.alloc (.cells #[.int .i64 k1,.int .i64 e1,.int .i64 f1] 58)=w2 at *
   generalize w1.heap.size=gt at HT2 ⊢
   obtain⟨th0,th1,th2⟩:=HT2.c3
   have HT2:=lh HT2
   clear hb
   obtain⟨q0,q1,q2,q3,q4,q5⟩:=HQ2.out.c6
   obtain⟨z0,z1,z2,z3,z4,z5⟩:=HZ2.out.c6
   obtain⟨g0,g1',g2,g3,g4,g5⟩:=HZ2.out.f6
   go_wp2_with fail
   obtain⟨w6,hw6,hq6,hk6⟩:=HZ2.out.put6 (.int .i64 m.old.base) (.int .i64 m.old.limit) (.slice A1 m.old.ws.length c1) (.int .i64 m.yng.base) (.int .i64 m.yng.limit) (.slice A2 m.yng.ws.length c2)
   rw[hw6]
   have hb6:=hk6.below HB2.out HB2.out.size (Nat.le_succ _)
   obtain⟨d0,d1,d2,d3,d4,d5⟩:=hq6.c6
   refine bodyPost_ret (v:=.tuple #[rmV m A1 c1 A2 c2,.int .i64 7]) (by simp[results,Tryz.results89,go_sem,d0,d1,d2,d3,d4,d5,rmV]) rfl ?_
   exact⟨A1,c1,A2,c2,rfl,H.out.below hb6,hb6,Nw.refl _ _,Nw.refl _ _⟩
  ·have h4b:(k1 == 4)=false:=by simp[h4]
   rw[if_neg h4]
   clear h4
   obtain⟨en,re,hre⟩:∃ en re,m.resolve t2=(en,re):=⟨_,_,rfl⟩
   have HRE:=lh hre
   rw[hre]
   simp only
   obtain⟨e5,m5,h5⟩:∃ e5 m5,(if re≠0 ∨ en=a then ((1:Int),m) else (0,m.write a 4 [adW t2]))=(e5,m5):=⟨_,_,rfl⟩
   rw[h5]
   have H5:=lh h5
   clear hre h5
   go_enter Tryz.func89,Tryz.ntmps89
   go_wp2_with fail
   generalize (w.alloc (.cells (rmC m A1 c1 A2 c2) 35)).alloc (.cells zC 35)=w0 at *
   refine cH.mono ?_
   rintro e w1 ⟨rfl,hb⟩
   have HB1:=lh (HB0.out.trans (hb.mono HB0.out.size))
   have HQ1:=lh (HQ0.out.below hb HQ0.out.lt)
   have HZ1:=lh (HZ0.out.below hb HZ0.out.lt)
   have H1:=lh (H0.out.below hb)
   clear hb cH
   go_upto_region 2 with fail
   have hb:=(Below.refl _ w1).alloc (Nat.le_refl _) (.cells #[.int .i64 k1,.int .i64 e1,.int .i64 f1] 58)
   have HB2:=lh (HB1.out.trans (hb.mono HB1.out.size))
   have HQ2:=lh (HQ1.out.below hb HQ1.out.lt)
   have HZ2:=lh (HZ1.out.below hb HZ1.out.lt)
   have H2:=lh (H1.out.below hb)
   have HT2:Bk (w1.alloc (.cells #[.int .i64 k1,.int .i64 e1,.int .i64 f1] 58)) w1.heap.size 58 #[.int .i64 k1,.int .i64 e1,.int .i64 f1]:=Bk.here _ _ _ rfl
   generalize w1.alloc (.cells #[.int .i64 k1,.int .i64 e1,.int .i64 f1] 58)=w2 at *
   generalize w1.heap.size=gt at HT2 ⊢
   obtain⟨th0,th1,th2⟩:=HT2.c3
   have HT2:=lh HT2
   clear hb
   obtain⟨q0,q1,q2,q3,q4,q5⟩:=HQ2.out.c6
   go_wp2_with fail
   have cR:=RResolve_any H2.out OK.out t2
   rw[HRE.out] at cR
   unfold rmV at cR
   refine cR.mono ?_
   rintro e w3 ⟨rfl,hb⟩
   have HB3:=lh (HB2.out.trans (hb.mono HB2.out.size))
   have H3:=lh (H2.out.below hb)
   have HQ3:=lh (HQ2.out.below hb HQ2.out.lt)
   have HZ3:=lh (HZ2.out.below hb HZ2.out.lt)
   clear hb cR q0 q1 q2 q3 q4 q5 th0 th1 th2
   obtain⟨q0,q1,q2,q3,q4,q5⟩:=HQ3.out.c6
   obtain⟨z0,z1,z2,z3,z4,z5⟩:=HZ3.out.c6
   obtain⟨g0,g1',g2,g3,g4,g5⟩:=HZ3.out.f6
   by_cases hr:re=0
   ·subst hr
    by_cases hen:en=a
    ·have heq:(en == a)=true:=by simp[hen]
     have h5:=H5.out
     rw[if_pos (Or.inr hen)] at h5
     cases h5
     clear hen
     go_wp2_with fail
     obtain⟨w6,hw6,hq6,hk6⟩:=HZ3.out.put6 (.int .i64 m.old.base) (.int .i64 m.old.limit) (.slice A1 m.old.ws.length c1) (.int .i64 m.yng.base) (.int .i64 m.yng.limit) (.slice A2 m.yng.ws.length c2)
     rw[hw6]
     have hb6:=hk6.below HB3.out HB3.out.size (Nat.le_succ _)
     obtain⟨d0,d1,d2,d3,d4,d5⟩:=hq6.c6
     refine bodyPost_ret (v:=.tuple #[rmV m A1 c1 A2 c2,.int .i64 1]) (by simp[results,Tryz.results89,go_sem,d0,d1,d2,d3,d4,d5,rmV]) rfl ?_
     exact⟨A1,c1,A2,c2,rfl,H.out.below hb6,hb6,Nw.refl _ _,Nw.refl _ _⟩
    ·have heq:(en == a)=false:=by simp[hen]
     have h5:=H5.out
     rw[if_neg (fun h=>h.elim (fun h=>h rfl) hen)] at h5
     cases h5
     have hto:=Mm.resolve_has OK.out (a:=t2) (by rw[HRE.out])
     have HTO:=lh hto
     have cF:=fun w=>RFromAddress_any t2 w
     have hin:inA t2=true:=decide_eq_true hto
     unfold frA at cF
     rw[hin] at cF
     rw[if_pos rfl] at cF
     clear hen hin hto
     go_wp2_with fail
     refine(cF _).mono ?_
     rintro e w4 ⟨rfl,rfl⟩
     go_wp2_with fail
     have hbA:Below w3.heap.size w3 (w3.alloc (.cells #[.int .u64 (adW t2)] 54)):=(Below.refl _ _).alloc (Nat.le_refl _) _
     have HBA:=lh (HB3.out.trans (hbA.mono HB3.out.size))
     have HZA:=lh (HZ3.out.below hbA HZ3.out.lt)
     have cW:=RWrite_any (H3.out.below hbA) OK.out (kind:=4) (by rw[HHD.out]) (.inr rfl) (pl:=[adW t2]) (A:=some ⟨w3.heap.size,0,none⟩) (cc:=1) (fun y hy=>by rw[List.mem_singleton.1 hy];have:=HTO.out;unfold U64 adW;omega) (Sl.new w3 54 [.int .u64 (adW t2)]) (Nat.le_refl _) (by simp)
     unfold rmV at cW
     clear hbA
     refine cW.mono ?_
     rintro e w5 ⟨B1,d1,B2,d2,rfl,hm5,hb,n1,n2⟩
     have HB5:=lh (HBA.out.trans (hb.mono HBA.out.size))
     have HN5:=lh (And.intro (n1.mono HBA.out.size) (n2.mono HBA.out.size))
     have HM5:=lh hm5
     have HZ5:=lh (HZA.out.below hb HZA.out.lt)
     unfold rmV
     clear hb n1 n2 hm5 cW q0 q1 q2 q3 q4 q5 z0 z1 z2 z3 z4 z5 g0 g1' g2 g3 g4 g5
     generalize m.write a 4 [adW t2]=m5 at *
     obtain⟨z0,z1,z2,z3,z4,z5⟩:=HZ5.out.c6
     obtain⟨g0,g1',g2,g3,g4,g5⟩:=HZ5.out.f6
     go_wp2_with fail
     obtain⟨w6,hw6,hq6,hk6⟩:=HZ5.out.put6 (.int .i64 m5.old.base) (.int .i64 m5.old.limit) (.slice B1 m5.old.ws.length d1) (.int .i64 m5.yng.base) (.int .i64 m5.yng.limit) (.slice B2 m5.yng.ws.length d2)
     rw[hw6]
     have hb6:=hk6.below HB5.out HB5.out.size (Nat.le_succ _)
     have hm6:=HM5.out.priv HZ5.out rfl hk6
     obtain⟨d0,d1',d2',d3,d4,d5⟩:=hq6.c6
     refine bodyPost_ret (v:=.tuple #[rmV m5 B1 d1 B2 d2,.int .i64 0]) (by simp[results,Tryz.results89,go_sem,d0,d1',d2',d3,d4,d5,rmV]) rfl ?_
     exact⟨B1,d1,B2,d2,rfl,hm6,hb6,HN5.out.1,HN5.out.2⟩
   ·have hr1:(re == 0)=false:=by simp[hr]
    have hr2:(re != 0)=true:=by simp[hr]
    have h5:=H5.out
    rw[if_pos (Or.inl hr)] at h5
    cases h5
    clear hr
    go_wp2_with fail
    obtain⟨w6,hw6,hq6,hk6⟩:=HZ3.out.put6 (.int .i64 m.old.base) (.int .i64 m.old.limit) (.slice A1 m.old.ws.length c1) (.int .i64 m.yng.base) (.int .i64 m.yng.limit) (.slice A2 m.yng.ws.length c2)
    rw[hw6]
    have hb6:=hk6.below HB3.out HB3.out.size (Nat.le_succ _)
    obtain⟨d0,d1,d2,d3,d4,d5⟩:=hq6.c6
    refine bodyPost_ret (v:=.tuple #[rmV m A1 c1 A2 c2,.int .i64 1]) (by simp[results,Tryz.results89,go_sem,d0,d1,d2,d3,d4,d5,rmV]) rfl ?_
    exact⟨A1,c1,A2,c2,rfl,H.out.below hb6,hb6,Nw.refl _ _,Nw.refl _ _⟩
 ·rw[if_pos he]
  have he1:(er == 0)=false:=by simp[he]
  have he2:(er != 0)=true:=by simp[he]
  clear he
  go_enter Tryz.func89,Tryz.ntmps89
  go_wp2_with fail
  generalize (w.alloc (.cells (rmC m A1 c1 A2 c2) 35)).alloc (.cells zC 35)=w0 at *
  refine cH.mono ?_
  rintro e w1 ⟨rfl,hb⟩
  have HB1:=lh (HB0.out.trans (hb.mono HB0.out.size))
  have HQ1:=lh (HQ0.out.below hb HQ0.out.lt)
  have HZ1:=lh (HZ0.out.below hb HZ0.out.lt)
  have H1:=lh (H0.out.below hb)
  clear hb cH
  go_upto_region 2 with fail
  have hb:=(Below.refl _ w1).alloc (Nat.le_refl _) (.cells #[.int .i64 k1,.int .i64 e1,.int .i64 f1] 58)
  have HB2:=lh (HB1.out.trans (hb.mono HB1.out.size))
  have HQ2:=lh (HQ1.out.below hb HQ1.out.lt)
  have HZ2:=lh (HZ1.out.below hb HZ1.out.lt)
  have H2:=lh (H1.out.below hb)
  have HT2:Bk (w1.alloc (.cells #[.int .i64 k1,.int .i64 e1,.int .i64 f1] 58)) w1.heap.size 58 #[.int .i64 k1,.int .i64 e1,.int .i64 f1]:=Bk.here _ _ _ rfl
  generalize w1.alloc (.cells #[.int .i64 k1,.int .i64 e1,.int .i64 f1] 58)=w2 at *
  generalize w1.heap.size=gt at HT2 ⊢
  obtain⟨th0,th1,th2⟩:=HT2.c3
  have HT2:=lh HT2
  clear hb
  obtain⟨q0,q1,q2,q3,q4,q5⟩:=HQ2.out.c6
  obtain⟨z0,z1,z2,z3,z4,z5⟩:=HZ2.out.c6
  obtain⟨g0,g1',g2,g3,g4,g5⟩:=HZ2.out.f6
  go_wp2_with fail
  obtain⟨w6,hw6,hq6,hk6⟩:=HZ2.out.put6 (.int .i64 m.old.base) (.int .i64 m.old.limit) (.slice A1 m.old.ws.length c1) (.int .i64 m.yng.base) (.int .i64 m.yng.limit) (.slice A2 m.yng.ws.length c2)
  rw[hw6]
  have hb6:=hk6.below HB2.out HB2.out.size (Nat.le_succ _)
  obtain⟨d0,d1,d2,d3,d4,d5⟩:=hq6.c6
  refine bodyPost_ret (v:=.tuple #[rmV m A1 c1 A2 c2,.int .i64 er]) (by simp[results,Tryz.results89,go_sem,d0,d1,d2,d3,d4,d5,rmV]) rfl ?_
  exact⟨A1,c1,A2,c2,rfl,H.out.below hb6,hb6,Nw.refl _ _,Nw.refl _ _⟩
end
end
end Go.Proofs.YtaijmgkjbbiboaaGreat
