/- Parts of the proof: RBldC. -/
import Derived.Deep.DeepCutAuto
import Derived.Test.YtaijmgkjbbiboaaGreatPcA
import Derived.Test.YtaijmgkjbbiboaaGreatPc20
set_option linter.unusedVariables false
set_option linter.unusedSimpArgs false
set_option linter.unusedSectionVars false
set_option maxRecDepth 100000
namespace Go.Proofs.YtaijmgkjbbiboaaGreat
section
open Go.RowKit Go.Sort
attribute [local go_sem] Oper.semAt_some onlyN_normal
section
variable {w w':World} {B Nx:Nat} {s:W10} {A1 A2 A A1' A2' A':Option Addr} {c1 c2 c c1' c2' c':Nat} {Vx Vh:Value} {m':Mm} {cs':List Int} {v0 v1 v2 v3 v4 v5 v6 v7 v8:Value}
abbrev st6 (w:World) (g:Nat) (v0 v1 v2 v3 v4 v5:Value):World:=(((((w.setCell ⟨g,0,none⟩ v0).setCell ⟨g,1,none⟩ v1).setCell ⟨g,2,none⟩ v2).setCell ⟨g,3,none⟩ v3).setCell ⟨g,4,none⟩ v4).setCell ⟨g,5,none⟩ v5
theorem st6_kp:Kp (fun k=>k=Nx) w (st6 w Nx v0 v1 v2 v3 v4 v5) :=
 have k1:∀ (w:World) (q:Nat) (v:Value),Kp (fun k=>k=Nx) w (w.setCell ⟨Nx,q,none⟩ v):=fun w q v=>Kp.setCell _ _ _ rfl
 have tr:∀ {a b c:World},Kp (fun k=>k=Nx) a b→Kp (fun k=>k=Nx) b c→Kp (fun k=>k=Nx) a c:=fun h1 h2=>h1.trans h2 fun _ _ e=>e
 tr (tr (tr (tr (tr (k1 _ _ _) (k1 _ _ _)) (k1 _ _ _)) (k1 _ _ _)) (k1 _ _ _)) (k1 _ _ _)
theorem st9_kp:Kp (fun k=>k=Nx) w ((((st6 w Nx v0 v1 v2 v3 v4 v5).setCell ⟨Nx,6,none⟩ v6).setCell ⟨Nx,7,none⟩ v7).setCell ⟨Nx,8,none⟩ v8) :=
 have k1:∀ (w:World) (q:Nat) (v:Value),Kp (fun k=>k=Nx) w (w.setCell ⟨Nx,q,none⟩ v):=fun w q v=>Kp.setCell _ _ _ rfl
 have tr:∀ {a b c:World},Kp (fun k=>k=Nx) a b→Kp (fun k=>k=Nx) b c→Kp (fun k=>k=Nx) a c:=fun h1 h2=>h1.trans h2 fun _ _ e=>e
 tr (tr (tr st6_kp (k1 _ _ _)) (k1 _ _ _)) (k1 _ _ _)
theorem own_kp {S:Nat→Prop} {B n z:Nat} {e:TypeId} {V:Value} {xs:List Value} (h:w.ownsRow B e z V n xs) (hk:Kp S w w') (hs:∀ k,V.ownBlock=some k→¬ S k):w'.ownsRow B e z V n xs:=own_local h fun k h1=>hk.block k (h.lt k h1).2 (hs k h1)
theorem WR10.dnew (h:WR10 w B Nx s A1 c1 A2 c2 A c Vx Vh) (hb:Below w.heap.size w w') (hm:RM w' m' A1' c1' A2' c2') (n1:Nw w.heap.size A1 A1') (n2:Nw w.heap.size A2 A2'):∀ b o,A1'=some ⟨b,o,none⟩ ∨ A2'=some ⟨b,o,none⟩ ∨ A=some ⟨b,o,none⟩→b < w'.heap.size∧Nx < b∧Vx.ownBlock≠some b∧Vh.ownBlock≠some b:=fun b o e=>by
 have hN:=h.x.lt
 have hlt:b < w'.heap.size:=e.elim (hm.o.lt b o) fun e=>e.elim (hm.y.lt b o) fun e=>Nat.lt_of_lt_of_le (h.d b o (.inr (.inr e))).1 hb.size
 have hor:(A1=some ⟨b,o,none⟩ ∨ A2=some ⟨b,o,none⟩ ∨ A=some ⟨b,o,none⟩) ∨ w.heap.size≤b:=by
  rcases e with e | e | e
  ·exact(n1 b o e).imp (fun h1=>.inl (h1.symm.trans e)) id
  ·exact(n2 b o e).imp (fun h1=>.inr (.inl (h1.symm.trans e))) id
  ·exact .inl (.inr (.inr e))
 rcases hor with h1 | h1
 ·exact⟨hlt,(h.d b o h1).2⟩
 ·exact⟨hlt,by omega,fun e=>by have:=(h.ox.lt b e).2;omega,fun e=>by have:=(h.oh.lt b e).2;omega⟩
theorem Bk.set6b {g:Nat} {t:TypeId} {u0 u1 u2 u3 u4 u5 u6 u7 u8:Value} (h:Bk w g t #[u0,u1,u2,u3,u4,u5,u6,u7,u8]) (v0 v1 v2 v3 v4 v5:Value):Bk (st6 w g v0 v1 v2 v3 v4 v5) g t #[v0,v1,v2,v3,v4,v5,u6,u7,u8]:=(((((h.set 0 v0).set 1 v1).set 2 v2).set 3 v3).set 4 v4).set 5 v5
theorem Bk.set1b {g:Nat} {t:TypeId} {u0 u1 u2 u3 u4 u5 u6 u7 u8:Value} (h:Bk w g t #[u0,u1,u2,u3,u4,u5,u6,u7,u8]) (v:Value):Bk (w.setCell ⟨g,6,none⟩ v) g t #[u0,u1,u2,u3,u4,u5,v,u7,u8]:=h.set 6 v
theorem WR10.mem (h:WR10 w B Nx s A1 c1 A2 c2 A c Vx Vh) (hb:Below w.heap.size w w') (hm:RM w' m' A1' c1' A2' c2') (n1:Nw w.heap.size A1 A1') (n2:Nw w.heap.size A2 A2'):WR10 (st6 w' Nx (.int .i64 m'.old.base) (.int .i64 m'.old.limit) (.slice A1' m'.old.ws.length c1') (.int .i64 m'.yng.base) (.int .i64 m'.yng.limit) (.slice A2' m'.yng.ws.length c2')) B Nx ⟨m',s.cs,s.xs,s.hs⟩ A1' c1' A2' c2' A c Vx Vh∧Kp (fun k=>k=Nx) w' (st6 w' Nx (.int .i64 m'.old.base) (.int .i64 m'.old.limit) (.slice A1' m'.old.ws.length c1') (.int .i64 m'.yng.base) (.int .i64 m'.yng.limit) (.slice A2' m'.yng.ws.length c2')):=by
 have hk:=st6_kp (w:=w') (Nx:=Nx) (v0:=.int .i64 m'.old.base) (v1:=.int .i64 m'.old.limit) (v2:=.slice A1' m'.old.ws.length c1') (v3:=.int .i64 m'.yng.base) (v4:=.int .i64 m'.yng.limit) (v5:=.slice A2' m'.yng.ws.length c2')
 have hx:Bk (st6 w' Nx (.int .i64 m'.old.base) (.int .i64 m'.old.limit) (.slice A1' m'.old.ws.length c1') (.int .i64 m'.yng.base) (.int .i64 m'.yng.limit) (.slice A2' m'.yng.ws.length c2')) Nx 40 (wrC ⟨m',s.cs,s.xs,s.hs⟩ A1' c1' A2' c2' A c Vx Vh):=by
  have h1:=(h.x.below hb h.x.lt).set6b (.int .i64 m'.old.base) (.int .i64 m'.old.limit) (.slice A1' m'.old.ws.length c1') (.int .i64 m'.yng.base) (.int .i64 m'.yng.limit) (.slice A2' m'.yng.ws.length c2')
  exact h1
 exact⟨h.put hb hm (h.rc.below hb) n1 n2 (Nw.refl _ _) hk hx,hk⟩
theorem WR10.both (h:WR10 w B Nx s A1 c1 A2 c2 A c Vx Vh) (hb:Below w.heap.size w w') (hm:RM w' m' A1' c1' A2' c2') (hc:RC w' cs' A' c') (n1:Nw w.heap.size A1 A1') (n2:Nw w.heap.size A2 A2') (n3:Nw w.heap.size A A'):WR10 ((st6 w' Nx (.int .i64 m'.old.base) (.int .i64 m'.old.limit) (.slice A1' m'.old.ws.length c1') (.int .i64 m'.yng.base) (.int .i64 m'.yng.limit) (.slice A2' m'.yng.ws.length c2')).setCell ⟨Nx,6,none⟩ (.slice A' cs'.length c')) B Nx ⟨m',cs',s.xs,s.hs⟩ A1' c1' A2' c2' A' c' Vx Vh∧Kp (fun k=>k=Nx) w' ((st6 w' Nx (.int .i64 m'.old.base) (.int .i64 m'.old.limit) (.slice A1' m'.old.ws.length c1') (.int .i64 m'.yng.base) (.int .i64 m'.yng.limit) (.slice A2' m'.yng.ws.length c2')).setCell ⟨Nx,6,none⟩ (.slice A' cs'.length c')):=by
 have hk:=(st6_kp (w:=w') (Nx:=Nx) (v0:=.int .i64 m'.old.base) (v1:=.int .i64 m'.old.limit) (v2:=.slice A1' m'.old.ws.length c1') (v3:=.int .i64 m'.yng.base) (v4:=.int .i64 m'.yng.limit) (v5:=.slice A2' m'.yng.ws.length c2')).trans (Kp.setCell (S:=fun k=>k=Nx) _ ⟨Nx,6,none⟩ (.slice A' cs'.length c') rfl) fun _ _ e=>e
 have hx:Bk ((st6 w' Nx (.int .i64 m'.old.base) (.int .i64 m'.old.limit) (.slice A1' m'.old.ws.length c1') (.int .i64 m'.yng.base) (.int .i64 m'.yng.limit) (.slice A2' m'.yng.ws.length c2')).setCell ⟨Nx,6,none⟩ (.slice A' cs'.length c')) Nx 40 (wrC ⟨m',cs',s.xs,s.hs⟩ A1' c1' A2' c2' A' c' Vx Vh):=by
  have h1:=((h.x.below hb h.x.lt).set6b (.int .i64 m'.old.base) (.int .i64 m'.old.limit) (.slice A1' m'.old.ws.length c1') (.int .i64 m'.yng.base) (.int .i64 m'.yng.limit) (.slice A2' m'.yng.ws.length c2')).set1b (.slice A' cs'.length c')
  exact h1
 exact⟨h.put hb hm hc n1 n2 n3 hk hx,hk⟩
theorem WR10.crd (h:WR10 w B Nx s A1 c1 A2 c2 A c Vx Vh) (hb:Below w.heap.size w w') (hc:RC w' cs' A' c') (n3:Nw w.heap.size A A'):WR10 (w'.setCell ⟨Nx,6,none⟩ (.slice A' cs'.length c')) B Nx ⟨s.m,cs',s.xs,s.hs⟩ A1 c1 A2 c2 A' c' Vx Vh∧Kp (fun k=>k=Nx) w' (w'.setCell ⟨Nx,6,none⟩ (.slice A' cs'.length c')):=by
 have hk:=Kp.setCell (S:=fun k=>k=Nx) w' ⟨Nx,6,none⟩ (.slice A' cs'.length c') rfl
 have hx:Bk (w'.setCell ⟨Nx,6,none⟩ (.slice A' cs'.length c')) Nx 40 (wrC ⟨s.m,cs',s.xs,s.hs⟩ A1 c1 A2 c2 A' c' Vx Vh):=by
  have h1:=(h.x.below hb h.x.lt).set1b (.slice A' cs'.length c')
  exact h1
 exact⟨h.put hb (h.rm.below hb) hc (Nw.refl _ _) (Nw.refl _ _) n3 hk hx,hk⟩
end
theorem wrapU10 (i:Int):U64 (IntKind.u64.wrap i):=by
 have e:IntKind.u64.wrap i=i % 18446744073709551616:=by
  simp only[IntKind.wrap,IntKind.signed,IntKind.bits]
  simp
 rw[e]
 unfold U64
 omega
/-- the play goes on -/
def Nx10 (w0 w:World) (B Nx r0:Nat) (s:W10):Prop:=∃ A1 c1 A2 c2 A c Vx Vh,WR10 w B Nx s A1 c1 A2 c2 A c Vx Vh∧Below B w0 w∧Bk w r0 40 #[.int .i64 0,.int .i64 0,.slice none 0 0,.int .i64 0,.int .i64 0,.slice none 0 0,.slice none 0 0,.slice none 0 0,.slice none 0 0]
section
variable {w0 w w' w'':World} {B Nx r0:Nat} {s:W10} {A1 A2 A:Option Addr} {c1 c2 c:Nat} {Vx Vh:Value}
theorem Nx10.of (hB:Below B w0 w) (h0:B≤w.heap.size) (hr:Bk w r0 40 #[.int .i64 0,.int .i64 0,.slice none 0 0,.int .i64 0,.int .i64 0,.slice none 0 0,.slice none 0 0,.slice none 0 0,.slice none 0 0]) (hn:B≤Nx) (hne:r0≠Nx) (hb:Below w.heap.size w w') (hk:WR10 w'' B Nx s A1 c1 A2 c2 A c Vx Vh∧Kp (fun k=>k=Nx) w' w''):Nx10 w0 w'' B Nx r0 s :=
 ⟨A1,c1,A2,c2,A,c,Vx,Vh,hk.1,hk.2.toBelow (hB.trans (hb.mono h0)) (Nat.le_trans h0 hb.size) (fun k e=>by rw[e];exact hn),(hr.below hb hr.lt).kp hk.2 hne⟩
end
section
variable {w:World} {l:List OpV} {Al:Option Addr} {cl:Nat}
set_option maxHeartbeats 16000000 in
theorem Build10_any (hl:Op10 w Al l) (hcl:l.length≤cl) (hn:l.length≤1000) (limit:Int):Calls Tryz.prog 41 #[.int .i64 limit,.slice Al l.length cl] w (fun e w'=>B10P w (bld10 limit l) e w'∧In10 limit (bld10 limit l) l.length):=by
 have cN:=fun {w1:World}=>RMNew_any (w:=w1) limit
 obtain⟨i0,hi,hz0,hz1,hz2⟩:=info_parts Tryz.infoI
 have HI:=lh (And.intro hi (And.intro hz0 (And.intro hz1 hz2)))
 obtain⟨ih,hhi,hhz0,hhz1,hhz2⟩:=info_parts i_hdr
 have HIH:=lh (And.intro hhi (And.intro hhz0 (And.intro hhz1 hhz2)))
 have HL:=lh hl
 clear hl hi hz0 hz1 hz2 hhi hhz0 hhz1 hhz2
 go_enter Tryz.func41,Tryz.ntmps41
 go_upto_region 1 with fail
 have HBA:Hid (Below w.heap.size w (w.alloc (.cells #[.int .i64 0,.int .i64 0,.slice none 0 0,.int .i64 0,.int .i64 0,.slice none 0 0,.slice none 0 0,.slice none 0 0,.slice none 0 0] 40))):=lh ((Below.refl _ w).alloc (Nat.le_refl _) _)
 have HRA:Hid (Bk (w.alloc (.cells #[.int .i64 0,.int .i64 0,.slice none 0 0,.int .i64 0,.int .i64 0,.slice none 0 0,.slice none 0 0,.slice none 0 0,.slice none 0 0] 40)) w.heap.size 40 #[.int .i64 0,.int .i64 0,.slice none 0 0,.int .i64 0,.int .i64 0,.slice none 0 0,.slice none 0 0,.slice none 0 0,.slice none 0 0]):=lh (Bk.new _ _ _)
 generalize w.alloc (.cells #[.int .i64 0,.int .i64 0,.slice none 0 0,.int .i64 0,.int .i64 0,.slice none 0 0,.slice none 0 0,.slice none 0 0,.slice none 0 0] 40)=wA at *
 go_wp2_with fail
 refine cN.mono ?_
 rintro e w1 ⟨rfl,hb1⟩
 unfold rmV
 go_upto_region 2 with fail
 have HN1:Hid (w.heap.size < w1.heap.size):=lh (by have:=HRA.out.lt;have:=hb1.size;omega)
 have hb2:Below w1.heap.size w1 (w1.alloc (.cells #[.int .i64 (Mm.new limit).old.base,.int .i64 (Mm.new limit).old.limit,.slice none (Mm.new limit).old.ws.length 0,.int .i64 (Mm.new limit).yng.base,.int .i64 (Mm.new limit).yng.limit,.slice none (Mm.new limit).yng.ws.length 0,.slice none 0 0,.slice none 0 0,.slice none 0 0] 40)):=(Below.refl _ _).alloc (Nat.le_refl _) _
 have HB2:=lh (HBA.out.trans ((hb1.mono HBA.out.size).trans (hb2.mono (Nat.le_trans HBA.out.size hb1.size))))
 have HR2:=lh ((HRA.out.below hb1 HRA.out.lt).below hb2 (Nat.lt_of_lt_of_le HRA.out.lt hb1.size))
 have HW2:Hid (WR10 (w1.alloc (.cells #[.int .i64 (Mm.new limit).old.base,.int .i64 (Mm.new limit).old.limit,.slice none (Mm.new limit).old.ws.length 0,.int .i64 (Mm.new limit).yng.base,.int .i64 (Mm.new limit).yng.limit,.slice none (Mm.new limit).yng.ws.length 0,.slice none 0 0,.slice none 0 0,.slice none 0 0] 40)) w.heap.size w1.heap.size (bld10 limit (l.take 0)) none 0 none 0 none 0 (.slice none 0 0) (.slice none 0 0)):=lh ⟨Bk.new _ _ _,RM.new _ _,RC.new _,⟨rfl,.inl ⟨rfl,rfl⟩⟩,⟨rfl,.inl ⟨rfl,rfl⟩⟩,fun b o e=>by rcases e with e | e | e <;> cases e⟩
 clear hb1 hb2 HBA HRA cN
 generalize w1.alloc (.cells #[.int .i64 (Mm.new limit).old.base,.int .i64 (Mm.new limit).old.limit,.slice none (Mm.new limit).old.ws.length 0,.int .i64 (Mm.new limit).yng.base,.int .i64 (Mm.new limit).yng.limit,.slice none (Mm.new limit).yng.ws.length 0,.slice none 0 0,.slice none 0 0,.slice none 0 0] 40)=w2 at *
 obtain⟨Nx,hNx⟩:∃ Nx,Nx=w1.heap.size:=⟨_,rfl⟩
 obtain⟨r0,hr0⟩:∃ r0,r0=w.heap.size:=⟨_,rfl⟩
 have HNE:Hid (w.heap.size≤Nx∧r0≠Nx∧r0 < Nx∧w.heap.size≤r0):=lh ⟨by have:=HN1.out;omega,by have:=HN1.out;omega,by have:=HN1.out;omega,by omega⟩
 rw[← hNx] at HW2
 rw[← hr0] at HR2
 try rw[← hNx]
 try rw[← hr0]
 clear hNx HN1 hr0
 go_wp2_with fail
 go_loopw [6] (fun i wr=>∃ (j:Nat) (A1:Option Addr) (c1:Nat) (A2:Option Addr) (c2:Nat) (A:Option Addr) (c:Nat) (Vx Vh:Value),i=.int .i64 (j:Int)∧j≤l.length∧WR10 wr w.heap.size Nx (bld10 limit (l.take j)) A1 c1 A2 c2 A c Vx Vh∧In10 limit (bld10 limit (l.take j)) j∧Below w.heap.size w wr∧Bk wr r0 40 #[.int .i64 0,.int .i64 0,.slice none 0 0,.int .i64 0,.int .i64 0,.slice none 0 0,.slice none 0 0,.slice none 0 0,.slice none 0 0]) (fun i _=>l.length - (intOf i).toNat)
 case atStart=>exact⟨0,none,0,none,0,none,0,.slice none 0 0,.slice none 0 0,rfl,Nat.zero_le _,HW2.out,In10.nil limit,HB2.out,HR2.out⟩
 case round =>
  clear HW2 HB2 HR2
  obtain⟨j,A1,c1,A2,c2,A,c,Vx,Vh,rfl,hj,hwr,hin,hbw,hrr⟩:=hrel
  by_cases hlt:j < l.length
  ·have t1:l[j]?=some l[j]:=List.getElem?_eq_getElem hlt
   have HT:Hid (bld10 limit (l.take (j+1))=(bld10 limit (l.take j)).step l[j]):=lh (bld10_take t1)
   obtain⟨bb,oo,rfl,hbl,hcc⟩:=HL.out.resolve_left (fun e=>by rw[e] at hlt;cases hlt)
   obtain⟨hxo,hxc⟩:=hcc j _ t1
   generalize l[j]=x at HT hxo hxc
   obtain⟨k,hd,a,b,i,xw,r⟩:=x
   have HXO:=lh hxo
   have cell:∀ q v,(OpV.cells ⟨k,hd,a,b,i,xw,r⟩)[q]?=some v→wr.cell? ⟨bb,oo+j*9+q,none⟩=some v:=fun q v hv=>(hbw.cell (p:=⟨bb,oo+j*9+q,none⟩) hbl).trans (hxc q v hv)
   unfold OpV.cells at cell
   have c0:wr.cell? ⟨bb,oo+j*9,none⟩=some (.int .u8 k):=cell 0 _ rfl
   have c1:wr.cell? ⟨bb,oo+j*9+1,none⟩=some (.int .i64 hd.k):=cell 1 _ rfl
   have c2:wr.cell? ⟨bb,oo+j*9+2,none⟩=some (.int .i64 hd.c):=cell 2 _ rfl
   have c3:wr.cell? ⟨bb,oo+j*9+3,none⟩=some (.int .i64 hd.f):=cell 3 _ rfl
   have c4:wr.cell? ⟨bb,oo+j*9+4,none⟩=some (.int .i64 a):=cell 4 _ rfl
   have c5:wr.cell? ⟨bb,oo+j*9+5,none⟩=some (.int .i64 b):=cell 5 _ rfl
   have c6:wr.cell? ⟨bb,oo+j*9+6,none⟩=some (.int .i64 i):=cell 6 _ rfl
   have c7:wr.cell? ⟨bb,oo+j*9+7,none⟩=some (.int .u64 xw):=cell 7 _ rfl
   have c8:wr.cell? ⟨bb,oo+j*9+8,none⟩=some (.bool r):=cell 8 _ rfl
   obtain⟨s,hs⟩:∃ s,s=bld10 limit (l.take j):=⟨_,rfl⟩
   rw[← hs] at HT hwr hin
   have hxl:=hin.xl
   have hcs:=hin.cs.len
   have hx1:s.xs.length≤1000000:=by omega
   have HCS:Hid (s.cs.length≤100000):=lh (by omega)
   have HXL:=lh hx1
   have HIN:=lh hin
   obtain⟨Ax,cx,rfl,hcx⟩:=own_shape hwr.ox
   have HCX:=lh hcx
   have HW:=lh hwr
   have HBW:=lh hbw
   have HRR:=lh hrr
   have KEY:∀ wf,Nx10 w wf w.heap.size Nx r0 (s.step ⟨k,hd,a,b,i,xw,r⟩)→∃ (A1:Option Addr) (c1:Nat) (A2:Option Addr) (c2:Nat) (A:Option Addr) (c:Nat) (Vx Vh:Value),WR10 wf w.heap.size Nx (bld10 limit (l.take (j+1))) A1 c1 A2 c2 A c Vx Vh∧In10 limit (bld10 limit (l.take (j+1))) (j+1)∧Below w.heap.size w wf∧Bk wf r0 40 #[.int .i64 0,.int .i64 0,.slice none 0 0,.int .i64 0,.int .i64 0,.slice none 0 0,.slice none 0 0,.slice none 0 0,.slice none 0 0]:=fun wf ⟨A1,c1,A2,c2,A,c,Vx,Vh,h1,h2,h3⟩=>⟨A1,c1,A2,c2,A,c,Vx,Vh,by rw[HT.out];exact h1,by rw[HT.out];exact HIN.out.stepR _ h1.rm,h2,h3⟩
   have HK:=lh KEY
   clear t1 hcc hxo hxc cell hwr hin hs hbw hrr hxl hcs hcx KEY hbl
   go_upto_region 6 with fail
   have hal:Below wr.heap.size wr (wr.alloc (.cells #[.int .u8 k,.int .i64 hd.k,.int .i64 hd.c,.int .i64 hd.f,.int .i64 a,.int .i64 b,.int .i64 i,.int .u64 xw,.bool r] 87)):=(Below.refl _ _).alloc (Nat.le_refl _) _
   have h1:=HW.out.below hal
   have HX0:=lh (Bk.new wr 87 #[.int .u8 k,.int .i64 hd.k,.int .i64 hd.c,.int .i64 hd.f,.int .i64 a,.int .i64 b,.int .i64 i,.int .u64 xw,.bool r])
   have hB1:=HBW.out.trans (hal.mono HBW.out.size)
   have hR1:=HRR.out.below hal HRR.out.lt
   generalize wr.alloc (.cells #[.int .u8 k,.int .i64 hd.k,.int .i64 hd.c,.int .i64 hd.f,.int .i64 a,.int .i64 b,.int .i64 i,.int .u64 xw,.bool r] 87)=w4 at *
   generalize wr.heap.size=bx at *
   have cP:=fun n a ha=>Pick10_any (w:=w4.drewN n) (IS.below ⟨own_sl h1.ox,HCX.out⟩ (below_drewN (Below.refl _ w4) n)) hx1 a ha
   have H1:=lh h1
   have HB1:=lh hB1
   have HR1:=lh hR1
   have x4:w4.cell? ⟨bx,4,none⟩=some (.int .i64 a):=HX0.out.cell 4
   have x5:w4.cell? ⟨bx,5,none⟩=some (.int .i64 b):=HX0.out.cell 5
   have m7:w4.cell? ⟨Nx,7,none⟩=some (.slice Ax s.xs.length cx):=h1.x.cell 7
   clear h1 hB1 hR1 hal HW HBW HRR c0 c1 c2 c3 c4 c5 c6 c7 c8
   go_quiet ((go_at_call 47;exact Calls.quiet_of_same ((cP _ _ (by first | exact⟨HXO.out.a0,HXO.out.a1⟩ | exact⟨HXO.out.b0,HXO.out.b1⟩)).mono fun _ _ h=>⟨h.1,h.2.symm⟩)))
   have hbq:=below_drewN (Below.refl w4.heap.size w4) nq
   have H5:=lh (H1.out.below hbq)
   have HX:=lh (HX0.out.below hbq HX0.out.lt)
   have HB5:=lh (HB1.out.trans (hbq.mono HB1.out.size))
   have HR5:=lh (HR1.out.below hbq HR1.out.lt)
   clear hbq cP x4 x5 m7 H1 HB1 HR1 HX0
   generalize w4.drewN nq=w5 at *
   obtain⟨pa,hpa⟩:∃ pa,pa=objAt s.xs a:=⟨_,rfl⟩
   obtain⟨pb,hpb⟩:∃ pb,pb=objAt s.xs b:=⟨_,rfl⟩
   have HPA:=lh hpa
   have HPB:=lh hpb
   rw[← hpa,← hpb]
   clear hpa hpb
   obtain⟨vw,hvw⟩:∃ vw,vw=wd10 s.xs ⟨k,hd,a,b,i,xw,r⟩:=⟨_,rfl⟩
   have HVW:=lh hvw
   have HVU:Hid (U64 vw):=lh (by rw[hvw];exact wd10_u HXO.out.w _)
   clear hvw
   have x7:w5.cell? ⟨bx,7,none⟩=some (.int .u64 xw):=HX.out.cell 7
   have x8:w5.cell? ⟨bx,8,none⟩=some (.bool r):=HX.out.cell 8
   go_upto_if 40 with fail
   go_cut [10] from 17 to 162 (fun v wx=>v=.int .u64 vw∧wx=w5)
   case first =>
    cases r with
    | true =>
     have HW:Hid (vw=frW (max 0 pb)):=lh (by rw[HVW.out,HPB.out];rfl)
     have cF:=fun w=>RFromAddress_any (max 0 pb) w
     have hmx:=fun ts t w=>run_max2 (P:=Tryz.prog) ts t 0 pb w
     clear x7 x8
     go_wp2_with fail
     refine(cF _).mono ?_
     rintro e w2 ⟨rfl,rfl⟩
     unfold frA
     unfold frW at HW
     cases hin:inA (max 0 pb) with
     | true =>
      rw[hin] at HW
      go_wp2_with fail
      go_meet
      case rel=>exact⟨by rw[HW.out];rfl,rfl⟩
     | false =>
      rw[hin] at HW
      go_wp2_with fail
      go_meet
      case rel=>exact⟨by rw[HW.out];rfl,rfl⟩
    | false =>
     have HW:Hid (vw=xw):=lh (by rw[HVW.out];rfl)
     go_wp2_with fail
     go_meet
     case rel=>exact⟨by rw[HW.out],rfl⟩
   case rest =>
    obtain⟨rfl,rfl⟩:=hcut
    clear x7 x8
    have hk0:0≤k:=HXO.out.k0
    rcases (show k=0 ∨ k=1 ∨ k=2 ∨ k=3 ∨ k=4 ∨ k=5 ∨ k=6 ∨ k=7 ∨ 7 < k by omega) with rfl | rfl | rfl | rfl | rfl | rfl | rfl | rfl | hk7
    ·obtain⟨er,m2,ad,hr⟩:∃ er m2 ad,s.m.alloc false hd ⟨1,1+s.xs.length⟩=(er,m2,ad):=⟨_,_,_,rfl⟩
     have HA:Hid (s.step ⟨0,hd,a,b,i,xw,r⟩=s.alloc false hd):=lh (by
      unfold W10.step
      dsimp only
      rw[if_pos rfl])
     have HR:=lh hr
     have cR:=RMAlloc_any H5.out.rm false hd ⟨1,1+s.xs.length⟩
     rw[hr] at cR
     unfold rmV Hdr.val Id.val at cR
     have m0:wc.cell? ⟨Nx,0,none⟩=some (.int .i64 s.m.old.base):=H5.out.x.cell 0
     have m1:wc.cell? ⟨Nx,1,none⟩=some (.int .i64 s.m.old.limit):=H5.out.x.cell 1
     have m2:wc.cell? ⟨Nx,2,none⟩=some (.slice A1 s.m.old.ws.length c1):=H5.out.x.cell 2
     have m3:wc.cell? ⟨Nx,3,none⟩=some (.int .i64 s.m.yng.base):=H5.out.x.cell 3
     have m4:wc.cell? ⟨Nx,4,none⟩=some (.int .i64 s.m.yng.limit):=H5.out.x.cell 4
     have m5:wc.cell? ⟨Nx,5,none⟩=some (.slice A2 s.m.yng.ws.length c2):=H5.out.x.cell 5
     have m7:wc.cell? ⟨Nx,7,none⟩=some (.slice Ax s.xs.length cx):=H5.out.x.cell 7
     have x0:wc.cell? ⟨bx,0,none⟩=some (.int .u8 0):=HX.out.cell 0
     have x1:wc.cell? ⟨bx,1,none⟩=some (.int .i64 hd.k):=HX.out.cell 1
     have x2:wc.cell? ⟨bx,2,none⟩=some (.int .i64 hd.c):=HX.out.cell 2
     have x3:wc.cell? ⟨bx,3,none⟩=some (.int .i64 hd.f):=HX.out.cell 3
     have hxl:s.xs.length≤1000000:=HXL.out
     clear hr hk0
     go_wp2_with fail
     refine cR.mono ?_
     rintro e w6 ⟨A1',c1',A2',c2',rfl,hm,hb,n1,n2⟩
     unfold rmV
     have H6:=lh (H5.out.below hb)
     have HB6:=lh (HB5.out.trans (hb.mono HB5.out.size))
     have HR6:=lh (HR5.out.below hb HR5.out.lt)
     have HX6:=lh (HX.out.below hb HX.out.lt)
     have HD6:Hid (∀ b o,A1'=some ⟨b,o,none⟩ ∨ A2'=some ⟨b,o,none⟩ ∨ A=some ⟨b,o,none⟩→b < w6.heap.size∧Nx < b∧(Value.slice Ax s.xs.length cx).ownBlock≠some b∧Vh.ownBlock≠some b):=lh (H5.out.dnew hb hm n1 n2)
     have HM6:=lh hm
     clear cR hb n1 n2 hm m0 m1 m2 m3 m4 m5 m7 x0 x1 x2 x3
     by_cases he:er=0
     ·subst he
      have HS:Hid (s.step ⟨0,hd,a,b,i,xw,r⟩=⟨m2,s.cs,s.xs++[ad],s.hs++[hd]⟩):=lh (by rw[HA.out];unfold W10.alloc;rw[HR.out];rfl)
      go_upto_region 15 with fail
      have hb7:Below w6.heap.size w6 (w6.alloc (.cells #[.int .i64 m2.old.base,.int .i64 m2.old.limit,.slice A1' m2.old.ws.length c1',.int .i64 m2.yng.base,.int .i64 m2.yng.limit,.slice A2' m2.yng.ws.length c2'] 35)):=(Below.refl _ _).alloc (Nat.le_refl _) _
      have HBE:Hid (Bk (w6.alloc (.cells #[.int .i64 m2.old.base,.int .i64 m2.old.limit,.slice A1' m2.old.ws.length c1',.int .i64 m2.yng.base,.int .i64 m2.yng.limit,.slice A2' m2.yng.ws.length c2'] 35)) w6.heap.size 35 #[.int .i64 m2.old.base,.int .i64 m2.old.limit,.slice A1' m2.old.ws.length c1',.int .i64 m2.yng.base,.int .i64 m2.yng.limit,.slice A2' m2.yng.ws.length c2']):=lh (Bk.new _ _ _)
      have H7:=lh (H6.out.below hb7)
      have HB7:=lh (HB6.out.trans (hb7.mono HB6.out.size))
      have HR7:=lh (HR6.out.below hb7 HR6.out.lt)
      have HX7:=lh (HX6.out.below hb7 HX6.out.lt)
      have HM7:=lh (HM6.out.below hb7)
      have HD7:Hid (∀ b o,A1'=some ⟨b,o,none⟩ ∨ A2'=some ⟨b,o,none⟩ ∨ A=some ⟨b,o,none⟩→b < (w6.alloc (.cells #[.int .i64 m2.old.base,.int .i64 m2.old.limit,.slice A1' m2.old.ws.length c1',.int .i64 m2.yng.base,.int .i64 m2.yng.limit,.slice A2' m2.yng.ws.length c2'] 35)).heap.size∧Nx < b∧(Value.slice Ax s.xs.length cx).ownBlock≠some b∧Vh.ownBlock≠some b):=lh (fun b o e=>let ⟨h1,h2⟩:=HD6.out b o e;⟨Nat.lt_of_lt_of_le h1 hb7.size,h2⟩)
      clear hb7 H6 HB6 HR6 HX6 HM6 HD6 H5 HB5 HR5 HX
      generalize w6.alloc (.cells #[.int .i64 m2.old.base,.int .i64 m2.old.limit,.slice A1' m2.old.ws.length c1',.int .i64 m2.yng.base,.int .i64 m2.yng.limit,.slice A2' m2.yng.ws.length c2'] 35)=w7 at *
      generalize w6.heap.size=be at *
      obtain⟨p,hp⟩:∃ p:P15,p=⟨w7,w.heap.size,Nx,bx,s.xs,s.hs,.slice Ax s.xs.length cx,Vh,.slice A s.cs.length c,ad,hd,.int .i64 s.m.old.base,.int .i64 s.m.old.limit,.slice A1 s.m.old.ws.length c1,.int .i64 s.m.yng.base,.int .i64 s.m.yng.limit,.slice A2 s.m.yng.ws.length c2,.int .i64 m2.old.base,.int .i64 m2.old.limit,.slice A1' m2.old.ws.length c1',.int .i64 m2.yng.base,.int .i64 m2.yng.limit,.slice A2' m2.yng.ws.length c2'⟩:=⟨_,rfl⟩
      have HP:=lh hp
      have hpw:p.W=w7:=by rw[hp]
      have HXP:Hid (Bk p.W p.Nx 40 #[p.c0,p.c1,p.c2,p.c3,p.c4,p.c5,p.Tv,p.Vx,p.Vh]):=lh (by rw[hp];exact H7.out.x)
      have HOX:Hid (p.W.ownsRow p.B 3 1 p.Vx p.xs.length (ints p.xs)):=lh (by rw[hp];exact H7.out.ox)
      have HOH:Hid (p.W.ownsRow p.B 58 3 p.Vh p.hs.length (hcs p.hs)):=lh (by rw[hp];exact H7.out.oh)
      have HBX:Hid (Bk p.W bx 87 #[.int .u8 0,.int .i64 hd.k,.int .i64 hd.c,.int .i64 hd.f,.int .i64 a,.int .i64 b,.int .i64 i,.int .u64 xw,.bool r]):=lh (by rw[hp];exact HX7.out)
      have HBE2:Hid (Bk p.W be 35 #[p.d0,p.d1,p.d2,p.d3,p.d4,p.d5]):=lh (by rw[hp];exact HBE.out)
      have HLB:Hid (s.hs.length≤1000000):=lh (by rw[HIN.out.hl];exact HXL.out)
      have HSZ:Hid (p.B≤p.W.heap.size):=lh (by rw[hp];exact HB7.out.size)
      clear hp hpw hxl
      refine wp_region_invC 18 (fun i=>([[],[],[1],[],[3],[2,4],[],[6],[],[8],[9],[7,10],[],[0,12],[],[5,14],[],[11,16]]:List (List Nat)).getD i []) (R15 p) (by kernel_rfl) (by kernel_rfl) (by rfl) (fun vs=>?_) ?_ ?_
      ·rw[show w7=p.W by rw[HP.out]]
       exact R15.start rfl HXP.out HOX.out HOH.out vs
      ·intro i hi o ho L vs w8 hls hun hwt hcl hI
       have hB:p.B≤w8.heap.size:=Nat.le_trans HSZ.out hI.k.size
       rcases (show i=0 ∨ i=1 ∨ i=2 ∨ i=3 ∨ i=4 ∨ i=5 ∨ i=6 ∨ i=7 ∨ i=8 ∨ i=9 ∨ i=10 ∨ i=11 ∨ i=12 ∨ i=13 ∨ i=14 ∨ i=15 ∨ i=16 ∨ i=17 by omega) with rfl | rfl | rfl | rfl | rfl | rfl | rfl | rfl | rfl | rfl | rfl | rfl | rfl | rfl | rfl | rfl | rfl | rfl <;> cases ho
       ·have hbe:=hI.keep HBE2.out HXP.out HOX.out HOH.out (by decide) (by decide) (by decide)
        rw[show p.d0=.int .i64 m2.old.base by rw[HP.out],show p.d1=.int .i64 m2.old.limit by rw[HP.out],show p.d2=.slice A1' m2.old.ws.length c1' by rw[HP.out],show p.d3=.int .i64 m2.yng.base by rw[HP.out],show p.d4=.int .i64 m2.yng.limit by rw[HP.out],show p.d5=.slice A2' m2.yng.ws.length c2' by rw[HP.out]] at hbe
        have e0:w8.cell? ⟨be,0,none⟩=some (.int .i64 m2.old.base):=hbe.cell 0
        have e1:w8.cell? ⟨be,1,none⟩=some (.int .i64 m2.old.limit):=hbe.cell 1
        have e2:w8.cell? ⟨be,2,none⟩=some (.slice A1' m2.old.ws.length c1'):=hbe.cell 2
        have e3:w8.cell? ⟨be,3,none⟩=some (.int .i64 m2.yng.base):=hbe.cell 3
        have e4:w8.cell? ⟨be,4,none⟩=some (.int .i64 m2.yng.limit):=hbe.cell 4
        have e5:w8.cell? ⟨be,5,none⟩=some (.slice A2' m2.yng.ws.length c2'):=hbe.cell 5
        clear hbe
        change Made _ _ (Sem.run _ (execOp (Act.eval (frm _ _ _ [])) _) _)
        simp only[frm]
        have HI2:=lh hI
        have HLS:=lh hls
        clear hI hwt hun hcl hls hB
        go_simp
        refine made_ok ?_
        exact HI2.out.pure (by decide) (fun x hx=>by rw[HP.out] at hx;cases hx;rfl)
       ·change Made _ _ (Sem.run _ (execOp (Act.eval (frm _ _ _ [])) _) _)
        simp only[frm]
        have HI2:=lh hI
        have HLS:=lh hls
        clear hI hwt hun hcl hls hB
        go_simp
        refine made_ok ?_
        exact HI2.out.pure (by decide) (fun x hx=>by rw[HP.out] at hx;cases hx;rfl)
       ·have h1:vs 1=.pointer (some ⟨Nx,7,none⟩):=by have h9:=hI.v 1 _ rfl (hwt 1 (by kernel_rfl));rw[HP.out] at h9;exact h9
        have n1:L.getD 5 false=false:=hcl.nd hun (by kernel_rfl)
        have n2:L.getD 15 false=false:=hcl.nd n1 (by kernel_rfl)
        have e0:w8.cell? ⟨Nx,7,none⟩=some (.slice Ax s.xs.length cx):=by
         have h9:=hI.x.cell 7
         have h8:(p.cx L vs)[7]?=some p.Vx:=by show some (stg L 15 _ _)=_;unfold stg;rw[n2];rfl
         rw[h8,HP.out] at h9
         exact h9
        clear n1 n2
        change Made _ _ (Sem.run _ (execOp (Act.eval (Act.put (frm _ _ _ []) (some 72) (vs 1))) _) _)
        simp only[frm,h1]
        have HI2:=lh hI
        have HLS:=lh hls
        clear hI hwt hun hcl hls hB
        go_simp
        refine made_ok ?_
        exact HI2.out.pure (by decide) (fun x hx=>by rw[HP.out] at hx;cases hx;rfl)
       ·change Made _ _ (Sem.run _ (execOp (Act.eval (frm _ _ _ [])) _) _)
        simp only[frm]
        have HI2:=lh hI
        have HLS:=lh hls
        clear hI hwt hun hcl hls hB
        go_simp
        refine made_ok ?_
        exact HI2.out.pure (by decide) (fun x hx=>by rw[HP.out] at hx;cases hx;rfl)
       ·have h3:vs 3=.int .i64 ad:=by have h9:=hI.v 3 _ rfl (hwt 3 (by kernel_rfl));rw[HP.out] at h9;exact h9
        change Made _ _ (Sem.run _ (execOp (Act.eval (Act.put (frm _ _ _ []) (some 74) (vs 3))) _) _)
        simp only[frm,h3]
        have HI2:=lh hI
        have HLS:=lh hls
        clear hI hwt hun hcl hls hB
        go_simp
        refine made_ok ?_
        have h9:=HI2.out.alloc4 (by rw[HLS.out];decide)
        rw[show p.ad=ad by rw[HP.out]] at h9
        exact h9
       ·have h2:vs 2=.slice Ax s.xs.length cx:=by have h9:=hI.v 2 _ rfl (hwt 2 (by kernel_rfl));rw[HP.out] at h9;exact h9
        obtain⟨g,h4,hbk,hgg⟩:=hI.b4 (hwt 4 (by kernel_rfl)) hun
        have n2:L.getD 15 false=false:=hcl.nd hun (by kernel_rfl)
        have hown:=hI.r5 hun
        change Made _ _ (Sem.run _ (execOp (Act.eval (Act.put (Act.put (frm _ _ _ []) (some 75) (vs 4)) (some 73) (vs 2))) _) _)
        simp only[frm,h2,h4]
        rw[show p.ad=ad by rw[HP.out]] at hbk
        have hsl:Sl w8 1 (some ⟨g,0,none⟩) 1 [.int .i64 ad]:=⟨rfl,.inr ⟨g,0,rfl,hbk.lt,fun j x hx=>by rw[Nat.zero_add,hbk.cell];simpa using hx⟩⟩
        have hlen:p.xs.length≤1000000:=by rw[show p.xs=s.xs by rw[HP.out]];exact HXL.out
        rw[show p.Vx=.slice Ax s.xs.length cx by rw[HP.out]] at hown
        refine made_append (.tmp 73) (.tmp 75) 23 rfl Tryz.underlying23 HI.out.1 HI.out.2.1 HI.out.2.2.1 HI.out.2.2.2 rfl (by decide) (v:=.slice Ax s.xs.length cx) rfl hown (A:=some ⟨g,0,none⟩) (m:=1) (c:=1) rfl hsl (by simp[Value.oneCell']) (by unfold maxLen;omega) (by omega) hB fun v' w' ho hg h4=>?_
        refine hI.app5 (by rw[hls];decide) hun n2 ?_ ?_ ?_
        ·rw[show p.ad=ad by rw[HP.out]] at *;exact ho
        ·rw[show p.Vx=.slice Ax s.xs.length cx by rw[HP.out]];exact hg
        ·rw[show p.Vx=.slice Ax s.xs.length cx by rw[HP.out]];exact h4
       ·change Made _ _ (Sem.run _ (execOp (Act.eval (frm _ _ _ [])) _) _)
        simp only[frm]
        have HI2:=lh hI
        have HLS:=lh hls
        clear hI hwt hun hcl hls hB
        go_simp
        refine made_ok ?_
        exact HI2.out.pure (by decide) (fun x hx=>by rw[HP.out] at hx;cases hx;rfl)
       ·have h6:vs 6=.pointer (some ⟨Nx,8,none⟩):=by have h9:=hI.v 6 _ rfl (hwt 6 (by kernel_rfl));rw[HP.out] at h9;exact h9
        have n1:L.getD 11 false=false:=hcl.nd hun (by kernel_rfl)
        have n2:L.getD 17 false=false:=hcl.nd n1 (by kernel_rfl)
        have e0:w8.cell? ⟨Nx,8,none⟩=some (Vh):=by
         have h9:=hI.x.cell 8
         have h8:(p.cx L vs)[8]?=some p.Vh:=by show some (stg L 17 _ _)=_;unfold stg;rw[n2];rfl
         rw[h8,HP.out] at h9
         exact h9
        clear n1 n2
        change Made _ _ (Sem.run _ (execOp (Act.eval (Act.put (frm _ _ _ []) (some 77) (vs 6))) _) _)
        simp only[frm,h6]
        have HI2:=lh hI
        have HLS:=lh hls
        clear hI hwt hun hcl hls hB
        go_simp
        refine made_ok ?_
        exact HI2.out.pure (by decide) (fun x hx=>by rw[HP.out] at hx;cases hx;rfl)
       ·change Made _ _ (Sem.run _ (execOp (Act.eval (frm _ _ _ [])) _) _)
        simp only[frm]
        have HI2:=lh hI
        have HLS:=lh hls
        clear hI hwt hun hcl hls hB
        go_simp
        refine made_ok ?_
        exact HI2.out.pure (by decide) (fun x hx=>by rw[HP.out] at hx;cases hx;rfl)
       ·have h8:vs 8=.pointer (some ⟨bx,1,none⟩):=by have h9:=hI.v 8 _ rfl (hwt 8 (by kernel_rfl));rw[HP.out] at h9;exact h9
        have hbe:=hI.keep HBX.out HXP.out HOX.out HOH.out (by decide) (by decide) (by decide)
        have e1:w8.cell? ⟨bx,1,none⟩=some (.int .i64 hd.k):=hbe.cell 1
        have e2:w8.cell? ⟨bx,2,none⟩=some (.int .i64 hd.c):=hbe.cell 2
        have e3:w8.cell? ⟨bx,3,none⟩=some (.int .i64 hd.f):=hbe.cell 3
        clear hbe
        change Made _ _ (Sem.run _ (execOp (Act.eval (Act.put (frm _ _ _ []) (some 79) (vs 8))) _) _)
        simp only[frm,h8]
        have HI2:=lh hI
        have HLS:=lh hls
        clear hI hwt hun hcl hls hB
        go_simp
        refine made_ok ?_
        exact HI2.out.pure (by decide) (fun x hx=>by rw[HP.out] at hx;cases hx;rfl)
       ·have h9:vs 9=.agg #[.int .i64 hd.k,.int .i64 hd.c,.int .i64 hd.f]:=by have h9:=hI.v 9 _ rfl (hwt 9 (by kernel_rfl));rw[HP.out] at h9;exact h9
        change Made _ _ (Sem.run _ (execOp (Act.eval (Act.put (frm _ _ _ []) (some 80) (vs 9))) _) _)
        simp only[frm,h9]
        have HI2:=lh hI
        have HLS:=lh hls
        clear hI hwt hun hcl hls hB
        go_simp
        refine made_ok ?_
        have h9:=HI2.out.alloc10 (by rw[HLS.out];decide)
        rw[show p.hd=hd by rw[HP.out]] at h9
        exact h9
       ·have h7:vs 7=Vh:=by have h9:=hI.v 7 _ rfl (hwt 7 (by kernel_rfl));rw[HP.out] at h9;exact h9
        obtain⟨g,h10,hbk,hgg⟩:=hI.b10 (hwt 10 (by kernel_rfl)) hun
        have n2:L.getD 17 false=false:=hcl.nd hun (by kernel_rfl)
        have hown:=hI.r11 hun
        change Made _ _ (Sem.run _ (execOp (Act.eval (Act.put (Act.put (frm _ _ _ []) (some 81) (vs 10)) (some 78) (vs 7))) _) _)
        simp only[frm,h7,h10]
        rw[show p.hd=hd by rw[HP.out]] at hbk
        have hsl:Sl w8 3 (some ⟨g,0,none⟩) 1 [.int .i64 hd.k,.int .i64 hd.c,.int .i64 hd.f]:=⟨rfl,.inr ⟨g,0,rfl,hbk.lt,fun j x hx=>by rw[Nat.zero_add,hbk.cell];simpa using hx⟩⟩
        have hlen:p.hs.length≤1000000:=by rw[show p.hs=s.hs by rw[HP.out]];exact HLB.out
        rw[show p.Vh=Vh by rw[HP.out]] at hown
        refine made_append (.tmp 78) (.tmp 81) 38 rfl Tryz.underlying38 HIH.out.1 HIH.out.2.1 HIH.out.2.2.1 HIH.out.2.2.2 rfl (by decide) (v:=Vh) rfl hown (A:=some ⟨g,0,none⟩) (m:=1) (c:=1) rfl hsl (by simp[Value.oneCell']) (by unfold maxLen;omega) (by omega) hB fun v' w' ho hg h4=>?_
        refine hI.app11 (by rw[hls];decide) hun n2 ?_ ?_ ?_
        ·rw[show p.hd=hd by rw[HP.out]] at *;exact ho
        ·rw[show p.Vh=Vh by rw[HP.out]];exact hg
        ·rw[show p.Vh=Vh by rw[HP.out]];exact h4
       ·change Made _ _ (Sem.run _ (execOp (Act.eval (frm _ _ _ [])) _) _)
        simp only[frm]
        have HI2:=lh hI
        have HLS:=lh hls
        clear hI hwt hun hcl hls hB
        go_simp
        refine made_ok ?_
        exact HI2.out.pure (by decide) (fun x hx=>by rw[HP.out] at hx;cases hx;rfl)
       ·have h0:vs 0=.agg #[.int .i64 m2.old.base,.int .i64 m2.old.limit,.slice A1' m2.old.ws.length c1',.int .i64 m2.yng.base,.int .i64 m2.yng.limit,.slice A2' m2.yng.ws.length c2']:=by have h9:=hI.v 0 _ rfl (hwt 0 (by kernel_rfl));rw[HP.out] at h9;exact h9
        have h12:vs 12=.pointer (some ⟨Nx,0,none⟩):=by have h9:=hI.v 12 _ rfl (hwt 12 (by kernel_rfl));rw[HP.out] at h9;exact h9
        have n2:L.getD 13 false=false:=hun
        have e0:w8.cell? ⟨Nx,0,none⟩=some (.int .i64 s.m.old.base):=by have h9:=hI.x.cell 0;rw[show(p.cx L vs)[0]?=some p.c0 by show some (stg L 13 _ _)=_;unfold stg;rw[n2];rfl,HP.out] at h9;exact h9
        have f0:w8.frozen? ⟨Nx,0,none⟩=false:=by have h9:=hI.x.free 0;rw[HP.out] at h9;exact h9
        have e1:w8.cell? ⟨Nx,1,none⟩=some (.int .i64 s.m.old.limit):=by have h9:=hI.x.cell 1;rw[show(p.cx L vs)[1]?=some p.c1 by show some (stg L 13 _ _)=_;unfold stg;rw[n2];rfl,HP.out] at h9;exact h9
        have f1:w8.frozen? ⟨Nx,1,none⟩=false:=by have h9:=hI.x.free 1;rw[HP.out] at h9;exact h9
        have e2:w8.cell? ⟨Nx,2,none⟩=some (.slice A1 s.m.old.ws.length c1):=by have h9:=hI.x.cell 2;rw[show(p.cx L vs)[2]?=some p.c2 by show some (stg L 13 _ _)=_;unfold stg;rw[n2];rfl,HP.out] at h9;exact h9
        have f2:w8.frozen? ⟨Nx,2,none⟩=false:=by have h9:=hI.x.free 2;rw[HP.out] at h9;exact h9
        have e3:w8.cell? ⟨Nx,3,none⟩=some (.int .i64 s.m.yng.base):=by have h9:=hI.x.cell 3;rw[show(p.cx L vs)[3]?=some p.c3 by show some (stg L 13 _ _)=_;unfold stg;rw[n2];rfl,HP.out] at h9;exact h9
        have f3:w8.frozen? ⟨Nx,3,none⟩=false:=by have h9:=hI.x.free 3;rw[HP.out] at h9;exact h9
        have e4:w8.cell? ⟨Nx,4,none⟩=some (.int .i64 s.m.yng.limit):=by have h9:=hI.x.cell 4;rw[show(p.cx L vs)[4]?=some p.c4 by show some (stg L 13 _ _)=_;unfold stg;rw[n2];rfl,HP.out] at h9;exact h9
        have f4:w8.frozen? ⟨Nx,4,none⟩=false:=by have h9:=hI.x.free 4;rw[HP.out] at h9;exact h9
        have e5:w8.cell? ⟨Nx,5,none⟩=some (.slice A2 s.m.yng.ws.length c2):=by have h9:=hI.x.cell 5;rw[show(p.cx L vs)[5]?=some p.c5 by show some (stg L 13 _ _)=_;unfold stg;rw[n2];rfl,HP.out] at h9;exact h9
        have f5:w8.frozen? ⟨Nx,5,none⟩=false:=by have h9:=hI.x.free 5;rw[HP.out] at h9;exact h9
        clear n2
        change Made _ _ (Sem.run _ (execOp (Act.eval (Act.put (Act.put (frm _ _ _ []) (some 83) (vs 12)) (some 71) (vs 0))) _) _)
        simp only[frm,h0,h12]
        have HI2:=lh hI
        have HLS:=lh hls
        clear hI hwt hun hcl hls hB
        go_simp
        refine made_skip ?_
        have h9:=HI2.out.st13 (by rw[HLS.out];decide) HXP.out.lt
        rw[show p.Nx=Nx by rw[HP.out],show p.d0=.int .i64 m2.old.base by rw[HP.out],show p.d1=.int .i64 m2.old.limit by rw[HP.out],show p.d2=.slice A1' m2.old.ws.length c1' by rw[HP.out],show p.d3=.int .i64 m2.yng.base by rw[HP.out],show p.d4=.int .i64 m2.yng.limit by rw[HP.out],show p.d5=.slice A2' m2.yng.ws.length c2' by rw[HP.out]] at h9
        exact h9
       ·change Made _ _ (Sem.run _ (execOp (Act.eval (frm _ _ _ [])) _) _)
        simp only[frm]
        have HI2:=lh hI
        have HLS:=lh hls
        clear hI hwt hun hcl hls hB
        go_simp
        refine made_ok ?_
        exact HI2.out.pure (by decide) (fun x hx=>by rw[HP.out] at hx;cases hx;rfl)
       ·have h14:vs 14=.pointer (some ⟨Nx,7,none⟩):=by have h9:=hI.v 14 _ rfl (hwt 14 (by kernel_rfl));rw[HP.out] at h9;exact h9
        obtain⟨A5,k5,h5,_⟩:=own_shape (hI.q5 (hwt 5 (by kernel_rfl))).1
        have e0:w8.cell? ⟨Nx,7,none⟩=some (stg L 15 (.slice Ax s.xs.length cx) (vs 5)):=by
         have h9:=hI.x.cell 7
         have h8:(p.cx L vs)[7]?=some (stg L 15 p.Vx (vs 5)):=rfl
         rw[h8,HP.out] at h9
         exact h9
        have f0:w8.frozen? ⟨Nx,7,none⟩=false:=by have h9:=hI.x.free 7;rw[HP.out] at h9;exact h9
        change Made _ _ (Sem.run _ (execOp (Act.eval (Act.put (Act.put (frm _ _ _ []) (some 84) (vs 14)) (some 76) (vs 5))) _) _)
        simp only[frm,h14,h5]
        have HI2:=lh hI
        have HLS:=lh hls
        clear hI hwt hun hcl hls hB
        go_simp
        refine made_skip ?_
        have h9:=HI2.out.st15 (by rw[HLS.out];decide) HXP.out.lt
        rw[show p.Nx=Nx by rw[HP.out],h5] at h9
        exact h9
       ·change Made _ _ (Sem.run _ (execOp (Act.eval (frm _ _ _ [])) _) _)
        simp only[frm]
        have HI2:=lh hI
        have HLS:=lh hls
        clear hI hwt hun hcl hls hB
        go_simp
        refine made_ok ?_
        exact HI2.out.pure (by decide) (fun x hx=>by rw[HP.out] at hx;cases hx;rfl)
       ·have h16:vs 16=.pointer (some ⟨Nx,8,none⟩):=by have h9:=hI.v 16 _ rfl (hwt 16 (by kernel_rfl));rw[HP.out] at h9;exact h9
        obtain⟨A5,k5,h11,_⟩:=own_shape (hI.q11 (hwt 11 (by kernel_rfl))).1
        have e0:w8.cell? ⟨Nx,8,none⟩=some (stg L 17 Vh (vs 11)):=by
         have h9:=hI.x.cell 8
         have h8:(p.cx L vs)[8]?=some (stg L 17 p.Vh (vs 11)):=rfl
         rw[h8,HP.out] at h9
         exact h9
        have f0:w8.frozen? ⟨Nx,8,none⟩=false:=by have h9:=hI.x.free 8;rw[HP.out] at h9;exact h9
        change Made _ _ (Sem.run _ (execOp (Act.eval (Act.put (Act.put (frm _ _ _ []) (some 85) (vs 16)) (some 82) (vs 11))) _) _)
        simp only[frm,h16,h11]
        have HI2:=lh hI
        have HLS:=lh hls
        clear hI hwt hun hcl hls hB
        go_simp
        refine made_skip ?_
        have h9:=HI2.out.st17 (by rw[HLS.out];decide) HXP.out.lt
        rw[show p.Nx=Nx by rw[HP.out],h11] at h9
        exact h9
      ·intro L vs w8 hls hall hI
       change wpList _ _ _ [] (Act.put (Act.put (Act.put (Act.put (Act.put (Act.put (Act.put (Act.put (Act.put (Act.put (Act.put (Act.put (Act.put (Act.put (Act.put (Act.put (Act.put (Act.put (frm _ _ _ []) none (vs 17)) (some 85) (vs 16)) none (vs 15)) (some 84) (vs 14)) none (vs 13)) (some 83) (vs 12)) (some 82) (vs 11)) (some 81) (vs 10)) (some 80) (vs 9)) (some 79) (vs 8)) (some 78) (vs 7)) (some 77) (vs 6)) (some 76) (vs 5)) (some 75) (vs 4)) (some 74) (vs 3)) (some 73) (vs 2)) (some 72) (vs 1)) (some 71) (vs 0)) _
       simp only[frm]
       have hdn:=hI.done (s:=s) (m':=m2) (A1':=A1') (c1':=c1') (A2':=A2') (c2':=c2') (A:=A) (c:=c) hall (by rw[HP.out];exact HM7.out) (by rw[HP.out];exact H7.out.rc) (by rw[HP.out];exact HD7.out) (by rw[HP.out]) (by rw[HP.out]) (by rw[HP.out]) (by rw[HP.out]) (by rw[HP.out]) (by rw[HP.out]) (by rw[HP.out])
       rw[show p.B=w.heap.size by rw[HP.out],show p.Nx=Nx by rw[HP.out],show p.xs=s.xs by rw[HP.out],show p.hs=s.hs by rw[HP.out],show p.ad=ad by rw[HP.out],show p.hd=hd by rw[HP.out]] at hdn
       have hkk:=hI.k
       rw[show p.W=w7 by rw[HP.out],show p.Nx=Nx by rw[HP.out],show p.Vx=.slice Ax s.xs.length cx by rw[HP.out],show p.Vh=Vh by rw[HP.out]] at hkk
       have HFIN:Hid (Nx10 w w8 w.heap.size Nx r0 ⟨m2,s.cs,s.xs++[ad],s.hs++[hd]⟩):=lh ⟨_,_,_,_,_,_,_,_,hdn,hkk.toBelow HB7.out HB7.out.size (fun k hk=>by
        rcases hk with hk | hk | hk
        ·rw[hk];exact HNE.out.1
        ·exact(H7.out.ox.lt k hk).1
        ·exact(H7.out.oh.lt k hk).1),HR7.out.kp hkk (fun hk=>by
        rcases hk with hk | hk | hk
        ·exact HNE.out.2.1 hk
        ·exact ownRow_bk H7.out.ox HR7.out (by decide) hk
        ·exact ownRow_bk H7.out.oh HR7.out (by decide) hk)⟩
       clear hdn hkk hI hall hls
       go_wp2_with fail
       go_roundw
       case rel =>
        obtain⟨A1,c1,A2,c2,A,c,Vx,Vh,h1⟩:=HK.out _ (by rw[HS.out];exact HFIN.out)
        exact⟨j+1,A1,c1,A2,c2,A,c,Vx,Vh,by go_num,by omega,h1⟩
       case measure=>simp[intOf];omega
     ·have e0:(er == 0)=false:=by simp[he]
      have HS:Hid (s.step ⟨0,hd,a,b,i,xw,r⟩=s):=lh (by rw[HA.out];unfold W10.alloc;rw[HR.out,if_neg he])
      have hb7:Below w6.heap.size w6 (w6.alloc (.cells #[.int .i64 m2.old.base,.int .i64 m2.old.limit,.slice A1' m2.old.ws.length c1',.int .i64 m2.yng.base,.int .i64 m2.yng.limit,.slice A2' m2.yng.ws.length c2'] 35)):=(Below.refl _ _).alloc (Nat.le_refl _) _
      have HFIN:Hid (Nx10 w (w6.alloc (.cells #[.int .i64 m2.old.base,.int .i64 m2.old.limit,.slice A1' m2.old.ws.length c1',.int .i64 m2.yng.base,.int .i64 m2.yng.limit,.slice A2' m2.yng.ws.length c2'] 35)) w.heap.size Nx r0 s):=lh ⟨_,_,_,_,_,_,_,_,H6.out.below hb7,HB6.out.trans (hb7.mono HB6.out.size),HR6.out.below hb7 HR6.out.lt⟩
      clear he hb7 hxl
      go_wp2_with fail
      go_roundw
      case rel =>
       obtain⟨A1,c1,A2,c2,A,c,Vx,Vh,h1⟩:=HK.out _ (by rw[HS.out];exact HFIN.out)
       exact⟨j+1,A1,c1,A2,c2,A,c,Vx,Vh,by go_num,by omega,h1⟩
      case measure=>simp[intOf];omega
    ·obtain⟨er,m2,ad,hr⟩:∃ er m2 ad,s.m.alloc true hd ⟨1,1+s.xs.length⟩=(er,m2,ad):=⟨_,_,_,rfl⟩
     have HA:Hid (s.step ⟨1,hd,a,b,i,xw,r⟩=s.alloc true hd):=lh (by
      unfold W10.step
      dsimp only
      rw[if_neg (show ¬ ((1:Int)=0) by decide)]
      rw[if_pos rfl])
     have HR:=lh hr
     have cR:=RMAlloc_any H5.out.rm true hd ⟨1,1+s.xs.length⟩
     rw[hr] at cR
     unfold rmV Hdr.val Id.val at cR
     have m0:wc.cell? ⟨Nx,0,none⟩=some (.int .i64 s.m.old.base):=H5.out.x.cell 0
     have m1:wc.cell? ⟨Nx,1,none⟩=some (.int .i64 s.m.old.limit):=H5.out.x.cell 1
     have m2:wc.cell? ⟨Nx,2,none⟩=some (.slice A1 s.m.old.ws.length c1):=H5.out.x.cell 2
     have m3:wc.cell? ⟨Nx,3,none⟩=some (.int .i64 s.m.yng.base):=H5.out.x.cell 3
     have m4:wc.cell? ⟨Nx,4,none⟩=some (.int .i64 s.m.yng.limit):=H5.out.x.cell 4
     have m5:wc.cell? ⟨Nx,5,none⟩=some (.slice A2 s.m.yng.ws.length c2):=H5.out.x.cell 5
     have m7:wc.cell? ⟨Nx,7,none⟩=some (.slice Ax s.xs.length cx):=H5.out.x.cell 7
     have x0:wc.cell? ⟨bx,0,none⟩=some (.int .u8 1):=HX.out.cell 0
     have x1:wc.cell? ⟨bx,1,none⟩=some (.int .i64 hd.k):=HX.out.cell 1
     have x2:wc.cell? ⟨bx,2,none⟩=some (.int .i64 hd.c):=HX.out.cell 2
     have x3:wc.cell? ⟨bx,3,none⟩=some (.int .i64 hd.f):=HX.out.cell 3
     have hxl:s.xs.length≤1000000:=HXL.out
     clear hr hk0
     go_wp2_with fail
     refine cR.mono ?_
     rintro e w6 ⟨A1',c1',A2',c2',rfl,hm,hb,n1,n2⟩
     unfold rmV
     have H6:=lh (H5.out.below hb)
     have HB6:=lh (HB5.out.trans (hb.mono HB5.out.size))
     have HR6:=lh (HR5.out.below hb HR5.out.lt)
     have HX6:=lh (HX.out.below hb HX.out.lt)
     have HD6:Hid (∀ b o,A1'=some ⟨b,o,none⟩ ∨ A2'=some ⟨b,o,none⟩ ∨ A=some ⟨b,o,none⟩→b < w6.heap.size∧Nx < b∧(Value.slice Ax s.xs.length cx).ownBlock≠some b∧Vh.ownBlock≠some b):=lh (H5.out.dnew hb hm n1 n2)
     have HM6:=lh hm
     clear cR hb n1 n2 hm m0 m1 m2 m3 m4 m5 m7 x0 x1 x2 x3
     by_cases he:er=0
     ·subst he
      have HS:Hid (s.step ⟨1,hd,a,b,i,xw,r⟩=⟨m2,s.cs,s.xs++[ad],s.hs++[hd]⟩):=lh (by rw[HA.out];unfold W10.alloc;rw[HR.out];rfl)
      go_upto_region 15 with fail
      have hb7:Below w6.heap.size w6 (w6.alloc (.cells #[.int .i64 m2.old.base,.int .i64 m2.old.limit,.slice A1' m2.old.ws.length c1',.int .i64 m2.yng.base,.int .i64 m2.yng.limit,.slice A2' m2.yng.ws.length c2'] 35)):=(Below.refl _ _).alloc (Nat.le_refl _) _
      have HBE:Hid (Bk (w6.alloc (.cells #[.int .i64 m2.old.base,.int .i64 m2.old.limit,.slice A1' m2.old.ws.length c1',.int .i64 m2.yng.base,.int .i64 m2.yng.limit,.slice A2' m2.yng.ws.length c2'] 35)) w6.heap.size 35 #[.int .i64 m2.old.base,.int .i64 m2.old.limit,.slice A1' m2.old.ws.length c1',.int .i64 m2.yng.base,.int .i64 m2.yng.limit,.slice A2' m2.yng.ws.length c2']):=lh (Bk.new _ _ _)
      have H7:=lh (H6.out.below hb7)
      have HB7:=lh (HB6.out.trans (hb7.mono HB6.out.size))
      have HR7:=lh (HR6.out.below hb7 HR6.out.lt)
      have HX7:=lh (HX6.out.below hb7 HX6.out.lt)
      have HM7:=lh (HM6.out.below hb7)
      have HD7:Hid (∀ b o,A1'=some ⟨b,o,none⟩ ∨ A2'=some ⟨b,o,none⟩ ∨ A=some ⟨b,o,none⟩→b < (w6.alloc (.cells #[.int .i64 m2.old.base,.int .i64 m2.old.limit,.slice A1' m2.old.ws.length c1',.int .i64 m2.yng.base,.int .i64 m2.yng.limit,.slice A2' m2.yng.ws.length c2'] 35)).heap.size∧Nx < b∧(Value.slice Ax s.xs.length cx).ownBlock≠some b∧Vh.ownBlock≠some b):=lh (fun b o e=>let ⟨h1,h2⟩:=HD6.out b o e;⟨Nat.lt_of_lt_of_le h1 hb7.size,h2⟩)
      clear hb7 H6 HB6 HR6 HX6 HM6 HD6 H5 HB5 HR5 HX
      generalize w6.alloc (.cells #[.int .i64 m2.old.base,.int .i64 m2.old.limit,.slice A1' m2.old.ws.length c1',.int .i64 m2.yng.base,.int .i64 m2.yng.limit,.slice A2' m2.yng.ws.length c2'] 35)=w7 at *
      generalize w6.heap.size=be at *
      obtain⟨p,hp⟩:∃ p:P15,p=⟨w7,w.heap.size,Nx,bx,s.xs,s.hs,.slice Ax s.xs.length cx,Vh,.slice A s.cs.length c,ad,hd,.int .i64 s.m.old.base,.int .i64 s.m.old.limit,.slice A1 s.m.old.ws.length c1,.int .i64 s.m.yng.base,.int .i64 s.m.yng.limit,.slice A2 s.m.yng.ws.length c2,.int .i64 m2.old.base,.int .i64 m2.old.limit,.slice A1' m2.old.ws.length c1',.int .i64 m2.yng.base,.int .i64 m2.yng.limit,.slice A2' m2.yng.ws.length c2'⟩:=⟨_,rfl⟩
      have HP:=lh hp
      have hpw:p.W=w7:=by rw[hp]
      have HXP:Hid (Bk p.W p.Nx 40 #[p.c0,p.c1,p.c2,p.c3,p.c4,p.c5,p.Tv,p.Vx,p.Vh]):=lh (by rw[hp];exact H7.out.x)
      have HOX:Hid (p.W.ownsRow p.B 3 1 p.Vx p.xs.length (ints p.xs)):=lh (by rw[hp];exact H7.out.ox)
      have HOH:Hid (p.W.ownsRow p.B 58 3 p.Vh p.hs.length (hcs p.hs)):=lh (by rw[hp];exact H7.out.oh)
      have HBX:Hid (Bk p.W bx 87 #[.int .u8 1,.int .i64 hd.k,.int .i64 hd.c,.int .i64 hd.f,.int .i64 a,.int .i64 b,.int .i64 i,.int .u64 xw,.bool r]):=lh (by rw[hp];exact HX7.out)
      have HBE2:Hid (Bk p.W be 35 #[p.d0,p.d1,p.d2,p.d3,p.d4,p.d5]):=lh (by rw[hp];exact HBE.out)
      have HLB:Hid (s.hs.length≤1000000):=lh (by rw[HIN.out.hl];exact HXL.out)
      have HSZ:Hid (p.B≤p.W.heap.size):=lh (by rw[hp];exact HB7.out.size)
      clear hp hpw hxl
      refine wp_region_invC 18 (fun i=>([[],[],[1],[],[3],[2,4],[],[6],[],[8],[9],[7,10],[],[0,12],[],[5,14],[],[11,16]]:List (List Nat)).getD i []) (R15 p) (by kernel_rfl) (by kernel_rfl) (by rfl) (fun vs=>?_) ?_ ?_
      ·rw[show w7=p.W by rw[HP.out]]
       exact R15.start rfl HXP.out HOX.out HOH.out vs
      ·intro i hi o ho L vs w8 hls hun hwt hcl hI
       have hB:p.B≤w8.heap.size:=Nat.le_trans HSZ.out hI.k.size
       rcases (show i=0 ∨ i=1 ∨ i=2 ∨ i=3 ∨ i=4 ∨ i=5 ∨ i=6 ∨ i=7 ∨ i=8 ∨ i=9 ∨ i=10 ∨ i=11 ∨ i=12 ∨ i=13 ∨ i=14 ∨ i=15 ∨ i=16 ∨ i=17 by omega) with rfl | rfl | rfl | rfl | rfl | rfl | rfl | rfl | rfl | rfl | rfl | rfl | rfl | rfl | rfl | rfl | rfl | rfl <;> cases ho
       ·have hbe:=hI.keep HBE2.out HXP.out HOX.out HOH.out (by decide) (by decide) (by decide)
        rw[show p.d0=.int .i64 m2.old.base by rw[HP.out],show p.d1=.int .i64 m2.old.limit by rw[HP.out],show p.d2=.slice A1' m2.old.ws.length c1' by rw[HP.out],show p.d3=.int .i64 m2.yng.base by rw[HP.out],show p.d4=.int .i64 m2.yng.limit by rw[HP.out],show p.d5=.slice A2' m2.yng.ws.length c2' by rw[HP.out]] at hbe
        have e0:w8.cell? ⟨be,0,none⟩=some (.int .i64 m2.old.base):=hbe.cell 0
        have e1:w8.cell? ⟨be,1,none⟩=some (.int .i64 m2.old.limit):=hbe.cell 1
        have e2:w8.cell? ⟨be,2,none⟩=some (.slice A1' m2.old.ws.length c1'):=hbe.cell 2
        have e3:w8.cell? ⟨be,3,none⟩=some (.int .i64 m2.yng.base):=hbe.cell 3
        have e4:w8.cell? ⟨be,4,none⟩=some (.int .i64 m2.yng.limit):=hbe.cell 4
        have e5:w8.cell? ⟨be,5,none⟩=some (.slice A2' m2.yng.ws.length c2'):=hbe.cell 5
        clear hbe
        change Made _ _ (Sem.run _ (execOp (Act.eval (frm _ _ _ [])) _) _)
        simp only[frm]
        have HI2:=lh hI
        have HLS:=lh hls
        clear hI hwt hun hcl hls hB
        go_simp
        refine made_ok ?_
        exact HI2.out.pure (by decide) (fun x hx=>by rw[HP.out] at hx;cases hx;rfl)
       ·change Made _ _ (Sem.run _ (execOp (Act.eval (frm _ _ _ [])) _) _)
        simp only[frm]
        have HI2:=lh hI
        have HLS:=lh hls
        clear hI hwt hun hcl hls hB
        go_simp
        refine made_ok ?_
        exact HI2.out.pure (by decide) (fun x hx=>by rw[HP.out] at hx;cases hx;rfl)
       ·have h1:vs 1=.pointer (some ⟨Nx,7,none⟩):=by have h9:=hI.v 1 _ rfl (hwt 1 (by kernel_rfl));rw[HP.out] at h9;exact h9
        have n1:L.getD 5 false=false:=hcl.nd hun (by kernel_rfl)
        have n2:L.getD 15 false=false:=hcl.nd n1 (by kernel_rfl)
        have e0:w8.cell? ⟨Nx,7,none⟩=some (.slice Ax s.xs.length cx):=by
         have h9:=hI.x.cell 7
         have h8:(p.cx L vs)[7]?=some p.Vx:=by show some (stg L 15 _ _)=_;unfold stg;rw[n2];rfl
         rw[h8,HP.out] at h9
         exact h9
        clear n1 n2
        change Made _ _ (Sem.run _ (execOp (Act.eval (Act.put (frm _ _ _ []) (some 72) (vs 1))) _) _)
        simp only[frm,h1]
        have HI2:=lh hI
        have HLS:=lh hls
        clear hI hwt hun hcl hls hB
        go_simp
        refine made_ok ?_
        exact HI2.out.pure (by decide) (fun x hx=>by rw[HP.out] at hx;cases hx;rfl)
       ·change Made _ _ (Sem.run _ (execOp (Act.eval (frm _ _ _ [])) _) _)
        simp only[frm]
        have HI2:=lh hI
        have HLS:=lh hls
        clear hI hwt hun hcl hls hB
        go_simp
        refine made_ok ?_
        exact HI2.out.pure (by decide) (fun x hx=>by rw[HP.out] at hx;cases hx;rfl)
       ·have h3:vs 3=.int .i64 ad:=by have h9:=hI.v 3 _ rfl (hwt 3 (by kernel_rfl));rw[HP.out] at h9;exact h9
        change Made _ _ (Sem.run _ (execOp (Act.eval (Act.put (frm _ _ _ []) (some 74) (vs 3))) _) _)
        simp only[frm,h3]
        have HI2:=lh hI
        have HLS:=lh hls
        clear hI hwt hun hcl hls hB
        go_simp
        refine made_ok ?_
        have h9:=HI2.out.alloc4 (by rw[HLS.out];decide)
        rw[show p.ad=ad by rw[HP.out]] at h9
        exact h9
       ·have h2:vs 2=.slice Ax s.xs.length cx:=by have h9:=hI.v 2 _ rfl (hwt 2 (by kernel_rfl));rw[HP.out] at h9;exact h9
        obtain⟨g,h4,hbk,hgg⟩:=hI.b4 (hwt 4 (by kernel_rfl)) hun
        have n2:L.getD 15 false=false:=hcl.nd hun (by kernel_rfl)
        have hown:=hI.r5 hun
        change Made _ _ (Sem.run _ (execOp (Act.eval (Act.put (Act.put (frm _ _ _ []) (some 75) (vs 4)) (some 73) (vs 2))) _) _)
        simp only[frm,h2,h4]
        rw[show p.ad=ad by rw[HP.out]] at hbk
        have hsl:Sl w8 1 (some ⟨g,0,none⟩) 1 [.int .i64 ad]:=⟨rfl,.inr ⟨g,0,rfl,hbk.lt,fun j x hx=>by rw[Nat.zero_add,hbk.cell];simpa using hx⟩⟩
        have hlen:p.xs.length≤1000000:=by rw[show p.xs=s.xs by rw[HP.out]];exact HXL.out
        rw[show p.Vx=.slice Ax s.xs.length cx by rw[HP.out]] at hown
        refine made_append (.tmp 73) (.tmp 75) 23 rfl Tryz.underlying23 HI.out.1 HI.out.2.1 HI.out.2.2.1 HI.out.2.2.2 rfl (by decide) (v:=.slice Ax s.xs.length cx) rfl hown (A:=some ⟨g,0,none⟩) (m:=1) (c:=1) rfl hsl (by simp[Value.oneCell']) (by unfold maxLen;omega) (by omega) hB fun v' w' ho hg h4=>?_
        refine hI.app5 (by rw[hls];decide) hun n2 ?_ ?_ ?_
        ·rw[show p.ad=ad by rw[HP.out]] at *;exact ho
        ·rw[show p.Vx=.slice Ax s.xs.length cx by rw[HP.out]];exact hg
        ·rw[show p.Vx=.slice Ax s.xs.length cx by rw[HP.out]];exact h4
       ·change Made _ _ (Sem.run _ (execOp (Act.eval (frm _ _ _ [])) _) _)
        simp only[frm]
        have HI2:=lh hI
        have HLS:=lh hls
        clear hI hwt hun hcl hls hB
        go_simp
        refine made_ok ?_
        exact HI2.out.pure (by decide) (fun x hx=>by rw[HP.out] at hx;cases hx;rfl)
       ·have h6:vs 6=.pointer (some ⟨Nx,8,none⟩):=by have h9:=hI.v 6 _ rfl (hwt 6 (by kernel_rfl));rw[HP.out] at h9;exact h9
        have n1:L.getD 11 false=false:=hcl.nd hun (by kernel_rfl)
        have n2:L.getD 17 false=false:=hcl.nd n1 (by kernel_rfl)
        have e0:w8.cell? ⟨Nx,8,none⟩=some (Vh):=by
         have h9:=hI.x.cell 8
         have h8:(p.cx L vs)[8]?=some p.Vh:=by show some (stg L 17 _ _)=_;unfold stg;rw[n2];rfl
         rw[h8,HP.out] at h9
         exact h9
        clear n1 n2
        change Made _ _ (Sem.run _ (execOp (Act.eval (Act.put (frm _ _ _ []) (some 77) (vs 6))) _) _)
        simp only[frm,h6]
        have HI2:=lh hI
        have HLS:=lh hls
        clear hI hwt hun hcl hls hB
        go_simp
        refine made_ok ?_
        exact HI2.out.pure (by decide) (fun x hx=>by rw[HP.out] at hx;cases hx;rfl)
       ·change Made _ _ (Sem.run _ (execOp (Act.eval (frm _ _ _ [])) _) _)
        simp only[frm]
        have HI2:=lh hI
        have HLS:=lh hls
        clear hI hwt hun hcl hls hB
        go_simp
        refine made_ok ?_
        exact HI2.out.pure (by decide) (fun x hx=>by rw[HP.out] at hx;cases hx;rfl)
       ·have h8:vs 8=.pointer (some ⟨bx,1,none⟩):=by have h9:=hI.v 8 _ rfl (hwt 8 (by kernel_rfl));rw[HP.out] at h9;exact h9
        have hbe:=hI.keep HBX.out HXP.out HOX.out HOH.out (by decide) (by decide) (by decide)
        have e1:w8.cell? ⟨bx,1,none⟩=some (.int .i64 hd.k):=hbe.cell 1
        have e2:w8.cell? ⟨bx,2,none⟩=some (.int .i64 hd.c):=hbe.cell 2
        have e3:w8.cell? ⟨bx,3,none⟩=some (.int .i64 hd.f):=hbe.cell 3
        clear hbe
        change Made _ _ (Sem.run _ (execOp (Act.eval (Act.put (frm _ _ _ []) (some 79) (vs 8))) _) _)
        simp only[frm,h8]
        have HI2:=lh hI
        have HLS:=lh hls
        clear hI hwt hun hcl hls hB
        go_simp
        refine made_ok ?_
        exact HI2.out.pure (by decide) (fun x hx=>by rw[HP.out] at hx;cases hx;rfl)
       ·have h9:vs 9=.agg #[.int .i64 hd.k,.int .i64 hd.c,.int .i64 hd.f]:=by have h9:=hI.v 9 _ rfl (hwt 9 (by kernel_rfl));rw[HP.out] at h9;exact h9
        change Made _ _ (Sem.run _ (execOp (Act.eval (Act.put (frm _ _ _ []) (some 80) (vs 9))) _) _)
        simp only[frm,h9]
        have HI2:=lh hI
        have HLS:=lh hls
        clear hI hwt hun hcl hls hB
        go_simp
        refine made_ok ?_
        have h9:=HI2.out.alloc10 (by rw[HLS.out];decide)
        rw[show p.hd=hd by rw[HP.out]] at h9
        exact h9
       ·have h7:vs 7=Vh:=by have h9:=hI.v 7 _ rfl (hwt 7 (by kernel_rfl));rw[HP.out] at h9;exact h9
        obtain⟨g,h10,hbk,hgg⟩:=hI.b10 (hwt 10 (by kernel_rfl)) hun
        have n2:L.getD 17 false=false:=hcl.nd hun (by kernel_rfl)
        have hown:=hI.r11 hun
        change Made _ _ (Sem.run _ (execOp (Act.eval (Act.put (Act.put (frm _ _ _ []) (some 81) (vs 10)) (some 78) (vs 7))) _) _)
        simp only[frm,h7,h10]
        rw[show p.hd=hd by rw[HP.out]] at hbk
        have hsl:Sl w8 3 (some ⟨g,0,none⟩) 1 [.int .i64 hd.k,.int .i64 hd.c,.int .i64 hd.f]:=⟨rfl,.inr ⟨g,0,rfl,hbk.lt,fun j x hx=>by rw[Nat.zero_add,hbk.cell];simpa using hx⟩⟩
        have hlen:p.hs.length≤1000000:=by rw[show p.hs=s.hs by rw[HP.out]];exact HLB.out
        rw[show p.Vh=Vh by rw[HP.out]] at hown
        refine made_append (.tmp 78) (.tmp 81) 38 rfl Tryz.underlying38 HIH.out.1 HIH.out.2.1 HIH.out.2.2.1 HIH.out.2.2.2 rfl (by decide) (v:=Vh) rfl hown (A:=some ⟨g,0,none⟩) (m:=1) (c:=1) rfl hsl (by simp[Value.oneCell']) (by unfold maxLen;omega) (by omega) hB fun v' w' ho hg h4=>?_
        refine hI.app11 (by rw[hls];decide) hun n2 ?_ ?_ ?_
        ·rw[show p.hd=hd by rw[HP.out]] at *;exact ho
        ·rw[show p.Vh=Vh by rw[HP.out]];exact hg
        ·rw[show p.Vh=Vh by rw[HP.out]];exact h4
       ·change Made _ _ (Sem.run _ (execOp (Act.eval (frm _ _ _ [])) _) _)
        simp only[frm]
        have HI2:=lh hI
        have HLS:=lh hls
        clear hI hwt hun hcl hls hB
        go_simp
        refine made_ok ?_
        exact HI2.out.pure (by decide) (fun x hx=>by rw[HP.out] at hx;cases hx;rfl)
       ·have h0:vs 0=.agg #[.int .i64 m2.old.base,.int .i64 m2.old.limit,.slice A1' m2.old.ws.length c1',.int .i64 m2.yng.base,.int .i64 m2.yng.limit,.slice A2' m2.yng.ws.length c2']:=by have h9:=hI.v 0 _ rfl (hwt 0 (by kernel_rfl));rw[HP.out] at h9;exact h9
        have h12:vs 12=.pointer (some ⟨Nx,0,none⟩):=by have h9:=hI.v 12 _ rfl (hwt 12 (by kernel_rfl));rw[HP.out] at h9;exact h9
        have n2:L.getD 13 false=false:=hun
        have e0:w8.cell? ⟨Nx,0,none⟩=some (.int .i64 s.m.old.base):=by have h9:=hI.x.cell 0;rw[show(p.cx L vs)[0]?=some p.c0 by show some (stg L 13 _ _)=_;unfold stg;rw[n2];rfl,HP.out] at h9;exact h9
        have f0:w8.frozen? ⟨Nx,0,none⟩=false:=by have h9:=hI.x.free 0;rw[HP.out] at h9;exact h9
        have e1:w8.cell? ⟨Nx,1,none⟩=some (.int .i64 s.m.old.limit):=by have h9:=hI.x.cell 1;rw[show(p.cx L vs)[1]?=some p.c1 by show some (stg L 13 _ _)=_;unfold stg;rw[n2];rfl,HP.out] at h9;exact h9
        have f1:w8.frozen? ⟨Nx,1,none⟩=false:=by have h9:=hI.x.free 1;rw[HP.out] at h9;exact h9
        have e2:w8.cell? ⟨Nx,2,none⟩=some (.slice A1 s.m.old.ws.length c1):=by have h9:=hI.x.cell 2;rw[show(p.cx L vs)[2]?=some p.c2 by show some (stg L 13 _ _)=_;unfold stg;rw[n2];rfl,HP.out] at h9;exact h9
        have f2:w8.frozen? ⟨Nx,2,none⟩=false:=by have h9:=hI.x.free 2;rw[HP.out] at h9;exact h9
        have e3:w8.cell? ⟨Nx,3,none⟩=some (.int .i64 s.m.yng.base):=by have h9:=hI.x.cell 3;rw[show(p.cx L vs)[3]?=some p.c3 by show some (stg L 13 _ _)=_;unfold stg;rw[n2];rfl,HP.out] at h9;exact h9
        have f3:w8.frozen? ⟨Nx,3,none⟩=false:=by have h9:=hI.x.free 3;rw[HP.out] at h9;exact h9
        have e4:w8.cell? ⟨Nx,4,none⟩=some (.int .i64 s.m.yng.limit):=by have h9:=hI.x.cell 4;rw[show(p.cx L vs)[4]?=some p.c4 by show some (stg L 13 _ _)=_;unfold stg;rw[n2];rfl,HP.out] at h9;exact h9
        have f4:w8.frozen? ⟨Nx,4,none⟩=false:=by have h9:=hI.x.free 4;rw[HP.out] at h9;exact h9
        have e5:w8.cell? ⟨Nx,5,none⟩=some (.slice A2 s.m.yng.ws.length c2):=by have h9:=hI.x.cell 5;rw[show(p.cx L vs)[5]?=some p.c5 by show some (stg L 13 _ _)=_;unfold stg;rw[n2];rfl,HP.out] at h9;exact h9
        have f5:w8.frozen? ⟨Nx,5,none⟩=false:=by have h9:=hI.x.free 5;rw[HP.out] at h9;exact h9
        clear n2
        change Made _ _ (Sem.run _ (execOp (Act.eval (Act.put (Act.put (frm _ _ _ []) (some 83) (vs 12)) (some 71) (vs 0))) _) _)
        simp only[frm,h0,h12]
        have HI2:=lh hI
        have HLS:=lh hls
        clear hI hwt hun hcl hls hB
        go_simp
        refine made_skip ?_
        have h9:=HI2.out.st13 (by rw[HLS.out];decide) HXP.out.lt
        rw[show p.Nx=Nx by rw[HP.out],show p.d0=.int .i64 m2.old.base by rw[HP.out],show p.d1=.int .i64 m2.old.limit by rw[HP.out],show p.d2=.slice A1' m2.old.ws.length c1' by rw[HP.out],show p.d3=.int .i64 m2.yng.base by rw[HP.out],show p.d4=.int .i64 m2.yng.limit by rw[HP.out],show p.d5=.slice A2' m2.yng.ws.length c2' by rw[HP.out]] at h9
        exact h9
       ·change Made _ _ (Sem.run _ (execOp (Act.eval (frm _ _ _ [])) _) _)
        simp only[frm]
        have HI2:=lh hI
        have HLS:=lh hls
        clear hI hwt hun hcl hls hB
        go_simp
        refine made_ok ?_
        exact HI2.out.pure (by decide) (fun x hx=>by rw[HP.out] at hx;cases hx;rfl)
       ·have h14:vs 14=.pointer (some ⟨Nx,7,none⟩):=by have h9:=hI.v 14 _ rfl (hwt 14 (by kernel_rfl));rw[HP.out] at h9;exact h9
        obtain⟨A5,k5,h5,_⟩:=own_shape (hI.q5 (hwt 5 (by kernel_rfl))).1
        have e0:w8.cell? ⟨Nx,7,none⟩=some (stg L 15 (.slice Ax s.xs.length cx) (vs 5)):=by
         have h9:=hI.x.cell 7
         have h8:(p.cx L vs)[7]?=some (stg L 15 p.Vx (vs 5)):=rfl
         rw[h8,HP.out] at h9
         exact h9
        have f0:w8.frozen? ⟨Nx,7,none⟩=false:=by have h9:=hI.x.free 7;rw[HP.out] at h9;exact h9
        change Made _ _ (Sem.run _ (execOp (Act.eval (Act.put (Act.put (frm _ _ _ []) (some 84) (vs 14)) (some 76) (vs 5))) _) _)
        simp only[frm,h14,h5]
        have HI2:=lh hI
        have HLS:=lh hls
        clear hI hwt hun hcl hls hB
        go_simp
        refine made_skip ?_
        have h9:=HI2.out.st15 (by rw[HLS.out];decide) HXP.out.lt
        rw[show p.Nx=Nx by rw[HP.out],h5] at h9
        exact h9
       ·change Made _ _ (Sem.run _ (execOp (Act.eval (frm _ _ _ [])) _) _)
        simp only[frm]
        have HI2:=lh hI
        have HLS:=lh hls
        clear hI hwt hun hcl hls hB
        go_simp
        refine made_ok ?_
        exact HI2.out.pure (by decide) (fun x hx=>by rw[HP.out] at hx;cases hx;rfl)
       ·have h16:vs 16=.pointer (some ⟨Nx,8,none⟩):=by have h9:=hI.v 16 _ rfl (hwt 16 (by kernel_rfl));rw[HP.out] at h9;exact h9
        obtain⟨A5,k5,h11,_⟩:=own_shape (hI.q11 (hwt 11 (by kernel_rfl))).1
        have e0:w8.cell? ⟨Nx,8,none⟩=some (stg L 17 Vh (vs 11)):=by
         have h9:=hI.x.cell 8
         have h8:(p.cx L vs)[8]?=some (stg L 17 p.Vh (vs 11)):=rfl
         rw[h8,HP.out] at h9
         exact h9
        have f0:w8.frozen? ⟨Nx,8,none⟩=false:=by have h9:=hI.x.free 8;rw[HP.out] at h9;exact h9
        change Made _ _ (Sem.run _ (execOp (Act.eval (Act.put (Act.put (frm _ _ _ []) (some 85) (vs 16)) (some 82) (vs 11))) _) _)
        simp only[frm,h16,h11]
        have HI2:=lh hI
        have HLS:=lh hls
        clear hI hwt hun hcl hls hB
        go_simp
        refine made_skip ?_
        have h9:=HI2.out.st17 (by rw[HLS.out];decide) HXP.out.lt
        rw[show p.Nx=Nx by rw[HP.out],h11] at h9
        exact h9
      ·intro L vs w8 hls hall hI
       change wpList _ _ _ [] (Act.put (Act.put (Act.put (Act.put (Act.put (Act.put (Act.put (Act.put (Act.put (Act.put (Act.put (Act.put (Act.put (Act.put (Act.put (Act.put (Act.put (Act.put (frm _ _ _ []) none (vs 17)) (some 85) (vs 16)) none (vs 15)) (some 84) (vs 14)) none (vs 13)) (some 83) (vs 12)) (some 82) (vs 11)) (some 81) (vs 10)) (some 80) (vs 9)) (some 79) (vs 8)) (some 78) (vs 7)) (some 77) (vs 6)) (some 76) (vs 5)) (some 75) (vs 4)) (some 74) (vs 3)) (some 73) (vs 2)) (some 72) (vs 1)) (some 71) (vs 0)) _
       simp only[frm]
       have hdn:=hI.done (s:=s) (m':=m2) (A1':=A1') (c1':=c1') (A2':=A2') (c2':=c2') (A:=A) (c:=c) hall (by rw[HP.out];exact HM7.out) (by rw[HP.out];exact H7.out.rc) (by rw[HP.out];exact HD7.out) (by rw[HP.out]) (by rw[HP.out]) (by rw[HP.out]) (by rw[HP.out]) (by rw[HP.out]) (by rw[HP.out]) (by rw[HP.out])
       rw[show p.B=w.heap.size by rw[HP.out],show p.Nx=Nx by rw[HP.out],show p.xs=s.xs by rw[HP.out],show p.hs=s.hs by rw[HP.out],show p.ad=ad by rw[HP.out],show p.hd=hd by rw[HP.out]] at hdn
       have hkk:=hI.k
       rw[show p.W=w7 by rw[HP.out],show p.Nx=Nx by rw[HP.out],show p.Vx=.slice Ax s.xs.length cx by rw[HP.out],show p.Vh=Vh by rw[HP.out]] at hkk
       have HFIN:Hid (Nx10 w w8 w.heap.size Nx r0 ⟨m2,s.cs,s.xs++[ad],s.hs++[hd]⟩):=lh ⟨_,_,_,_,_,_,_,_,hdn,hkk.toBelow HB7.out HB7.out.size (fun k hk=>by
        rcases hk with hk | hk | hk
        ·rw[hk];exact HNE.out.1
        ·exact(H7.out.ox.lt k hk).1
        ·exact(H7.out.oh.lt k hk).1),HR7.out.kp hkk (fun hk=>by
        rcases hk with hk | hk | hk
        ·exact HNE.out.2.1 hk
        ·exact ownRow_bk H7.out.ox HR7.out (by decide) hk
        ·exact ownRow_bk H7.out.oh HR7.out (by decide) hk)⟩
       clear hdn hkk hI hall hls
       go_wp2_with fail
       go_roundw
       case rel =>
        obtain⟨A1,c1,A2,c2,A,c,Vx,Vh,h1⟩:=HK.out _ (by rw[HS.out];exact HFIN.out)
        exact⟨j+1,A1,c1,A2,c2,A,c,Vx,Vh,by go_num,by omega,h1⟩
       case measure=>simp[intOf];omega
     ·have e0:(er == 0)=false:=by simp[he]
      have HS:Hid (s.step ⟨1,hd,a,b,i,xw,r⟩=s):=lh (by rw[HA.out];unfold W10.alloc;rw[HR.out,if_neg he])
      have hb7:Below w6.heap.size w6 (w6.alloc (.cells #[.int .i64 m2.old.base,.int .i64 m2.old.limit,.slice A1' m2.old.ws.length c1',.int .i64 m2.yng.base,.int .i64 m2.yng.limit,.slice A2' m2.yng.ws.length c2'] 35)):=(Below.refl _ _).alloc (Nat.le_refl _) _
      have HFIN:Hid (Nx10 w (w6.alloc (.cells #[.int .i64 m2.old.base,.int .i64 m2.old.limit,.slice A1' m2.old.ws.length c1',.int .i64 m2.yng.base,.int .i64 m2.yng.limit,.slice A2' m2.yng.ws.length c2'] 35)) w.heap.size Nx r0 s):=lh ⟨_,_,_,_,_,_,_,_,H6.out.below hb7,HB6.out.trans (hb7.mono HB6.out.size),HR6.out.below hb7 HR6.out.lt⟩
      clear he hb7 hxl
      go_wp2_with fail
      go_roundw
      case rel =>
       obtain⟨A1,c1,A2,c2,A,c,Vx,Vh,h1⟩:=HK.out _ (by rw[HS.out];exact HFIN.out)
       exact⟨j+1,A1,c1,A2,c2,A,c,Vx,Vh,by go_num,by omega,h1⟩
      case measure=>simp[intOf];omega
    ·obtain⟨⟨er,m2,cs2⟩,hr⟩:∃ r,bst s.m s.cs pa i vw=r:=⟨_,rfl⟩
     have HS:Hid (s.step ⟨2,hd,a,b,i,xw,r⟩=⟨m2,cs2,s.xs,s.hs⟩):=lh (by
      unfold W10.step
      dsimp only
      rw[if_neg (show ¬ ((2:Int)=0) by decide)]
      rw[if_neg (show ¬ ((2:Int)=1) by decide)]
      rw[if_pos rfl]
      rw[← HPA.out,← HVW.out,hr])
     have cR:=RBst_any H5.out.rm H5.out.rc HIN.out.ok HCS.out pa i HVU.out
     rw[hr] at cR
     unfold rmV at cR
     have m0:wc.cell? ⟨Nx,0,none⟩=some (.int .i64 s.m.old.base):=H5.out.x.cell 0
     have m1:wc.cell? ⟨Nx,1,none⟩=some (.int .i64 s.m.old.limit):=H5.out.x.cell 1
     have m2:wc.cell? ⟨Nx,2,none⟩=some (.slice A1 s.m.old.ws.length c1):=H5.out.x.cell 2
     have m3:wc.cell? ⟨Nx,3,none⟩=some (.int .i64 s.m.yng.base):=H5.out.x.cell 3
     have m4:wc.cell? ⟨Nx,4,none⟩=some (.int .i64 s.m.yng.limit):=H5.out.x.cell 4
     have m5:wc.cell? ⟨Nx,5,none⟩=some (.slice A2 s.m.yng.ws.length c2):=H5.out.x.cell 5
     have m6:wc.cell? ⟨Nx,6,none⟩=some (.slice A s.cs.length c):=H5.out.x.cell 6
     have x0:wc.cell? ⟨bx,0,none⟩=some (.int .u8 2):=HX.out.cell 0
     have x6:wc.cell? ⟨bx,6,none⟩=some (.int .i64 i):=HX.out.cell 6
     clear hr hk0
     go_wp2_with fail
     refine cR.mono ?_
     rintro e w6 ⟨A1',c1',A2',c2',A',c',rfl,hm,hc,hb,n1,n2,n3⟩
     unfold rmV
     have hx6:=H5.out.x.below hb H5.out.x.lt
     have y0:w6.cell? ⟨Nx,0,none⟩=some (.int .i64 s.m.old.base):=hx6.cell 0
     have yf0:w6.frozen? ⟨Nx,0,none⟩=false:=hx6.free 0
     have y1:w6.cell? ⟨Nx,1,none⟩=some (.int .i64 s.m.old.limit):=hx6.cell 1
     have yf1:w6.frozen? ⟨Nx,1,none⟩=false:=hx6.free 1
     have y2:w6.cell? ⟨Nx,2,none⟩=some (.slice A1 s.m.old.ws.length c1):=hx6.cell 2
     have yf2:w6.frozen? ⟨Nx,2,none⟩=false:=hx6.free 2
     have y3:w6.cell? ⟨Nx,3,none⟩=some (.int .i64 s.m.yng.base):=hx6.cell 3
     have yf3:w6.frozen? ⟨Nx,3,none⟩=false:=hx6.free 3
     have y4:w6.cell? ⟨Nx,4,none⟩=some (.int .i64 s.m.yng.limit):=hx6.cell 4
     have yf4:w6.frozen? ⟨Nx,4,none⟩=false:=hx6.free 4
     have y5:w6.cell? ⟨Nx,5,none⟩=some (.slice A2 s.m.yng.ws.length c2):=hx6.cell 5
     have yf5:w6.frozen? ⟨Nx,5,none⟩=false:=hx6.free 5
     have y6:w6.cell? ⟨Nx,6,none⟩=some (.slice A s.cs.length c):=hx6.cell 6
     have yf6:w6.frozen? ⟨Nx,6,none⟩=false:=hx6.free 6
     have HFIN:=lh (Nx10.of HB5.out HB5.out.size HR5.out HNE.out.1 HNE.out.2.1 hb (H5.out.both hb hm hc n1 n2 n3))
     clear cR hm hc hb n1 n2 n3 hx6 m0 m1 m2 m3 m4 m5 m6 x0 x6
     go_wp2_with fail
     go_roundw
     case rel =>
      obtain⟨A1,c1,A2,c2,A,c,Vx,Vh,h1⟩:=HK.out _ (by rw[HS.out];exact HFIN.out)
      exact⟨j+1,A1,c1,A2,c2,A,c,Vx,Vh,by go_num,by omega,h1⟩
     case measure=>simp[intOf];omega
    ·obtain⟨er,m2,hr⟩:∃ er m2,s.m.setF pa i vw=(er,m2):=⟨_,_,rfl⟩
     have HS:Hid (s.step ⟨3,hd,a,b,i,xw,r⟩=⟨m2,s.cs,s.xs,s.hs⟩):=lh (by
      unfold W10.step
      dsimp only
      rw[if_neg (show ¬ ((3:Int)=0) by decide)]
      rw[if_neg (show ¬ ((3:Int)=1) by decide)]
      rw[if_neg (show ¬ ((3:Int)=2) by decide)]
      rw[if_pos rfl]
      rw[← HPA.out,← HVW.out,hr])
     have cR:=RSetField_any H5.out.rm pa i HVU.out
     rw[hr] at cR
     unfold rmV at cR
     have m0:wc.cell? ⟨Nx,0,none⟩=some (.int .i64 s.m.old.base):=H5.out.x.cell 0
     have m1:wc.cell? ⟨Nx,1,none⟩=some (.int .i64 s.m.old.limit):=H5.out.x.cell 1
     have m2:wc.cell? ⟨Nx,2,none⟩=some (.slice A1 s.m.old.ws.length c1):=H5.out.x.cell 2
     have m3:wc.cell? ⟨Nx,3,none⟩=some (.int .i64 s.m.yng.base):=H5.out.x.cell 3
     have m4:wc.cell? ⟨Nx,4,none⟩=some (.int .i64 s.m.yng.limit):=H5.out.x.cell 4
     have m5:wc.cell? ⟨Nx,5,none⟩=some (.slice A2 s.m.yng.ws.length c2):=H5.out.x.cell 5
     have x0:wc.cell? ⟨bx,0,none⟩=some (.int .u8 3):=HX.out.cell 0
     have x6:wc.cell? ⟨bx,6,none⟩=some (.int .i64 i):=HX.out.cell 6
     clear hr hk0
     go_wp2_with fail
     refine cR.mono ?_
     rintro e w6 ⟨A1',c1',A2',c2',rfl,hm,hb,n1,n2⟩
     unfold rmV
     have hx6:=H5.out.x.below hb H5.out.x.lt
     have y0:w6.cell? ⟨Nx,0,none⟩=some (.int .i64 s.m.old.base):=hx6.cell 0
     have yf0:w6.frozen? ⟨Nx,0,none⟩=false:=hx6.free 0
     have y1:w6.cell? ⟨Nx,1,none⟩=some (.int .i64 s.m.old.limit):=hx6.cell 1
     have yf1:w6.frozen? ⟨Nx,1,none⟩=false:=hx6.free 1
     have y2:w6.cell? ⟨Nx,2,none⟩=some (.slice A1 s.m.old.ws.length c1):=hx6.cell 2
     have yf2:w6.frozen? ⟨Nx,2,none⟩=false:=hx6.free 2
     have y3:w6.cell? ⟨Nx,3,none⟩=some (.int .i64 s.m.yng.base):=hx6.cell 3
     have yf3:w6.frozen? ⟨Nx,3,none⟩=false:=hx6.free 3
     have y4:w6.cell? ⟨Nx,4,none⟩=some (.int .i64 s.m.yng.limit):=hx6.cell 4
     have yf4:w6.frozen? ⟨Nx,4,none⟩=false:=hx6.free 4
     have y5:w6.cell? ⟨Nx,5,none⟩=some (.slice A2 s.m.yng.ws.length c2):=hx6.cell 5
     have yf5:w6.frozen? ⟨Nx,5,none⟩=false:=hx6.free 5
     have HFIN:=lh (Nx10.of HB5.out HB5.out.size HR5.out HNE.out.1 HNE.out.2.1 hb (H5.out.mem hb hm n1 n2))
     clear cR hm hb n1 n2 hx6 m0 m1 m2 m3 m4 m5 x0 x6
     go_wp2_with fail
     go_roundw
     case rel =>
      obtain⟨A1,c1,A2,c2,A,c,Vx,Vh,h1⟩:=HK.out _ (by rw[HS.out];exact HFIN.out)
      exact⟨j+1,A1,c1,A2,c2,A,c,Vx,Vh,by go_num,by omega,h1⟩
     case measure=>simp[intOf];omega
    ·obtain⟨er,m2,hr⟩:∃ er m2,s.m.store a vw=(er,m2):=⟨_,_,rfl⟩
     have HS:Hid (s.step ⟨4,hd,a,b,i,xw,r⟩=⟨m2,s.cs,s.xs,s.hs⟩):=lh (by
      unfold W10.step
      dsimp only
      rw[if_neg (show ¬ ((4:Int)=0) by decide)]
      rw[if_neg (show ¬ ((4:Int)=1) by decide)]
      rw[if_neg (show ¬ ((4:Int)=2) by decide)]
      rw[if_neg (show ¬ ((4:Int)=3) by decide)]
      rw[if_pos rfl]
      rw[← HVW.out,hr])
     have cR:=RStore_any H5.out.rm a HVU.out
     rw[hr] at cR
     unfold rmV at cR
     have m0:wc.cell? ⟨Nx,0,none⟩=some (.int .i64 s.m.old.base):=H5.out.x.cell 0
     have m1:wc.cell? ⟨Nx,1,none⟩=some (.int .i64 s.m.old.limit):=H5.out.x.cell 1
     have m2:wc.cell? ⟨Nx,2,none⟩=some (.slice A1 s.m.old.ws.length c1):=H5.out.x.cell 2
     have m3:wc.cell? ⟨Nx,3,none⟩=some (.int .i64 s.m.yng.base):=H5.out.x.cell 3
     have m4:wc.cell? ⟨Nx,4,none⟩=some (.int .i64 s.m.yng.limit):=H5.out.x.cell 4
     have m5:wc.cell? ⟨Nx,5,none⟩=some (.slice A2 s.m.yng.ws.length c2):=H5.out.x.cell 5
     have x0:wc.cell? ⟨bx,0,none⟩=some (.int .u8 4):=HX.out.cell 0
     have x4:wc.cell? ⟨bx,4,none⟩=some (.int .i64 a):=HX.out.cell 4
     clear hr hk0
     go_wp2_with fail
     refine cR.mono ?_
     rintro e w6 ⟨A1',c1',A2',c2',rfl,hm,hb,n1,n2⟩
     unfold rmV
     have hx6:=H5.out.x.below hb H5.out.x.lt
     have y0:w6.cell? ⟨Nx,0,none⟩=some (.int .i64 s.m.old.base):=hx6.cell 0
     have yf0:w6.frozen? ⟨Nx,0,none⟩=false:=hx6.free 0
     have y1:w6.cell? ⟨Nx,1,none⟩=some (.int .i64 s.m.old.limit):=hx6.cell 1
     have yf1:w6.frozen? ⟨Nx,1,none⟩=false:=hx6.free 1
     have y2:w6.cell? ⟨Nx,2,none⟩=some (.slice A1 s.m.old.ws.length c1):=hx6.cell 2
     have yf2:w6.frozen? ⟨Nx,2,none⟩=false:=hx6.free 2
     have y3:w6.cell? ⟨Nx,3,none⟩=some (.int .i64 s.m.yng.base):=hx6.cell 3
     have yf3:w6.frozen? ⟨Nx,3,none⟩=false:=hx6.free 3
     have y4:w6.cell? ⟨Nx,4,none⟩=some (.int .i64 s.m.yng.limit):=hx6.cell 4
     have yf4:w6.frozen? ⟨Nx,4,none⟩=false:=hx6.free 4
     have y5:w6.cell? ⟨Nx,5,none⟩=some (.slice A2 s.m.yng.ws.length c2):=hx6.cell 5
     have yf5:w6.frozen? ⟨Nx,5,none⟩=false:=hx6.free 5
     have HFIN:=lh (Nx10.of HB5.out HB5.out.size HR5.out HNE.out.1 HNE.out.2.1 hb (H5.out.mem hb hm n1 n2))
     clear cR hm hb n1 n2 hx6 m0 m1 m2 m3 m4 m5 x0 x4
     go_wp2_with fail
     go_roundw
     case rel =>
      obtain⟨A1,c1,A2,c2,A,c,Vx,Vh,h1⟩:=HK.out _ (by rw[HS.out];exact HFIN.out)
      exact⟨j+1,A1,c1,A2,c2,A,c,Vx,Vh,by go_num,by omega,h1⟩
     case measure=>simp[intOf];omega
    ·obtain⟨er,cs2,hr⟩:∃ er cs2,cardMark s.cs a=(er,cs2):=⟨_,_,rfl⟩
     have HS:Hid (s.step ⟨5,hd,a,b,i,xw,r⟩=⟨s.m,cs2,s.xs,s.hs⟩):=lh (by
      unfold W10.step
      dsimp only
      rw[if_neg (show ¬ ((5:Int)=0) by decide)]
      rw[if_neg (show ¬ ((5:Int)=1) by decide)]
      rw[if_neg (show ¬ ((5:Int)=2) by decide)]
      rw[if_neg (show ¬ ((5:Int)=3) by decide)]
      rw[if_neg (show ¬ ((5:Int)=4) by decide)]
      rw[if_pos rfl]
      rw[hr])
     have cR:=RMark_rc H5.out.rc HCS.out a
     rw[hr] at cR
     have m6:wc.cell? ⟨Nx,6,none⟩=some (.slice A s.cs.length c):=H5.out.x.cell 6
     have x0:wc.cell? ⟨bx,0,none⟩=some (.int .u8 5):=HX.out.cell 0
     have x4:wc.cell? ⟨bx,4,none⟩=some (.int .i64 a):=HX.out.cell 4
     clear hr hk0
     go_wp2_with fail
     refine cR.mono ?_
     rintro e w6 ⟨A',c',rfl,hc,n3,hb⟩
     have hx6:=H5.out.x.below hb H5.out.x.lt
     have y6:w6.cell? ⟨Nx,6,none⟩=some (.slice A s.cs.length c):=hx6.cell 6
     have yf6:w6.frozen? ⟨Nx,6,none⟩=false:=hx6.free 6
     have HFIN:=lh (Nx10.of HB5.out HB5.out.size HR5.out HNE.out.1 HNE.out.2.1 hb (H5.out.crd hb hc n3))
     clear cR hc hb n3 hx6 m6 x0 x4
     go_wp2_with fail
     go_roundw
     case rel =>
      obtain⟨A1,c1,A2,c2,A,c,Vx,Vh,h1⟩:=HK.out _ (by rw[HS.out];exact HFIN.out)
      exact⟨j+1,A1,c1,A2,c2,A,c,Vx,Vh,by go_num,by omega,h1⟩
     case measure=>simp[intOf];omega
    ·obtain⟨er,m2,hr⟩:∃ er m2,s.m.toFwd pa pb=(er,m2):=⟨_,_,rfl⟩
     have HS:Hid (s.step ⟨6,hd,a,b,i,xw,r⟩=⟨m2,s.cs,s.xs,s.hs⟩):=lh (by
      unfold W10.step
      dsimp only
      rw[if_neg (show ¬ ((6:Int)=0) by decide)]
      rw[if_neg (show ¬ ((6:Int)=1) by decide)]
      rw[if_neg (show ¬ ((6:Int)=2) by decide)]
      rw[if_neg (show ¬ ((6:Int)=3) by decide)]
      rw[if_neg (show ¬ ((6:Int)=4) by decide)]
      rw[if_neg (show ¬ ((6:Int)=5) by decide)]
      rw[if_pos rfl]
      rw[← HPA.out,← HPB.out,hr])
     have cR:=RToForward_any H5.out.rm HIN.out.ok pa pb
     rw[hr] at cR
     unfold rmV at cR
     have m0:wc.cell? ⟨Nx,0,none⟩=some (.int .i64 s.m.old.base):=H5.out.x.cell 0
     have m1:wc.cell? ⟨Nx,1,none⟩=some (.int .i64 s.m.old.limit):=H5.out.x.cell 1
     have m2:wc.cell? ⟨Nx,2,none⟩=some (.slice A1 s.m.old.ws.length c1):=H5.out.x.cell 2
     have m3:wc.cell? ⟨Nx,3,none⟩=some (.int .i64 s.m.yng.base):=H5.out.x.cell 3
     have m4:wc.cell? ⟨Nx,4,none⟩=some (.int .i64 s.m.yng.limit):=H5.out.x.cell 4
     have m5:wc.cell? ⟨Nx,5,none⟩=some (.slice A2 s.m.yng.ws.length c2):=H5.out.x.cell 5
     have x0:wc.cell? ⟨bx,0,none⟩=some (.int .u8 6):=HX.out.cell 0
     clear hr hk0
     go_wp2_with fail
     refine cR.mono ?_
     rintro e w6 ⟨A1',c1',A2',c2',rfl,hm,hb,n1,n2⟩
     unfold rmV
     have hx6:=H5.out.x.below hb H5.out.x.lt
     have y0:w6.cell? ⟨Nx,0,none⟩=some (.int .i64 s.m.old.base):=hx6.cell 0
     have yf0:w6.frozen? ⟨Nx,0,none⟩=false:=hx6.free 0
     have y1:w6.cell? ⟨Nx,1,none⟩=some (.int .i64 s.m.old.limit):=hx6.cell 1
     have yf1:w6.frozen? ⟨Nx,1,none⟩=false:=hx6.free 1
     have y2:w6.cell? ⟨Nx,2,none⟩=some (.slice A1 s.m.old.ws.length c1):=hx6.cell 2
     have yf2:w6.frozen? ⟨Nx,2,none⟩=false:=hx6.free 2
     have y3:w6.cell? ⟨Nx,3,none⟩=some (.int .i64 s.m.yng.base):=hx6.cell 3
     have yf3:w6.frozen? ⟨Nx,3,none⟩=false:=hx6.free 3
     have y4:w6.cell? ⟨Nx,4,none⟩=some (.int .i64 s.m.yng.limit):=hx6.cell 4
     have yf4:w6.frozen? ⟨Nx,4,none⟩=false:=hx6.free 4
     have y5:w6.cell? ⟨Nx,5,none⟩=some (.slice A2 s.m.yng.ws.length c2):=hx6.cell 5
     have yf5:w6.frozen? ⟨Nx,5,none⟩=false:=hx6.free 5
     have HFIN:=lh (Nx10.of HB5.out HB5.out.size HR5.out HNE.out.1 HNE.out.2.1 hb (H5.out.mem hb hm n1 n2))
     clear cR hm hb n1 n2 hx6 m0 m1 m2 m3 m4 m5 x0
     go_wp2_with fail
     go_roundw
     case rel =>
      obtain⟨A1,c1,A2,c2,A,c,Vx,Vh,h1⟩:=HK.out _ (by rw[HS.out];exact HFIN.out)
      exact⟨j+1,A1,c1,A2,c2,A,c,Vx,Vh,by go_num,by omega,h1⟩
     case measure=>simp[intOf];omega
    ·obtain⟨er,m2,hr⟩:∃ er m2,s.m.toStub pa 2 (IntKind.u64.wrap i)=(er,m2):=⟨_,_,rfl⟩
     have HS:Hid (s.step ⟨7,hd,a,b,i,xw,r⟩=⟨m2,s.cs,s.xs,s.hs⟩):=lh (by
      unfold W10.step
      dsimp only
      rw[if_neg (show ¬ ((7:Int)=0) by decide)]
      rw[if_neg (show ¬ ((7:Int)=1) by decide)]
      rw[if_neg (show ¬ ((7:Int)=2) by decide)]
      rw[if_neg (show ¬ ((7:Int)=3) by decide)]
      rw[if_neg (show ¬ ((7:Int)=4) by decide)]
      rw[if_neg (show ¬ ((7:Int)=5) by decide)]
      rw[if_neg (show ¬ ((7:Int)=6) by decide)]
      rw[if_pos rfl]
      rw[← HPA.out,hr])
     have cR:=RToStub_any H5.out.rm HIN.out.ok pa 2 (wrapU10 i)
     rw[hr] at cR
     unfold rmV at cR
     have m0:wc.cell? ⟨Nx,0,none⟩=some (.int .i64 s.m.old.base):=H5.out.x.cell 0
     have m1:wc.cell? ⟨Nx,1,none⟩=some (.int .i64 s.m.old.limit):=H5.out.x.cell 1
     have m2:wc.cell? ⟨Nx,2,none⟩=some (.slice A1 s.m.old.ws.length c1):=H5.out.x.cell 2
     have m3:wc.cell? ⟨Nx,3,none⟩=some (.int .i64 s.m.yng.base):=H5.out.x.cell 3
     have m4:wc.cell? ⟨Nx,4,none⟩=some (.int .i64 s.m.yng.limit):=H5.out.x.cell 4
     have m5:wc.cell? ⟨Nx,5,none⟩=some (.slice A2 s.m.yng.ws.length c2):=H5.out.x.cell 5
     have x0:wc.cell? ⟨bx,0,none⟩=some (.int .u8 7):=HX.out.cell 0
     have x6:wc.cell? ⟨bx,6,none⟩=some (.int .i64 i):=HX.out.cell 6
     clear hr hk0
     go_wp2_with fail
     refine cR.mono ?_
     rintro e w6 ⟨A1',c1',A2',c2',rfl,hm,hb,n1,n2⟩
     unfold rmV
     have hx6:=H5.out.x.below hb H5.out.x.lt
     have y0:w6.cell? ⟨Nx,0,none⟩=some (.int .i64 s.m.old.base):=hx6.cell 0
     have yf0:w6.frozen? ⟨Nx,0,none⟩=false:=hx6.free 0
     have y1:w6.cell? ⟨Nx,1,none⟩=some (.int .i64 s.m.old.limit):=hx6.cell 1
     have yf1:w6.frozen? ⟨Nx,1,none⟩=false:=hx6.free 1
     have y2:w6.cell? ⟨Nx,2,none⟩=some (.slice A1 s.m.old.ws.length c1):=hx6.cell 2
     have yf2:w6.frozen? ⟨Nx,2,none⟩=false:=hx6.free 2
     have y3:w6.cell? ⟨Nx,3,none⟩=some (.int .i64 s.m.yng.base):=hx6.cell 3
     have yf3:w6.frozen? ⟨Nx,3,none⟩=false:=hx6.free 3
     have y4:w6.cell? ⟨Nx,4,none⟩=some (.int .i64 s.m.yng.limit):=hx6.cell 4
     have yf4:w6.frozen? ⟨Nx,4,none⟩=false:=hx6.free 4
     have y5:w6.cell? ⟨Nx,5,none⟩=some (.slice A2 s.m.yng.ws.length c2):=hx6.cell 5
     have yf5:w6.frozen? ⟨Nx,5,none⟩=false:=hx6.free 5
     have HFIN:=lh (Nx10.of HB5.out HB5.out.size HR5.out HNE.out.1 HNE.out.2.1 hb (H5.out.mem hb hm n1 n2))
     clear cR hm hb n1 n2 hx6 m0 m1 m2 m3 m4 m5 x0 x6
     go_wp2_with fail
     go_roundw
     case rel =>
      obtain⟨A1,c1,A2,c2,A,c,Vx,Vh,h1⟩:=HK.out _ (by rw[HS.out];exact HFIN.out)
      exact⟨j+1,A1,c1,A2,c2,A,c,Vx,Vh,by go_num,by omega,h1⟩
     case measure=>simp[intOf];omega
    ·have HS:Hid (s.step ⟨k,hd,a,b,i,xw,r⟩=s):=lh (by
      unfold W10.step
      dsimp only
      rw[if_neg (show ¬ (k=0) by omega)]
      rw[if_neg (show ¬ (k=1) by omega)]
      rw[if_neg (show ¬ (k=2) by omega)]
      rw[if_neg (show ¬ (k=3) by omega)]
      rw[if_neg (show ¬ (k=4) by omega)]
      rw[if_neg (show ¬ (k=5) by omega)]
      rw[if_neg (show ¬ (k=6) by omega)]
      rw[if_neg (show ¬ (k=7) by omega)])
     have x0:wc.cell? ⟨bx,0,none⟩=some (.int .u8 k):=HX.out.cell 0
     have k0:(k == 0)=false:=by simp;omega
     have k1:(k == 1)=false:=by simp;omega
     have k2:(k == 2)=false:=by simp;omega
     have k3:(k == 3)=false:=by simp;omega
     have k4:(k == 4)=false:=by simp;omega
     have k5:(k == 5)=false:=by simp;omega
     have k6:(k == 6)=false:=by simp;omega
     have k7:(k == 7)=false:=by simp;omega
     have HFIN:Hid (Nx10 w wc w.heap.size Nx r0 s):=lh ⟨_,_,_,_,_,_,_,_,H5.out,HB5.out,HR5.out⟩
     clear hk0 hk7
     go_wp2_with fail
     go_roundw
     case rel =>
      obtain⟨A1,c1,A2,c2,A,c,Vx,Vh,h1⟩:=HK.out _ (by rw[HS.out];exact HFIN.out)
      exact⟨j+1,A1,c1,A2,c2,A,c,Vx,Vh,by go_num,by omega,h1⟩
     case measure=>simp[intOf];omega
  ·obtain rfl:j=l.length:=by omega
   rw[List.take_of_length_le (Nat.le_refl _)] at hwr hin
   have HINE:=lh hin
   obtain⟨s,hs⟩:∃ s,s=bld10 limit l:=⟨_,rfl⟩
   rw[← hs] at hwr
   have HSE:=lh hs
   obtain⟨Ax,cx,rfl,hcx⟩:=own_shape hwr.ox
   obtain⟨Ah,ch,rfl,hch⟩:=own_shape hwr.oh
   have H5:=lh hwr
   have HB5:=lh hbw
   have HR5:=lh hrr
   clear hs hcx hch hwr hbw hrr hin
   have m0:wr.cell? ⟨Nx,0,none⟩=some (.int .i64 s.m.old.base):=H5.out.x.cell 0
   have m1:wr.cell? ⟨Nx,1,none⟩=some (.int .i64 s.m.old.limit):=H5.out.x.cell 1
   have m2:wr.cell? ⟨Nx,2,none⟩=some (.slice A1 s.m.old.ws.length c1):=H5.out.x.cell 2
   have m3:wr.cell? ⟨Nx,3,none⟩=some (.int .i64 s.m.yng.base):=H5.out.x.cell 3
   have m4:wr.cell? ⟨Nx,4,none⟩=some (.int .i64 s.m.yng.limit):=H5.out.x.cell 4
   have m5:wr.cell? ⟨Nx,5,none⟩=some (.slice A2 s.m.yng.ws.length c2):=H5.out.x.cell 5
   have m6:wr.cell? ⟨Nx,6,none⟩=some (.slice A s.cs.length c):=H5.out.x.cell 6
   have m7:wr.cell? ⟨Nx,7,none⟩=some (.slice Ax s.xs.length cx):=H5.out.x.cell 7
   have m8:wr.cell? ⟨Nx,8,none⟩=some (.slice Ah s.hs.length ch):=H5.out.x.cell 8
   have z0:wr.cell? ⟨r0,0,none⟩=some (.int .i64 0):=HR5.out.cell 0
   have zf0:wr.frozen? ⟨r0,0,none⟩=false:=HR5.out.free 0
   have z1:wr.cell? ⟨r0,1,none⟩=some (.int .i64 0):=HR5.out.cell 1
   have zf1:wr.frozen? ⟨r0,1,none⟩=false:=HR5.out.free 1
   have z2:wr.cell? ⟨r0,2,none⟩=some (.slice none 0 0):=HR5.out.cell 2
   have zf2:wr.frozen? ⟨r0,2,none⟩=false:=HR5.out.free 2
   have z3:wr.cell? ⟨r0,3,none⟩=some (.int .i64 0):=HR5.out.cell 3
   have zf3:wr.frozen? ⟨r0,3,none⟩=false:=HR5.out.free 3
   have z4:wr.cell? ⟨r0,4,none⟩=some (.int .i64 0):=HR5.out.cell 4
   have zf4:wr.frozen? ⟨r0,4,none⟩=false:=HR5.out.free 4
   have z5:wr.cell? ⟨r0,5,none⟩=some (.slice none 0 0):=HR5.out.cell 5
   have zf5:wr.frozen? ⟨r0,5,none⟩=false:=HR5.out.free 5
   have z6:wr.cell? ⟨r0,6,none⟩=some (.slice none 0 0):=HR5.out.cell 6
   have zf6:wr.frozen? ⟨r0,6,none⟩=false:=HR5.out.free 6
   have z7:wr.cell? ⟨r0,7,none⟩=some (.slice none 0 0):=HR5.out.cell 7
   have zf7:wr.frozen? ⟨r0,7,none⟩=false:=HR5.out.free 7
   have z8:wr.cell? ⟨r0,8,none⟩=some (.slice none 0 0):=HR5.out.cell 8
   have zf8:wr.frozen? ⟨r0,8,none⟩=false:=HR5.out.free 8
   go_wp2_with fail
   refine bodyPost_ret (v:=.agg #[.int .i64 s.m.old.base,.int .i64 s.m.old.limit,.slice A1 s.m.old.ws.length c1,.int .i64 s.m.yng.base,.int .i64 s.m.yng.limit,.slice A2 s.m.yng.ws.length c2,.slice A s.cs.length c,.slice Ax s.xs.length cx,.slice Ah s.hs.length ch]) (by simp[results,Tryz.results41,go_sem,z0,z1,z2,z3,z4,z5,z6,z7,z8]) rfl ?_
   rw[← HSE.out]
   have hk:=st9_kp (w:=wr) (Nx:=r0) (v0:=.int .i64 s.m.old.base) (v1:=.int .i64 s.m.old.limit) (v2:=.slice A1 s.m.old.ws.length c1) (v3:=.int .i64 s.m.yng.base) (v4:=.int .i64 s.m.yng.limit) (v5:=.slice A2 s.m.yng.ws.length c2) (v6:=.slice A s.cs.length c) (v7:=.slice Ax s.xs.length cx) (v8:=.slice Ah s.hs.length ch)
   have hne:∀ b o,A1=some ⟨b,o,none⟩ ∨ A2=some ⟨b,o,none⟩ ∨ A=some ⟨b,o,none⟩→b≠r0:=fun b o e=>by have h1:=(H5.out.d b o e).2.1;have h2:=HNE.out.2.2.1;omega
   refine⟨?_,by rw[HSE.out];exact HINE.out⟩
   exact⟨A1,c1,A2,c2,A,c,_,_,rfl,H5.out.rm.kp hk fun b o e=>hne b o (e.imp id .inl),H5.out.rc.kp hk fun b o e=>hne b o (.inr (.inr e)),own_kp H5.out.ox hk (fun k hk e=>ownRow_bk H5.out.ox HR5.out (by decide) (e ▸ hk)),own_kp H5.out.oh hk (fun k hk e=>ownRow_bk H5.out.oh HR5.out (by decide) (e ▸ hk)),fun b o e=>by have h1:=(H5.out.d b o e).2.1;have h2:=HNE.out.1;omega,hk.toBelow HB5.out HB5.out.size fun k e=>by rw[e];exact HNE.out.2.2.2⟩
end
end
end Go.Proofs.YtaijmgkjbbiboaaGreat
