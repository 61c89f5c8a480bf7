/- Parts of the proof: Slots, Cross, Cov, IntsM, LW, BarP. -/
import Derived.BigQuiet
import Derived.Deep.QuietTactic
import Derived.Maps.OwnIn
import Derived.Test.YtaijmgkjbbiboaaGreatPcA
import Derived.Test.YtaijmgkjbbiboaaGreatPc14
import Derived.Test.YtaijmgkjbbiboaaGreatPc3
import Derived.Test.YtaijmgkjbbiboaaGreatPc6
set_option linter.unusedVariables false
set_option linter.unusedSimpArgs false
set_option linter.unusedSectionVars false
set_option maxRecDepth 100000
namespace Go.Proofs.YtaijmgkjbbiboaaGreat
section
open Go.RowKit Go.Sort Go.Shelf
attribute [local go_sem] Oper.semAt_some
structure KpO (Bo:Nat) (X Y:World):Prop where
 keep:∀ k t cs,k≠Bo→(∀ v,Bk X Bo 23 #[v]→v.ownBlock≠some k)→Bk X k t cs→Bk Y k t cs
 out:∀ v,Bk X Bo 23 #[v]→∃ v',Bk Y Bo 23 #[v']∧∀ k,v'.ownBlock=some k→v.ownBlock=some k ∨ X.heap.size≤k
 size:X.heap.size≤Y.heap.size
theorem KpO.trans {Bo:Nat} {X Y Z:World} (h:KpO Bo X Y) (h':KpO Bo Y Z) (hX:∃ v,Bk X Bo 23 #[v]):KpO Bo X Z:=by
 obtain⟨v,hv⟩:=hX
 obtain⟨v',hv',ho⟩:=h.out v hv
 refine⟨fun k t cs hk hn hc=>?_,fun u hu=>?_,Nat.le_trans h.size h'.size⟩
 ·refine h'.keep k t cs hk (fun u hu e=>?_) (h.keep k t cs hk hn hc)
  have:u=v':=by unfold Bk at hu hv';rw[hu] at hv';injection hv' with h1;injection h1 with h1;simpa using h1
  subst this
  rcases ho k e with h1 | h1
  ·exact hn v hv h1
  ·have:=hc.lt;omega
 ·have:u=v:=by unfold Bk at hu hv;rw[hu] at hv;injection hv with h1;injection h1 with h1;simpa using h1
  subst this
  obtain⟨v2,h2,ho2⟩:=h'.out v' hv'
  refine⟨v2,h2,fun k hk=>?_⟩
  rcases ho2 k hk with h1 | h1
  ·exact ho k h1
  ·exact .inr (Nat.le_trans h.size h1)
/-- the iterator's own word -/
structure SI (W1:World) (Bo:Nat) (X:World):Prop where
 keep:∀ k t cs,k≠Bo→Bk W1 k t cs→Bk X k t cs
 out:∃ v,Bk X Bo 23 #[v]∧∀ k,v.ownBlock=some k→W1.heap.size≤k
 size:W1.heap.size≤X.heap.size
theorem SI.start {W1:World} {Bo:Nat} (h:Bk W1 Bo 23 #[.slice none 0 0]):SI W1 Bo W1:=⟨fun _ _ _ _ h=>h,⟨_,h,fun k hk=>by cases hk⟩,Nat.le_refl _⟩
theorem SI.below {W1 X Y:World} {Bo:Nat} (h:SI W1 Bo X) (hb:Below X.heap.size X Y):SI W1 Bo Y:=by
 obtain⟨v,hv,ho⟩:=h.out
 exact⟨fun k t cs hk hc=>(h.keep k t cs hk hc).below hb (h.keep k t cs hk hc).lt,⟨v,hv.below hb hv.lt,ho⟩,Nat.le_trans h.size hb.size⟩
theorem SI.round {W1 X Y:World} {Bo:Nat} (h:SI W1 Bo X) (hk:KpO Bo X Y):SI W1 Bo Y:=by
 obtain⟨v,hv,ho⟩:=h.out
 refine⟨fun k t cs hn hc=>hk.keep k t cs hn (fun u hu e=>?_) (h.keep k t cs hn hc),?_,Nat.le_trans h.size hk.size⟩
 ·have:u=v:=by unfold Bk at hu hv;rw[hu] at hv;injection hv with h1;injection h1 with h1;simpa using h1
  subst this
  have:=ho k e
  have:=hc.lt
  omega
 ·obtain⟨v',hv',ho'⟩:=hk.out v hv
  refine⟨v',hv',fun k hk'=>?_⟩
  rcases ho' k hk' with h1 | h1
  ·exact ho k h1
  ·exact Nat.le_trans h.size h1
theorem own_bk {X Y:World} {base size n:Nat} {e:TypeId} {v:Value} {xs:List Value} (h:X.ownsRow base e size v n xs) (hb:∀ k cs,v.ownBlock=some k→Bk X k e cs→Bk Y k e cs):Y.ownsRow base e size v n xs:=by
 obtain⟨h1,h2 | ⟨g,cap,cur,rfl,h3,h4,h5⟩⟩:=h
 ·exact⟨h1,.inl h2⟩
 ·exact⟨h1,.inr ⟨g,cap,cur,rfl,h3,hb g cur rfl h4,h5⟩⟩
theorem bk_ne {X:World} {k Bo:Nat} {t t':TypeId} {cs cs':Array Value} (h:Bk X k t cs) (h':Bk X Bo t' cs') (ht:t≠t'):k≠Bo:=fun e=>by
 subst e
 unfold Bk at h h'
 rw[h] at h'
 injection h' with h'
 injection h' with _ h'
 exact ht h'
section
variable {W1 X:World} {B g1 g2 Bo:Nat} {V1 V2:Value} {m:Mm}
theorem SpR.si {g:Nat} {s:Spc} {V:Value} (h:SpR W1 B g s V) (hO:∃ v,Bk W1 Bo 23 #[v]) (hs:SI W1 Bo X):SpR X B g s V:=by
 obtain⟨v,hv⟩:=hO
 exact⟨hs.keep _ _ _ (bk_ne h.hd hv (by decide)) h.hd,own_bk h.own fun k cs _ hc=>hs.keep _ _ _ (bk_ne hc hv (by decide)) hc,h.ge,h.u,h.b0,h.lim,h.l0⟩
theorem MR.si (h:MR W1 B g1 g2 V1 V2 m) (hO:∃ v,Bk W1 Bo 23 #[v]) (hs:SI W1 Bo X):MR X B g1 g2 V1 V2 m:=⟨h.o.si hO hs,h.y.si hO hs,h.ok,h.gg,h.vv⟩
end
def Mm.slotAt (m:Mm) (b:Int):List (Int × Int):=match m.at_ b with | some x=>[(b,x)] | none=>[]
def Mm.slotsK (m:Mm) (a:Int) (k:Nat):List (Int × Int):=((List.range k).map fun(i:Nat)=>a+2+(i:Int)).filterMap fun b=>(m.at_ b).map fun x=>(b,x)
theorem Mm.slotsK_succ (m:Mm) (a:Int) (k:Nat):m.slotsK a (k+1)=m.slotsK a k++m.slotAt (a+2+(k:Int)):=by
 unfold Mm.slotsK Mm.slotAt
 rw[List.range_succ,List.map_append,List.filterMap_append]
 congr 1
 simp only[List.map_cons,List.map_nil]
 cases h:m.at_ (a+2+(k:Int)) <;> simp[h]
theorem Mm.slotsK_prefix (m:Mm) (a:Int) {k n:Nat} (h:k≤n):m.slotsK a k <+: m.slotsK a n:=by
 induction n with
 | zero =>
  obtain rfl:k=0:=by omega
  exact List.prefix_refl _
 | succ n ih =>
  rcases Nat.lt_or_ge n k with h1 | h1
  ·obtain rfl:k=n+1:=by omega
   exact List.prefix_refl _
  ·rw[Mm.slotsK_succ];exact(ih h1).trans (List.prefix_append _ _)
theorem slotN_bound {m:Mm} {a:Int}:0≤slotN (m.hdr a).2∧slotN (m.hdr a).2≤30:=by
 unfold slotN
 by_cases h:(m.hdr a).1=0
 ·have:=vH_bound (Mm.hdr_valid h)
  split
  ·omega
  ·split <;> omega
 ·rw[Mm.hdr_zero h]
  decide
theorem Spc.walkN_lt (s:Spc):∀ f i,∀ j∈(s.walkN f i).1,j < s.ws.length
 | 0,i,j,h=>by cases h
 | f+1,i,j,h=>by
  unfold Spc.walkN at h
  split at h
  ·cases h
  ·rename_i h0
   rcases List.mem_cons.1 h with h1 | h1
   ·have:=s.size_le i;omega
   ·exact Spc.walkN_lt s f _ j h1
theorem Spc.objs_bound {s:Spc} (h:s.Ok) {a:Int} (ha:a∈s.objs):0≤a∧a < 4294967296:=by
 obtain⟨j,hj,rfl⟩:=List.mem_map.1 ha
 have:=Spc.walkN_lt s _ _ j hj
 have h1:=h.b0;have h2:=h.lim;have h3:=h.l0
 omega
theorem Spc.objs_length (s:Spc):s.objs.length≤s.ws.length:=by
 unfold Spc.objs Spc.walk
 rw[List.length_map]
 exact Spc.walkN_length s _ _
end
section
open Go.RowKit Go.Sort Go.Shelf
attribute [local go_sem] Oper.semAt_some
abbrev KpQ (Bo:Nat) (X Y:World):Prop:=(∃ v,Bk X Bo 23 #[v])→KpO Bo X Y
abbrev Slot:={ x:Int × Int // U64 x.2 }
def enc3 (x:Slot):Array Value:=#[.int .i64 x.1.1,.int .u64 x.1.2]
def fst3 (pre:List Slot):List (Int × Int):=pre.map (·.1)
theorem fst3_snoc (pre:List Slot) (x:Slot):fst3 (pre++[x])=fst3 pre++[x.1]:=by simp[fst3]
theorem Mm.slotsAt_K (m:Mm) (a:Int):m.slotsAt a=m.slotsK a (slotN (m.hdr a).2).toNat:=rfl
theorem MHeader_of {w:World} {B g1 g2:Nat} {V1 V2:Value} {m:Mm} (h:MR w B g1 g2 V1 V2 m) (a:Int):Calls Tryz.prog 21 #[.agg #[.pointer (some ⟨g1,0,none⟩),.pointer (some ⟨g2,0,none⟩)],.int .i64 a] w fun e w'=>e=.returned (.tuple #[.agg #[.int .i64 (m.hdr a).2.k,.int .i64 (m.hdr a).2.c,.int .i64 (m.hdr a).2.f],.int .i64 (m.hdr a).1])∧Below w.heap.size w w':=MHeader_any h a
theorem MLoad_of {w:World} {B g1 g2:Nat} {V1 V2:Value} {m:Mm} (h:MR w B g1 g2 V1 V2 m) (a:Int):Calls Tryz.prog 25 #[.agg #[.pointer (some ⟨g1,0,none⟩),.pointer (some ⟨g2,0,none⟩)],.int .i64 a] w fun e w'=>e=.returned (atV (m.at_ a))∧Below w.heap.size w w':=MLoad_any h a
theorem below_trans1 {X Y Z:World} (h:Below X.heap.size X Y) (h':Below Y.heap.size Y Z):Below X.heap.size X Z:=h.trans ⟨h'.os,h'.tape,h'.output,h'.size,fun k hk=>h'.block k (Nat.lt_of_lt_of_le hk h.size)⟩
set_option maxHeartbeats 8000000 in
theorem slots1_in {B g1 g2 Bm Bo:Nat} {V1 V2:Value} {m:Mm} (n:Nat) (hn:6≤n) (l:Nat) (J Jx:List Slot→World→Prop) (W:World) (h:MR W B g1 g2 V1 V2 m) (hb:Bk W Bm 29 #[.pointer (some ⟨g1,0,none⟩),.pointer (some ⟨g2,0,none⟩)]) (hO:Bk W Bo 23 #[.slice none 0 0]) (hJ:AbidesFrom W.heap.size J)
  (hY:∀ pre x W1,J pre W1→pre.length < m.slots.length→YieldAt Fence.wide (n - 1) Tryz.prog l (enc3 x) W1 fun e W' =>
   (e=.returned (.bool true)∧J (pre++[x]) W'∧KpQ Bo W1 W') ∨ (e=.returned (.bool false)∧Jx (pre++[x]) W'))
  (h0:J [] W) :
  CallsIn Fence.wide n Tryz.prog 128 #[.func (.yield l) #[] #[],.pointer (some ⟨Bm,0,none⟩)] W fun e W'=>(∃ v,e=.returned v)∧((∃ ys,fst3 ys=m.slots∧J ys W') ∨ (∃ pre,fst3 pre <+: m.slots∧Jx pre W')):=by
 have HJ:=lh hJ
 have HY:=lh hY
 have H:=lh h
 have c0:W.cell? ⟨Bm,0,none⟩=some (.pointer (some ⟨g1,0,none⟩)):=hb.cell 0
 have HBm:=lh hb
 have HO:=lh hO
 have H0:=lh h0
 have hol:=m.old.objs_length
 have hl1:=h.o.lim
 have hl2:=h.o.l0
 have hl0:=h.o.b0
 have cO:=Objects_in (n - 1) (by omega) h.o
 have HOB:Hid (∀ a∈m.old.objs,0≤a∧a < 4294967296):=lh fun a ha=>Spc.objs_bound h.o.ok ha
 clear h hb hO hJ hY h0
 refine callsIn_of_wp Tryz.func128 rfl trivial ?_ rfl
 simp only[Tryz.ntmps128,List.size_toArray,List.length_cons,List.length_nil,Nat.reduceAdd,Nat.reduceSub,Array.replicate_succ,Array.replicate_zero,List.push_toArray,List.append_toArray,List.nil_append,List.cons_append]
 have h1n:1≤n:=by omega
 gi_wp2_with fail
 refine⟨trivial,cO.mono ?_⟩
 rintro e w1 ⟨v,rfl,hown,hb⟩
 obtain⟨A,c,rfl,hle⟩:=own_shape hown
 have hbm1:=HBm.out.below hb HBm.out.lt
 have ho1:=HO.out.below hb HO.out.lt
 have HM1:=lh (H.out.below hb)
 have HOW:=lh hown
 have HBm1:=lh hbm1
 have HO1:=lh ho1
 have HJ1:=lh (HJ.out _ _ _ _ H0.out (grownBy_of_below hb) (fun r e=>by cases e))
 have hcm:A=none→m.old.objs.length=0:=fun e=>by
  obtain⟨_,⟨h1,h2⟩ | ⟨g',cap,cur,h1,_⟩⟩:=hown
  ·exact h2
  ·rw[e] at h1;cases h1
 clear hown hb hbm1 ho1 c0
 gi_wp2_with fail
 gi_loopw [15] (fun jj wr=>∃ (j:Nat) (pre:List Slot),j≤m.old.objs.length∧jj=.int .i64 (j:Int)∧m.slots=fst3 pre++(m.old.objs.drop j).flatMap m.slotsAt∧J pre wr∧SI w1 Bo wr) (fun jj _=>m.old.objs.length - (intOf jj).toNat)
 case atStart=>exact⟨0,[],Nat.zero_le _,rfl,rfl,HJ1.out,SI.start HO1.out⟩
 case round =>
  obtain⟨j,pre,hj,rfl,hsl,hJp,hsi⟩:=hrel
  have HSL:=lh hsl
  have HJP:=lh hJp
  have HSI:=lh hsi
  clear hsl hJp hsi
  by_cases hlt:j < m.old.objs.length
  ·obtain⟨a,ha⟩:∃ a,m.old.objs[j]?=some a:=⟨_,List.getElem?_eq_getElem hlt⟩
   obtain⟨ab0,ab1⟩:=HOB.out a (List.mem_of_getElem? ha)
   have hdrop:m.old.objs.drop j=a::m.old.objs.drop (j+1):=by
    rw[List.drop_eq_getElem_cons hlt]
    rw[List.getElem?_eq_getElem hlt] at ha
    cases ha
    rfl
   have HSL2:Hid (m.slots=fst3 pre++(m.slotsAt a++(m.old.objs.drop (j+1)).flatMap m.slotsAt)):=lh (by rw[HSL.out,hdrop];rfl)
   obtain⟨b,o,rfl,hbl,hcc⟩:=(own_sl HOW.out).get hlt
   have hownr:wr.ownsRow W.heap.size 3 1 (.slice (some ⟨b,o,none⟩) m.old.objs.length c) m.old.objs.length (ints m.old.objs):=own_bk HOW.out fun k cs _ hc=>HSI.out.keep _ _ _ (bk_ne hc HO1.out (by decide)) hc
   obtain⟨b',o',e',_,hcr⟩:=(own_sl hownr).get hlt
   cases e'
   have ca:wr.cell? ⟨b,o+j,none⟩=some (.int .i64 a):=hcr j _ (ints_get ha)
   have hmr:=HM1.out.si ⟨_,HO1.out⟩ HSI.out
   have hbr:=HSI.out.keep _ _ _ (bk_ne HBm1.out HO1.out (by decide)) HBm1.out
   have k0:wr.cell? ⟨Bm,0,none⟩=some (.pointer (some ⟨g1,0,none⟩)):=hbr.cell 0
   have k1:wr.cell? ⟨Bm,1,none⟩=some (.pointer (some ⟨g2,0,none⟩)):=hbr.cell 1
   have cH:=toW (n:=n - 1) (MHeader_of hmr a)
   have hjc:j < c:=by omega
   have hsn:=slotN_bound (m:=m) (a:=a)
   have HN:=lh (Mm.slotsAt_K m a)
   obtain⟨⟨hek,hk,hc2,hf⟩,hhd⟩:∃ er,er=m.hdr a:=⟨_,rfl⟩
   rw[← hhd] at cH hsn HN
   simp only at cH hsn HN
   clear hdrop ha hcc hownr hcr hmr hbr hhd
   gi_wp2_with fail
   refine⟨trivial,cH.mono ?_⟩
   rintro e w2 ⟨rfl,hb2⟩
   have hsi3:=HSI.out.below (below_trans1 hb2 ((Below.refl w2.heap.size w2).alloc (Nat.le_refl _) (.cells #[.int .i64 hk,.int .i64 hc2,.int .i64 hf] 58)))
   have HJ3:=lh (HJ.out _ _ _ _ HJP.out (grownBy_of_below (below_trans1 hb2 ((Below.refl w2.heap.size w2).alloc (Nat.le_refl _) (.cells #[.int .i64 hk,.int .i64 hc2,.int .i64 hf] 58)))) (fun r e=>by cases e))
   have HSI3:=lh hsi3
   clear cH hb2 hsi3
   have key:(hk=4∧slotN ⟨hk,hc2,hf⟩=1) ∨ (hk=3∧hk≠4∧slotN ⟨hk,hc2,hf⟩=0) ∨ (hk≠4∧hk≠3∧slotN ⟨hk,hc2,hf⟩=hf):=by
    unfold slotN
    by_cases h4:hk=4
    ·subst h4;simp
    ·by_cases h3:hk=3
     ·subst h3;simp
     ·simp[h3,h4]
   obtain⟨sN,hsN⟩:∃ sN,sN=slotN ⟨hk,hc2,hf⟩:=⟨_,rfl⟩
   rw[← hsN] at key HN hsn
   clear hsN
   rcases key with ⟨rfl,hsN⟩ | ⟨rfl,h4,hsN⟩ | ⟨h4,h3,hsN⟩
   ·gi_wp2_with fail
    generalize w2.alloc (.cells #[.int .i64 4,.int .i64 hc2,.int .i64 hf] 58)=w3 at HSI3 HJ3 ⊢
    clear ca k0 k1
    gi_loopw [34] (fun ii wi=>∃ (i:Nat) (pre2:List Slot),(i:Int)≤sN∧ii=.int .i64 (i:Int)∧fst3 pre2=fst3 pre++m.slotsK a i∧J pre2 wi∧SI w1 Bo wi) (fun ii _=>sN.toNat - (intOf ii).toNat)
    case atStart=>exact⟨0,pre,hsn.1,rfl,by simp[Mm.slotsK],HJ3.out,HSI3.out⟩
    case round =>
     obtain⟨i,pre2,hi,rfl,hp2,hJ2,hsi2⟩:=hrel
     have HP2:=lh hp2
     have HJ2:=lh hJ2
     have HSI2:=lh hsi2
     have hmr:=HM1.out.si ⟨_,HO1.out⟩ hsi2
     have hbr:=hsi2.keep _ _ _ (bk_ne HBm1.out HO1.out (by decide)) HBm1.out
     have k0:wr.cell? ⟨Bm,0,none⟩=some (.pointer (some ⟨g1,0,none⟩)):=hbr.cell 0
     have k1:wr.cell? ⟨Bm,1,none⟩=some (.pointer (some ⟨g2,0,none⟩)):=hbr.cell 1
     clear hp2 hJ2 hsi2 hbr
     by_cases hlt2:(i:Int) < sN
     ·have cL:=toW (n:=n - 1) (MLoad_of hmr (a+2+(i:Int)))
      have HLA:Hid (m.slotsK a (i+1)=m.slotsK a i++m.slotAt (a+2+(i:Int))):=lh (Mm.slotsK_succ m a i)
      have HPF:Hid (fst3 pre2++m.slotAt (a+2+(i:Int)) <+: m.slots):=lh (by
       rw[HP2.out,List.append_assoc,← HLA.out,HSL2.out,HN.out]
       exact(List.prefix_append_right_inj _).2 ((Mm.slotsK_prefix m a (by omega)).trans (List.prefix_append _ _)))
      unfold Mm.slotAt at HLA HPF
      have hU:∀ x,m.at_ (a+2+(i:Int))=some x→U64 x:=fun x hx=>hmr.ok.at_u hx
      obtain⟨o',ho'⟩:∃ o',o'=m.at_ (a+2+(i:Int)):=⟨_,rfl⟩
      rw[← ho'] at cL HLA HPF hU
      have HU:=lh hU
      clear hmr ho' hU
      gi_wp2_with fail
      refine⟨trivial,cL.mono ?_⟩
      rintro e w4 ⟨rfl,hb4⟩
      have HSI4:=lh (HSI2.out.below hb4)
      have HJ4:=lh (HJ.out _ _ _ _ HJ2.out (grownBy_of_below hb4) (fun r e=>by cases e))
      clear cL hb4
      rcases o' with _ | x
      ·simp only[atV]
       gi_wp2_with fail
       refine⟨nofun,?_⟩
       gi_wp2_with fail
       go_roundw
       case rel=>exact⟨i+1,pre2,by omega,by simp,by rw[HLA.out,HP2.out];simp,HJ4.out,HSI4.out⟩
       case measure=>simp[intOf];omega
      ·simp only[atV]
       have hu:=HU.out x rfl
       obtain⟨fn,tmps,assign,body,hy,hRd⟩:=HY.out pre2 ⟨(a+2+(i:Int),x),hu⟩ w4 HJ4.out (by
        have:=HPF.out.length_le
        simp[fst3] at this
        omega)
       unfold enc3 at hy
       dsimp only at hy
       have HE:Hid (fst3 (pre2++[⟨(a+2+(i:Int),x),hu⟩])=fst3 pre++m.slotsK a (i+1)):=lh (by rw[fst3_snoc,HLA.out,HP2.out];simp)
       have HPX:Hid (fst3 (pre2++[⟨(a+2+(i:Int),x),hu⟩]) <+: m.slots):=lh (by rw[fst3_snoc];exact HPF.out)
       clear HPF HLA HU
       gi_wp2_with fail
       refine hRd.mono ?_
       rintro e W5 (⟨rfl,hJ5,hk5⟩ | ⟨rfl,hJx5⟩)
       ·have HJ5:=lh hJ5
        have HSI5:=lh (HSI4.out.round (hk5 (by obtain⟨v,hv,_⟩:=HSI4.out.out;exact⟨v,hv⟩)))
        clear hJ5 hk5
        gi_wp2_with fail
        go_roundw
        case rel=>exact⟨i+1,_,by omega,by simp,HE.out,HJ5.out,HSI5.out⟩
        case measure=>simp[intOf];omega
       ·gi_wp2_with fail
        refine bodyPost_ret (results_none rfl _ _ _) rfl ?_
        exact⟨⟨_,rfl⟩,.inr ⟨_,HPX.out,hJx5⟩⟩
     ·obtain rfl:sN=(i:Int):=by omega
      have HS:Hid (m.slots=fst3 pre2++(m.old.objs.drop (j+1)).flatMap m.slotsAt):=lh (by rw[HSL2.out,HN.out,HP2.out];simp)
      gi_wp2_with fail
      go_roundw
      case rel=>exact⟨j+1,pre2,by omega,by simp,HS.out,HJ2.out,HSI2.out⟩
      case measure=>simp[intOf];omega
   ·gi_wp2_with fail
    generalize w2.alloc (.cells #[.int .i64 3,.int .i64 hc2,.int .i64 hf] 58)=w3 at HSI3 HJ3 ⊢
    clear ca k0 k1
    gi_loopw [34] (fun ii wi=>∃ (i:Nat) (pre2:List Slot),(i:Int)≤sN∧ii=.int .i64 (i:Int)∧fst3 pre2=fst3 pre++m.slotsK a i∧J pre2 wi∧SI w1 Bo wi) (fun ii _=>sN.toNat - (intOf ii).toNat)
    case atStart=>exact⟨0,pre,hsn.1,rfl,by simp[Mm.slotsK],HJ3.out,HSI3.out⟩
    case round =>
     obtain⟨i,pre2,hi,rfl,hp2,hJ2,hsi2⟩:=hrel
     have HP2:=lh hp2
     have HJ2:=lh hJ2
     have HSI2:=lh hsi2
     have hmr:=HM1.out.si ⟨_,HO1.out⟩ hsi2
     have hbr:=hsi2.keep _ _ _ (bk_ne HBm1.out HO1.out (by decide)) HBm1.out
     have k0:wr.cell? ⟨Bm,0,none⟩=some (.pointer (some ⟨g1,0,none⟩)):=hbr.cell 0
     have k1:wr.cell? ⟨Bm,1,none⟩=some (.pointer (some ⟨g2,0,none⟩)):=hbr.cell 1
     clear hp2 hJ2 hsi2 hbr
     by_cases hlt2:(i:Int) < sN
     ·exfalso;omega
     ·obtain rfl:sN=(i:Int):=by omega
      have HS:Hid (m.slots=fst3 pre2++(m.old.objs.drop (j+1)).flatMap m.slotsAt):=lh (by rw[HSL2.out,HN.out,HP2.out];simp)
      gi_wp2_with fail
      go_roundw
      case rel=>exact⟨j+1,pre2,by omega,by simp,HS.out,HJ2.out,HSI2.out⟩
      case measure=>simp[intOf];omega
   ·gi_wp2_with fail
    rw[show(hk == 4)=false from by simp[h4],show(hk == 3)=false from by simp[h3]]
    generalize w2.alloc (.cells #[.int .i64 hk,.int .i64 hc2,.int .i64 hf] 58)=w3 at HSI3 HJ3 ⊢
    clear ca k0 k1
    gi_loopw [34] (fun ii wi=>∃ (i:Nat) (pre2:List Slot),(i:Int)≤sN∧ii=.int .i64 (i:Int)∧fst3 pre2=fst3 pre++m.slotsK a i∧J pre2 wi∧SI w1 Bo wi) (fun ii _=>sN.toNat - (intOf ii).toNat)
    case atStart=>exact⟨0,pre,hsn.1,rfl,by simp[Mm.slotsK],HJ3.out,HSI3.out⟩
    case round =>
     obtain⟨i,pre2,hi,rfl,hp2,hJ2,hsi2⟩:=hrel
     have HP2:=lh hp2
     have HJ2:=lh hJ2
     have HSI2:=lh hsi2
     have hmr:=HM1.out.si ⟨_,HO1.out⟩ hsi2
     have hbr:=hsi2.keep _ _ _ (bk_ne HBm1.out HO1.out (by decide)) HBm1.out
     have k0:wr.cell? ⟨Bm,0,none⟩=some (.pointer (some ⟨g1,0,none⟩)):=hbr.cell 0
     have k1:wr.cell? ⟨Bm,1,none⟩=some (.pointer (some ⟨g2,0,none⟩)):=hbr.cell 1
     clear hp2 hJ2 hsi2 hbr
     by_cases hlt2:(i:Int) < sN
     ·have cL:=toW (n:=n - 1) (MLoad_of hmr (a+2+(i:Int)))
      have HLA:Hid (m.slotsK a (i+1)=m.slotsK a i++m.slotAt (a+2+(i:Int))):=lh (Mm.slotsK_succ m a i)
      have HPF:Hid (fst3 pre2++m.slotAt (a+2+(i:Int)) <+: m.slots):=lh (by
       rw[HP2.out,List.append_assoc,← HLA.out,HSL2.out,HN.out]
       exact(List.prefix_append_right_inj _).2 ((Mm.slotsK_prefix m a (by omega)).trans (List.prefix_append _ _)))
      unfold Mm.slotAt at HLA HPF
      have hU:∀ x,m.at_ (a+2+(i:Int))=some x→U64 x:=fun x hx=>hmr.ok.at_u hx
      obtain⟨o',ho'⟩:∃ o',o'=m.at_ (a+2+(i:Int)):=⟨_,rfl⟩
      rw[← ho'] at cL HLA HPF hU
      have HU:=lh hU
      clear hmr ho' hU
      gi_wp2_with fail
      refine⟨trivial,cL.mono ?_⟩
      rintro e w4 ⟨rfl,hb4⟩
      have HSI4:=lh (HSI2.out.below hb4)
      have HJ4:=lh (HJ.out _ _ _ _ HJ2.out (grownBy_of_below hb4) (fun r e=>by cases e))
      clear cL hb4
      rcases o' with _ | x
      ·simp only[atV]
       gi_wp2_with fail
       refine⟨nofun,?_⟩
       gi_wp2_with fail
       go_roundw
       case rel=>exact⟨i+1,pre2,by omega,by simp,by rw[HLA.out,HP2.out];simp,HJ4.out,HSI4.out⟩
       case measure=>simp[intOf];omega
      ·simp only[atV]
       have hu:=HU.out x rfl
       obtain⟨fn,tmps,assign,body,hy,hRd⟩:=HY.out pre2 ⟨(a+2+(i:Int),x),hu⟩ w4 HJ4.out (by
        have:=HPF.out.length_le
        simp[fst3] at this
        omega)
       unfold enc3 at hy
       dsimp only at hy
       have HE:Hid (fst3 (pre2++[⟨(a+2+(i:Int),x),hu⟩])=fst3 pre++m.slotsK a (i+1)):=lh (by rw[fst3_snoc,HLA.out,HP2.out];simp)
       have HPX:Hid (fst3 (pre2++[⟨(a+2+(i:Int),x),hu⟩]) <+: m.slots):=lh (by rw[fst3_snoc];exact HPF.out)
       clear HPF HLA HU
       gi_wp2_with fail
       refine hRd.mono ?_
       rintro e W5 (⟨rfl,hJ5,hk5⟩ | ⟨rfl,hJx5⟩)
       ·have HJ5:=lh hJ5
        have HSI5:=lh (HSI4.out.round (hk5 (by obtain⟨v,hv,_⟩:=HSI4.out.out;exact⟨v,hv⟩)))
        clear hJ5 hk5
        gi_wp2_with fail
        go_roundw
        case rel=>exact⟨i+1,_,by omega,by simp,HE.out,HJ5.out,HSI5.out⟩
        case measure=>simp[intOf];omega
       ·gi_wp2_with fail
        refine bodyPost_ret (results_none rfl _ _ _) rfl ?_
        exact⟨⟨_,rfl⟩,.inr ⟨_,HPX.out,hJx5⟩⟩
     ·obtain rfl:sN=(i:Int):=by omega
      have HS:Hid (m.slots=fst3 pre2++(m.old.objs.drop (j+1)).flatMap m.slotsAt):=lh (by rw[HSL2.out,HN.out,HP2.out];simp)
      gi_wp2_with fail
      go_roundw
      case rel=>exact⟨j+1,pre2,by omega,by simp,HS.out,HJ2.out,HSI2.out⟩
      case measure=>simp[intOf];omega
  ·have hjl:j=m.old.objs.length:=by omega
   have HE:=lh (show fst3 pre=m.slots by rw[HSL.out,List.drop_of_length_le (by omega)];simp)
   gi_wp2_with fail
   go_end0
   exact⟨⟨_,rfl⟩,.inl ⟨_,HE.out,HJP.out⟩⟩
end
section
open Go.RowKit Go.Sort Go.Shelf
attribute [local go_sem] Oper.semAt_some
theorem KpO.of_below {Bo:Nat} {X Y:World} (hb:Below X.heap.size X Y):KpO Bo X Y :=
 ⟨fun _ _ _ _ _ h=>h.below hb h.lt,fun v hv=>⟨v,hv.below hb hv.lt,fun k hk=>.inl hk⟩,hb.size⟩
theorem KpQ.trans {Bo:Nat} {X Y Z:World} (h:KpQ Bo X Y) (h':KpQ Bo Y Z):KpQ Bo X Z:=fun hX=>by
 have h1:=h hX
 obtain⟨v,hv⟩:=hX
 obtain⟨v',hv',_⟩:=h1.out v hv
 exact h1.trans (h' ⟨v',hv'⟩) ⟨v,hv⟩
theorem KpQ.putObj {Bo:Nat} (W:World) (l:Nat) (o o':Obj) (hl:W.heap[l]?=some o) (ho:o.isCells=false):KpQ Bo W (W.putObj l o'):=fun _=>by
 have key:∀ k t cs,Bk W k t cs→some k≠some l:=fun k t cs hk e=>by
  injection e with e
  unfold Bk at hk
  rw[e,hl] at hk
  cases hk
  cases ho
 exact⟨fun k t cs _ _ h=>h.grown (grownBy_putObj' W l o') (key _ _ _ h),fun v hv=>⟨v,hv.grown (grownBy_putObj' W l o') (key _ _ _ hv),fun k hk=>.inl hk⟩,by simp⟩
theorem slots_stops {B g1 g2 Bm Bo:Nat} {V1 V2:Value} {m:Mm} (n:Nat) (hn:6≤n) (w:World) (h:MR w B g1 g2 V1 V2 m) (hb:Bk w Bm 29 #[.pointer (some ⟨g1,0,none⟩),.pointer (some ⟨g2,0,none⟩)]) (hO:Bk w Bo 23 #[.slice none 0 0]) :
  SeqStopsK Fence.wide n Tryz.prog 128 #[.pointer (some ⟨Bm,0,none⟩)] enc3 (KpQ Bo) (fun ys=>fst3 ys=m.slots) (fun pre=>fst3 pre <+: m.slots) m.slots.length w :=
 fun l J Jx W hW hJ _ hY h0=>slots1_in n hn l J Jx W (h.below hW) (hb.below hW hb.lt) (hO.below hW hO.lt) hJ hY h0
theorem slots_any (v1 v2:Value) (w:World):Calls Tryz.prog 119 #[.agg #[v1,v2]] w fun e w'=>e=.returned (.func (.func 128) #[] #[.pointer (some ⟨w.heap.size,0,none⟩)])∧w.alloc (.cells #[v1,v2] 29)=w':=by
 go_enter Tryz.func119,Tryz.ntmps119
 go_wp2_with fail
 go_ret
 exact⟨rfl,rfl⟩
theorem slots_len (m:Mm):m.slots.length≤30*m.old.objs.length:=by
 unfold Mm.slots
 induction m.old.objs with
 | nil=>simp
 | cons a l ih =>
  have h1:(m.slotsAt a).length≤30:=by
   unfold Mm.slotsAt
   refine Nat.le_trans (List.length_filterMap_le _ _) ?_
   have:=slotN_bound (m:=m) (a:=a)
   simp
   omega
  simp only[List.flatMap_cons,List.length_append,List.length_cons]
  omega
/-- the addresses among what has come -/
def crF (p:Int→Bool) (pre:List Slot):List Int:=((fst3 pre).filter fun s=>ygW s.2 && p s.1).map (·.1)
theorem crF_snoc (p:Int→Bool) (pre:List Slot) (x:Slot):crF p (pre++[x])=crF p pre++if ygW x.1.2 && p x.1.1 then [x.1.1] else []:=by
 unfold crF
 rw[fst3_snoc,List.filter_append,List.map_append]
 congr 1
 cases h:(ygW x.1.2 && p x.1.1) <;> simp[h]
theorem crF_length (p:Int→Bool) (pre:List Slot):(crF p pre).length≤pre.length:=by
 unfold crF fst3
 rw[List.length_map]
 exact Nat.le_trans (List.length_filter_le _ _) (by simp)
theorem ownsRow_mono {w:World} {base base':Nat} {e:TypeId} {size:Nat} {v:Value} {n:Nat} {xs:List Value} (h:w.ownsRow base e size v n xs) (hb:base'≤base):w.ownsRow base' e size v n xs :=
 ⟨h.1,h.2.imp id fun⟨g,cap,cur,h1,h2,h3⟩=>⟨g,cap,cur,h1,Nat.le_trans hb h2,h3⟩⟩
theorem KpO.app {X w1:World} {Bo:Nat} {tmp:Obj} {v v':Value} (hB:Bk X Bo 23 #[v]) (hg:(X.alloc tmp).grownBy w1 v.ownBlock) (hv:v'.ownBlock=v.ownBlock ∨ v'.ownBlock=some (X.heap.size+1)) (hN:Bk (w1.setCell ⟨Bo,0,none⟩ v') Bo 23 #[v']) (hs:X.heap.size≤(w1.setCell ⟨Bo,0,none⟩ v').heap.size):KpO Bo X (w1.setCell ⟨Bo,0,none⟩ v'):=by
 refine⟨fun k t cs hk hn hc=>?_,fun u hu=>?_,hs⟩
 ·exact((hc.alloc tmp).grown hg (fun e=>hn v hB e.symm)).far (p:=⟨Bo,0,none⟩) (by show k≠Bo;exact hk) _
 ·have:u=v:=by unfold Bk at hu hB;rw[hu] at hB;injection hB with h1;injection h1 with h1;simpa using h1
  subst this
  refine⟨v',hN,fun k hk=>?_⟩
  rcases hv with e | e
  ·exact .inl (by rw[← e];exact hk)
  ·rw[e] at hk;injection hk with hk;right;omega
section
variable {w:World} {B g1 g2:Nat} {V1 V2:Value} {m:Mm}
set_option maxHeartbeats 4000000 in
theorem crossing_in (n:Nat) (hn:8≤n) (h:MR w B g1 g2 V1 V2 m) (f:Nat) (bnd cap:Array Value) (p:Int→Bool) (hE:∀ args w,(callFunc f args).run Tryz.prog w=.ok (.enter f args) w)
  (hp:∀ W,Below w.heap.size w W→∀ a,CallsIn Fence.wide (n - 1 - 1 - 1) Tryz.prog f (bnd.push (.int .i64 a)++cap) W fun e W'=>e=.returned (.bool (p a))∧Below W.heap.size W W') :
  CallsIn Fence.wide n Tryz.prog 103 #[.agg #[.pointer (some ⟨g1,0,none⟩),.pointer (some ⟨g2,0,none⟩)],.func (.func f) bnd cap] w fun e W'=>∃ v,e=.returned v∧W'.ownsRow w.heap.size 3 1 v (m.crossing p).length (ints (m.crossing p))∧Below w.heap.size w W':=by
 have h1:1≤n:=by omega
 obtain⟨i0,hi,hz0,hz1,hz2⟩:=info_parts i_int
 refine callsIn_of_wp_marks Tryz.func103 rfl trivial ?_ rfl
 simp only[Tryz.ntmps103,List.size_toArray,List.length_cons,List.length_nil,Nat.reduceAdd,Nat.reduceSub,Array.replicate_succ,Array.replicate_zero,List.push_toArray,List.append_toArray,List.nil_append,List.cons_append]
 gi_wp2_with fail
 refine⟨trivial,(toW (slots_any _ _ _)).mono ?_⟩
 rintro e w' ⟨rfl,rfl⟩
 gi_wp2_with fail
 have hB1:Below w.heap.size w ((w.alloc (.cells #[.pointer (some ⟨g1,0,none⟩),.pointer (some ⟨g2,0,none⟩)] 29)).alloc (.cells #[.func (.func f) bnd cap] 120)):=((Below.refl _ w).alloc (Nat.le_refl _) _).alloc (by simp) _
 have cP:Bk ((w.alloc (.cells #[.pointer (some ⟨g1,0,none⟩),.pointer (some ⟨g2,0,none⟩)] 29)).alloc (.cells #[.func (.func f) bnd cap] 120)) (w.heap.size+1) 120 #[.func (.func f) bnd cap]:=Bk.here _ _ _ (by simp)
 have sA:((w.alloc (.cells #[.pointer (some ⟨g1,0,none⟩),.pointer (some ⟨g2,0,none⟩)] 29)).alloc (.cells #[.func (.func f) bnd cap] 120)).heap.size=w.heap.size+1+1:=by simp
 generalize hA:((w.alloc (.cells #[.pointer (some ⟨g1,0,none⟩),.pointer (some ⟨g2,0,none⟩)] 29)).alloc (.cells #[.func (.func f) bnd cap] 120))=wA at hB1 cP sA ⊢
 have bO:=Boxed.new wA 23 (.slice none 0 0)
 have hB0:Below wA.heap.size wA ((wA.alloc (.cells #[.slice none 0 0] 23)).alloc (.cells #[.pointer (some ⟨g1,0,none⟩),.pointer (some ⟨g2,0,none⟩)] 29)):=((Below.refl _ wA).alloc (Nat.le_refl _) _).alloc (by simp) _
 have hMR:=(h.below hB1).below hB0
 have hBm:Bk ((wA.alloc (.cells #[.slice none 0 0] 23)).alloc (.cells #[.pointer (some ⟨g1,0,none⟩),.pointer (some ⟨g2,0,none⟩)] 29)) (wA.heap.size+1) 29 #[.pointer (some ⟨g1,0,none⟩),.pointer (some ⟨g2,0,none⟩)]:=Bk.here _ _ _ (by simp)
 have hBo:Bk ((wA.alloc (.cells #[.slice none 0 0] 23)).alloc (.cells #[.pointer (some ⟨g1,0,none⟩),.pointer (some ⟨g2,0,none⟩)] 29)) wA.heap.size 23 #[.slice none 0 0]:=bO.alloc _
 have hsl:=slots_len m
 have hol:=m.old.objs_length
 have hl1:=h.o.lim
 have hl2:=h.o.l0
 have hl0:=h.o.b0
 rw[show w.heap.size+1+1=wA.heap.size from sA.symm]
 have SA:=lh sA
 have h3:1≤n - 1 - 1:=by omega
 clear sA hA
 refine wpIn_rangeFunc_ownG rfl h1 (gf:=128) (lb:=#[.pointer (some ⟨wA.heap.size+1,0,none⟩)]) rfl trivial (enters_of Tryz.func128 (by kernel_rfl) rfl)
  (slots_stops (n - 1) (by omega) _ hMR hBm hBo) (fun h k=>h.trans k) (fun W l o o' hl ho hc _=>KpQ.putObj W l o o' ho hc) (Below.refl _ _) (fun x=>by unfold enc3;rfl)
  (fun pre W=>((∃ v,Boxed W wA.heap.size 23 v∧W.ownsRow wA.heap.size 3 1 v (crF p pre).length (ints (crF p pre))∧True)∧Below wA.heap.size wA W))
  (fun _ _ _=>False)
  (OwnFrom.and (Own.from (holdsRow_own wA.heap.size wA.heap.size 23 3 1 (fun pre=>(crF p pre).length) (fun pre=>ints (crF p pre)) (fun _ _=>True)) _) (ownFrom_below (Nat.le_refl _) (by simp;omega)))
  (fun _ _ _ _ _ hs _ _=>hs)
  ⟨⟨_,bO.alloc _,World.ownsRow_nil _ _ _ _,trivial⟩,hB0⟩
  (fun x=>{ tmps:=#[.agg #[.pointer (some ⟨g1,0,none⟩),.pointer (some ⟨g2,0,none⟩)],.func (.func f) bnd cap,.pointer (some ⟨w.heap.size,0,none⟩),.pointer (some ⟨w.heap.size+1,0,none⟩),.slice none 0 0,.pointer (some ⟨wA.heap.size,0,none⟩),.int .i64 x.1.1,.int .u64 x.1.2,.agg #[.pointer (some ⟨g1,0,none⟩),.pointer (some ⟨g2,0,none⟩)],.func (.func 128) #[] #[.pointer (some ⟨wA.heap.size+1,0,none⟩)],.int .i64 x.1.1,.int .u64 x.1.2,undef,undef,undef,undef,undef,undef,undef,undef,undef,undef,undef,undef],defers:=[] }) ?assign ?body ?done ?stop
 case assign =>
  intro l x W K hK
  unfold enc3
  gi_wp2
  exact hK
 case body =>
  rintro l pre ⟨⟨a,x⟩,hu⟩ W ⟨⟨v,hv,hrow,-⟩,hB⟩ hlt
  have hc:=hv.cell
  have hpl:=crF_length p pre
  have cY:=(toW (n:=n - 1 - 1 - 1) (young_any hu W)).inRound l
  have cF:W.cell? ⟨w.heap.size+1,0,none⟩=some (.func (.func f) bnd cap):=(cP.below hB (by have:=SA.out;omega)).cell 0
  cases hy:ygW x with
  | false =>
   simp only[hy] at cY
   gi_wp2_with fail
   refine⟨trivial,cY.mono ?_⟩
   rintro e W2 ⟨rfl,rfl⟩
   gi_wp2_with fail
   refine⟨nofun,?_⟩
   gi_wp2_with fail
   refine⟨KeepsFrom.refl _ _,fun _=>KpO.of_below (Below.refl _ _),⟨v,hv,by rw[crF_snoc];simp[hy];exact hrow,trivial⟩,hB⟩
  | true =>
   simp only[hy] at cY
   have hPP:=(hp W (hB1.trans (hB.mono (by have:=SA.out;omega))) a).inRound l
   gi_wp2_with fail
   refine⟨trivial,cY.mono ?_⟩
   rintro e W2 ⟨rfl,rfl⟩
   gi_wp2_with fail
   refine⟨trivial,?_⟩
   refine hPP.mono ?_
   rintro e W2 ⟨rfl,hb2⟩
   have hv2:Boxed W2 wA.heap.size 23 v:=Bk.below (show Bk W _ _ _ from hv) hb2 hv.lt
   have hrow2:=own_local hrow fun k hk=>hb2.block k (hrow.lt k hk).2
   have hB2:=hB.trans (hb2.mono hB.size)
   have hKF:∀ N,KeepsFrom N W W2:=fun N=>(KeepsOthers.of_grownBy (grownBy_of_below hb2) (fun _ _ e=>by cases e)).from _
   have hKQ:KpO wA.heap.size W W2:=KpO.of_below hb2
   have hc2:=hv2.cell
   cases hpa:p a with
   | false =>
    gi_wp2_with fail
    refine⟨hKF _,fun _=>hKQ,⟨v,hv2,by rw[crF_snoc];simp[hy,hpa];exact hrow2,trivial⟩,hB2⟩
   | true =>
    gi_wp2_with (gi_at_builtin;refine wpListIn_append_own_at _ rfl _ _ 23 rfl wA.heap.size 3 i0 (.int .i64 0) 1 8 Tryz.underlying23 hi hz0 hz1 hz2 rfl (by decide) _ _ _ rfl (hrow2.alloc _) ⟨W2.heap.size,0,none⟩ 1 1 [.int .i64 a] rfl rfl (cell_one_new _ _ _) (by simp[Value.oneCell']) (by unfold maxLen;omega) (by omega) (by have:=hB2.size;simp;omega) ?_;intro v' w1 hown' hgrow _ hvo;obtain⟨g',cap',rfl⟩:=ownsRow_succ hown';obtain⟨hv1,hv3,hr3,hk3,hb3⟩:=hv2.appended (by decide) hrow2 hB2.size (Nat.le_refl _) hown' hgrow;have hc1:=hv1.cell;have hf1:=hv1.frozen)
    refine⟨(hKF _).trans (hk3.from _),fun _=>hKQ.trans (KpO.app hv2 hgrow (hvo.imp (fun e=>e) (fun e=>e.trans (by simp))) hv3 (Nat.le_trans hb3.size (Nat.le_refl _))) ⟨v,hv⟩,⟨_,hv3,by rw[crF_snoc];simpa [ints,hy,hpa] using hr3,trivial⟩,hB2.trans hb3⟩
 case done =>
  rintro D ys W hD hys ⟨⟨v,hv,hrow,-⟩,hB⟩ hK
  have hc:=hv.cell
  gi_wp2
  refine⟨by simp,.inl ⟨_,_,rfl,run_takeDeferred hK,?_⟩⟩
  refine⟨_,results_tmp rfl _ _ _,v,rfl,?_,(hB1.trans (hB.mono (by have:=SA.out;omega))).trans (belowK_b (w:=w) (Nat.le_refl _) W D _ _ (by have:=SA.out;simp at hD;omega) hK rfl rfl)⟩
  have e:crF p ys=m.crossing p:=by unfold crF Mm.crossing;rw[hys]
  rw[← e]
  exact ownsRow_mono (ownsRow_putObj hrow _ hK rfl) (by have:=SA.out;omega)
 case stop =>
  rintro D c pre W _ _ h _
  exact h.elim
end
end
section
open Go.RowKit Go.Sort Go.Shelf
attribute [local go_sem] Oper.semAt_some
section
variable {w:World} {B g b n:Nat} {cs:List Int}
end
section
variable {w:World} {B g1 g2:Nat} {V1 V2:Value} {m:Mm} {B' g b k:Nat} {cs:List Int}
theorem Remembered_any (h:MR w B g1 g2 V1 V2 m) (hc:CR w B' g b k cs) :
  Calls Tryz.prog 54 #[.agg #[.pointer (some ⟨g1,0,none⟩),.pointer (some ⟨g2,0,none⟩)],.pointer (some ⟨g,0,none⟩)] w fun e W'=>∃ v,e=.returned v∧W'.ownsRow w.heap.size 3 1 v (m.crossing (cardIn cs)).length (ints (m.crossing (cardIn cs)))∧Below w.heap.size w W':=by
 refine(callsIn_wide (n:=20)).1 ?_
 refine callsIn_of_wp Tryz.func54 rfl trivial ?_ rfl
 simp only[Tryz.ntmps54,List.size_toArray,List.length_cons,List.length_nil,Nat.reduceAdd,Nat.reduceSub,Array.replicate_succ,Array.replicate_zero,List.push_toArray,List.append_toArray,List.nil_append,List.cons_append]
 have hB1:Below w.heap.size w (w.alloc (.cells #[.pointer (some ⟨g1,0,none⟩),.pointer (some ⟨g2,0,none⟩)] 29)):=(Below.refl _ w).alloc (Nat.le_refl _) _
 have cC:=crossing_in 19 (by omega) (h.below hB1) 78 #[.pointer (some ⟨g,0,none⟩)] #[] (cardIn cs) (enters_of Tryz.func78 (by kernel_rfl) rfl)
  (fun W hW a=>(toW (Marked_any ((hc.below hB1).below hW) a)).mono (by rintro e W' ⟨rfl,rfl⟩;exact⟨rfl,Below.refl _ _⟩))
 gi_wp2_with fail
 refine⟨trivial,cC.mono ?_⟩
 rintro e w1 ⟨v,rfl,hown,hb⟩
 gi_wp2_with fail
 refine bodyPost_ret (results_tmp rfl _ _ _) rfl ?_
 exact⟨v,rfl,ownsRow_mono hown hB1.size,below_trans1 hB1 hb⟩
end
end
section
open Go.RowKit Go.Sort
theorem list_ne_of_get {α:Type} {l m:List α} {k:Nat} {x y:α} (h1:l[k]?=some x) (h2:m[k]?=some y) (h:x≠y):l≠m:=by
 rintro rfl
 rw[h1] at h2
 exact h (Option.some.inj h2)
def eqL {α:Type} [DecidableEq α] (l m:List α):Bool:=decide (l=m)
end
section
open Go.RowKit Go.Sort Go.Shelf
attribute [local go_sem] Oper.semAt_some
/-- what the law's world leads to -/
structure LP where
 p:Nat
 g1:Nat
 g2:Nat
 gt:Nat
 b:Nat
 V1:Value
 V2:Value
 A1:Option Addr
 c1:Nat
 A2:Option Addr
 c2:Nat
 Ac:Option Addr
 cc:Nat
 vl:Value
section
variable {w w':World} {B:Nat} {L:LP} {k:Nat} {m m':Mm} {cs cs' xs:List Int}
/-- slices that lie in other blocks than those that may have turned -/
theorem RS.kp {S:Nat→Prop} {s:Spc} {A:Option Addr} {c:Nat} (h:RS w s A c) (hk:Kp S w w') (hs:∀ b o,A=some ⟨b,o,none⟩→¬ S b):RS w' s A c:=by
 refine⟨⟨h.sl.1,h.sl.2.imp id ?_⟩,h.cap,h.u,h.b0,h.lim,h.l0,fun b o e=>Nat.lt_of_lt_of_le (h.lt b o e) hk.size⟩
 rintro⟨b,o,e,hb,hc⟩
 exact⟨b,o,e,Nat.lt_of_lt_of_le hb hk.size,fun j x hx=>hk.cell (hc j x hx) (hs b o e)⟩
theorem RM.kp {S:Nat→Prop} {A1 A2:Option Addr} {c1 c2:Nat} (h:RM w m A1 c1 A2 c2) (hk:Kp S w w') (hs:∀ b o,A1=some ⟨b,o,none⟩ ∨ A2=some ⟨b,o,none⟩→¬ S b):RM w' m A1 c1 A2 c2 :=
 ⟨h.o.kp hk fun b o e=>hs b o (.inl e),h.y.kp hk fun b o e=>hs b o (.inr e)⟩
theorem RC.kp {S:Nat→Prop} {A:Option Addr} {c:Nat} (h:RC w cs A c) (hk:Kp S w w') (hs:∀ b o,A=some ⟨b,o,none⟩→¬ S b):RC w' cs A c:=by
 refine⟨⟨⟨h.s.sl.1,h.s.sl.2.imp id ?_⟩,h.s.cap⟩,h.m,h.n⟩
 rintro⟨b,o,e,hb,hc⟩
 exact⟨b,o,e,Nat.lt_of_lt_of_le hb hk.size,fun j x hx=>hk.cell (hc j x hx) (hs b o e)⟩
end
section
variable {w:World}
end
end
section
open Go.RowKit
/-- which address a number names -/
def objI (xs:List Int) (a:Int):Nat:=((a.tmod xs.length+xs.length).tmod xs.length).toNat
def objAt (xs:List Int) (a:Int):Int:=match xs[objI xs a]? with | some x=>x | none=>-1
theorem objI_lt {xs:List Int} (h:xs≠[]) (a:Int):objI xs a < xs.length∧((objI xs a:Nat):Int)=(a.tmod xs.length+xs.length).tmod xs.length:=by
 have hp:0 < (xs.length:Int):=by have:=List.length_pos_iff.2 h;omega
 have h1:-(xs.length:Int) < a.tmod xs.length:=by
  have:=Int.lt_tmod_of_pos a hp
  omega
 have h2:0≤(a.tmod xs.length+xs.length).tmod xs.length:=Int.tmod_nonneg _ (by omega)
 have h3:(a.tmod xs.length+xs.length).tmod xs.length < xs.length:=Int.tmod_lt_of_pos _ hp
 unfold objI
 omega
theorem objAt_nil (a:Int):objAt [] a=-1:=rfl
/-- an operation of the law -/
structure OpV where
 k:Int
 h:Hdr
 a:Int
 b:Int
 i:Int
 w:Int
 r:Bool
/-- the law's world -/
structure St where
 m:Mm
 cs:List Int
 xs:List Int
structure CovI (s:St):Prop where
 ok:s.m.Ok
 cov:∀ a x,s.m.old.at_ a=some x→ygW x=true→cardIn s.cs a=true
theorem Spc.size_some {s:Spc} {i:Nat} (h:s.size i≠0):∃ x v hd,s.ws[i]?=some x∧s.ws[i+1]?=some v∧dH x=some hd∧dI v≠Id.zero∧(s.size i:Int)=wH hd∧i+s.size i≤s.ws.length:=by
 have h0:=(s.size_le i).resolve_left h
 unfold Spc.size at h h0 ⊢
 split at h
 ·rename_i x v hx hv
  split at h
  ·rename_i hd hhd
   simp only[hx,hv,hhd] at h0 ⊢
   split at h
   ·rename_i hc
    rw[if_pos hc] at h0
    refine⟨x,v,hd,rfl,rfl,hhd,hc.1,?_,?_⟩
    ·rw[if_pos hc];have:=wH_bound hd;omega
    ·rw[if_pos hc];omega
   ·exact absurd rfl h
  ·exact absurd rfl h
 ·exact absurd rfl h
/-- a sound object of a walk is one that has a header -/
theorem Spc.hdr_of_size {s:Spc} {i:Nat} (h:s.size i≠0):(s.hdr (s.base+i)).1=0∧wH (s.hdr (s.base+i)).2=s.size i:=by
 obtain⟨x,v,hd,h1,h2,h3,h4,h5,h6⟩:=Spc.size_some h
 have hb:=wH_ge (dH_some h3).1
 have e1:s.at_ (s.base+i)=some x:=by
  unfold Spc.at_ Spc.has
  rw[if_pos (decide_eq_true (by omega)),show(s.base+(i:Int) - s.base).toNat=i by omega];exact h1
 have e2:s.at_ (s.base+i+1)=some v:=by
  unfold Spc.at_ Spc.has
  rw[if_pos (decide_eq_true (by omega)),show(s.base+(i:Int)+1 - s.base).toNat=i+1 by omega];exact h2
 have e3:s.has (s.base+i+wH hd - 1)=true:=decide_eq_true (by omega)
 unfold Spc.hdr
 simp only[e1,h3,e2]
 rw[if_neg (by rw[e3];simp[h4])]
 exact⟨rfl,h5.symm⟩
theorem Spc.walkFrom_mem (s:Spc):∀ (n i:Nat),s.ws.length≤i+n→i≤(s.walkFrom i).2∧((s.walkFrom i).2≤i ∨ (s.walkFrom i).2≤s.ws.length)∧s.size (s.walkFrom i).2=0∧(s.walkFrom i).1.Pairwise (fun t u=>t+s.size t≤u)∧∀ t∈(s.walkFrom i).1,i≤t∧s.size t≠0∧t+s.size t≤(s.walkFrom i).2:=by
 intro n
 induction n with
 | zero =>
  intro i hi
  have h0:s.size i=0:=by have:=s.size_le i;omega
  rw[Spc.walkFrom_zero s h0]
  exact⟨Nat.le_refl _,.inl (Nat.le_refl _),h0,List.Pairwise.nil,fun t ht=>by cases ht⟩
 | succ n ih =>
  intro i hi
  by_cases h0:s.size i=0
  ·rw[Spc.walkFrom_zero s h0]
   exact⟨Nat.le_refl _,.inl (Nat.le_refl _),h0,List.Pairwise.nil,fun t ht=>by cases ht⟩
  ·have hs:=s.size_le i
   obtain⟨i1,i2,i3,i4,i5⟩:=ih (i+s.size i) (by omega)
   rw[Spc.walkFrom_pos s h0]
   refine⟨by show i≤(s.walkFrom _).2;omega,.inr (by show(s.walkFrom _).2≤_;omega),i3,List.Pairwise.cons (fun t ht=>(i5 t ht).1) i4,fun t ht=>?_⟩
   rcases List.mem_cons.1 ht with rfl | ht
   ·exact⟨Nat.le_refl _,h0,i1⟩
   ·have:=i5 t ht
    exact⟨by omega,this.2.1,this.2.2⟩
theorem Spc.walk_eq (s:Spc):s.walk=s.walkFrom 0:=rfl
theorem Mm.crossing_mem {m:Mm} {p:Int→Bool} {b:Int}:b∈m.crossing p↔∃ a∈m.old.objs,∃ i:Nat,(i:Int) < slotN (m.hdr a).2∧b=a+2+i∧∃ x,m.at_ b=some x∧ygW x=true∧p b=true:=by
 unfold Mm.crossing Mm.slots Mm.slotsAt
 simp only[List.mem_map,List.mem_filter,List.mem_flatMap,List.mem_filterMap,List.mem_range,Option.map_eq_some_iff,Bool.and_eq_true]
 constructor
 ·rintro⟨⟨b',x⟩,⟨⟨a,ha,c,⟨i,hi,rfl⟩,y,hy,e⟩,h1,h2⟩,rfl⟩
  cases e
  exact⟨a,ha,i,by omega,rfl,x,hy,h1,h2⟩
 ·rintro⟨a,ha,i,hi,rfl,x,hx,h1,h2⟩
  exact⟨(a+2+i,x),⟨⟨a,ha,_,⟨i,by omega,rfl⟩,x,hx,rfl⟩,h1,h2⟩,rfl⟩
/-- objects of the old space -/
theorem Mm.Ok.objs {m:Mm} (h:m.Ok) {a:Int} (ha:a∈m.old.objs):∃ t:Nat,a=t∧t∈m.old.walk.1∧m.old.size t≠0∧m.old.has a=true∧(m.hdr a).1=0∧wH (m.hdr a).2=m.old.size t:=by
 unfold Spc.objs at ha
 obtain⟨t,ht,rfl⟩:=List.mem_map.1 ha
 obtain⟨_,_,_,_,hmem⟩:=m.old.walkFrom_mem m.old.ws.length 0 (by omega)
 have h1:=hmem t ht
 have h2:=Spc.size_some h1.2.1
 obtain⟨_,_,_,_,_,_,_,_,h6⟩:=h2
 have h3:=(m.old.size_le t).resolve_left h1.2.1
 have h4:m.old.has (m.old.base+t)=true:=Spc.has_iff.2 ⟨by omega,by omega⟩
 have h5:=Spc.hdr_of_size h1.2.1
 refine⟨t,by rw[h.ob];omega,ht,h1.2.1,h4,?_⟩
 unfold Mm.hdr Mm.sp
 rw[if_pos h4]
 exact h5
theorem slotN_le {h:Hdr} (hv:vH h=true):slotN h+2≤wH h:=by
 have:=wH_ge hv
 unfold slotN
 split
 ·omega
 ·split <;> omega
theorem Mm.Ok.slot_old {m:Mm} (h:m.Ok) {a:Int} (ha:a∈m.old.objs) {i:Nat} (hi:(i:Int) < slotN (m.hdr a).2):m.old.has (a+2+i)=true:=by
 obtain⟨t,rfl,h1,h2,h3,h4,h5⟩:=h.objs ha
 have h6:=slotN_le (Mm.hdr_valid h4)
 have h7:=Mm.has_of_hdr h4 (j:=2+i) (by omega) (by omega)
 rw[show((t:Int)+(2+i))=(t:Int)+2+i by omega] at h7
 unfold Mm.sp at h7
 rw[if_pos h3] at h7
 exact h7
end
end Go.Proofs.YtaijmgkjbbiboaaGreat
