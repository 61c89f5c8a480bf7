/- Parts of the proof: NurW. -/
import Derived.Test.YtaijmgkjbbiboaaGreatPgA
import Derived.Test.YtaijmgkjbbiboaaGreatPg16
import Derived.Test.YtaijmgkjbbiboaaGreatPg20
import Derived.Test.YtaijmgkjbbiboaaGreatPg32
set_option linter.unusedVariables false
set_option linter.unusedSimpArgs false
set_option linter.unusedSectionVars false
set_option maxRecDepth 100000
namespace Go.Proofs.YtaijmgkjbbiboaaGreat
section
theorem Mm.put_hasO (m:Mm) (p x b:Int):(m.put p x).old.has b=m.old.has b:=by rw[Mm.put_old,Spc.put_has]
theorem Mm.put_cases (m:Mm) (p x:Int):(m.old.has p=true∧m.put p x=⟨m.old.put p x,m.yng⟩) ∨ (m.old.has p=false∧m.put p x=⟨m.old,m.yng.put p x⟩):=by
 unfold Mm.put
 cases h:m.old.has p with
 | true=>exact .inl ⟨rfl,by rw[if_pos rfl]⟩
 | false=>exact .inr ⟨rfl,by rw[if_neg (by simp)]⟩
theorem Mm.put_sp (m:Mm) (p x b:Int):(m.put p x).sp b=m.sp b ∨ (m.put p x).sp b=(m.sp b).put p x:=by
 have h0:=m.put_hasO p x b
 unfold Mm.sp
 rw[h0]
 rcases m.put_cases p x with ⟨h,e⟩ | ⟨h,e⟩ <;> rw[e] <;> dsimp only <;> split
 ·exact .inr rfl
 ·exact .inl rfl
 ·exact .inl rfl
 ·exact .inr rfl
theorem Mm.hdr_put (m:Mm) {p a:Int} (h1:p≠a) (h2:p≠a+1) (x:Int):(m.put p x).hdr a=m.hdr a:=by
 unfold Mm.hdr
 rcases m.put_sp p x a with e | e
 ·rw[e]
 ·rw[e,Spc.hdr_put _ h1 h2]
theorem Mm.put_at (m:Mm) (p x b:Int):(m.put p x).at_ b=if m.has p=true∧b=p then some x else m.at_ b:=by
 have h0:=m.put_hasO p x b
 unfold Mm.at_ Mm.has Mm.sp
 rw[h0]
 rcases m.put_cases p x with ⟨h,e⟩ | ⟨h,e⟩
 ·have e2:(if m.old.has p=true then m.old else m.yng)=m.old:=if_pos h
  rw[e,e2]
  dsimp only
  by_cases hb:m.old.has b=true
  ·rw[if_pos hb,if_pos hb,Spc.put_at]
  ·rw[if_neg hb,if_neg hb,if_neg]
   rintro⟨_,rfl⟩
   exact hb h
 ·have e2:(if m.old.has p=true then m.old else m.yng)=m.yng:=if_neg (by rw[h];simp)
  rw[e,e2]
  dsimp only
  by_cases hb:m.old.has b=true
  ·rw[if_pos hb,if_pos hb,if_neg]
   rintro⟨_,rfl⟩
   rw[h] at hb
   cases hb
  ·rw[if_neg hb,if_neg hb,Spc.put_at]
/-- objects lie one behind the other -/
structure Lay (xs:List Int) (m:Mm):Prop where
 ok:m.Ok
 til:m.old.walk.2=m.old.ws.length
 obj:∀ x,x∈m.old.objs↔(x∈xs∧x < 16777216)
 hd:∀ x∈xs,(m.hdr x).1=0
 gap:∀ x∈xs,∀ y∈xs,x < y→x+wH (m.hdr x).2≤y
section
variable {xs:List Int} {m:Mm}
theorem Lay.wge (h:Lay xs m) {x:Int} (hx:x∈xs):4≤wH (m.hdr x).2:=(wH_ge (Mm.hdr_valid (h.hd x hx))).1
theorem Lay.off (h:Lay xs m) {a k y:Int} (ha:a∈xs) (h2:2≤k) (hk:k < wH (m.hdr a).2) (hy:y∈xs):a+k≠y∧a+k≠y+1:=by
 have h4:=h.wge hy
 rcases Int.lt_trichotomy a y with hl | rfl | hl
 ·have:=h.gap a ha y hy hl;omega
 ·omega
 ·have:=h.gap y hy a ha hl;omega
theorem Lay.of_same {m':Mm} (h:Lay xs m) (ok:m'.Ok) (hw:m'.old.walk=m.old.walk) (hb:m'.old.base=m.old.base) (hl:m'.old.ws.length=m.old.ws.length) (hh:∀ y∈xs,(m'.hdr y).1=0∧wH (m'.hdr y).2=wH (m.hdr y).2):Lay xs m':=by
 refine⟨ok,by rw[hw,hl];exact h.til,fun x=>?_,fun x hx=>(hh x hx).1,fun x hx y hy hxy=>?_⟩
 ·rw[← h.obj x]
  unfold Spc.objs
  rw[hw,hb]
 ·rw[(hh x hx).2]
  exact h.gap x hx y hy hxy
theorem Lay.slot (h:Lay xs m) {a k x:Int} (ha:a∈xs) (h2:2≤k) (hk:k < wH (m.hdr a).2) (hx:U64 x):Lay xs (m.put (a+k) x)∧∀ y∈xs,(m.put (a+k) x).hdr y=m.hdr y:=by
 have hhd:∀ y∈xs,(m.put (a+k) x).hdr y=m.hdr y:=fun y hy=>Mm.hdr_put _ (h.off ha h2 hk hy).1 (h.off ha h2 hk hy).2 _
 refine⟨h.of_same (h.ok.put _ hx) ?_ (by rw[Mm.put_old,Spc.put_base]) (by rw[Mm.put_old,Spc.put_len]) (fun y hy=>by rw[hhd y hy];exact⟨h.hd y hy,rfl⟩),hhd⟩
 rw[Mm.put_old]
 by_cases hlt:a < 16777216
 ·obtain⟨t,e,ht,_,_,_,hw⟩:=h.ok.objs ((h.obj a).2 ⟨ha,hlt⟩)
  have:=Spc.walk_put ht (i:=k.toNat) (by omega) (by omega) x
  rw[show m.old.base+(t:Int)+(k.toNat:Int)=a+k by rw[h.ok.ob];omega] at this
  exact this
 ·have hno:m.old.has (a+k)=false:=by
   cases hc:m.old.has (a+k) with
   | false=>rfl
   | true=>have:=h.ok.old_lt hc;omega
  rw[Spc.put_off hno]
theorem Lay.puts:∀ (l:List Int) (k:Int) {m:Mm} (h:Lay xs m) {a:Int} (ha:a∈xs) (h2:2≤k) (hk:k+l.length≤wH (m.hdr a).2) (hu:∀ x∈l,U64 x),Lay xs (m.puts (a+k) l)∧(∀ y∈xs,(m.puts (a+k) l).hdr y=m.hdr y)∧∀ b,(m.puts (a+k) l).at_ b=if a+k≤b∧b < a+k+l.length then l[(b - (a+k)).toNat]? else m.at_ b
 | [],k,m,h,a,ha,h2,hk,hu=>⟨h,fun y _=>rfl,fun b=>by rw[if_neg (by simp only[List.length_nil];omega)];rfl⟩
 | x::l,k,m,h,a,ha,h2,hk,hu=>by
  rw[List.length_cons] at hk
  have hx:=hu x (by simp)
  obtain⟨h1,hh⟩:=h.slot ha h2 (by omega) hx
  have ih:=Lay.puts l (k+1) h1 ha (by omega) (by rw[hh a ha];omega) fun y hy=>hu y (by simp[hy])
  have e:m.puts (a+k) (x::l)=(m.put (a+k) x).puts (a+(k+1)) l:=by
   show(m.put (a+k) x).puts (a+k+1) l=_
   rw[show a+k+1=a+(k+1) by omega]
  rw[e]
  refine⟨ih.1,fun y hy=>by rw[ih.2.1 y hy,hh y hy],fun b=>?_⟩
  rw[ih.2.2 b,Mm.put_at,List.length_cons]
  have hhas:=(h.ok.has_near (h.hd a ha) (j:=k) (by omega) (by omega)).1
  by_cases hb:b=a+k
  ·subst hb
   rw[if_neg (by omega),if_pos ⟨hhas,rfl⟩,if_pos (by omega),show(a+k - (a+k)).toNat=0 by omega]
   rfl
  ·by_cases hb2:a+(k+1)≤b∧b < a+(k+1)+l.length
   ·rw[if_pos hb2,if_pos (by omega),show(b - (a+k)).toNat=(b - (a+(k+1))).toNat+1 by omega]
    rfl
   ·rw[if_neg hb2,if_neg (fun h=>hb h.2),if_neg (by omega)]
theorem Spc.hdr_put_self {s:Spc} {a:Int} (h:(s.hdr a).1=0) {hd:Hdr} (hv:vH hd=true) (hw:wH hd=wH (s.hdr a).2):(s.put a (eH hd)).hdr a=(0,hd):=by
 obtain⟨x,v,hx,h1,h2,h3,h4⟩:=Spc.hdr_ok h
 have e1:(s.put a (eH hd)).at_ a=some (eH hd):=by rw[Spc.put_at,if_pos ⟨Spc.at_has hx,rfl⟩]
 have e2:(s.put a (eH hd)).at_ (a+1)=some v:=by rw[Spc.put_at,if_neg (by rintro⟨_,h⟩;omega)];exact h2
 unfold Spc.hdr
 rw[e1]
 dsimp only
 rw[dH_eH hv,e2]
 dsimp only
 rw[if_neg]
 rw[Spc.put_has,hw,h4]
 simp[h3]
theorem Lay.head (h:Lay xs m) {a:Int} (ha:a∈xs) {hd:Hdr} (hv:vH hd=true) (hw:wH hd=wH (m.hdr a).2):Lay xs (m.put a (eH hd))∧(m.put a (eH hd)).hdr a=(0,hd)∧∀ y∈xs,y≠a→(m.put a (eH hd)).hdr y=m.hdr y:=by
 have hhd:∀ y∈xs,y≠a→(m.put a (eH hd)).hdr y=m.hdr y:=fun y hy hn=>by
  have h4:=h.wge hy
  refine Mm.hdr_put _ (fun e=>hn e.symm) (fun e=>?_) _
  have:=h.gap y hy a ha (by omega)
  omega
 have hself:(m.put a (eH hd)).hdr a=(0,hd):=by
  have h1:=h.hd a ha
  have hsp:(m.put a (eH hd)).sp a=(m.sp a).put a (eH hd):=by
   have h0:=m.put_hasO a (eH hd) a
   unfold Mm.sp
   rw[h0]
   rcases m.put_cases a (eH hd) with ⟨g,e⟩ | ⟨g,e⟩ <;> rw[e] <;> dsimp only
   ·rw[if_pos g,if_pos g]
   ·rw[if_neg (by rw[g];simp),if_neg (by rw[g];simp)]
  show((m.put a (eH hd)).sp a).hdr a=_
  rw[hsp]
  exact Spc.hdr_put_self h1 hv hw
 refine⟨h.of_same (h.ok.put _ (eH_u64 hv)) ?_ (by rw[Mm.put_old,Spc.put_base]) (by rw[Mm.put_old,Spc.put_len]) (fun y hy=>?_),hself,hhd⟩
 ·rw[Mm.put_old]
  by_cases hlt:a < 16777216
  ·obtain⟨t,e,ht,hs0,hold,hh,hsz⟩:=h.ok.objs ((h.obj a).2 ⟨ha,hlt⟩)
   obtain⟨_,hle,he0,hpw,hmem⟩:=m.old.walkFrom_mem m.old.ws.length 0 (by omega)
   rw[Spc.walk_eq] at ht
   have htl:=h.til
   rw[Spc.walk_eq] at htl
   have hws:(m.old.put a (eH hd)).ws=m.old.ws.set t (eH hd):=by
    unfold Spc.put
    rw[if_pos hold,show(a - m.old.base).toNat=t by rw[h.ok.ob];omega]
   have hpair:∀ u∈(m.old.walkFrom 0).1,u=t ∨ u+m.old.size u≤t ∨ t+m.old.size t≤u:=by
    intro u hu
    obtain⟨p,hp,rfl⟩:=List.mem_iff_getElem.1 hu
    obtain⟨q,hq,rfl⟩:=List.mem_iff_getElem.1 ht
    rcases Nat.lt_trichotomy p q with h | h | h
    ·exact .inr (.inl (List.pairwise_iff_getElem.1 hpw p q hp hq h))
    ·subst h;exact .inl rfl
    ·exact .inr (.inr (List.pairwise_iff_getElem.1 hpw q p hq hp h))
   have hlen:(m.old.put a (eH hd)).ws.length=m.old.ws.length:=Spc.put_len _ _ _
   have happ:=Spc.walkFrom_app m.old (m.old.put a (eH hd)) m.old.ws.length 0 (by omega) fun u hu=>by
    have h3:=(m.old.size_le u).resolve_left (hmem u hu).2.1
    have h4:=(m.old.size_le t).resolve_left hs0
    rcases hpair u hu with rfl | hc | hc
    ·obtain⟨x,v,hd0,a1,a2,a3,a4,a5,a6⟩:=Spc.size_some hs0
     have:=Spc.size_mk (s:=m.old.put a (eH hd)) (i:=u) (x:=eH hd) (v:=v) (hd:=hd) (by rw[hws,List.getElem?_set_self (by omega)]) (by rw[hws,List.getElem?_set_ne (by omega)];exact a2) (dH_eH hv) a4 (by rw[hlen];omega)
     rw[this]
     omega
    ·exact Spc.size_congr (by rw[hws,List.getElem?_set_ne (by omega)]) (by rw[hws,List.getElem?_set_ne (by omega)]) hlen
    ·exact Spc.size_congr (by rw[hws,List.getElem?_set_ne (by omega)]) (by rw[hws,List.getElem?_set_ne (by omega)]) hlen
   have hend:(m.old.put a (eH hd)).size (m.old.walkFrom 0).2=0:=by
    have:=(m.old.put a (eH hd)).size_le (m.old.walkFrom 0).2
    omega
   rw[Spc.walk_eq,Spc.walk_eq,happ,Spc.walkFrom_zero _ hend]
   simp
  ·have hno:m.old.has a=false:=by
    cases hc:m.old.has a with
    | false=>rfl
    | true=>have:=h.ok.old_lt hc;omega
   rw[Spc.put_off hno]
 ·by_cases hy2:y=a
  ·subst hy2
   rw[hself]
   exact⟨rfl,hw⟩
  ·rw[hhd y hy hy2]
   exact⟨h.hd y hy,rfl⟩
theorem wH_kind {k:Int} {h:Hdr} (hv:vH h=true) (hk:k=3 ∨ k=4):vH ⟨k,h.c,h.f⟩=true∧wH ⟨k,h.c,h.f⟩=wH h:=by
 have hb:=vH_bound hv
 have h1:vH ⟨k,h.c,h.f⟩=true:=(vH_iff _).2 ⟨hb.2.2.1,hb.2.2.2.1,hb.2.2.2.2.1,hb.2.2.2.2.2,by rcases hk with e | e;exact .inr (.inr (.inl e));exact .inr (.inr (.inr e))⟩
 refine⟨h1,?_⟩
 unfold wH
 rw[if_pos h1,if_pos hv]
/-- an object becomes a Stub or a Forward -/
theorem Lay.write (h:Lay xs m) {a k:Int} (ha:a∈xs) (hk:k=3 ∨ k=4) {pl:List Int} (hu:∀ x∈pl,U64 x):Lay xs (m.write a k pl)∧(m.write a k pl).hdr a=(0,⟨k,(m.hdr a).2.c,(m.hdr a).2.f⟩)∧(∀ y∈xs,y≠a→(m.write a k pl).hdr y=m.hdr y)∧(m.write a k pl).at_ (a+2)=some (pl.getD 0 0)∧∀ b,¬ (a≤b∧b < a+wH (m.hdr a).2)→(m.write a k pl).at_ b=m.at_ b:=by
 obtain⟨hv,hw⟩:=wH_kind (Mm.hdr_valid (h.hd a ha)) hk
 obtain⟨h1,h2,h3⟩:=h.head ha hv hw
 have h4:=h.wge ha
 have hl:((padW (wH (m.hdr a).2 - 2).toNat pl).length:Int)=wH (m.hdr a).2 - 2:=by rw[padW_length];omega
 obtain⟨g1,g2,g3⟩:=Lay.puts (padW (wH (m.hdr a).2 - 2).toNat pl) 2 h1 ha (by omega) (by rw[h2];dsimp only;rw[hw];omega) (padW_u hu)
 refine⟨g1,by rw[← h2];exact g2 a ha,fun y hy hn=>by rw[← h3 y hy hn];exact g2 y hy,?_,fun b hb=>?_⟩
 ·have e:=g3 (a+2)
  rw[if_pos (by omega),show(a+2 - (a+2)).toNat=0 by omega] at e
  refine e.trans ?_
  unfold padW
  rw[List.getElem?_map,List.getElem?_range (by omega)]
  rfl
 ·have e:=g3 b
  rw[if_neg (by omega)] at e
  refine e.trans ?_
  rw[Mm.put_at,if_neg (by rintro⟨_,rfl⟩;omega)]
theorem Spc.grown_hdr (s:Spc) (l:List Int) {z:Int} (h:(s.hdr z).1=0):({ s with ws:=s.ws++l }:Spc).hdr z=s.hdr z:=by
 obtain⟨x,v,hx,h1,h2,h3,h4⟩:=Spc.hdr_ok h
 have e1:=s.grown_at l z
 rw[if_pos (Spc.at_has hx),hx] at e1
 have e2:=s.grown_at l (z+1)
 rw[if_pos (Spc.at_has h2),h2] at e2
 have e:({ s with ws:=s.ws++l }:Spc).hdr z=(0,(s.hdr z).2):=by
  generalize (s.hdr z).2=hd at h1 h4 ⊢
  have h5:({ s with ws:=s.ws++l }:Spc).has (z+wH hd - 1)=true:=by
   have:=Spc.has_iff.1 h4
   refine Spc.has_iff.2 ⟨this.1,?_⟩
   show _ < s.base+((s.ws++l).length:Int)
   rw[List.length_append]
   push_cast
   omega
  unfold Spc.hdr
  rw[e1]
  dsimp only
  rw[h1,e2]
  dsimp only
  rw[if_neg (by rw[h5];simp[h3])]
 rw[e]
 exact Prod.ext h.symm rfl
theorem Spc.grown_new (s:Spc) {hd:Hdr} {i:Id} (hv:vH hd=true) (hi:vI i=true):({ s with ws:=s.ws++([eH hd,eI i]++List.replicate (wH hd - 2).toNat 0) }:Spc).hdr s.top=(0,hd)∧∀ k:Int,2≤k→k < wH hd→({ s with ws:=s.ws++([eH hd,eI i]++List.replicate (wH hd - 2).toNat 0) }:Spc).at_ (s.top+k)=some 0:=by
 have hw:=wH_ge hv
 have hg:∀ k:Nat,({ s with ws:=s.ws++([eH hd,eI i]++List.replicate (wH hd - 2).toNat 0) }:Spc).at_ (s.top+(k:Int))=([eH hd,eI i]++List.replicate (wH hd - 2).toNat 0)[k]?:=fun k=>by
  rw[s.grown_at]
  have hno:¬ s.has (s.top+(k:Int))=true:=fun e=>by have:=Spc.has_iff.1 e;unfold Spc.top at this;omega
  rw[if_neg hno,if_pos (by unfold Spc.top;omega)]
  congr 1
  unfold Spc.top
  omega
 have g0:=hg 0
 have g1:=hg 1
 rw[show s.top+((0:Nat):Int)=s.top by omega] at g0
 rw[show s.top+((1:Nat):Int)=s.top+1 by omega] at g1
 constructor
 ·have h5:({ s with ws:=s.ws++([eH hd,eI i]++List.replicate (wH hd - 2).toNat 0) }:Spc).has (s.top+wH hd - 1)=true:=by
   refine Spc.has_iff.2 ⟨?_,?_⟩
   ·show s.base≤_
    unfold Spc.top
    omega
   ·show _ < s.base+((s.ws++([eH hd,eI i]++List.replicate (wH hd - 2).toNat 0)).length:Int)
    unfold Spc.top
    simp only[List.length_append,List.length_cons,List.length_nil,List.length_replicate]
    push_cast
    omega
  unfold Spc.hdr
  have c0:([eH hd,eI i]++List.replicate (wH hd - 2).toNat 0)[0]?=some (eH hd):=rfl
  have c1:([eH hd,eI i]++List.replicate (wH hd - 2).toNat 0)[1]?=some (eI i):=rfl
  rw[g0,c0]
  dsimp only
  rw[dH_eH hv,g1,c1]
  dsimp only
  rw[if_neg]
  rw[h5,dI_eI hi]
  rintro(e | e)
  ·rw[e] at hi
   exact absurd hi (by decide)
  ·cases e
 ·intro k h2 hk
  have g:=hg k.toNat
  rw[Int.toNat_of_nonneg (by omega)] at g
  rw[g,List.getElem?_append_right (by simp;omega),List.getElem?_replicate]
  simp only[List.length_cons,List.length_nil]
  rw[if_pos (by omega)]
theorem Lay.end_ (h:Lay xs m) {x:Int} (hx:x∈xs):(m.old.has x=true∧x+wH (m.hdr x).2≤m.old.top) ∨ (m.yng.has x=true∧m.old.has x=false∧x+wH (m.hdr x).2≤m.yng.top):=by
 have h0:=h.hd x hx
 have h4:=h.wge hx
 have h1:=Mm.has_of_hdr h0 (j:=0) (by omega) (by omega)
 have h2:=Mm.has_of_hdr h0 (j:=wH (m.hdr x).2 - 1) (by omega) (by omega)
 rw[Int.add_zero] at h1
 unfold Mm.sp at h1 h2
 cases ho:m.old.has x with
 | true =>
  rw[if_pos ho] at h2
  have:=Spc.has_iff.1 h2
  exact .inl ⟨rfl,by unfold Spc.top;omega⟩
 | false =>
  rw[if_neg (by rw[ho];simp)] at h1 h2
  have:=Spc.has_iff.1 h2
  exact .inr ⟨h1,rfl,by unfold Spc.top;omega⟩
theorem Lay.alloc (h:Lay xs m) {y:Bool} {hd:Hdr} {i:Id} (he:(m.alloc y hd i).1=0):Lay (xs++[(m.alloc y hd i).2.2]) (m.alloc y hd i).2.1∧(∀ z∈xs,(m.alloc y hd i).2.1.hdr z=m.hdr z)∧(∀ b v,m.at_ b=some v→(m.alloc y hd i).2.1.at_ b=some v)∧(m.alloc y hd i).2.1.hdr (m.alloc y hd i).2.2=(0,hd)∧vH hd=true∧∀ k:Int,2≤k→k < wH hd→(m.alloc y hd i).2.1.at_ ((m.alloc y hd i).2.2+k)=some 0:=by
 have hok:=h.ok.alloc y hd i
 have hyb:=h.ok.yb
 have hob:=h.ok.ob
 have hol:=h.ok.ol
 have holim:=h.ok.o.lim
 cases y with
 | true =>
  unfold Mm.alloc at he
  rw[if_pos rfl] at he
  rcases m.yng.alloc_cases hd i with h1 | ⟨hv,hi,hl,h1⟩
  ·exact absurd he h1.1
  ·have hm:m.alloc true hd i=(0,{ m with yng:={ m.yng with ws:=m.yng.ws++([eH hd,eI i]++List.replicate (wH hd - 2).toNat 0) } },m.yng.top):=by
    unfold Mm.alloc;rw[if_pos rfl,h1]
   rw[hm] at hok ⊢
   dsimp only at hok ⊢
   have hw:=wH_ge hv
   have hge:16777216≤m.yng.top:=by unfold Spc.top;omega
   have hhd:∀ z∈xs,Mm.hdr { m with yng:={ m.yng with ws:=m.yng.ws++([eH hd,eI i]++List.replicate (wH hd - 2).toNat 0) } } z=m.hdr z:=fun z hz=>by
    have h0:=h.hd z hz
    unfold Mm.hdr Mm.sp at h0 ⊢
    dsimp only
    split
    ·rfl
    ·rename_i hn
     rw[if_neg hn] at h0
     exact Spc.grown_hdr _ _ h0
   have hsp:∀ b,16777216≤b→Mm.sp { m with yng:={ m.yng with ws:=m.yng.ws++([eH hd,eI i]++List.replicate (wH hd - 2).toNat 0) } } b={ m.yng with ws:=m.yng.ws++([eH hd,eI i]++List.replicate (wH hd - 2).toNat 0) }:=fun b hb=>by
    unfold Mm.sp
    dsimp only
    rw[if_neg]
    intro e
    have:=h.ok.old_lt e
    omega
   obtain⟨n1,n2⟩:=m.yng.grown_new hv hi
   have hnew:Mm.hdr { m with yng:={ m.yng with ws:=m.yng.ws++([eH hd,eI i]++List.replicate (wH hd - 2).toNat 0) } } m.yng.top=(0,hd):=by
    unfold Mm.hdr
    rw[hsp _ hge]
    exact n1
   refine⟨⟨hok,h.til,fun x=>?_,fun x hx=>?_,fun x hx z hz hxz=>?_⟩,hhd,fun b v hb=>?_,hnew,hv,fun k h2 hk=>?_⟩
   ·show x∈m.old.objs↔_
    rw[h.obj x]
    simp only[List.mem_append,List.mem_singleton]
    constructor
    ·rintro⟨a1,a2⟩;exact⟨.inl a1,a2⟩
    ·rintro⟨a1 | a1,a2⟩
     ·exact⟨a1,a2⟩
     ·omega
   ·rcases List.mem_append.1 hx with hx | hx
    ·rw[hhd x hx];exact h.hd x hx
    ·rw[List.mem_singleton.1 hx,hnew]
   ·rcases List.mem_append.1 hx with hx | hx
    ·rw[hhd x hx]
     rcases List.mem_append.1 hz with hz | hz
     ·exact h.gap x hx z hz hxz
     ·have hz:=List.mem_singleton.1 hz
      rcases h.end_ hx with ⟨a1,a2⟩ | ⟨a1,a2,a3⟩
      ·unfold Spc.top at a2;omega
      ·omega
    ·have hx:=List.mem_singleton.1 hx
     rcases List.mem_append.1 hz with hz | hz
     ·rcases h.end_ hz with ⟨a1,a2⟩ | ⟨a1,a2,a3⟩
      ·have:=h.ok.old_lt a1;omega
      ·have:=Spc.has_iff.1 a1;unfold Spc.top at hx;omega
     ·have hz:=List.mem_singleton.1 hz;omega
   ·unfold Mm.at_ Mm.sp at hb ⊢
    dsimp only
    split
    ·rename_i ho
     rw[if_pos ho] at hb
     exact hb
    ·rename_i ho
     rw[if_neg ho] at hb
     rw[Spc.grown_at,if_pos (Spc.at_has hb)]
     exact hb
   ·unfold Mm.at_
    rw[hsp _ (by omega)]
    exact n2 k h2 hk
 | false =>
  unfold Mm.alloc at he
  rw[if_neg (by decide)] at he
  rcases m.old.alloc_cases hd i with h1 | ⟨hv,hi,hl,h1⟩
  ·exact absurd he h1.1
  ·have hm:m.alloc false hd i=(0,{ m with old:={ m.old with ws:=m.old.ws++([eH hd,eI i]++List.replicate (wH hd - 2).toNat 0) } },m.old.top):=by
    unfold Mm.alloc;rw[if_neg (by decide),h1]
   rw[hm] at hok ⊢
   dsimp only at hok ⊢
   have hw:=wH_ge hv
   have htop:m.old.top=(m.old.ws.length:Int):=by unfold Spc.top;omega
   have hso:∀ b,m.old.has b=true→Mm.sp { m with old:={ m.old with ws:=m.old.ws++([eH hd,eI i]++List.replicate (wH hd - 2).toNat 0) } } b={ m.old with ws:=m.old.ws++([eH hd,eI i]++List.replicate (wH hd - 2).toNat 0) }:=fun b hb=>by
    have:=Spc.has_iff.1 hb
    unfold Mm.sp
    dsimp only
    rw[if_pos]
    refine Spc.has_iff.2 ⟨this.1,?_⟩
    show _ < m.old.base+((m.old.ws++([eH hd,eI i]++List.replicate (wH hd - 2).toNat 0)).length:Int)
    rw[List.length_append]
    push_cast
    omega
   have hsn:∀ k:Int,0≤k→k < wH hd→Mm.sp { m with old:={ m.old with ws:=m.old.ws++([eH hd,eI i]++List.replicate (wH hd - 2).toNat 0) } } (m.old.top+k)={ m.old with ws:=m.old.ws++([eH hd,eI i]++List.replicate (wH hd - 2).toNat 0) }:=fun k h0 hk=>by
    unfold Mm.sp
    dsimp only
    rw[if_pos]
    refine Spc.has_iff.2 ⟨?_,?_⟩
    ·show m.old.base≤_
     omega
    ·show _ < m.old.base+((m.old.ws++([eH hd,eI i]++List.replicate (wH hd - 2).toNat 0)).length:Int)
     simp only[List.length_append,List.length_cons,List.length_nil,List.length_replicate]
     push_cast
     omega
   have hsy:∀ b,m.yng.has b=true→Mm.sp { m with old:={ m.old with ws:=m.old.ws++([eH hd,eI i]++List.replicate (wH hd - 2).toNat 0) } } b=m.yng:=fun b hb=>by
    have h5:=h.ok.yng_ge hb
    unfold Mm.sp
    dsimp only
    rw[if_neg]
    intro e
    have:=hok.old_lt e
    omega
   have hhd:∀ z∈xs,Mm.hdr { m with old:={ m.old with ws:=m.old.ws++([eH hd,eI i]++List.replicate (wH hd - 2).toNat 0) } } z=m.hdr z:=fun z hz=>by
    have h0:=h.hd z hz
    rcases h.end_ hz with ⟨a1,a2⟩ | ⟨a1,a2,a3⟩
    ·unfold Mm.hdr at h0 ⊢
     rw[hso z a1]
     unfold Mm.sp at h0 ⊢
     rw[if_pos a1] at h0 ⊢
     exact Spc.grown_hdr _ _ h0
    ·unfold Mm.hdr
     rw[hsy z a1]
     unfold Mm.sp
     rw[if_neg (by rw[a2];simp)]
   obtain⟨n1,n2⟩:=m.old.grown_new hv hi
   have hnew:Mm.hdr { m with old:={ m.old with ws:=m.old.ws++([eH hd,eI i]++List.replicate (wH hd - 2).toNat 0) } } m.old.top=(0,hd):=by
    have e:=hsn 0 (by omega) (by omega)
    rw[Int.add_zero] at e
    unfold Mm.hdr
    rw[e]
    exact n1
   have hwg:=Spc.walk_grown h.til hv hi
   refine⟨⟨hok,?_,fun x=>?_,fun x hx=>?_,fun x hx z hz hxz=>?_⟩,hhd,fun b v hb=>?_,hnew,hv,fun k h2 hk=>?_⟩
   ·show Prod.snd (Spc.walk { m.old with ws:=m.old.ws++([eH hd,eI i]++List.replicate (wH hd - 2).toNat 0) })=(m.old.ws++([eH hd,eI i]++List.replicate (wH hd - 2).toNat 0)).length
    rw[hwg]
    simp only[List.length_append,List.length_cons,List.length_nil,List.length_replicate]
    omega
   ·show x∈Spc.objs { m.old with ws:=m.old.ws++([eH hd,eI i]++List.replicate (wH hd - 2).toNat 0) }↔_
    have hx:=h.obj x
    unfold Spc.objs at hx ⊢
    rw[hwg,List.map_append,List.mem_append]
    dsimp only
    rw[hx]
    simp only[List.mem_append,List.mem_singleton,List.map_cons,List.map_nil]
    constructor
    ·rintro(⟨a1,a2⟩ | a1)
     ·exact⟨.inl a1,a2⟩
     ·exact⟨.inr (by unfold Spc.top;omega),by omega⟩
    ·rintro⟨a1 | a1,a2⟩
     ·exact .inl ⟨a1,a2⟩
     ·exact .inr (by unfold Spc.top at a1;omega)
   ·rcases List.mem_append.1 hx with hx | hx
    ·rw[hhd x hx];exact h.hd x hx
    ·rw[List.mem_singleton.1 hx,hnew]
   ·rcases List.mem_append.1 hx with hx | hx
    ·rw[hhd x hx]
     rcases List.mem_append.1 hz with hz | hz
     ·exact h.gap x hx z hz hxz
     ·have hz:=List.mem_singleton.1 hz
      rcases h.end_ hx with ⟨a1,a2⟩ | ⟨a1,a2,a3⟩
      ·omega
      ·have:=h.ok.yng_ge a1;omega
    ·have hx:=List.mem_singleton.1 hx
     rw[hx,hnew]
     dsimp only
     rcases List.mem_append.1 hz with hz | hz
     ·rcases h.end_ hz with ⟨a1,a2⟩ | ⟨a1,a2,a3⟩
      ·have:=Spc.has_iff.1 a1;omega
      ·have:=h.ok.yng_ge a1;omega
     ·have hz:=List.mem_singleton.1 hz;omega
   ·have hb':m.has b=true:=by
     unfold Mm.has
     exact Spc.at_has hb
    unfold Mm.at_ at hb ⊢
    unfold Mm.has at hb'
    cases ho:m.old.has b with
    | true =>
     have e:m.sp b=m.old:=by unfold Mm.sp;rw[if_pos ho]
     rw[e] at hb
     rw[hso b ho,Spc.grown_at,if_pos ho]
     exact hb
    | false =>
     have e:m.sp b=m.yng:=by unfold Mm.sp;rw[if_neg (by rw[ho];simp)]
     rw[e] at hb hb'
     rw[hsy b hb']
     exact hb
   ·unfold Mm.at_
    rw[hsn k (by omega) hk]
    exact n2 k h2 hk
end
theorem wrapU10w (i:Int):U64 (IntKind.u64.wrap i):=by
 have e:IntKind.u64.wrap i=i % 18446744073709551616:=by
  simp only[IntKind.wrap,IntKind.signed,IntKind.bits]
  simp
 rw[e]
 unfold U64
 omega
structure Wf10 (s:W10):Prop where
 lay:Lay s.xs s.m
 wrd:∀ x∈s.xs,∀ i:Nat,(i:Int) < slotN (s.m.hdr x).2→∀ b,adr ((s.m.at_ (x+2+(i:Int))).getD 0)=some b→b∈s.xs
structure Pl10 (o:OpV):Prop where
 k:o.k≠4
 w:o.r=false→adr o.w=none
 u:U64 o.w
theorem Wf10.nil (limit:Int):Wf10 ⟨Mm.new limit,[],[],[]⟩ :=
 ⟨⟨Mm.new_ok limit,rfl,fun x=>⟨fun h=>(by cases h),fun h=>(by cases h.1)⟩,fun x h=>(by cases h),fun x h=>(by cases h)⟩,fun x h=>(by cases h)⟩
theorem Wf10.alloc {s:W10} (h:Wf10 s) (y:Bool) (hd:Hdr):Wf10 (s.alloc y hd):=by
 unfold W10.alloc
 split
 ·rename_i he
  obtain⟨h1,h2,h3,h4,hv,h5⟩:=h.lay.alloc he
  refine⟨h1,fun x hx i hi b hb=>?_⟩
  dsimp only at hx hi hb ⊢
  rcases List.mem_append.1 hx with hx | hx
  ·rw[h2 x hx] at hi
   have hs:=slotN_le (Mm.hdr_valid (h.lay.hd x hx))
   have hh:=(h.lay.ok.has_near (h.lay.hd x hx) (j:=2+(i:Int)) (by omega) (by omega)).1
   obtain⟨_,_,_,v,_,hv2⟩:=Spc.at_some hh
   have hv3:s.m.at_ (x+2+(i:Int))=some v:=by
    rw[show x+2+(i:Int)=x+(2+(i:Int)) by omega]
    exact hv2
   rw[h3 _ _ hv3] at hb
   exact List.mem_append.2 (.inl (h.wrd x hx i hi b (by rw[hv3];exact hb)))
  ·rw[List.mem_singleton.1 hx,h4] at hi
   rw[List.mem_singleton.1 hx] at hb
   have hs:=slotN_le hv
   have e:=h5 (2+(i:Int)) (by omega) (by dsimp only at hi;omega)
   rw[show(s.m.alloc y hd ⟨1,1+s.xs.length⟩).2.2+(2+(i:Int))=(s.m.alloc y hd ⟨1,1+s.xs.length⟩).2.2+2+(i:Int) by omega] at e
   have e0:adr ((some (0:Int)).getD 0)=none:=by decide
   rw[e,e0] at hb
   cases hb
 ·exact h
theorem Wf10.slot {s:W10} (h:Wf10 s) {a i x:Int} (ha:a=-1 ∨ a∈s.xs) (he:s.m.fldE a i=0) (hx:U64 x) (hb:s.xs≠[]→∀ b,adr x=some b→b∈s.xs) {cs:List Int}:Wf10 ⟨s.m.put (a+2+i) x,cs,s.xs,s.hs⟩:=by
 obtain⟨h0,_,h1,h2⟩:=Mm.fldE_ok he
 have ha':a∈s.xs:=by
  rcases ha with rfl | ha
  ·have:=hdr_rg h.lay.ok h0;omega
  ·exact ha
 have hw:=wH_ge (Mm.hdr_valid h0)
 obtain⟨g1,g2⟩:=h.lay.slot ha' (k:=2+i) (by omega) (by omega) hx
 rw[show a+(2+i)=a+2+i by omega] at g1 g2
 refine⟨g1,fun y hy j hj b hbb=>?_⟩
 dsimp only at hy hj hbb ⊢
 rw[g2 y hy] at hj
 rw[Mm.put_at] at hbb
 split at hbb
 ·exact hb (List.ne_nil_of_mem ha') b hbb
 ·exact h.wrd y hy j hj b hbb
theorem Wf10.same {s:W10} (h:Wf10 s) (cs:List Int):Wf10 ⟨s.m,cs,s.xs,s.hs⟩:=⟨h.lay,h.wrd⟩
theorem Wf10.write {s:W10} (h:Wf10 s) {a k:Int} (ha:a∈s.xs) (hk:k=3 ∨ k=4) {pl:List Int} (hu:∀ x∈pl,U64 x) (hb:k=4→∀ b,adr (pl.getD 0 0)=some b→b∈s.xs):Wf10 ⟨s.m.write a k pl,s.cs,s.xs,s.hs⟩:=by
 obtain⟨g1,g2,g3,g4,g5⟩:=h.lay.write ha hk hu
 refine⟨g1,fun y hy j hj b hbb=>?_⟩
 dsimp only at hy hj hbb ⊢
 by_cases hya:y=a
 ·subst hya
  rw[g2] at hj
  rcases hk with rfl | rfl
  ·unfold slotN at hj
   dsimp only at hj
   rw[if_pos rfl] at hj
   omega
  ·unfold slotN at hj
   dsimp only at hj
   rw[if_neg (by decide),if_pos rfl] at hj
   obtain rfl:j=0:=by omega
   rw[show y+2+((0:Nat):Int)=y+2 by omega,g4] at hbb
   exact hb rfl b hbb
 ·rw[g3 y hy hya] at hj
  have hs:=slotN_le (Mm.hdr_valid (h.lay.hd y hy))
  rw[g5 (y+2+(j:Int)) (fun e=>by
   rcases Int.lt_trichotomy y a with hl | hl | hl
   ·have:=h.lay.gap y hy a ha hl;omega
   ·exact hya hl
   ·have:=h.lay.gap a ha y hy hl;omega)] at hbb
  exact h.wrd y hy j hj b hbb
theorem Wf10.word {s:W10} (h:Wf10 s) {o:OpV} (hp:Pl10 o) (hn:s.xs≠[]):∀ b,adr (wd10 s.xs o)=some b→b∈s.xs:=by
 intro b hb
 unfold wd10 at hb
 split at hb
 ·have hm:=objAt_mem hn o.b
  have hr:=hdr_rg h.lay.ok (h.lay.hd _ hm)
  rw[show max 0 (objAt s.xs o.b)=objAt s.xs o.b by omega,adr_frW hr.1 hr.2] at hb
  cases hb
  exact hm
 ·rename_i hr
  rw[hp.w (by simpa using hr)] at hb
  cases hb
theorem Wf10.step {s:W10} (h:Wf10 s) {o:OpV} (hp:Pl10 o):Wf10 (s.step o):=by
 have hu:=wd10_u hp.u s.xs
 unfold W10.step
 split
 ·exact h.alloc _ _
 ·split
  ·exact h.alloc _ _
  ·split
   ·by_cases he:s.m.fldE (objAt s.xs o.a) o.i=0
    ·have e:=(bst_ok h.lay.ok s.cs (x:=wd10 s.xs o) he).2.1
     rw[e]
     exact h.slot (objAt_or _ _) he hu (h.word hp)
    ·have e:(bst s.m s.cs (objAt s.xs o.a) o.i (wd10 s.xs o)).2.1=s.m:=by
      unfold bst
      rw[if_pos he]
     rw[e]
     exact h.same _
   ·split
    ·by_cases he:s.m.fldE (objAt s.xs o.a) o.i=0
     ·have e:(s.m.setF (objAt s.xs o.a) o.i (wd10 s.xs o)).2=s.m.put (objAt s.xs o.a+2+o.i) (wd10 s.xs o):=by
       unfold Mm.setF
       rw[if_neg (by simp[he])]
       rfl
      rw[e]
      exact h.slot (objAt_or _ _) he hu (h.word hp)
     ·have e:(s.m.setF (objAt s.xs o.a) o.i (wd10 s.xs o)).2=s.m:=by
       unfold Mm.setF
       rw[if_pos he]
      rw[e]
      exact h.same _
    ·split
     ·rename_i h4
      exact absurd h4 hp.k
     ·split
      ·exact h.same _
      ·split
       ·unfold Mm.toFwd
        split
        ·exact h.same _
        ·rename_i h0
         split
         ·exact h.same _
         ·split
          ·exact h.same _
          ·rename_i hr
           have hr:=not_or.1 hr
           have h0:(s.m.hdr (objAt s.xs o.a)).1=0:=by omega
           have ha:objAt s.xs o.a∈s.xs:=by
            rcases objAt_or s.xs o.a with e | e
            ·rw[e] at h0
             have:=hdr_rg h.lay.ok h0;omega
            ·exact e
           have hb:=objAt_mem (List.ne_nil_of_mem ha) o.b
           have hbr:=hdr_rg h.lay.ok (h.lay.hd _ hb)
           refine h.write ha (.inr rfl) (fun x hx=>?_) fun _ b hbb=>?_
           ·rw[List.mem_singleton.1 hx]
            unfold adW U64
            omega
           ·rw[show([adW (objAt s.xs o.b)]:List Int).getD 0 0=adW (objAt s.xs o.b) from rfl,adr_adW hbr.1 hbr.2] at hbb
            cases hbb
            exact hb
       ·split
        ·unfold Mm.toStub
         split
         ·exact h.same _
         ·rename_i h0
          split
          ·exact h.same _
          ·split
           ·exact h.same _
           ·have h0:(s.m.hdr (objAt s.xs o.a)).1=0:=by omega
            have ha:objAt s.xs o.a∈s.xs:=by
             rcases objAt_or s.xs o.a with e | e
             ·rw[e] at h0
              have:=hdr_rg h.lay.ok h0;omega
             ·exact e
            refine h.write ha (.inl rfl) (fun x hx=>?_) fun e=>by cases e
            simp only[List.mem_cons,List.not_mem_nil,or_false] at hx
            rcases hx with rfl | rfl
            ·unfold U64;omega
            ·exact wrapU10w _
        ·exact h
theorem Wf10.play:∀ (l:List OpV) {s:W10},Wf10 s→(∀ o∈l,Pl10 o)→Wf10 (l.foldl W10.step s)
 | [],s,h,_=>h
 | o::l,s,h,hl=>Wf10.play l (h.step (hl o (by simp))) fun q hq=>hl q (by simp[hq])
end
end Go.Proofs.YtaijmgkjbbiboaaGreat
