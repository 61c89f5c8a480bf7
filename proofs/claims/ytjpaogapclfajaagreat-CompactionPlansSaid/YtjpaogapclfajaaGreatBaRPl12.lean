/- Parts of the proof: RPl12. -/
import Derived.Test.YtjpaogapclfajaaGreatBa29
import Derived.Test.YtjpaogapclfajaaGreatBaR12a
set_option linter.unusedVariables false
set_option linter.unusedSimpArgs false
set_option linter.unusedSectionVars false
namespace Go.Proofs.YtjpaogapclfajaaGreat
open Go.RowKit Go.Sort
section
variable {w wn w' : World} {g : Nat} {V : Value} {s : Spc} {A1 : Option Addr} {e1 gm bm : Nat} {sg wl : List Int} {Am : Option Addr} {cm : Nat} {Ar : Option Addr} {cr : Nat} {Aw : Option Addr} {cw : Nat} {roots weak : List Int}
theorem Env12.rln (h : Env12 w wn g V s A1 e1 gm bm sg wl Am cm Ar cr Aw cw roots weak) : (srtI (sg ++ wl)).length ≤ 16777216 := by
 rw [srtI_len]
 have := h.mks.len
 have := h.sp.lim
 have := h.b0
 have := h.l0
 omega
theorem Env12.rplan (h : Env12 w wn g V s A1 e1 gm bm sg wl Am cm Ar cr Aw cw roots weak) : Calls Tryz.prog 37 #[.agg #[.int .i64 s.base, .int .i64 s.limit, .slice A1 s.ws.length e1], .slice Am (srtI (sg ++ wl)).length cm] wn (RPlanP wn s (srtI (sg ++ wl))) :=
 RPlan_any h.rs h.ms h.rln h.l0
end
end Go.Proofs.YtjpaogapclfajaaGreat
