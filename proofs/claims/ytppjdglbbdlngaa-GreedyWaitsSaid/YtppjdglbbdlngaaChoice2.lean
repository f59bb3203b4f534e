/- Small facts on what is remembered of a foe. -/
import Derived.Test.YtppjdglbbdlngaaRef5
import Derived.Laws.StructEq
import Derived.RegionTactic
import Derived.BigRegion
import Derived.Deep.RegionHeld3
import Derived.Deep.DeepCutAuto
import Derived.LoopTactic
namespace Go.Proofs.Ytppjdglbbdlngaa
open Go.RowKit
theorem metF_looks {s : St} {f : Sd} (h : I64 s.looks) : I64 (metF s f).looks := by
  unfold metF; split
  · exact h
  · unfold I64; simp
theorem metF_tries {s : St} {f : Sd} (h : I64 s.tries) : I64 (metF s f).tries := by
  unfold metF; split
  · exact moreF_i64 h
  · unfold I64; simp
set_option maxHeartbeats 1000000 in
theorem side_calls (a b c d : Int) (e : Bool) (w : World) :
    Calls Try.prog 11 #[.agg #[.int .i64 a, .int .i64 b, .int .i64 c, .int .i64 d, .bool e]] w
     fun en w' => en = .returned (.agg #[.int .i64 a, .int .i64 b, .int .i64 c, .int .i64 d, .bool e]) ∧ Mod nowhere w w' := by
  go_enter Try.func11, Try.ntmps11
  go_wp2
  exact bodyPost_ret (v := .agg #[.int .i64 a, .int .i64 b, .int .i64 c, .int .i64 d, .bool e]) (by simp [results, Try.results11, go_sem]) rfl ⟨rfl, (by repeat (first | with_reducible exact Mod.refl _ _ | with_reducible assumption | with_reducible refine Mod.alloc ?_ _ | with_reducible refine Mod.drew ?_ | with_reducible refine Mod.drewN ?_ _ | with_reducible refine Mod.setCell ?_ (by first | exact .inl rfl | (left; (try unfold from_); show _ ≤ _; first | omega | (simp; done) | (simp; omega)) | (right; first | omega | (simp; done) | (simp; omega))) _ | with_reducible refine Mod.call0 ?_ (by with_reducible assumption) | with_reducible refine Mod.call ?_ (by with_reducible assumption) (by rintro _ rfl; first | exact .inl rfl | (right; (first | omega | (simp; done) | (simp; omega))))))⟩
end Go.Proofs.Ytppjdglbbdlngaa
