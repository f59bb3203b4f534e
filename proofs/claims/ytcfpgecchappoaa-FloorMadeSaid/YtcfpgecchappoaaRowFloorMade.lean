/- For every input the law FloorMade answers true, and nothing of its arguments has changed; no condition. -/
import Derived.Test.YtcfpgecchappoaaRows
import Derived.Test.YtcfpgecchappoaaFloorP
import Derived.Test.YtcfpgecchappoaaFloorRO
namespace Go.Proofs.Ytcfpgecchappoaa.floorMade
open Go.ChangeShapes Go.WideShapes Go.ChangeAt Go.RowKit Go.Joins
theorem own : ownKnob Try.prog.godebug = none := by kernel_rfl
theorem laidOut : laidOutB Try.prog = true := by kernel_rfl
theorem params : ∀ t ∈ Try.f6.params.toList, Try.prog.readableRec t = true ∧ t < Try.prog.types.size := by
  intro t ht
  rw [Try.params6] at ht
  simp only [List.mem_cons, List.not_mem_nil, or_false] at ht
  rcases ht with rfl | rfl <;> exact ⟨by kernel_rfl, of_decide_eq_true (by kernel_rfl)⟩
set_option maxRecDepth 100000 in
theorem lifted (os : Os) (started : os.Started) (H : Type) (enc : TypeId × Value → H) :
    ReturnsInHanded {} Try.checked os 6 .any (Rows.floorMadeSpec.pre6 enc Try.prog Try.f6 Rows.floorMadeRow.domain false) (Rows.floorMadeSpec.post enc Try.prog Try.f6 false true false false) := by
  refine returnsInHanded_of_change_sized (C := Try.checked) own started (by kernel_rfl) Try.func6
    (ChangeSpec.witness6 (enc := enc) (C := Try.checked) false ⟨#[], #[.agg #[.int .i64 0, .int .i64 0, .int .i64 0, .int .i64 0, .int .i64 0, .int .i64 0], .slice none 0 0], []⟩ 8 (by kernel_rfl) (by kernel_rfl) (by kernel_rfl) (by kernel_rfl)) ?_
  intro W base args ds gs before hval0 hW hcnd hsz0 _
  have hval : ∀ (j : Nat) t v, Try.f6.params[j]? = some t → args[j]? = some v → Value.okWide Try.prog W .any base t v := hval0
  have hW' := hW
  obtain ⟨p, q, hA0, hV, rfl, hfz, hnd⟩ := hW
  have hA : DataW.TrodAll enc Try.prog W 0 (fun _ => true) true Try.f6.params.toList args.toList ds p := hA0
  rw [Try.params6] at hA hval
  obtain ⟨v0, vs0, d0, ds0, p0, q0, hargs, rfl, rfl, h0, r0⟩ := trodAll_cons hA
  obtain ⟨v1, vs1, d1, ds1, p1, q1, rfl, rfl, rfl, h1, r1⟩ := trodAll_cons r0
  obtain ⟨rfl, rfl, rfl⟩ := trodAll_nil r1
  obtain rfl : args = #[v0, v1] := by cases args; simp_all
  obtain ⟨rfl, rfl⟩ := trodVars_none hV
  obtain ⟨a0_0, a0_1, a0_2, a0_3, a0_4, a0_5, y0_0, y0_1, y0_2, y0_3, y0_4, y0_5, m0, rfl, -, -, t0_0, t0_1, t0_2, t0_3, t0_4, t0_5⟩ := open_agg6 Try.underlying29 (by kernel_rfl) (by kernel_rfl) (hval 0 _ _ rfl rfl) h0
  obtain ⟨a0_0, rfl, wa0_0⟩ := lit_int_of Try.underlying3 t0_0
  obtain ⟨a0_1, rfl, wa0_1⟩ := lit_int_of Try.underlying3 t0_1
  obtain ⟨a0_2, rfl, wa0_2⟩ := lit_int_of Try.underlying3 t0_2
  obtain ⟨a0_3, rfl, wa0_3⟩ := lit_int_of Try.underlying3 t0_3
  obtain ⟨a0_4, rfl, wa0_4⟩ := lit_int_of Try.underlying3 t0_4
  obtain ⟨a0_5, rfl, wa0_5⟩ := lit_int_of Try.underlying3 t0_5
  obtain ⟨A1, n1, c1, l1, rfl, R1⟩ := open_ints_reads Try.underlying31 Try.underlying2 (by kernel_rfl) (hval 1 _ _ rfl rfl) h1
  refine (law_floorMade A1 n1 c1 l1 a0_0 a0_1 a0_2 a0_3 a0_4 a0_5 W R1.2.1 R1.1).mono fun e W' ⟨he, bel⟩ => ?_
  exact ⟨_, he, post_law laidOut params rfl Try.underlying4 rfl hW' bel.below rfl rfl rfl⟩
theorem proved : Rows.FloorMadeSaid :=
  OpenClaim.holds_of_wide 6 Try.f6 rfl rfl rfl rfl rfl rfl rfl ⟨rfl, rfl, rfl, rfl, rfl⟩ rfl rfl rfl rfl rfl (by kernel_rfl) Try.func6 (by kernel_rfl)
    (of_decide_eq_true (by kernel_rfl)) (by unfold Func.isWrapper; first | (rw [if_pos (by decide +kernel)]; kernel_rfl) | (rw [if_neg (by decide +kernel)]; exact ⟨rfl, rfl⟩))
    (fun os started H enc _ => lifted os started H enc)
#print axioms proved
end Go.Proofs.Ytcfpgecchappoaa.floorMade
