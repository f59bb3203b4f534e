/- For every input the law GateWhat answers true, and nothing of its arguments has changed; no condition. -/
import Derived.Test.YtiklhnngkebkeaaRows
import Derived.Test.YtiklhnngkebkeaaGateWhat
namespace Go.Proofs.Ytiklhnngkebkeaa.gateWhat
open Go.ChangeShapes Go.WideShapes Go.ChangeAt Go.RowKit Go.Joins
theorem own : ownKnob Try.prog.godebug = none := by kernel_rfl
theorem laidOut : laidOutB Try.prog = true := by kernel_rfl
theorem params : ∀ t ∈ Try.f3.params.toList, Try.prog.readableRec t = true ∧ t < Try.prog.types.size := by
  intro t ht
  rw [Try.params3] at ht
  simp only [List.mem_cons, List.not_mem_nil, or_false] at ht
  rcases ht with rfl | rfl | rfl | rfl | rfl <;> exact ⟨by kernel_rfl, of_decide_eq_true (by kernel_rfl)⟩
set_option maxRecDepth 100000 in
theorem lifted (os : Os) (started : os.Started) (H : Type) (enc : TypeId × Value → H) :
    ReturnsInHanded {} Try.checked os 3 .any (Rows.gateWhatSpec.pre6 enc Try.prog Try.f3 Rows.gateWhatRow.domain false) (Rows.gateWhatSpec.post enc Try.prog Try.f3 false true false false) := by
  refine returnsInHanded_of_change_sized (C := Try.checked) own started (by kernel_rfl) Try.func3
    (ChangeSpec.witness6 (enc := enc) (C := Try.checked) false ⟨#[], #[.agg #[.int .i64 0, .int .i64 0, .int .i64 0, .int .i64 0, .int .i64 0], .agg #[.bool false, .int .i64 0, .int .i64 0, .int .i64 0], .int .i64 0, .int .i64 0, .bool false], []⟩ 8 (by kernel_rfl) (by kernel_rfl) (by kernel_rfl) (by kernel_rfl)) ?_
  intro W base args ds gs before hval0 hW hcnd hsz0 _
  have hval : ∀ (j : Nat) t v, Try.f3.params[j]? = some t → args[j]? = some v → Value.okWide Try.prog W .any base t v := hval0
  have hW' := hW
  obtain ⟨p, q, hA0, hV, rfl, hfz, hnd⟩ := hW
  have hA : DataW.TrodAll enc Try.prog W 0 (fun _ => true) true Try.f3.params.toList args.toList ds p := hA0
  rw [Try.params3] at hA hval
  obtain ⟨v0, vs0, d0, ds0, p0, q0, hargs, rfl, rfl, h0, r0⟩ := trodAll_cons hA
  obtain ⟨v1, vs1, d1, ds1, p1, q1, rfl, rfl, rfl, h1, r1⟩ := trodAll_cons r0
  obtain ⟨v2, vs2, d2, ds2, p2, q2, rfl, rfl, rfl, h2, r2⟩ := trodAll_cons r1
  obtain ⟨v3, vs3, d3, ds3, p3, q3, rfl, rfl, rfl, h3, r3⟩ := trodAll_cons r2
  obtain ⟨v4, vs4, d4, ds4, p4, q4, rfl, rfl, rfl, h4, r4⟩ := trodAll_cons r3
  obtain ⟨rfl, rfl, rfl⟩ := trodAll_nil r4
  obtain rfl : args = #[v0, v1, v2, v3, v4] := by cases args; simp_all
  obtain ⟨rfl, rfl⟩ := trodVars_none hV
  obtain ⟨a0_0, a0_1, a0_2, a0_3, a0_4, y0_0, y0_1, y0_2, y0_3, y0_4, m0, rfl, -, -, t0_0, t0_1, t0_2, t0_3, t0_4⟩ := open_agg5 Try.underlying23 (by kernel_rfl) (by kernel_rfl) (hval 0 _ _ rfl rfl) h0
  obtain ⟨a0_0, rfl, wa0_0⟩ := lit_int_of Try.underlying3 t0_0
  obtain ⟨a0_1, rfl, wa0_1⟩ := lit_int_of Try.underlying3 t0_1
  obtain ⟨a0_2, rfl, wa0_2⟩ := lit_int_of Try.underlying3 t0_2
  obtain ⟨a0_3, rfl, wa0_3⟩ := lit_int_of Try.underlying3 t0_3
  obtain ⟨a0_4, rfl, wa0_4⟩ := lit_int_of Try.underlying3 t0_4
  obtain ⟨a1_0, a1_1, a1_2, a1_3, y1_0, y1_1, y1_2, y1_3, m1, rfl, -, -, t1_0, t1_1, t1_2, t1_3⟩ := open_agg4 Try.underlying25 (by kernel_rfl) (by kernel_rfl) (hval 1 _ _ rfl rfl) h1
  obtain ⟨a1_0, rfl⟩ := lit_bool_of Try.underlying4 t1_0
  obtain ⟨a1_1, rfl, wa1_1⟩ := lit_int_of Try.underlying3 t1_1
  obtain ⟨a1_2, rfl, wa1_2⟩ := lit_int_of Try.underlying3 t1_2
  obtain ⟨a1_3, rfl, wa1_3⟩ := lit_int_of Try.underlying3 t1_3
  obtain ⟨x2, rfl, -, -, wx2⟩ := open_int Try.underlying3 (hval 2 _ _ rfl rfl) h2
  obtain ⟨x3, rfl, -, -, wx3⟩ := open_int Try.underlying3 (hval 3 _ _ rfl rfl) h3
  obtain ⟨x4, rfl, -, -⟩ := open_bool Try.underlying4 (hval 4 _ _ rfl rfl) h4
  refine (law_gateWhat a0_0 a0_1 a0_2 a0_3 a0_4 a1_0 a1_1 a1_2 a1_3 x2 x3 x4 W (I64.of_wf wa0_1) (I64.of_wf wa0_4)).mono fun e W' ⟨he, bel⟩ => ?_
  exact ⟨_, he, post_law laidOut params rfl Try.underlying4 rfl hW' bel.below rfl rfl rfl⟩
theorem proved : Rows.GateWhatSaid :=
  OpenClaim.holds_of_wide 3 Try.f3 rfl rfl rfl rfl rfl rfl rfl ⟨rfl, rfl, rfl, rfl, rfl⟩ rfl rfl rfl rfl rfl (by kernel_rfl) Try.func3 (by kernel_rfl)
    (of_decide_eq_true (by kernel_rfl)) (by unfold Func.isWrapper; first | (rw [if_pos (by decide +kernel)]; kernel_rfl) | (rw [if_neg (by decide +kernel)]; exact ⟨rfl, rfl⟩))
    (fun os started H enc _ => lifted os started H enc)
#print axioms proved
end Go.Proofs.Ytiklhnngkebkeaa.gateWhat
