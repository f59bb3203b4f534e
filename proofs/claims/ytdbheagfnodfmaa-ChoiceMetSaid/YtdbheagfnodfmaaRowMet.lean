/- For every state, foe, pulse and wait the law ChoiceMet answers true; no condition. -/
import Derived.Test.YtdbheagfnodfmaaRows
import Derived.Test.YtdbheagfnodfmaaAlive5
namespace Go.Proofs.Ytdbheagfnodfmaa.choiceMet
open Go.ChangeShapes Go.WideShapes Go.ChangeAt Go.RowKit
theorem own : ownKnob Try.prog.godebug = none := by kernel_rfl
theorem laidOut : laidOutB Try.prog = true := by kernel_rfl
theorem params : ∀ t ∈ Try.f3.params.toList, Try.prog.readableRec t = true ∧ t < Try.prog.types.size := by
  intro t ht
  rw [Try.params3] at ht
  simp only [List.mem_cons, List.not_mem_nil, or_false] at ht
  rcases ht with rfl | rfl | rfl | rfl <;> exact ⟨by kernel_rfl, of_decide_eq_true (by kernel_rfl)⟩
set_option maxRecDepth 100000 in
theorem lifted (os : Os) (started : os.Started) (H : Type) (enc : TypeId × Value → H) :
    ReturnsInHanded {} Try.checked os 3 .any (Rows.choiceMetSpec.pre6 enc Try.prog Try.f3 Rows.choiceMetRow.domain false) (Rows.choiceMetSpec.post enc Try.prog Try.f3 false true false false) := by
  refine returnsInHanded_of_change_sized (C := Try.checked) own started (by kernel_rfl) Try.func3
    (ChangeSpec.witness6 (enc := enc) (C := Try.checked) false ⟨#[], #[.agg #[.int .i64 0, .int .i64 0, .int .i64 0, .int .i64 0, .int .i64 0], .agg #[.int .i64 0, .int .i64 0, .int .i64 0, .int .i64 0, .bool false], .int .i64 0, .int .i64 0], []⟩ 8 (by kernel_rfl) (by kernel_rfl) (by kernel_rfl) (by kernel_rfl)) ?_
  intro W base args ds gs before hval0 hW hcnd hsz0 _
  have hval : ∀ (j : Nat) t v, Try.f3.params[j]? = some t → args[j]? = some v → Value.okWide Try.prog W .any base t v := hval0
  have hW' := hW
  obtain ⟨p, q, hA0, hV, rfl, hfz, hnd⟩ := hW
  have hA : DataW.TrodAll enc Try.prog W 0 (fun _ => true) true Try.f3.params.toList args.toList ds p := hA0
  rw [Try.params3] at hA hval
  obtain ⟨v0, vs0, d0, ds0, p0, q0, hargs, rfl, rfl, h0, r0⟩ := trodAll_cons hA
  obtain ⟨v1, vs1, d1, ds1, p1, q1, rfl, rfl, rfl, h1, r1⟩ := trodAll_cons r0
  obtain ⟨v2, vs2, d2, ds2, p2, q2, rfl, rfl, rfl, h2, r2⟩ := trodAll_cons r1
  obtain ⟨v3, vs3, d3, ds3, p3, q3, rfl, rfl, rfl, h3, r3⟩ := trodAll_cons r2
  obtain ⟨rfl, rfl, rfl⟩ := trodAll_nil r3
  obtain rfl : args = #[v0, v1, v2, v3] := by cases args; simp_all
  obtain ⟨rfl, rfl⟩ := trodVars_none hV
  obtain ⟨a0, a1, a2, a3, a4, y0, y1, y2, y3, y4, n0, rfl, -, -, t0, t1, t2, t3, t4⟩ := open_agg5 Try.underlying23 (by kernel_rfl) (by kernel_rfl) (hval 0 _ _ rfl rfl) h0
  obtain ⟨b0, b1, b2, b3, b4, z0, z1, z2, z3, z4, n1, rfl, -, -, u0, u1, u2, u3, u4⟩ := open_agg5 Try.underlying25 (by kernel_rfl) (by kernel_rfl) (hval 1 _ _ rfl rfl) h1
  obtain ⟨a0, rfl, wa0⟩ := lit_int_of Try.underlying3 t0
  obtain ⟨a1, rfl, wa1⟩ := lit_int_of Try.underlying3 t1
  obtain ⟨a2, rfl, wa2⟩ := lit_int_of Try.underlying3 t2
  obtain ⟨a3, rfl, wa3⟩ := lit_int_of Try.underlying3 t3
  obtain ⟨a4, rfl, wa4⟩ := lit_int_of Try.underlying3 t4
  obtain ⟨b0, rfl, wb0⟩ := lit_int_of Try.underlying3 u0
  obtain ⟨b1, rfl, wb1⟩ := lit_int_of Try.underlying3 u1
  obtain ⟨b2, rfl, wb2⟩ := lit_int_of Try.underlying3 u2
  obtain ⟨b3, rfl, wb3⟩ := lit_int_of Try.underlying3 u3
  obtain ⟨b4, rfl⟩ := lit_bool_of Try.underlying4 u4
  obtain ⟨c, rfl, -, -, wc⟩ := open_int Try.underlying3 (hval 2 _ _ rfl rfl) h2
  obtain ⟨d, rfl, -, -, wd⟩ := open_int Try.underlying3 (hval 3 _ _ rfl rfl) h3
  refine (law_met a0 a1 a2 a3 a4 b0 b1 b2 b3 b4 c d W (I64.of_wf wa1) (I64.of_wf wa4)).mono fun e W' ⟨he, bel⟩ => ?_
  exact ⟨_, he, post_law laidOut params rfl Try.underlying4 rfl hW' bel.below rfl rfl rfl⟩
theorem proved : Rows.ChoiceMetSaid :=
  OpenClaim.holds_of_wide 3 Try.f3 rfl rfl rfl rfl rfl rfl rfl ⟨rfl, rfl, rfl, rfl, rfl⟩ rfl rfl rfl rfl rfl (by kernel_rfl) Try.func3 (by kernel_rfl)
    (of_decide_eq_true (by kernel_rfl)) (by unfold Func.isWrapper; first | (rw [if_pos (by decide +kernel)]; kernel_rfl) | (rw [if_neg (by decide +kernel)]; exact ⟨rfl, rfl⟩))
    (fun os started H enc _ => lifted os started H enc)
#print axioms proved
end Go.Proofs.Ytdbheagfnodfmaa.choiceMet
