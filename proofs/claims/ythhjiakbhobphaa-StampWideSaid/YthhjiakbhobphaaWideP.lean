/- StampWide: for every input the law returns true, and each argument reads as it did. No condition. -/
import Derived.Test.YthhjiakbhobphaaLaw
import Derived.Test.YthhjiakbhobphaaWideW
import Derived.Lib.SmallJoins
namespace Go.Proofs.Ythhjiakbhobphaa
open Go.ChangeShapes Go.WideShapes Go.ChangeAt Go.RowKit
set_option linter.unusedVariables false

set_option maxRecDepth 100000 in
theorem wide_lifted (os : Os) (started : os.Started) (H : Type) (enc : TypeId × Value → H) :
    ReturnsInHanded {} Try.checked os 6 .any (Rows.stampWideSpec.pre6 enc Try.prog Try.f6 Rows.stampWideRow.domain false) (Rows.stampWideSpec.post enc Try.prog Try.f6 false true false false) := by
  refine returnsInHanded_of_change (C := Try.checked) Try.own started (by kernel_rfl) Try.func6
    (ChangeSpec.witness6 (enc := enc) (C := Try.checked) false ⟨#[], #[(.agg #[.int .i64 0, .int .i64 0, .int .i64 0, .bool false]), .int .i64 0, .int .i64 0, .int .i64 0], []⟩ 8 (by kernel_rfl) (by kernel_rfl) (by kernel_rfl) (by kernel_rfl)) ?_
  intro W base args ds gs before hval0 hW hcnd _
  have hval : ∀ (j : Nat) t v, Try.f6.params[j]? = some t → args[j]? = some v → Value.okWide Try.prog W .any base t v := hval0
  have hW' := hW
  obtain ⟨p, q, hA0, hV, rfl, hfz, hnd⟩ := hW
  have hA : DataW.TrodAll enc Try.prog W 0 (fun _ => true) true Try.f6.params.toList args.toList ds p := hA0
  rw [Try.params6] at hA hval
  obtain ⟨v0, vs0, d0, ds0, p0, q0, hargs, rfl, rfl, h0, r0⟩ := trodAll_cons hA
  obtain ⟨v1, vs1, d1, ds1, p1, q1, rfl, rfl, rfl, h1, r1⟩ := trodAll_cons r0
  obtain ⟨v2, vs2, d2, ds2, p2, q2, rfl, rfl, rfl, h2, r2⟩ := trodAll_cons r1
  obtain ⟨v3, vs3, d3, ds3, p3, q3, rfl, rfl, rfl, h3, r3⟩ := trodAll_cons r2
  obtain ⟨rfl, rfl, rfl⟩ := trodAll_nil r3
  obtain rfl : args = #[v0, v1, v2, v3] := by cases args; simp_all
  obtain ⟨rfl, rfl⟩ := trodVars_none hV
  obtain ⟨c0, c1, c2, c3, y0, y1, y2, y3, n0, rfl, rfl, rfl, e0, e1, e2, e3⟩ := Go.Joins.open_agg4 Try.underlying23 (by kernel_rfl) Try.cells23 (hval 0 23 v0 rfl rfl) h0
  obtain ⟨L, k0, rfl, wL⟩ := DataW.trod_int Try.underlying3 e0
  obtain ⟨A, k1, rfl, wA⟩ := DataW.trod_int Try.underlying3 e1
  obtain ⟨B, k2, rfl, wB⟩ := DataW.trod_int Try.underlying3 e2
  obtain ⟨F, k3, rfl⟩ := DataW.trod_bool Try.underlying4 e3
  simp only [List.cons.injEq, and_true] at k0 k1 k2 k3
  subst k0 k1 k2 k3
  obtain ⟨t, rfl, rfl, rfl, wt⟩ := open_int Try.underlying3 (hval 1 3 v1 rfl rfl) h1
  obtain ⟨now, rfl, rfl, rfl, wnow⟩ := open_int Try.underlying3 (hval 2 3 v2 rfl rfl) h2
  obtain ⟨more, rfl, rfl, rfl, wmore⟩ := open_int Try.underlying3 (hval 3 3 v3 rfl rfl) h3
  clear hA0 hval0
  refine (wide_any L A B t now more F W).mono fun e W' ⟨he, hg⟩ => ?_
  subst he
  exact ⟨_, rfl, law_post Try.laidOut (by kernel_rfl) (tb := 4) (by kernel_rfl) Try.underlying4 rfl hW' (by first | rfl | simp [Rows.stampWideSpec]) hg⟩

theorem wide_holds : Rows.StampWideSaid :=
  OpenClaim.holds_of_wide 6 Try.f6 rfl rfl rfl rfl rfl rfl rfl ⟨rfl, rfl, rfl, rfl, rfl⟩ rfl rfl rfl rfl rfl (by kernel_rfl) Try.func6 (by kernel_rfl)
    (of_decide_eq_true (by kernel_rfl)) (by unfold Func.isWrapper; first | (rw [if_pos (by decide +kernel)]; kernel_rfl) | (rw [if_neg (by decide +kernel)]; exact ⟨rfl, rfl⟩))
    (fun os started H enc _ => wide_lifted os started H enc)
#print axioms wide_holds
end Go.Proofs.Ythhjiakbhobphaa

