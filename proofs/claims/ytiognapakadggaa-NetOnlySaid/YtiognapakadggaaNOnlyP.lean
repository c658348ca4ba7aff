/- NetOnly: for every input the law returns true, and each argument reads as it did. No condition. -/
import Derived.Test.YtiognapakadggaaLaw
import Derived.Test.YtiognapakadggaaNOnlyW
import Derived.Lib.SmallJoins
import Derived.Test.YtiognapakadggaaCame2
namespace Go.Proofs.Ytiognapakadggaa
open Go.ChangeShapes Go.WideShapes Go.ChangeAt Go.RowKit
set_option linter.unusedVariables false

set_option maxRecDepth 100000 in
theorem nonly_lifted (os : Os) (started : os.Started) (H : Type) (enc : TypeId × Value → H) :
    ReturnsInHanded {} Try.checked os 6 .any (Rows.netOnlySpec.pre6 enc Try.prog Try.f6 Rows.netOnlyRow.domain false) (Rows.netOnlySpec.post enc Try.prog Try.f6 false true false false) := by
  refine returnsInHanded_of_change (C := Try.checked) Try.own started (by kernel_rfl) Try.func6
    (ChangeSpec.witness6 (enc := enc) (C := Try.checked) false ⟨#[], #[.slice none 0 0], []⟩ 8 (by kernel_rfl) (by kernel_rfl) (by kernel_rfl) (by kernel_rfl)) ?_
  intro W base args ds gs before hval0 hW hcnd _
  have hval : ∀ (j : Nat) t v, Try.f6.params[j]? = some t → args[j]? = some v → Value.okWide Try.prog W .any base t v := hval0
  have hW' := hW
  obtain ⟨p, q, hA0, hV, rfl, hfz, hnd⟩ := hW
  have hA : DataW.TrodAll enc Try.prog W 0 (fun _ => true) true Try.f6.params.toList args.toList ds p := hA0
  rw [Try.params6] at hA hval
  obtain ⟨v0, vs0, d0, ds0, p0, q0, hargs, rfl, rfl, h0, r0⟩ := trodAll_cons hA
  obtain ⟨rfl, rfl, rfl⟩ := trodAll_nil r0
  obtain rfl : args = #[v0] := by cases args; simp_all
  obtain ⟨rfl, rfl⟩ := trodVars_none hV
  obtain ⟨a0, n0, c0, rfl⟩ := okWide_slice Try.underlying47 (hval 0 47 v0 rfl rfl)
  obtain ⟨fuel0, hf0⟩ := h0
  obtain ⟨u0, os, hu0, hL, hLl⟩ := open_ops hf0
  simp [Value.cells] at hu0
  subst hu0
  clear hA0 hval0
  refine (Or.elim (Nat.lt_or_ge 100 os.length) (fun hm => nonly_many _ os W hL hm) (fun hm => nonly_few _ os W hL hm)).mono fun e W' ⟨he, hg⟩ => ?_
  subst he
  exact ⟨_, rfl, law_post Try.laidOut (by kernel_rfl) (tb := 4) (by kernel_rfl) Try.underlying4 rfl hW' (by first | rfl | simp [Rows.netOnlySpec]) hg⟩

theorem nonly_holds : Rows.NetOnlySaid :=
  OpenClaim.holds_of_wide 6 Try.f6 rfl rfl rfl rfl rfl rfl rfl ⟨rfl, rfl, rfl, rfl, rfl⟩ rfl rfl rfl rfl rfl (by kernel_rfl) Try.func6 (by kernel_rfl)
    (of_decide_eq_true (by kernel_rfl)) (by unfold Func.isWrapper; first | (rw [if_pos (by decide +kernel)]; kernel_rfl) | (rw [if_neg (by decide +kernel)]; exact ⟨rfl, rfl⟩))
    (fun os started H enc _ => nonly_lifted os started H enc)
#print axioms nonly_holds
end Go.Proofs.Ytiognapakadggaa
