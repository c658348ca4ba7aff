/- The plain law of NetOnly: what is on its way comes from what was sent: as it was, or with one byte turned; each call keeps that. -/
import Derived.Test.YtiognapakadggaaDrop
namespace Go.Proofs.Ytiognapakadggaa

/-- The piece f comes from a piece that was sent. -/
def From1 (s f : Fl) : Bool := (s.fr == f.fr) && (s.to == f.to) && ((!f.bad && s.b == f.b) || (f.bad && turnB s.b f.b))
def Okay (ss : List Fl) (f : Fl) : Prop := ∃ s ∈ ss, From1 s f = true
structure Inv (ss ns : List Fl) : Prop where
  ok : ∀ f ∈ ns, Okay ss f
  few : ns.length ≤ 40
  small : ∀ f ∈ ns, f.b.length ≤ 2000
  sent : ∀ s ∈ ss, s.b.length ≤ 2000

theorem Okay.more {ss : List Fl} {f : Fl} (h : Okay ss f) (x : Fl) : Okay (ss ++ [x]) f := by
  obtain ⟨s, hs, h⟩ := h
  exact ⟨s, List.mem_append_left _ hs, h⟩
theorem Inv.sub {ss ns ns' : List Fl} (h : Inv ss ns) (hs : ∀ f ∈ ns', f ∈ ns) (hl : ns'.length ≤ ns.length) : Inv ss ns' :=
  ⟨fun f hf => h.ok f (hs f hf), Nat.le_trans hl h.few, fun f hf => h.small f (hs f hf), h.sent⟩
theorem Inv.nil : Inv [] [] := ⟨by simp, by simp, by simp, by simp⟩
theorem Inv.void {ss ns : List Fl} (h : Inv ss ns) : Inv ss [] := ⟨by simp, by simp, by simp, h.sent⟩
theorem Inv.send {ss ns : List Fl} (h : Inv ss ns) (hl : ns.length < 40) (fr tt : Int) (b : List UInt8) (hb : b.length ≤ 2000) : Inv (ss ++ [⟨fr, tt, b, false⟩]) (ns ++ [⟨fr, tt, b, false⟩]) := by
  refine ⟨fun f hf => ?_, by simp; omega, fun f hf => ?_, fun f hf => ?_⟩
  · rcases List.mem_append.1 hf with hf | hf
    · exact (h.ok f hf).more _
    · rw [List.mem_singleton] at hf
      subst hf
      exact ⟨_, List.mem_append_right _ (List.mem_singleton.2 rfl), by simp [From1]⟩
  · rcases List.mem_append.1 hf with hf | hf
    · exact h.small f hf
    · rw [List.mem_singleton] at hf
      subst hf
      exact hb
  · rcases List.mem_append.1 hf with hf | hf
    · exact h.sent f hf
    · rw [List.mem_singleton] at hf
      subst hf
      exact hb
theorem Inv.erase {ss ns : List Fl} (h : Inv ss ns) (k : Nat) : Inv ss (ns.eraseIdx k) :=
  h.sub (fun _ hf => List.mem_of_mem_eraseIdx hf) (by rw [List.length_eraseIdx]; split <;> omega)
theorem Inv.filter {ss ns : List Fl} (h : Inv ss ns) (p : Fl → Bool) : Inv ss (ns.filter p) :=
  h.sub (fun _ hf => (List.mem_filter.1 hf).1) (List.length_filter_le _ _)
theorem Inv.double {ss ns : List Fl} (h : Inv ss ns) (hl : ns.length < 40) {f : Fl} (hf : f ∈ ns) : Inv ss (ns ++ [f]) := by
  refine ⟨fun g hg => ?_, by simp; omega, fun g hg => ?_, h.sent⟩
  · rcases List.mem_append.1 hg with hg | hg
    · exact h.ok g hg
    · rw [List.mem_singleton] at hg
      subst hg
      exact h.ok _ hf
  · rcases List.mem_append.1 hg with hg | hg
    · exact h.small g hg
    · rw [List.mem_singleton] at hg
      subst hg
      exact h.small _ hf

theorem diffs_set (a : List UInt8) (j : Nat) (x z : UInt8) (hx : a[j]? = some x) (hz : x ≠ z) : ∀ k, k ≤ a.length → diffs a (a.set j z) k = if j < k then 1 else 0 := by
  intro k
  induction k with
  | zero => intro _; rfl
  | succ k ih =>
    intro h
    rw [diffs_next, ih (by omega)]
    have hj : j < a.length := (List.getElem?_eq_some_iff.1 hx).1
    by_cases e : j = k
    · subst e
      rw [hx, List.getElem?_set_self (by simpa using hj)]
      have : (some x != some z) = true := by simpa using hz
      simp [this]
    · rw [List.getElem?_set_ne e]
      simp
      split <;> split <;> omega
theorem turnB_set (a : List UInt8) (j : Nat) (x z : UInt8) (hx : a[j]? = some x) (hz : x ≠ z) : turnB a (a.set j z) = true := by
  have hj : j < a.length := (List.getElem?_eq_some_iff.1 hx).1
  simp [turnB, diffs_set a j x z hx hz a.length (Nat.le_refl _), hj]
theorem xor_ne (x y : UInt8) (h : y ≠ 0) : x ≠ x ^^^ y := by
  intro e
  apply h
  have : x ^^^ x = x ^^^ (x ^^^ y) := by rw [← e]
  rw [← UInt8.xor_assoc, UInt8.xor_self, UInt8.zero_xor] at this
  exact this.symm
theorem Inv.turn {ss ns : List Fl} (h : Inv ss ns) {k : Nat} {f : Fl} (hf : ns[k]? = some f) (hbad : f.bad = false) {j : Nat} {x y : UInt8} (hx : f.b[j]? = some x) (hy : y ≠ 0) : Inv ss (ns.set k (turnF f j (x ^^^ y))) := by
  have hm : f ∈ ns := List.mem_of_getElem? hf
  refine ⟨fun g hg => ?_, by simpa using h.few, fun g hg => ?_, h.sent⟩
  · rcases List.mem_or_eq_of_mem_set hg with hg | rfl
    · exact h.ok g hg
    · obtain ⟨s, hs, hF⟩ := h.ok f hm
      refine ⟨s, hs, ?_⟩
      simp only [From1, hbad, Bool.not_false, Bool.true_and, Bool.false_and, Bool.or_false, Bool.and_eq_true, beq_iff_eq] at hF
      obtain ⟨⟨e1, e2⟩, e3⟩ := hF
      simp [From1, turnF, e1, e2, e3, turnB_set f.b j x _ hx (xor_ne x y hy)]
  · rcases List.mem_or_eq_of_mem_set hg with hg | rfl
    · exact h.small g hg
    · simpa [turnF] using h.small f hm
end Go.Proofs.Ytiognapakadggaa
