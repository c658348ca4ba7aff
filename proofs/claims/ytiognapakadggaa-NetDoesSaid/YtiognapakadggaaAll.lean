/- net.all, net.Clear and net.Take: what each leaves of a net, in new memory alone. -/
import Derived.Test.YtiognapakadggaaThose
import Derived.Deep.RegionHeld3
import Derived.WalkMore
namespace Go.Proofs.Ytiognapakadggaa
open Go.RowKit

theorem keptTo_all (fs : List Fl) : ∀ k, k ≤ fs.length → keptTo (fun _ _ => true) fs k = fs.take k := by
  intro k
  induction k with
  | zero => intro _; rfl
  | succ k ih =>
    intro h
    have hf : fs[k]? = some fs[k] := List.getElem?_eq_getElem (by omega)
    rw [keptTo_yes hf rfl, ih (by omega), List.take_add_one, hf]
    rfl
theorem keptTo_way (fs : List Fl) (p : Fl → Bool) : ∀ k, k ≤ fs.length → keptTo (fun _ f => p f) fs k = (fs.take k).filter p := by
  intro k
  induction k with
  | zero => intro _; rfl
  | succ k ih =>
    intro h
    have hf : fs[k]? = some fs[k] := List.getElem?_eq_getElem (by omega)
    rw [List.take_add_one, hf, List.filter_append, ← ih (by omega)]
    by_cases hp : p fs[k] = true
    · rw [keptTo_yes hf hp]; simp [hp]
    · rw [keptTo_no hf (by simpa using hp)]; simp [hp]
theorem keptTo_but (fs : List Fl) (j : Nat) : ∀ k, k ≤ fs.length → keptTo (fun (i : Nat) _ => ((i : Int) != (j : Int))) fs k = (fs.take k).eraseIdx j := by
  intro k
  induction k with
  | zero => intro _; simp [keptTo]
  | succ k ih =>
    intro h
    have hf : fs[k]? = some fs[k] := List.getElem?_eq_getElem (by omega)
    have hl : (fs.take k).length = k := by simp; omega
    rw [List.take_add_one, hf]
    by_cases hp : k = j
    · subst hp
      rw [keptTo_no hf (by simp), ih (by omega)]
      rw [List.eraseIdx_of_length_le (by omega)]
      rw [List.eraseIdx_append_of_length_le (by omega)]
      simp [hl]
    · rw [keptTo_yes hf (by simp; omega), ih (by omega)]
      by_cases hj : j < k
      · rw [List.eraseIdx_append_of_lt_length (by omega)]
        rfl
      · rw [List.eraseIdx_of_length_le (by omega), List.eraseIdx_of_length_le (by simp; omega)]
        rfl

theorem Fresh.shape {w : World} {base : Nat} {v : Value} {fs : List Fl} (h : Fresh w base v fs) : ∃ A c, v = .slice A fs.length c := by
  obtain ⟨A, c, hv, _⟩ := h.netAt
  exact ⟨A, c, hv⟩
theorem Fresh.weaken {w : World} {base base' : Nat} {v : Value} {fs : List Fl} (h : Fresh w base v fs) (hb : base' ≤ base) : Fresh w base' v fs := by
  obtain ⟨ps, h1, h2, h3, h4, h5⟩ := h
  refine ⟨ps, h1, h2, fun p hp => ⟨Nat.le_trans hb (h3 p hp).1, (h3 p hp).2⟩, h4, ?_⟩
  rcases h5 with h5 | ⟨g, cap, cur, e1, e2, e3⟩
  · exact .inl h5
  · exact .inr ⟨g, cap, cur, e1, Nat.le_trans hb e2, e3⟩

theorem Fresh.put_low {w : World} {base : Nat} {v : Value} {fs : List Fl} (h : Fresh w base v fs) {b : Nat} (hb : b < base) (i : Nat) (u : Value) : Fresh (w.setCell ⟨b, i, none⟩ u) base v fs := by
  obtain ⟨ps, h1, h2, h3, h4⟩ := h
  refine ⟨ps, h1, h2, fun p hp => ⟨(h3 p hp).1, (h3 p hp).2.off (p := ⟨b, i, none⟩) (by have := (h3 p hp).1; dsimp only; omega) _⟩, own_put h4 (fun he => ?_) _ _⟩
  have := (h4.lt _ he).1
  omega

/-- A result box behind a call: its cell and its mark. -/
theorem box1 {w w1 : World} {b : Nat} {t : TypeId} {v : Value} (h : HasBlk w b t #[v]) (hb : Below w.heap.size w w1) : HasBlk w1 b t #[v] ∧ w1.cell? ⟨b, 0, none⟩ = some v ∧ w1.frozen? ⟨b, 0, none⟩ = false :=
  ⟨h.later hb, by simpa using (h.later hb).cell 0, (h.later hb).free 0⟩

set_option maxHeartbeats 1000000 in
theorem all_any (v : Value) (fs : List Fl) (w : World) (h : NetAt w v fs) (hn : fs.length ≤ 1000) (hl : ∀ f ∈ fs, f.b.length ≤ 1000000) : Calls Try.prog 24 #[.agg #[v]] w (KeptR w fs) := by
  have hk := keptTo_all fs fs.length (Nat.le_refl _)
  rw [List.take_length] at hk
  have HK := Lib.hid hk
  have HL := Lib.hid hl
  obtain ⟨A, c, hv⟩ : ∃ A c, v = .slice A fs.length c := by obtain ⟨A, c, h, _⟩ := h; exact ⟨A, c, h⟩
  subst hv
  have HN := Lib.hid h
  clear h hk hl
  go_enter Try.func24, Try.ntmps24
  go_wp2_with fail
  refine (those_all _ fs _ ((HN.out.later ((Below.refl _ _).alloc (Nat.le_refl _) _)).later ((Below.refl _ _).alloc (Nat.le_refl _) _)) hn HL.out).mono ?_
  rintro e w1 ⟨v1, rfl, hf, hb⟩
  rw [HK.out] at hf
  obtain ⟨hx, k0, kf⟩ := box1 (HasBlk.fresh _ 26 #[.slice none 0 0]) hb
  simp only [World.size_alloc] at hx k0 kf
  obtain ⟨A1, c1, rfl⟩ := hf.shape
  have HFR := Lib.hid hf
  have HX := Lib.hid hx
  clear hf hx
  have g1 : Below w.heap.size w w1 := below_on (by simp; omega) (((Below.refl _ _).alloc (Nat.le_refl _) _).alloc (by simp) _) hb
  go_wp2
  refine bodyPost_ret (v := .agg #[.slice A1 fs.length c1]) (by simp [results, Try.results24, go_sem, k0]) rfl ⟨_, rfl, (HFR.out.weaken (by simp; omega)).put HX.out (by decide) (by decide) _ _, g1.setCell (by simp) _⟩

set_option maxHeartbeats 1000000 in
theorem clear_any (v : Value) (fs : List Fl) (fv tv : Int) (w : World) (h : NetAt w v fs) (hn : fs.length ≤ 1000) (hl : ∀ f ∈ fs, f.b.length ≤ 1000000) : Calls Try.prog 11 #[.agg #[v], .int .i64 fv, .int .i64 tv] w (KeptR w (fs.filter fun f => f.fr != fv || f.to != tv)) := by
  have hk := keptTo_way fs (fun f => f.fr != fv || f.to != tv) fs.length (Nat.le_refl _)
  rw [List.take_length] at hk
  have HK := Lib.hid hk
  have HL := Lib.hid hl
  obtain ⟨A, c, hv⟩ : ∃ A c, v = .slice A fs.length c := by obtain ⟨A, c, h, _⟩ := h; exact ⟨A, c, h⟩
  subst hv
  have HN := Lib.hid h
  clear h hk hl
  go_enter Try.func11, Try.ntmps11
  go_wp2_with fail
  have hb0 : Below w.heap.size w ((((w.alloc (.cells #[.slice A fs.length c] 26)).alloc (.cells #[.int .i64 fv] 3)).alloc (.cells #[.int .i64 tv] 3)).alloc (.cells #[.slice none 0 0] 26)) := by
    repeat (first | exact Below.refl _ _ | refine Below.alloc ?_ (by first | omega | (simp; done) | (simp; omega)) _)
  refine (those_way (w.heap.size + 1) (w.heap.size + 1 + 1) fv tv _ fs _ (HN.out.later hb0) hn HL.out (by go_simp) (by go_simp)).mono ?_
  rintro e w1 ⟨v1, rfl, hf, hb⟩
  rw [HK.out] at hf
  obtain ⟨hx, k0, kf⟩ := box1 (HasBlk.fresh _ 26 #[.slice none 0 0]) hb
  simp only [World.size_alloc] at hx k0 kf
  obtain ⟨A1, c1, rfl⟩ := hf.shape
  have HFR := Lib.hid hf
  have HX := Lib.hid hx
  clear hf hx
  have g1 : Below w.heap.size w w1 := below_on (by simp; omega) hb0 hb
  go_wp2
  refine bodyPost_ret (v := .agg #[.slice A1 (fs.filter fun f => f.fr != fv || f.to != tv).length c1]) (by simp [results, Try.results11, go_sem, k0]) rfl ⟨_, rfl, (HFR.out.weaken (by simp; omega)).put HX.out (by decide) (by decide) _ _, g1.setCell (by simp; omega) _⟩

end Go.Proofs.Ytiognapakadggaa
