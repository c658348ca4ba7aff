/- net.Turn: a byte of a piece is turned, in new memory alone. -/
import Derived.Test.YtiognapakadggaaSend
import Derived.Deep.QuietTactic
import Derived.BigQuiet
import Derived.Laws.BitsAllLaws
namespace Go.Proofs.Ytiognapakadggaa
open Go.RowKit

theorem cellsOf_set (ps : List (Fl × Nat)) : ∀ (k : Nat) (p : Fl × Nat), ps[k]? = some p → ((ps.flatMap cellsOf).set (k * 4 + 3) (.bool true)) = (ps.set k (⟨p.1.fr, p.1.to, p.1.b, true⟩, p.2)).flatMap cellsOf := by
  induction ps with
  | nil => intro k p h; simp at h
  | cons q qs ih =>
    intro k p h
    cases k with
    | zero =>
      simp at h
      subst h
      simp [cellsOf]
    | succ k =>
      simp at h
      have := ih k p h
      rw [List.flatMap_cons, List.set_cons_succ, List.flatMap_cons, ← this]
      rw [List.set_append_right _ _ (by simp [cellsOf]; omega)]
      congr 2
      simp [cellsOf]
      omega

theorem pairwise_ne {ps : List (Fl × Nat)} (h : ps.Pairwise (fun p q => p.2 < q.2)) {i k : Nat} {p q : Fl × Nat} (hi : ps[i]? = some p) (hk : ps[k]? = some q) (hne : i ≠ k) : p.2 ≠ q.2 := by
  obtain ⟨li, rfl⟩ := List.getElem?_eq_some_iff.1 hi
  obtain ⟨lk, rfl⟩ := List.getElem?_eq_some_iff.1 hk
  rw [List.pairwise_iff_getElem] at h
  rcases Nat.lt_or_ge i k with hl | hl
  · have := h i k li lk hl; omega
  · have := h k i lk li (by omega); omega

theorem byteCells_set (b : List UInt8) (j : Nat) (x : UInt8) : (byteCells b).toArray.setIfInBounds j (.int .u8 (x.toNat : Int)) = (byteCells (b.set j x)).toArray := by
  simp [byteCells, List.map_set]

/-- The piece with its byte turned. -/
def turnF (f : Fl) (j : Nat) (x : UInt8) : Fl := ⟨f.fr, f.to, f.b.set j x, true⟩

/-- A fresh net, opened at its k-th piece: where the piece and its bytes lie, and what turning one of them leaves. -/
theorem Fresh.at_ {w : World} {base : Nat} {v : Value} {fs : List Fl} (h : Fresh w base v fs) {k : Nat} {f : Fl} (hf : fs[k]? = some f) :
    ∃ g c bk, v = .slice (some ⟨g, 0, none⟩) fs.length c ∧ base ≤ g ∧ base ≤ bk ∧ HasBlk w bk 5 (byteCells f.b).toArray ∧
      (∀ j, j < 4 → w.cell? ⟨g, k * 4 + j, none⟩ = (cellsOf (f, bk))[j]?) ∧ (∀ j, w.frozen? ⟨g, j, none⟩ = false) ∧ g ≠ bk ∧ g < w.heap.size ∧
      ∀ (j : Nat) (x : UInt8), Fresh ((w.setCell ⟨bk, j, none⟩ (.int .u8 (x.toNat : Int))).setCell ⟨g, k * 4 + 3, none⟩ (.bool true)) base v (fs.set k (turnF f j x)) := by
  obtain ⟨ps, rfl, h2, h3, h4⟩ := h
  simp only [List.getElem?_map, Option.map_eq_some_iff] at hf
  obtain ⟨⟨f', bk⟩, hp, rfl⟩ := hf
  have hlt : k < ps.length := (List.getElem?_eq_some_iff.1 hp).1
  have hb := h3 _ (List.mem_of_getElem? hp)
  rcases h4.2 with ⟨_, h0⟩ | ⟨g, cap, cur, rfl, hbg, hg, hn, hm, hs, ht⟩
  · omega
  · have hgb : g ≠ bk := by
      rintro rfl
      have := hb.2
      unfold HasBlk at this
      rw [hg] at this
      simp at this
    refine ⟨g, cap, bk, by simp, hbg, hb.1, hb.2, fun j hj => ?_, fun j => h4.frozenAt j, hgb, (h4.lt g (by simp [Value.ownBlock])).2, fun j x => ?_⟩
    · rw [h4.cellAt (k * 4 + j) (by omega), flat4 ps k _ hp j hj]
    · refine ⟨ps.set k (turnF f' j x, bk), by simp [List.map_set], ?_, ?_, ?_⟩
      · rw [List.pairwise_iff_getElem] at h2 ⊢
        intro a c ha hc hac
        have key : ∀ (i : Nat) (hi : i < (ps.set k (turnF f' j x, bk)).length), ((ps.set k (turnF f' j x, bk))[i]).2 = (ps[i]'(by simpa using hi)).2 := by
          intro i hi
          rw [List.getElem_set]
          split
          · rename_i e
            subst e
            rw [(List.getElem?_eq_some_iff.1 hp).2]
          · rfl
        rw [key a ha, key c hc]
        exact h2 a c (by simpa using ha) (by simpa using hc) hac
      · intro p hpm
        obtain ⟨i, hi⟩ := List.getElem?_of_mem hpm
        rw [List.getElem?_set] at hi
        split at hi
        · rename_i e
          subst e
          simp at hi
          subst hi
          refine ⟨hb.1, ?_⟩
          have := (hb.2.put j (.int .u8 (x.toNat : Int))).off (p := ⟨g, k * 4 + 3, none⟩) (fun e => hgb e.symm) (.bool true)
          rw [byteCells_set] at this
          exact this
        · rename_i e
          have hm' := h3 p (List.mem_of_getElem? hi)
          have hne := pairwise_ne h2 hi hp (fun e' => e e'.symm)
          have hgp : p.2 ≠ g := by
            rintro e2
            have := hm'.2
            unfold HasBlk at this
            rw [e2, hg] at this
            simp at this
          exact ⟨hm'.1, (hm'.2.off (p := ⟨bk, j, none⟩) hne _).off (p := ⟨g, k * 4 + 3, none⟩) hgp _⟩
      · have hO := own_put h4 (b := bk) (by simpa [Value.ownBlock] using hgb) j (.int .u8 (x.toNat : Int))
        have hO2 := (hO.stored (k * 4 + 3) (.bool true)).1
        rw [cellsOf_set ps k _ hp] at hO2
        have e1 : (ps.set k ((⟨f'.fr, f'.to, f'.b, true⟩ : Fl), bk)).flatMap cellsOf = (ps.set k (turnF f' j x, bk)).flatMap cellsOf := by
          have : cellsOf ((⟨f'.fr, f'.to, f'.b, true⟩ : Fl), bk) = cellsOf (turnF f' j x, bk) := by simp [cellsOf, turnF]
          clear hO hO2 h2 h3 h4 hg hs ht hn
          induction ps generalizing k with
          | nil => rfl
          | cons q qs ih =>
            cases k with
            | zero => simp [this]
            | succ k =>
              simp only [List.set_cons_succ, List.flatMap_cons]
              rw [ih (by simpa using hp) (by simpa using hlt)]
        rw [e1] at hO2
        simpa using hO2

theorem of_is {k : Nat} (i n : Int) (w : World) (h : 0 < n) (h2 : n ≤ 9223372036854775807) (h3 : i ≤ 9223372036854775807) (hk : ofI i n = k) : Calls Try.prog 26 #[.int .i64 i, .int .i64 n] w fun e w' => e = .returned (.int .i64 k) ∧ w' = w :=
  (of_any i n w h h2 h3).mono fun _ _ ⟨a, b⟩ => ⟨by rw [a, hk], b.symm⟩

def ErrR (w : World) (n : Int) (e : Ending) (w' : World) : Prop := e = .returned (.tuple #[.agg #[.slice none 0 0], .int .i64 n]) ∧ Below w.heap.size w w'
def NetR (w : World) (fs : List Fl) (e : Ending) (w' : World) : Prop := ∃ v, e = .returned (.tuple #[.agg #[v], .int .i64 0]) ∧ Fresh w' w.heap.size v fs ∧ Below w.heap.size w w'

end Go.Proofs.Ytiognapakadggaa
