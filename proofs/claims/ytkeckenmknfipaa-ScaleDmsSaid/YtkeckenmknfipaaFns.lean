/- The functions of package scale and of its reference: what each answers, as functions of its numbers; scale's own leave the world alone, the reference's write into new memory alone. -/
import Derived.Test.YtkeckenmknfipaaChecked
import Derived.WalkKit
import Derived.WalkLawsBesides
import Derived.WalkSpells
import Derived.Lib.Hide
namespace Go.Proofs.Ytkeckenmknfipaa
open Go.RowKit

theorem ret2 {k k' : IntKind} {a b c d : Int} (h : a = b) (h' : c = d) : Ending.returned (.tuple #[.int k a, .int k' c]) = .returned (.tuple #[.int k b, .int k' d]) := by rw [h, h']
theorem ret_int {k : IntKind} {a b : Int} (h : a = b) : Ending.returned (.int k a) = .returned (.int k b) := by rw [h]
theorem ret_bool {a b : Bool} (h : a = b) : Ending.returned (.bool a) = .returned (.bool b) := by rw [h]

def unitS (s : Int) : Int := if s = 0 then 1 else if s = 1 then 10 else if s = 2 then 100 else 0
def isScale (s : Int) : Bool := decide (s = 0 ∨ s = 1 ∨ s = 2)
def dmE (n s : Int) : Int := if unitS s = 0 then 1 else if n < 0 ∨ 32766 < n then 7 else 0
def dmV (n s : Int) : Int := if dmE n s = 0 then n * unitS s else 0
def scN (dm s : Int) (up : Bool) : Int := if up = true then (dm + (unitS s - 1)) / unitS s else dm / unitS s
def scE (dm s : Int) (up : Bool) : Int := if unitS s = 0 then 1 else if dm < 0 ∨ 1099511627776 < dm then 7 else if 32766 < scN dm s up then 7 else 0
def scV (dm s : Int) (up : Bool) : Int := if scE dm s up = 0 then scN dm s up else 0
def bestS (dm : Int) : Int := if scE dm 0 true = 0 then 0 else if scE dm 1 true = 0 then 1 else if scE dm 2 true = 0 then 2 else -1
def farB (n : Int) : Bool := decide (n < -1099511627776 ∨ 1099511627776 < n)
def sumE (a b : Int) : Int := if farB a = true ∨ farB b = true ∨ farB (a + b) = true then 7 else 0
def sumV (a b : Int) : Int := if sumE a b = 0 then a + b else 0

theorem unitS_other {s : Int} (h0 : ¬ s = 0) (h1 : ¬ s = 1) (h2 : ¬ s = 2) : unitS s = 0 := by simp [unitS, h0, h1, h2]

theorem unit_any (s : Int) (w : World) : Calls Try.prog 12 #[.int .i64 s] w fun e w' => e = .returned (.int .i64 (unitS s)) ∧ w = w' := by
  by_cases s0 : s = 0
  · subst s0
    go_enter Try.func12, Try.ntmps12
    go_wp2
    go_ret
    exact ⟨ret_int (by rfl), rfl⟩
  by_cases s1 : s = 1
  · subst s1
    go_enter Try.func12, Try.ntmps12
    go_wp2
    go_ret
    exact ⟨ret_int (by rfl), rfl⟩
  by_cases s2 : s = 2
  · subst s2
    go_enter Try.func12, Try.ntmps12
    go_wp2
    go_ret
    exact ⟨ret_int (by rfl), rfl⟩
  · have u0 := Lib.hid (unitS_other s0 s1 s2)
    have t0 : (s == 0) = false := by simpa using s0
    have t1 : (s == 1) = false := by simpa using s1
    have t2 : (s == 2) = false := by simpa using s2
    have r : s < 0 ∨ 2 < s := by omega
    clear s0 s1 s2
    clear r
    go_enter Try.func12, Try.ntmps12
    go_wp2
    go_ret
    exact ⟨ret_int (by rw [u0.out]), rfl⟩

theorem runit_any (s : Int) (w : World) : Calls Try.prog 13 #[.int .i64 s] w fun e w' => e = .returned (.int .i64 (unitS s)) ∧ w.alloc (.cells #[.int .i64 1, .int .i64 10, .int .i64 100] 3) = w' := by
  by_cases s0 : s = 0
  · subst s0
    go_enter Try.func13, Try.ntmps13
    go_wp2
    go_ret
    exact ⟨ret_int rfl, rfl⟩
  by_cases s1 : s = 1
  · subst s1
    go_enter Try.func13, Try.ntmps13
    go_wp2
    go_ret
    exact ⟨ret_int rfl, rfl⟩
  by_cases s2 : s = 2
  · subst s2
    go_enter Try.func13, Try.ntmps13
    go_wp2
    go_ret
    exact ⟨ret_int rfl, rfl⟩
  · have u0 := Lib.hid (unitS_other s0 s1 s2)
    have t0 : (s == 0) = false := by simpa using s0
    have t1 : (s == 1) = false := by simpa using s1
    have t2 : (s == 2) = false := by simpa using s2
    have r : s < 0 ∨ 2 < s := by omega
    clear s0 s1 s2
    clear t0 t1 t2
    rcases r with r | r
    all_goals
      go_enter Try.func13, Try.ntmps13
      go_wp2
      go_ret
      exact ⟨ret_int (by rw [u0.out]), rfl⟩

theorem far_any (n : Int) (w : World) : Calls Try.prog 20 #[.int .i64 n] w fun e w' => e = .returned (.bool (farB n)) ∧ w = w' := by
  by_cases h1 : n < -1099511627776
  · have H : Hid (farB n = true) := Lib.hid (by simp [farB, h1])
    go_enter Try.func20, Try.ntmps20
    go_wp2
    go_ret
    exact ⟨ret_bool (by rw [H.out]), rfl⟩
  · by_cases h2 : 1099511627776 < n
    · have H : Hid (farB n = true) := Lib.hid (by simp [farB, h2])
      go_enter Try.func20, Try.ntmps20
      go_wp2
      go_ret
      exact ⟨ret_bool (by rw [H.out]), rfl⟩
    · have H : Hid (farB n = false) := Lib.hid (by simp [farB, h1, h2])
      go_enter Try.func20, Try.ntmps20
      go_wp2
      go_ret
      exact ⟨ret_bool (by rw [H.out]), rfl⟩

end Go.Proofs.Ytkeckenmknfipaa
