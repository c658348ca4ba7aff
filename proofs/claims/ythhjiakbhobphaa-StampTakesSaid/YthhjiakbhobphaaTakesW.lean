/- StampTakes, walked: any stamp, told any time at any time: the law answers true, and writes into new memory alone. -/
import Derived.Test.YthhjiakbhobphaaAwake
import Derived.Deep.RegionHeld3
namespace Go.Proofs.Ythhjiakbhobphaa
open Go.RowKit

theorem keep_drew {w : World} {p : Addr} {v : Value} (h : w.cell? p = some v) : w.drew.cell? p = some v := h
theorem keep_alloc {w : World} {o : Obj} {p : Addr} {v : Value} (h : w.cell? p = some v) : (w.alloc o).cell? p = some v :=
  (World.cell?_alloc_lt w o p (World.block_lt_of_cell? _ _ h)).trans h

set_option maxHeartbeats 1000000 in
theorem takes_ok (L A B t now : Int) (F : Bool) (w : World) (hm : mayB L A B = true) (ht : isTime t = true) (hn : isTime now = true) (hk : takeB L A B t now F = true) :
   Calls Try.prog 3 #[.agg #[.int .i64 L, .int .i64 A, .int .i64 B, .bool F], .int .i64 t, .int .i64 now] w fun e w' => e = .returned (.bool true) ∧ Below w.heap.size w w' := by
  have Hhm := Lib.hid hm
  have Hht := Lib.hid ht
  have Hhn := Lib.hid hn
  have Hhk := Lib.hid hk
  clear hm ht hn hk
  go_enter Try.func3, Try.ntmps3
  go_wp2_with fail
  refine (awake_any _).mono ?_
  rintro e w1 ⟨rfl, hb1⟩
  have c1_0_0 := cell_later hb1 (a := ⟨w.heap.size, 0, none⟩) (v := .int .i64 L) (by go_simp)
  have c1_0_1 := cell_later hb1 (a := ⟨w.heap.size, 1, none⟩) (v := .int .i64 A) (by go_simp)
  have c1_0_2 := cell_later hb1 (a := ⟨w.heap.size, 2, none⟩) (v := .int .i64 B) (by go_simp)
  have c1_0_3 := cell_later hb1 (a := ⟨w.heap.size, 3, none⟩) (v := .bool F) (by go_simp)
  have y1_0 : w.heap.size < w1.heap.size := by have := hb1.size; (try simp at this); omega
  have z1 := hb1.size
  try simp at z1
  have g1 : Below w.heap.size w w1 := by
    refine below_from ?_ hb1
    repeat (first | exact (Below.refl _ _) | refine Below.setCell ?_ (by first | omega | (simp; omega)) _ | refine Below.alloc ?_ (by first | omega | (simp; omega)) _ | refine Below.drew ?_)
  have q1 := g1.size
  go_wp2_with fail
  refine (take_ok _ _ _ _ _ _ _ Hhm.out Hht.out Hhn.out Hhk.out).mono ?_
  rintro e w2 ⟨rfl, hb2⟩
  have c2_0_0 := cell_later hb2 (a := ⟨w.heap.size, 0, none⟩) (v := .int .i64 L) (by go_simp)
  have c2_0_1 := cell_later hb2 (a := ⟨w.heap.size, 1, none⟩) (v := .int .i64 A) (by go_simp)
  have c2_0_2 := cell_later hb2 (a := ⟨w.heap.size, 2, none⟩) (v := .int .i64 B) (by go_simp)
  have c2_0_3 := cell_later hb2 (a := ⟨w.heap.size, 3, none⟩) (v := .bool F) (by go_simp)
  have y2_0 : w.heap.size < w2.heap.size := by have := hb2.size; (try simp at this); omega
  have z2 := hb2.size
  try simp at z2
  have g2 : Below w.heap.size w w2 := by
    refine below_from ?_ hb2
    repeat (first | exact g1 | refine Below.setCell ?_ (by first | omega | (simp; omega)) _ | refine Below.alloc ?_ (by first | omega | (simp; omega)) _ | refine Below.drew ?_)
  have q2 := g2.size
  go_wp2_with fail
  refine (rtake_ok _ _ _ _ _ _ _ Hhm.out Hht.out Hhn.out Hhk.out).mono ?_
  rintro e w3 ⟨rfl, hb3⟩
  have c3_0_0 := cell_later hb3 (a := ⟨w.heap.size, 0, none⟩) (v := .int .i64 L) (by go_simp)
  have c3_0_1 := cell_later hb3 (a := ⟨w.heap.size, 1, none⟩) (v := .int .i64 A) (by go_simp)
  have c3_0_2 := cell_later hb3 (a := ⟨w.heap.size, 2, none⟩) (v := .int .i64 B) (by go_simp)
  have c3_0_3 := cell_later hb3 (a := ⟨w.heap.size, 3, none⟩) (v := .bool F) (by go_simp)
  have c3_1_0 := cell_later hb3 (a := ⟨w2.heap.size, 0, none⟩) (v := .int .i64 t) (by go_simp)
  have c3_1_1 := cell_later hb3 (a := ⟨w2.heap.size, 1, none⟩) (v := .int .i64 A) (by go_simp)
  have c3_1_2 := cell_later hb3 (a := ⟨w2.heap.size, 2, none⟩) (v := .int .i64 B) (by go_simp)
  have c3_1_3 := cell_later hb3 (a := ⟨w2.heap.size, 3, none⟩) (v := .bool false) (by go_simp)
  have y3_0 : w.heap.size < w3.heap.size := by have := hb3.size; (try simp at this); omega
  have y3_1 : w2.heap.size < w3.heap.size := by have := hb3.size; (try simp at this); omega
  have z3 := hb3.size
  try simp at z3
  have g3 : Below w.heap.size w w3 := by
    refine below_from ?_ hb3
    repeat (first | exact g2 | refine Below.setCell ?_ (by first | omega | (simp; omega)) _ | refine Below.alloc ?_ (by first | omega | (simp; omega)) _ | refine Below.drew ?_)
  have q3 := g3.size
  go_wp2_with fail
  have d0 : (w3.alloc (.cells #[.int .i64 t, .int .i64 A, .int .i64 B, .bool false] 23)).cell? ⟨w.heap.size, 0, none⟩ = some (.int .i64 L) := by go_simp
  have d1 : (w3.alloc (.cells #[.int .i64 t, .int .i64 A, .int .i64 B, .bool false] 23)).cell? ⟨w.heap.size, 1, none⟩ = some (.int .i64 A) := by go_simp
  have d2 : (w3.alloc (.cells #[.int .i64 t, .int .i64 A, .int .i64 B, .bool false] 23)).cell? ⟨w.heap.size, 2, none⟩ = some (.int .i64 B) := by go_simp
  have d3 : (w3.alloc (.cells #[.int .i64 t, .int .i64 A, .int .i64 B, .bool false] 23)).cell? ⟨w.heap.size, 3, none⟩ = some (.bool F) := by go_simp
  have d4 : (w3.alloc (.cells #[.int .i64 t, .int .i64 A, .int .i64 B, .bool false] 23)).cell? ⟨w2.heap.size, 0, none⟩ = some (.int .i64 t) := by go_simp
  have d5 : (w3.alloc (.cells #[.int .i64 t, .int .i64 A, .int .i64 B, .bool false] 23)).cell? ⟨w2.heap.size, 1, none⟩ = some (.int .i64 A) := by go_simp
  have d6 : (w3.alloc (.cells #[.int .i64 t, .int .i64 A, .int .i64 B, .bool false] 23)).cell? ⟨w2.heap.size, 2, none⟩ = some (.int .i64 B) := by go_simp
  have d7 : (w3.alloc (.cells #[.int .i64 t, .int .i64 A, .int .i64 B, .bool false] 23)).cell? ⟨w2.heap.size, 3, none⟩ = some (.bool false) := by go_simp
  have d8 : (w3.alloc (.cells #[.int .i64 t, .int .i64 A, .int .i64 B, .bool false] 23)).cell? ⟨w3.heap.size, 0, none⟩ = some (.int .i64 t) := by go_simp
  have d9 : (w3.alloc (.cells #[.int .i64 t, .int .i64 A, .int .i64 B, .bool false] 23)).cell? ⟨w3.heap.size, 1, none⟩ = some (.int .i64 A) := by go_simp
  have d10 : (w3.alloc (.cells #[.int .i64 t, .int .i64 A, .int .i64 B, .bool false] 23)).cell? ⟨w3.heap.size, 2, none⟩ = some (.int .i64 B) := by go_simp
  have d11 : (w3.alloc (.cells #[.int .i64 t, .int .i64 A, .int .i64 B, .bool false] 23)).cell? ⟨w3.heap.size, 3, none⟩ = some (.bool false) := by go_simp
  go_region_held3 (fun w' => w'.cell? ⟨w.heap.size, 0, none⟩ = some (.int .i64 L) ∧ w'.cell? ⟨w.heap.size, 1, none⟩ = some (.int .i64 A) ∧ w'.cell? ⟨w.heap.size, 2, none⟩ = some (.int .i64 B) ∧ w'.cell? ⟨w.heap.size, 3, none⟩ = some (.bool F) ∧ w'.cell? ⟨w2.heap.size, 0, none⟩ = some (.int .i64 t) ∧ w'.cell? ⟨w2.heap.size, 1, none⟩ = some (.int .i64 A) ∧ w'.cell? ⟨w2.heap.size, 2, none⟩ = some (.int .i64 B) ∧ w'.cell? ⟨w2.heap.size, 3, none⟩ = some (.bool false) ∧ w'.cell? ⟨w3.heap.size, 0, none⟩ = some (.int .i64 t) ∧ w'.cell? ⟨w3.heap.size, 1, none⟩ = some (.int .i64 A) ∧ w'.cell? ⟨w3.heap.size, 2, none⟩ = some (.int .i64 B) ∧ w'.cell? ⟨w3.heap.size, 3, none⟩ = some (.bool false)) ((refine ⟨?_, ?_, ?_, ?_, ?_, ?_, ?_, ?_, ?_, ?_, ?_, ?_⟩ <;> repeat (first | (with_reducible assumption) | (with_reducible refine keep_drew ?_) | (with_reducible refine keep_alloc ?_)))) (first | (go_at_call 11; refine (may_any _ _ _ _ _).mono ?_; rintro e w' ⟨rfl, rfl⟩) | (go_at_call 12; refine (rmay_any _ _ _ _ _).mono ?_; rintro e w' ⟨rfl, rfl⟩) | (go_at_call 13; refine (release_ex _ _ _ _ _).mono ?_; rintro e w' ⟨rfl, rfl⟩) | (go_at_call 14; refine (rrelease_ex _ _ _ _ _).mono ?_; rintro e w' ⟨rfl, rfl⟩))
  go_wp2
  go_ret
  refine ⟨rfl, ?_⟩
  repeat (first | exact g3 | refine Below.setCell ?_ (by first | omega | (simp; omega)) _ | refine Below.alloc ?_ (by first | omega | (simp; omega)) _ | refine Below.drew ?_)
set_option maxHeartbeats 1000000 in
theorem takes_stale (L A B t now : Int) (F : Bool) (w : World) (hm : mayB L A B = true) (ht : isTime t = true) (hn : isTime now = true) (hk : takeB L A B t now F = false) :
   Calls Try.prog 3 #[.agg #[.int .i64 L, .int .i64 A, .int .i64 B, .bool F], .int .i64 t, .int .i64 now] w fun e w' => e = .returned (.bool true) ∧ Below w.heap.size w w' := by
  have Hhm := Lib.hid hm
  have Hht := Lib.hid ht
  have Hhn := Lib.hid hn
  have Hhk := Lib.hid hk
  clear hm ht hn hk
  go_enter Try.func3, Try.ntmps3
  go_wp2_with fail
  refine (awake_any _).mono ?_
  rintro e w1 ⟨rfl, hb1⟩
  have c1_0_0 := cell_later hb1 (a := ⟨w.heap.size, 0, none⟩) (v := .int .i64 L) (by go_simp)
  have c1_0_1 := cell_later hb1 (a := ⟨w.heap.size, 1, none⟩) (v := .int .i64 A) (by go_simp)
  have c1_0_2 := cell_later hb1 (a := ⟨w.heap.size, 2, none⟩) (v := .int .i64 B) (by go_simp)
  have c1_0_3 := cell_later hb1 (a := ⟨w.heap.size, 3, none⟩) (v := .bool F) (by go_simp)
  have y1_0 : w.heap.size < w1.heap.size := by have := hb1.size; (try simp at this); omega
  have z1 := hb1.size
  try simp at z1
  have g1 : Below w.heap.size w w1 := by
    refine below_from ?_ hb1
    repeat (first | exact (Below.refl _ _) | refine Below.setCell ?_ (by first | omega | (simp; omega)) _ | refine Below.alloc ?_ (by first | omega | (simp; omega)) _ | refine Below.drew ?_)
  have q1 := g1.size
  go_wp2_with fail
  refine (take_stale _ _ _ _ _ _ _ Hhm.out Hht.out Hhn.out Hhk.out).mono ?_
  rintro e w2 ⟨rfl, hb2⟩
  have c2_0_0 := cell_later hb2 (a := ⟨w.heap.size, 0, none⟩) (v := .int .i64 L) (by go_simp)
  have c2_0_1 := cell_later hb2 (a := ⟨w.heap.size, 1, none⟩) (v := .int .i64 A) (by go_simp)
  have c2_0_2 := cell_later hb2 (a := ⟨w.heap.size, 2, none⟩) (v := .int .i64 B) (by go_simp)
  have c2_0_3 := cell_later hb2 (a := ⟨w.heap.size, 3, none⟩) (v := .bool F) (by go_simp)
  have y2_0 : w.heap.size < w2.heap.size := by have := hb2.size; (try simp at this); omega
  have z2 := hb2.size
  try simp at z2
  have g2 : Below w.heap.size w w2 := by
    refine below_from ?_ hb2
    repeat (first | exact g1 | refine Below.setCell ?_ (by first | omega | (simp; omega)) _ | refine Below.alloc ?_ (by first | omega | (simp; omega)) _ | refine Below.drew ?_)
  have q2 := g2.size
  go_wp2_with fail
  refine (rtake_stale _ _ _ _ _ _ _ Hhm.out Hht.out Hhn.out Hhk.out).mono ?_
  rintro e w3 ⟨rfl, hb3⟩
  have c3_0_0 := cell_later hb3 (a := ⟨w.heap.size, 0, none⟩) (v := .int .i64 L) (by go_simp)
  have c3_0_1 := cell_later hb3 (a := ⟨w.heap.size, 1, none⟩) (v := .int .i64 A) (by go_simp)
  have c3_0_2 := cell_later hb3 (a := ⟨w.heap.size, 2, none⟩) (v := .int .i64 B) (by go_simp)
  have c3_0_3 := cell_later hb3 (a := ⟨w.heap.size, 3, none⟩) (v := .bool F) (by go_simp)
  have c3_1_0 := cell_later hb3 (a := ⟨w2.heap.size, 0, none⟩) (v := .int .i64 0) (by go_simp)
  have c3_1_1 := cell_later hb3 (a := ⟨w2.heap.size, 1, none⟩) (v := .int .i64 0) (by go_simp)
  have c3_1_2 := cell_later hb3 (a := ⟨w2.heap.size, 2, none⟩) (v := .int .i64 0) (by go_simp)
  have c3_1_3 := cell_later hb3 (a := ⟨w2.heap.size, 3, none⟩) (v := .bool false) (by go_simp)
  have y3_0 : w.heap.size < w3.heap.size := by have := hb3.size; (try simp at this); omega
  have y3_1 : w2.heap.size < w3.heap.size := by have := hb3.size; (try simp at this); omega
  have z3 := hb3.size
  try simp at z3
  have g3 : Below w.heap.size w w3 := by
    refine below_from ?_ hb3
    repeat (first | exact g2 | refine Below.setCell ?_ (by first | omega | (simp; omega)) _ | refine Below.alloc ?_ (by first | omega | (simp; omega)) _ | refine Below.drew ?_)
  have q3 := g3.size
  go_wp2_with fail
  have d0 : (w3.alloc (.cells #[.int .i64 0, .int .i64 0, .int .i64 0, .bool false] 23)).cell? ⟨w.heap.size, 0, none⟩ = some (.int .i64 L) := by go_simp
  have d1 : (w3.alloc (.cells #[.int .i64 0, .int .i64 0, .int .i64 0, .bool false] 23)).cell? ⟨w.heap.size, 1, none⟩ = some (.int .i64 A) := by go_simp
  have d2 : (w3.alloc (.cells #[.int .i64 0, .int .i64 0, .int .i64 0, .bool false] 23)).cell? ⟨w.heap.size, 2, none⟩ = some (.int .i64 B) := by go_simp
  have d3 : (w3.alloc (.cells #[.int .i64 0, .int .i64 0, .int .i64 0, .bool false] 23)).cell? ⟨w.heap.size, 3, none⟩ = some (.bool F) := by go_simp
  have d4 : (w3.alloc (.cells #[.int .i64 0, .int .i64 0, .int .i64 0, .bool false] 23)).cell? ⟨w2.heap.size, 0, none⟩ = some (.int .i64 0) := by go_simp
  have d5 : (w3.alloc (.cells #[.int .i64 0, .int .i64 0, .int .i64 0, .bool false] 23)).cell? ⟨w2.heap.size, 1, none⟩ = some (.int .i64 0) := by go_simp
  have d6 : (w3.alloc (.cells #[.int .i64 0, .int .i64 0, .int .i64 0, .bool false] 23)).cell? ⟨w2.heap.size, 2, none⟩ = some (.int .i64 0) := by go_simp
  have d7 : (w3.alloc (.cells #[.int .i64 0, .int .i64 0, .int .i64 0, .bool false] 23)).cell? ⟨w2.heap.size, 3, none⟩ = some (.bool false) := by go_simp
  have d8 : (w3.alloc (.cells #[.int .i64 0, .int .i64 0, .int .i64 0, .bool false] 23)).cell? ⟨w3.heap.size, 0, none⟩ = some (.int .i64 0) := by go_simp
  have d9 : (w3.alloc (.cells #[.int .i64 0, .int .i64 0, .int .i64 0, .bool false] 23)).cell? ⟨w3.heap.size, 1, none⟩ = some (.int .i64 0) := by go_simp
  have d10 : (w3.alloc (.cells #[.int .i64 0, .int .i64 0, .int .i64 0, .bool false] 23)).cell? ⟨w3.heap.size, 2, none⟩ = some (.int .i64 0) := by go_simp
  have d11 : (w3.alloc (.cells #[.int .i64 0, .int .i64 0, .int .i64 0, .bool false] 23)).cell? ⟨w3.heap.size, 3, none⟩ = some (.bool false) := by go_simp
  go_region_held3 (fun w' => w'.cell? ⟨w.heap.size, 0, none⟩ = some (.int .i64 L) ∧ w'.cell? ⟨w.heap.size, 1, none⟩ = some (.int .i64 A) ∧ w'.cell? ⟨w.heap.size, 2, none⟩ = some (.int .i64 B) ∧ w'.cell? ⟨w.heap.size, 3, none⟩ = some (.bool F) ∧ w'.cell? ⟨w2.heap.size, 0, none⟩ = some (.int .i64 0) ∧ w'.cell? ⟨w2.heap.size, 1, none⟩ = some (.int .i64 0) ∧ w'.cell? ⟨w2.heap.size, 2, none⟩ = some (.int .i64 0) ∧ w'.cell? ⟨w2.heap.size, 3, none⟩ = some (.bool false) ∧ w'.cell? ⟨w3.heap.size, 0, none⟩ = some (.int .i64 0) ∧ w'.cell? ⟨w3.heap.size, 1, none⟩ = some (.int .i64 0) ∧ w'.cell? ⟨w3.heap.size, 2, none⟩ = some (.int .i64 0) ∧ w'.cell? ⟨w3.heap.size, 3, none⟩ = some (.bool false)) ((refine ⟨?_, ?_, ?_, ?_, ?_, ?_, ?_, ?_, ?_, ?_, ?_, ?_⟩ <;> repeat (first | (with_reducible assumption) | (with_reducible refine keep_drew ?_) | (with_reducible refine keep_alloc ?_)))) (first | (go_at_call 11; refine (may_any _ _ _ _ _).mono ?_; rintro e w' ⟨rfl, rfl⟩) | (go_at_call 12; refine (rmay_any _ _ _ _ _).mono ?_; rintro e w' ⟨rfl, rfl⟩) | (go_at_call 13; refine (release_ex _ _ _ _ _).mono ?_; rintro e w' ⟨rfl, rfl⟩) | (go_at_call 14; refine (rrelease_ex _ _ _ _ _).mono ?_; rintro e w' ⟨rfl, rfl⟩))
  go_wp2
  go_ret
  refine ⟨rfl, ?_⟩
  repeat (first | exact g3 | refine Below.setCell ?_ (by first | omega | (simp; omega)) _ | refine Below.alloc ?_ (by first | omega | (simp; omega)) _ | refine Below.drew ?_)
set_option maxHeartbeats 1000000 in
theorem takes_arg (L A B t now : Int) (F : Bool) (w : World) (hm : mayB L A B = false ∨ isTime t = false ∨ isTime now = false) :
   Calls Try.prog 3 #[.agg #[.int .i64 L, .int .i64 A, .int .i64 B, .bool F], .int .i64 t, .int .i64 now] w fun e w' => e = .returned (.bool true) ∧ Below w.heap.size w w' := by
  have Hhm := Lib.hid hm
  clear hm
  go_enter Try.func3, Try.ntmps3
  go_wp2_with fail
  refine (awake_any _).mono ?_
  rintro e w1 ⟨rfl, hb1⟩
  have c1_0_0 := cell_later hb1 (a := ⟨w.heap.size, 0, none⟩) (v := .int .i64 L) (by go_simp)
  have c1_0_1 := cell_later hb1 (a := ⟨w.heap.size, 1, none⟩) (v := .int .i64 A) (by go_simp)
  have c1_0_2 := cell_later hb1 (a := ⟨w.heap.size, 2, none⟩) (v := .int .i64 B) (by go_simp)
  have c1_0_3 := cell_later hb1 (a := ⟨w.heap.size, 3, none⟩) (v := .bool F) (by go_simp)
  have y1_0 : w.heap.size < w1.heap.size := by have := hb1.size; (try simp at this); omega
  have z1 := hb1.size
  try simp at z1
  have g1 : Below w.heap.size w w1 := by
    refine below_from ?_ hb1
    repeat (first | exact (Below.refl _ _) | refine Below.setCell ?_ (by first | omega | (simp; omega)) _ | refine Below.alloc ?_ (by first | omega | (simp; omega)) _ | refine Below.drew ?_)
  have q1 := g1.size
  go_wp2_with fail
  refine (take_arg _ _ _ _ _ _ _ Hhm.out).mono ?_
  rintro e w2 ⟨rfl, hb2⟩
  have c2_0_0 := cell_later hb2 (a := ⟨w.heap.size, 0, none⟩) (v := .int .i64 L) (by go_simp)
  have c2_0_1 := cell_later hb2 (a := ⟨w.heap.size, 1, none⟩) (v := .int .i64 A) (by go_simp)
  have c2_0_2 := cell_later hb2 (a := ⟨w.heap.size, 2, none⟩) (v := .int .i64 B) (by go_simp)
  have c2_0_3 := cell_later hb2 (a := ⟨w.heap.size, 3, none⟩) (v := .bool F) (by go_simp)
  have y2_0 : w.heap.size < w2.heap.size := by have := hb2.size; (try simp at this); omega
  have z2 := hb2.size
  try simp at z2
  have g2 : Below w.heap.size w w2 := by
    refine below_from ?_ hb2
    repeat (first | exact g1 | refine Below.setCell ?_ (by first | omega | (simp; omega)) _ | refine Below.alloc ?_ (by first | omega | (simp; omega)) _ | refine Below.drew ?_)
  have q2 := g2.size
  go_wp2_with fail
  refine (rtake_arg _ _ _ _ _ _ _ Hhm.out).mono ?_
  rintro e w3 ⟨rfl, hb3⟩
  have c3_0_0 := cell_later hb3 (a := ⟨w.heap.size, 0, none⟩) (v := .int .i64 L) (by go_simp)
  have c3_0_1 := cell_later hb3 (a := ⟨w.heap.size, 1, none⟩) (v := .int .i64 A) (by go_simp)
  have c3_0_2 := cell_later hb3 (a := ⟨w.heap.size, 2, none⟩) (v := .int .i64 B) (by go_simp)
  have c3_0_3 := cell_later hb3 (a := ⟨w.heap.size, 3, none⟩) (v := .bool F) (by go_simp)
  have c3_1_0 := cell_later hb3 (a := ⟨w2.heap.size, 0, none⟩) (v := .int .i64 0) (by go_simp)
  have c3_1_1 := cell_later hb3 (a := ⟨w2.heap.size, 1, none⟩) (v := .int .i64 0) (by go_simp)
  have c3_1_2 := cell_later hb3 (a := ⟨w2.heap.size, 2, none⟩) (v := .int .i64 0) (by go_simp)
  have c3_1_3 := cell_later hb3 (a := ⟨w2.heap.size, 3, none⟩) (v := .bool false) (by go_simp)
  have y3_0 : w.heap.size < w3.heap.size := by have := hb3.size; (try simp at this); omega
  have y3_1 : w2.heap.size < w3.heap.size := by have := hb3.size; (try simp at this); omega
  have z3 := hb3.size
  try simp at z3
  have g3 : Below w.heap.size w w3 := by
    refine below_from ?_ hb3
    repeat (first | exact g2 | refine Below.setCell ?_ (by first | omega | (simp; omega)) _ | refine Below.alloc ?_ (by first | omega | (simp; omega)) _ | refine Below.drew ?_)
  have q3 := g3.size
  go_wp2_with fail
  have d0 : (w3.alloc (.cells #[.int .i64 0, .int .i64 0, .int .i64 0, .bool false] 23)).cell? ⟨w.heap.size, 0, none⟩ = some (.int .i64 L) := by go_simp
  have d1 : (w3.alloc (.cells #[.int .i64 0, .int .i64 0, .int .i64 0, .bool false] 23)).cell? ⟨w.heap.size, 1, none⟩ = some (.int .i64 A) := by go_simp
  have d2 : (w3.alloc (.cells #[.int .i64 0, .int .i64 0, .int .i64 0, .bool false] 23)).cell? ⟨w.heap.size, 2, none⟩ = some (.int .i64 B) := by go_simp
  have d3 : (w3.alloc (.cells #[.int .i64 0, .int .i64 0, .int .i64 0, .bool false] 23)).cell? ⟨w.heap.size, 3, none⟩ = some (.bool F) := by go_simp
  have d4 : (w3.alloc (.cells #[.int .i64 0, .int .i64 0, .int .i64 0, .bool false] 23)).cell? ⟨w2.heap.size, 0, none⟩ = some (.int .i64 0) := by go_simp
  have d5 : (w3.alloc (.cells #[.int .i64 0, .int .i64 0, .int .i64 0, .bool false] 23)).cell? ⟨w2.heap.size, 1, none⟩ = some (.int .i64 0) := by go_simp
  have d6 : (w3.alloc (.cells #[.int .i64 0, .int .i64 0, .int .i64 0, .bool false] 23)).cell? ⟨w2.heap.size, 2, none⟩ = some (.int .i64 0) := by go_simp
  have d7 : (w3.alloc (.cells #[.int .i64 0, .int .i64 0, .int .i64 0, .bool false] 23)).cell? ⟨w2.heap.size, 3, none⟩ = some (.bool false) := by go_simp
  have d8 : (w3.alloc (.cells #[.int .i64 0, .int .i64 0, .int .i64 0, .bool false] 23)).cell? ⟨w3.heap.size, 0, none⟩ = some (.int .i64 0) := by go_simp
  have d9 : (w3.alloc (.cells #[.int .i64 0, .int .i64 0, .int .i64 0, .bool false] 23)).cell? ⟨w3.heap.size, 1, none⟩ = some (.int .i64 0) := by go_simp
  have d10 : (w3.alloc (.cells #[.int .i64 0, .int .i64 0, .int .i64 0, .bool false] 23)).cell? ⟨w3.heap.size, 2, none⟩ = some (.int .i64 0) := by go_simp
  have d11 : (w3.alloc (.cells #[.int .i64 0, .int .i64 0, .int .i64 0, .bool false] 23)).cell? ⟨w3.heap.size, 3, none⟩ = some (.bool false) := by go_simp
  go_region_held3 (fun w' => w'.cell? ⟨w.heap.size, 0, none⟩ = some (.int .i64 L) ∧ w'.cell? ⟨w.heap.size, 1, none⟩ = some (.int .i64 A) ∧ w'.cell? ⟨w.heap.size, 2, none⟩ = some (.int .i64 B) ∧ w'.cell? ⟨w.heap.size, 3, none⟩ = some (.bool F) ∧ w'.cell? ⟨w2.heap.size, 0, none⟩ = some (.int .i64 0) ∧ w'.cell? ⟨w2.heap.size, 1, none⟩ = some (.int .i64 0) ∧ w'.cell? ⟨w2.heap.size, 2, none⟩ = some (.int .i64 0) ∧ w'.cell? ⟨w2.heap.size, 3, none⟩ = some (.bool false) ∧ w'.cell? ⟨w3.heap.size, 0, none⟩ = some (.int .i64 0) ∧ w'.cell? ⟨w3.heap.size, 1, none⟩ = some (.int .i64 0) ∧ w'.cell? ⟨w3.heap.size, 2, none⟩ = some (.int .i64 0) ∧ w'.cell? ⟨w3.heap.size, 3, none⟩ = some (.bool false)) ((refine ⟨?_, ?_, ?_, ?_, ?_, ?_, ?_, ?_, ?_, ?_, ?_, ?_⟩ <;> repeat (first | (with_reducible assumption) | (with_reducible refine keep_drew ?_) | (with_reducible refine keep_alloc ?_)))) (first | (go_at_call 11; refine (may_any _ _ _ _ _).mono ?_; rintro e w' ⟨rfl, rfl⟩) | (go_at_call 12; refine (rmay_any _ _ _ _ _).mono ?_; rintro e w' ⟨rfl, rfl⟩) | (go_at_call 13; refine (release_ex _ _ _ _ _).mono ?_; rintro e w' ⟨rfl, rfl⟩) | (go_at_call 14; refine (rrelease_ex _ _ _ _ _).mono ?_; rintro e w' ⟨rfl, rfl⟩))
  go_wp2
  go_ret
  refine ⟨rfl, ?_⟩
  repeat (first | exact g3 | refine Below.setCell ?_ (by first | omega | (simp; omega)) _ | refine Below.alloc ?_ (by first | omega | (simp; omega)) _ | refine Below.drew ?_)

theorem takes_any (L A B t now : Int) (F : Bool) (w : World) :
   Calls Try.prog 3 #[.agg #[.int .i64 L, .int .i64 A, .int .i64 B, .bool F], .int .i64 t, .int .i64 now] w fun e w' => e = .returned (.bool true) ∧ Below w.heap.size w w' := by
  by_cases hm : mayB L A B = true
  · by_cases ht : isTime t = true
    · by_cases hn : isTime now = true
      · by_cases hk : takeB L A B t now F = true
        · exact takes_ok L A B t now F w hm ht hn hk
        · exact takes_stale L A B t now F w hm ht hn (by simpa using hk)
      · exact takes_arg L A B t now F w (.inr (.inr (by simpa using hn)))
    · exact takes_arg L A B t now F w (.inr (.inl (by simpa using ht)))
  · exact takes_arg L A B t now F w (.inl (by simpa using hm))
end Go.Proofs.Ythhjiakbhobphaa
