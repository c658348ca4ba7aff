/- awake, the chapter's examples of the statements of layer 11: it answers true, and writes into new memory alone. -/
import Derived.Test.YthhjiakbhobphaaSmall
import Derived.Deep.RegionWith
namespace Go.Proofs.Ythhjiakbhobphaa
open Go.RowKit

theorem below_from {W w w1 : World} (h : Below w.heap.size w W) (hb : Below W.heap.size W w1) : Below w.heap.size w w1 := h.trans (hb.mono h.size)

set_option maxHeartbeats 2000000 in
theorem awake_any (w : World) : Calls Try.prog 8 #[] w fun e w' => e = .returned (.bool true) ∧ Below w.heap.size w w' := by
  go_enter Try.func8, Try.ntmps8
  go_wp2_with fail
  refine (new_ok 10 100 _ rfl rfl).mono ?_
  rintro e w1 ⟨rfl, hb1⟩
  have z1 := hb1.size
  try simp at z1
  have g1 : Below w.heap.size w w1 := by
    refine below_from ?_ hb1
    repeat (first | exact (Below.refl _ _) | refine Below.setCell ?_ (by first | omega | (simp; omega)) _ | refine Below.alloc ?_ (by first | omega | (simp; omega)) _ | refine Below.drew ?_)
  have q1 := g1.size
  go_wp2_with fail
  refine (take_ok (-1) 10 100 50 60 false _ rfl rfl rfl rfl).mono ?_
  rintro e w2 ⟨rfl, hb2⟩
  have c2_0_0 := cell_later hb2 (a := ⟨w1.heap.size, 0, none⟩) (v := .int .i64 (-1)) (by go_simp)
  have f2_0_0 : w2.frozen? ⟨w1.heap.size, 0, none⟩ = false := (hb2.frozen (p := ⟨w1.heap.size, 0, none⟩) (by go_simp)).trans (by go_simp)
  have c2_0_1 := cell_later hb2 (a := ⟨w1.heap.size, 1, none⟩) (v := .int .i64 (10)) (by go_simp)
  have f2_0_1 : w2.frozen? ⟨w1.heap.size, 1, none⟩ = false := (hb2.frozen (p := ⟨w1.heap.size, 1, none⟩) (by go_simp)).trans (by go_simp)
  have c2_0_2 := cell_later hb2 (a := ⟨w1.heap.size, 2, none⟩) (v := .int .i64 (100)) (by go_simp)
  have f2_0_2 : w2.frozen? ⟨w1.heap.size, 2, none⟩ = false := (hb2.frozen (p := ⟨w1.heap.size, 2, none⟩) (by go_simp)).trans (by go_simp)
  have c2_0_3 := cell_later hb2 (a := ⟨w1.heap.size, 3, none⟩) (v := .bool false) (by go_simp)
  have f2_0_3 : w2.frozen? ⟨w1.heap.size, 3, none⟩ = false := (hb2.frozen (p := ⟨w1.heap.size, 3, none⟩) (by go_simp)).trans (by go_simp)
  have y2_0 : w1.heap.size < w2.heap.size := by have := hb2.size; (try simp at this); omega
  have z2 := hb2.size
  try simp at z2
  have g2 : Below w.heap.size w w2 := by
    refine below_from ?_ hb2
    repeat (first | exact g1 | refine Below.setCell ?_ (by first | omega | (simp; omega)) _ | refine Below.alloc ?_ (by first | omega | (simp; omega)) _ | refine Below.drew ?_)
  have q2 := g2.size
  go_wp2_with fail
  refine (take_stale 50 10 100 50 60 false _ rfl rfl rfl rfl).mono ?_
  rintro e w3 ⟨rfl, hb3⟩
  have c3_0_0 := cell_later hb3 (a := ⟨w1.heap.size, 0, none⟩) (v := .int .i64 (50)) (by go_simp)
  have c3_0_1 := cell_later hb3 (a := ⟨w1.heap.size, 1, none⟩) (v := .int .i64 (10)) (by go_simp)
  have c3_0_2 := cell_later hb3 (a := ⟨w1.heap.size, 2, none⟩) (v := .int .i64 (100)) (by go_simp)
  have c3_0_3 := cell_later hb3 (a := ⟨w1.heap.size, 3, none⟩) (v := .bool false) (by go_simp)
  have y3_0 : w1.heap.size < w3.heap.size := by have := hb3.size; (try simp at this); omega
  have z3 := hb3.size
  try simp at z3
  have g3 : Below w.heap.size w w3 := by
    refine below_from ?_ hb3
    repeat (first | exact g2 | refine Below.setCell ?_ (by first | omega | (simp; omega)) _ | refine Below.alloc ?_ (by first | omega | (simp; omega)) _ | refine Below.drew ?_)
  have q3 := g3.size
  go_wp2_with fail
  refine (take_stale 50 10 100 71 60 false _ rfl rfl rfl rfl).mono ?_
  rintro e w4 ⟨rfl, hb4⟩
  have c4_0_0 := cell_later hb4 (a := ⟨w1.heap.size, 0, none⟩) (v := .int .i64 (50)) (by go_simp)
  have c4_0_1 := cell_later hb4 (a := ⟨w1.heap.size, 1, none⟩) (v := .int .i64 (10)) (by go_simp)
  have c4_0_2 := cell_later hb4 (a := ⟨w1.heap.size, 2, none⟩) (v := .int .i64 (100)) (by go_simp)
  have c4_0_3 := cell_later hb4 (a := ⟨w1.heap.size, 3, none⟩) (v := .bool false) (by go_simp)
  have y4_0 : w1.heap.size < w4.heap.size := by have := hb4.size; (try simp at this); omega
  have z4 := hb4.size
  try simp at z4
  have g4 : Below w.heap.size w w4 := by
    refine below_from ?_ hb4
    repeat (first | exact g3 | refine Below.setCell ?_ (by first | omega | (simp; omega)) _ | refine Below.alloc ?_ (by first | omega | (simp; omega)) _ | refine Below.drew ?_)
  have q4 := g4.size
  go_wp2_with fail
  refine (take_stale 50 10 100 51 152 false _ rfl rfl rfl rfl).mono ?_
  rintro e w5 ⟨rfl, hb5⟩
  have c5_0_0 := cell_later hb5 (a := ⟨w1.heap.size, 0, none⟩) (v := .int .i64 (50)) (by go_simp)
  have c5_0_1 := cell_later hb5 (a := ⟨w1.heap.size, 1, none⟩) (v := .int .i64 (10)) (by go_simp)
  have c5_0_2 := cell_later hb5 (a := ⟨w1.heap.size, 2, none⟩) (v := .int .i64 (100)) (by go_simp)
  have c5_0_3 := cell_later hb5 (a := ⟨w1.heap.size, 3, none⟩) (v := .bool false) (by go_simp)
  have y5_0 : w1.heap.size < w5.heap.size := by have := hb5.size; (try simp at this); omega
  have z5 := hb5.size
  try simp at z5
  have g5 : Below w.heap.size w w5 := by
    refine below_from ?_ hb5
    repeat (first | exact g4 | refine Below.setCell ?_ (by first | omega | (simp; omega)) _ | refine Below.alloc ?_ (by first | omega | (simp; omega)) _ | refine Below.drew ?_)
  have q5 := g5.size
  go_wp2_with fail
  refine (release_any 50 10 100 false _).mono ?_
  rintro e w6 ⟨rfl, hb6⟩
  have c6_0_0 := cell_later hb6 (a := ⟨w1.heap.size, 0, none⟩) (v := .int .i64 (50)) (by go_simp)
  have c6_0_1 := cell_later hb6 (a := ⟨w1.heap.size, 1, none⟩) (v := .int .i64 (10)) (by go_simp)
  have c6_0_2 := cell_later hb6 (a := ⟨w1.heap.size, 2, none⟩) (v := .int .i64 (100)) (by go_simp)
  have c6_0_3 := cell_later hb6 (a := ⟨w1.heap.size, 3, none⟩) (v := .bool false) (by go_simp)
  have y6_0 : w1.heap.size < w6.heap.size := by have := hb6.size; (try simp at this); omega
  have z6 := hb6.size
  try simp at z6
  have g6 : Below w.heap.size w w6 := by
    refine below_from ?_ hb6
    repeat (first | exact g5 | refine Below.setCell ?_ (by first | omega | (simp; omega)) _ | refine Below.alloc ?_ (by first | omega | (simp; omega)) _ | refine Below.drew ?_)
  have q6 := g6.size
  go_wp2_with fail
  refine (take_ok 50 10 100 40 60 true _ rfl rfl rfl rfl).mono ?_
  rintro e w7 ⟨rfl, hb7⟩
  have c7_0_0 := cell_later hb7 (a := ⟨w1.heap.size, 0, none⟩) (v := .int .i64 (50)) (by go_simp)
  have c7_0_1 := cell_later hb7 (a := ⟨w1.heap.size, 1, none⟩) (v := .int .i64 (10)) (by go_simp)
  have c7_0_2 := cell_later hb7 (a := ⟨w1.heap.size, 2, none⟩) (v := .int .i64 (100)) (by go_simp)
  have c7_0_3 := cell_later hb7 (a := ⟨w1.heap.size, 3, none⟩) (v := .bool false) (by go_simp)
  have y7_0 : w1.heap.size < w7.heap.size := by have := hb7.size; (try simp at this); omega
  have z7 := hb7.size
  try simp at z7
  have g7 : Below w.heap.size w w7 := by
    refine below_from ?_ hb7
    repeat (first | exact g6 | refine Below.setCell ?_ (by first | omega | (simp; omega)) _ | refine Below.alloc ?_ (by first | omega | (simp; omega)) _ | refine Below.drew ?_)
  have q7 := g7.size
  go_wp2_with fail
  go_ret
  refine ⟨rfl, ?_⟩
  repeat (first | exact g7 | refine Below.setCell ?_ (by first | omega | (simp; omega)) _ | refine Below.alloc ?_ (by first | omega | (simp; omega)) _ | refine Below.drew ?_)
end Go.Proofs.Ythhjiakbhobphaa
