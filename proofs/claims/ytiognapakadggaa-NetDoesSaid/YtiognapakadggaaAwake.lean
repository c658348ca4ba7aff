/- awake, the chapter's examples of the statements of layer 22: it answers true, and writes into new memory alone. -/
import Derived.Test.YtiognapakadggaaConv
namespace Go.Proofs.Ytiognapakadggaa
open Go.RowKit

theorem step_box {w W W' w2 : World} {b : Nat} {v v2 : Value} {fs : List Fl} (hw : Below w.heap.size w W) (hb : w.heap.size ≤ b) (K : HasBlk W b 26 #[v]) (X : Below W.heap.size W W') (hf : Fresh w2 W'.heap.size v2 fs) (h2 : Below W'.heap.size W' w2) :
    w2.cell? ⟨b, 0, none⟩ = some v ∧ w2.frozen? ⟨b, 0, none⟩ = false ∧ b < w2.heap.size ∧ HasBlk (w2.setCell ⟨b, 0, none⟩ v2) b 26 #[v2] ∧ NetAt (w2.setCell ⟨b, 0, none⟩ v2) v2 fs ∧ Below w.heap.size w (w2.setCell ⟨b, 0, none⟩ v2) := by
  have hs := hw.size
  have K1 := K.later X
  have K2 := K1.later h2
  refine ⟨by simpa using K2.cell 0, K2.free 0, K2.lt, by simpa using K2.put 0 v2, (hf.put_low (Nat.lt_of_lt_of_le K.lt X.size) 0 v2).netAt, ?_⟩
  exact (below_on (Nat.le_trans hs X.size) (below_on hs hw X) h2).setCell (p := ⟨b, 0, none⟩) hb v2

theorem BytesAt.box {w : World} {v : Value} {bs : List UInt8} {b : Nat} {A : Option Addr} {n c : Nat} (h : BytesAt w v bs) (hb : HasBlk w b 26 #[.slice A n c]) (u : Value) : BytesAt (w.setCell ⟨b, 0, none⟩ u) v bs := by
  obtain ⟨A', c', rfl, hc⟩ := h
  refine ⟨_, _, rfl, fun hp => ?_⟩
  obtain ⟨g, o, rfl, hcell⟩ := hc hp
  refine ⟨g, o, rfl, fun j x hj => ?_⟩
  have h1 := hcell j x hj
  refine (World.cell?_setCell_other w _ _ u (fun e => ?_)).trans h1
  have h2 := hb.cell 0
  first | rw [e] at h1 | rw [← e] at h1
  simp [h1] at h2

/-- In w block p holds the piece f. -/
def Piece (w : World) (p : Nat) (f : Fl) : Prop := ∃ B d, HasBlk w p 31 #[.int .i64 f.fr, .int .i64 f.to, .slice B f.b.length d, .bool f.bad] ∧ BytesAt w (.slice B f.b.length d) f.b
theorem Piece.later {w w' : World} {p : Nat} {f : Fl} (h : Piece w p f) (hb : Below w.heap.size w w') : Piece w' p f := by
  obtain ⟨B, d, h1, h2⟩ := h
  exact ⟨B, d, h1.later hb, h2.later hb⟩
theorem Piece.fresh {w : World} {f : Fl} {B : Option Addr} {d : Nat} (h : BytesAt w (.slice B f.b.length d) f.b) : Piece (w.alloc (.cells #[.int .i64 f.fr, .int .i64 f.to, .slice B f.b.length d, .bool f.bad] 31)) w.heap.size f :=
  ⟨B, d, HasBlk.fresh _ _ _, h.later ((Below.refl _ _).alloc (Nat.le_refl _) _)⟩
theorem Piece.carry {w w2 : World} {p b : Nat} {f : Fl} {A : Option Addr} {n c : Nat} (h : Piece w p f) (K : HasBlk w b 26 #[.slice A n c]) (hb : Below w.heap.size w w2) (u : Value) : Piece (w2.setCell ⟨b, 0, none⟩ u) p f := by
  obtain ⟨B, d, h1, h2⟩ := h
  exact ⟨B, d, (h1.later hb).off (p := ⟨b, 0, none⟩) (fun e => HasBlk.ne_ty h1 K (by decide) e) u, (h2.later hb).box (K.later hb) u⟩

set_option maxRecDepth 100000 in
set_option maxHeartbeats 8000000 in
theorem awake_any (w : World) : Calls Try.prog 7 #[] w fun e w' => e = .returned (.bool true) ∧ Below w.heap.size w w' := by
  have kc : ∀ (w : World) (C : Array Value) (n c k : Nat), w.heap.size = k → (convert 27 27 (.slice (some ⟨k, 0, none⟩) n c)).run Try.prog (w.alloc (.cells C 5)) = .ok (.slice (some ⟨k, 0, none⟩) n c) (w.alloc (.cells C 5 (C.size, C.size + 1))) := fun w C n c k h => h ▸ Lib.run_convert_bytes_const (P := Try.prog) w 27 5 C n c Try.underlying27 Try.underlying5
  go_enter Try.func7, Try.ntmps7
  go_wp2_with fail
  refine (send_ok _ [] 1 2 _ [97] _ (netNil _) (bytes_const w 97 97 rfl) (by simp) (by simp) (by simp) (by simp)).mono ?_
  rintro e w1 ⟨v1, rfl, hf, hb1⟩
  obtain ⟨A1, c1, rfl⟩ := hf.shape
  have N1 := Lib.hid (show NetAt w1 (.slice A1 1 c1) [fA] from hf.netAt)
  have g1 : Below w.heap.size w w1 := below_on (by simp) ((Below.refl _ _).alloc (Nat.le_refl _) _) hb1
  have q1 := g1.size
  clear hf hb1
  go_wp2_with fail
  have K1 : HasBlk (w1.alloc (.cells #[.slice A1 1 c1] 26)) w1.heap.size 26 #[.slice A1 1 c1] := HasBlk.fresh w1 26 _
  have G1 : Below w.heap.size w (w1.alloc (.cells #[.slice A1 1 c1] 26)) := g1.alloc q1 _
  have N1 := Lib.hid (N1.out.later ((Below.refl _ _).alloc (Nat.le_refl _) (.cells #[.slice A1 1 c1] 26)))
  have hz1 : (w1.alloc (.cells #[.slice A1 1 c1] 26)).heap.size = w1.heap.size + 1 := by simp
  generalize hb : w1.heap.size = b at *
  rw [← hz1]
  generalize hW : w1.alloc (.cells #[.slice A1 1 c1] 26) = W1 at *
  clear hW hz1 hb g1
  replace G1 := Lib.hid G1
  replace K1 := Lib.hid K1
  have X1 : Below W1.heap.size W1 (W1.alloc (.cells #[.int .u8 98] 5 (1, 2))) := (Below.refl _ _).alloc (Nat.le_refl _) _
  refine (send_ok _ [fA] 1 2 _ [98] _ (N1.out.later X1) (bytes_const W1 98 98 rfl) (by simp) (small_abc _ (by simp)) (by simp) (by simp)).mono ?_
  rintro e w2 ⟨v2, rfl, hf, hb2⟩
  obtain ⟨A2, c2, rfl⟩ := hf.shape
  have hf : Fresh w2 _ (.slice A2 2 c2) [fA,fB] := hf
  obtain ⟨kc2, kf2, kl2, K2, N2, G2⟩ := step_box G1.out q1 K1.out X1 hf hb2
  replace K2 := Lib.hid K2
  replace N2 := Lib.hid N2
  replace G2 := Lib.hid G2
  clear hf hb2 X1 K1 N1 G1
  go_wp2_with fail
  have hz : (w2.setCell ⟨b, 0, none⟩ (.slice A2 2 c2)).heap.size = w2.heap.size := by simp
  try rw [← hz]
  clear hz
  generalize hW : w2.setCell ⟨b, 0, none⟩ (.slice A2 2 c2) = W2 at N2 K2 G2 ⊢
  clear hW kc2 kf2 kl2
  have X2 : Below W2.heap.size W2 (W2.alloc (.cells #[.int .u8 99] 5 (1, 2))) := (Below.refl _ _).alloc (Nat.le_refl _) _
  refine (send_ok _ [fA,fB] 1 2 _ [99] _ (N2.out.later X2) (bytes_const W2 99 99 rfl) (by simp) (small_abc _ (by simp)) (by simp) (by simp)).mono ?_
  rintro e w3 ⟨v3, rfl, hf, hb3⟩
  obtain ⟨A3, c3, rfl⟩ := hf.shape
  have hf : Fresh w3 _ (.slice A3 3 c3) [fA,fB,fC] := hf
  obtain ⟨kc3, kf3, kl3, K3, N3, G3⟩ := step_box G2.out q1 K2.out X2 hf hb3
  replace K3 := Lib.hid K3
  replace N3 := Lib.hid N3
  replace G3 := Lib.hid G3
  clear hf hb3 X2 K2 N2 G2
  go_wp2_with fail
  have hz : (w3.setCell ⟨b, 0, none⟩ (.slice A3 3 c3)).heap.size = w3.heap.size := by simp
  try rw [← hz]
  clear hz
  generalize hW : w3.setCell ⟨b, 0, none⟩ (.slice A3 3 c3) = W3 at N3 K3 G3 ⊢
  clear hW kc3 kf3 kl3
  refine (take_some _ [fA,fB,fC] 4 1 fB W3 N3.out rfl (by decide) (by decide) (by simp) (small_abc _ (by simp))).mono ?_
  rintro e w4 ⟨v4, B4, d4, rfl, hf, hB, hb4⟩
  obtain ⟨A4, c4, rfl⟩ := hf.shape
  have hf : Fresh w4 _ (.slice A4 2 c4) [fA,fC] := hf
  obtain ⟨kc4, kf4, kl4, K4, N4, G4⟩ := step_box G3.out q1 K3.out (Below.refl _ _) hf hb4
  have HB4 := Lib.hid (hB.box (K3.out.later hb4) (.slice A4 2 c4))
  replace K4 := Lib.hid K4
  replace N4 := Lib.hid N4
  replace G4 := Lib.hid G4
  clear hf hb4 K3 N3 G3 hB
  go_wp2_with fail
  have hz : (w4.setCell ⟨b, 0, none⟩ (.slice A4 2 c4)).heap.size = w4.heap.size := by simp
  have hx : Below (w4.setCell ⟨b, 0, none⟩ (.slice A4 2 c4)).heap.size (w4.setCell ⟨b, 0, none⟩ (.slice A4 2 c4)) ((w4.setCell ⟨b, 0, none⟩ (.slice A4 2 c4)).alloc (.cells #[.int .i64 fB.fr, .int .i64 fB.to, .slice B4 fB.b.length d4, .bool fB.bad] 31)) := (Below.refl _ _).alloc (Nat.le_refl _) _
  have P4 : Hid (Piece ((w4.setCell ⟨b, 0, none⟩ (.slice A4 2 c4)).alloc (.cells #[.int .i64 fB.fr, .int .i64 fB.to, .slice B4 fB.b.length d4, .bool fB.bad] 31)) w4.heap.size fB) := Lib.hid (hz ▸ Piece.fresh HB4.out)
  replace K4 := Lib.hid (K4.out.later hx)
  replace N4 := Lib.hid (N4.out.later hx)
  have s4 := G4.out.size
  rw [hz] at s4
  replace G4 := Lib.hid (below_on G4.out.size G4.out hx)
  clear hx hz HB4
  generalize hp : w4.heap.size = p4 at P4 s4 ⊢
  generalize hW : (w4.setCell ⟨b, 0, none⟩ (.slice A4 2 c4)).alloc (.cells #[.int .i64 fB.fr, .int .i64 fB.to, .slice B4 fB.b.length d4, .bool fB.bad] 31) = W4 at N4 K4 G4 P4 ⊢
  clear hW hp kc4 kf4 kl4
  refine (take_some _ [fA,fC] (-1) 0 fA W4 N4.out rfl (by decide) (by decide) (by simp) (small_abc _ (by simp))).mono ?_
  rintro e w5 ⟨v5, B5, d5, rfl, hf, hB, hb5⟩
  obtain ⟨A5, c5, rfl⟩ := hf.shape
  have hf : Fresh w5 _ (.slice A5 1 c5) [fC] := hf
  obtain ⟨kc5, kf5, kl5, K5, N5, G5⟩ := step_box G4.out q1 K4.out (Below.refl _ _) hf hb5
  have HB5 := Lib.hid (hB.box (K4.out.later hb5) (.slice A5 1 c5))
  replace P4 := Lib.hid (P4.out.carry K4.out hb5 (.slice A5 1 c5))
  replace K5 := Lib.hid K5
  replace N5 := Lib.hid N5
  replace G5 := Lib.hid G5
  clear hf hb5 K4 N4 G4 hB
  go_wp2_with fail
  have hz : (w5.setCell ⟨b, 0, none⟩ (.slice A5 1 c5)).heap.size = w5.heap.size := by simp
  have hx : Below (w5.setCell ⟨b, 0, none⟩ (.slice A5 1 c5)).heap.size (w5.setCell ⟨b, 0, none⟩ (.slice A5 1 c5)) ((w5.setCell ⟨b, 0, none⟩ (.slice A5 1 c5)).alloc (.cells #[.int .i64 fA.fr, .int .i64 fA.to, .slice B5 fA.b.length d5, .bool fA.bad] 31)) := (Below.refl _ _).alloc (Nat.le_refl _) _
  have P5 : Hid (Piece ((w5.setCell ⟨b, 0, none⟩ (.slice A5 1 c5)).alloc (.cells #[.int .i64 fA.fr, .int .i64 fA.to, .slice B5 fA.b.length d5, .bool fA.bad] 31)) w5.heap.size fA) := Lib.hid (hz ▸ Piece.fresh HB5.out)
  replace K5 := Lib.hid (K5.out.later hx)
  replace N5 := Lib.hid (N5.out.later hx)
  have s5 := G5.out.size
  rw [hz] at s5
  replace G5 := Lib.hid (below_on G5.out.size G5.out hx)
  replace P4 := Lib.hid (P4.out.later hx)
  clear hx hz HB5
  generalize hp : w5.heap.size = p5 at P5 s5 ⊢
  generalize hW : (w5.setCell ⟨b, 0, none⟩ (.slice A5 1 c5)).alloc (.cells #[.int .i64 fA.fr, .int .i64 fA.to, .slice B5 fA.b.length d5, .bool fA.bad] 31) = W5 at N5 K5 G5 P4 P5 ⊢
  clear hW hp kc5 kf5 kl5
  refine (turn_ok _ [fC] 0 5 1 0 fC W5 N5.out rfl (by decide) (by decide) (by simp) (small_abc _ (by simp)) rfl rfl rfl 0 99 rfl (by decide) (by decide)).mono ?_
  rintro e w6 ⟨v6, rfl, hf, hb6⟩
  obtain ⟨A6, c6, rfl⟩ := hf.shape
  have hf : Fresh w6 _ (.slice A6 1 c6) [turnF fC 0 (99 ^^^ 1)] := hf
  obtain ⟨kc6, kf6, kl6, K6, N6, G6⟩ := step_box G5.out q1 K5.out (Below.refl _ _) hf hb6
  replace P4 := Lib.hid (P4.out.carry K5.out hb6 (.slice A6 1 c6))
  replace P5 := Lib.hid (P5.out.carry K5.out hb6 (.slice A6 1 c6))
  replace K6 := Lib.hid K6
  replace N6 := Lib.hid N6
  replace G6 := Lib.hid G6
  have s4' := Nat.le_trans s4 (Nat.le_refl _)
  clear hf hb6 K5 N5 G5
  go_wp2_with fail
  generalize hW : w6.setCell ⟨b, 0, none⟩ (.slice A6 1 c6) = W6 at N6 K6 G6 P4 P5 ⊢
  clear hW kc6 kf6 kl6
  refine (turn_bad _ [turnF fC 0 (99 ^^^ 1)] 0 5 1 0 _ W6 N6.out rfl (by decide) (by decide) (by simp) (small_abc _ (by simp)) rfl).mono ?_
  rintro e w7 ⟨rfl, hb7⟩
  replace P4 := Lib.hid (P4.out.later hb7)
  replace P5 := Lib.hid (P5.out.later hb7)
  replace N6 := Lib.hid (N6.out.later hb7)
  replace K6 := Lib.hid (K6.out.later hb7)
  have s6 := G6.out.size
  replace G6 := Lib.hid (below_on s6 G6.out hb7)
  have kc7 := K6.out.cell 0
  have kf7 := K6.out.free 0
  have kl7 := K6.out.lt
  simp at kc7
  clear s6 hb7
  go_wp2_with fail
  have hx : Below w7.heap.size w7 (w7.alloc (.cells #[.slice none 0 0] 26)) := (Below.refl _ _).alloc (Nat.le_refl _) _
  replace P4 := Lib.hid (P4.out.later hx)
  replace P5 := Lib.hid (P5.out.later hx)
  replace N6 := Lib.hid (N6.out.later hx)
  replace K6 := Lib.hid (K6.out.later hx)
  replace G6 := Lib.hid (below_on G6.out.size G6.out hx)
  generalize hW : w7.alloc (.cells #[.slice none 0 0] 26) = W7 at N6 K6 G6 P4 P5 ⊢
  clear hW hx kc7 kf7 kl7
  refine (take_some _ [turnF fC 0 (99 ^^^ 1)] 0 0 (turnF fC 0 (99 ^^^ 1)) W7 N6.out rfl (by decide) (by decide) (by simp) (small_abc _ (by simp))).mono ?_
  rintro e w8 ⟨v8, B8, d8, rfl, hf, hB, hb8⟩
  obtain ⟨A8, c8, rfl⟩ := hf.shape
  replace P4 := P4.out.later hb8
  replace P5 := P5.out.later hb8
  have s6 := G6.out.size
  replace G6 := Lib.hid (below_on s6 G6.out hb8)
  obtain ⟨B4, d4, h4, b4⟩ := P4
  obtain ⟨B5, d5, h5, b5⟩ := P5
  have k4 : w8.cell? ⟨p4, 2, none⟩ = some (.slice B4 fB.b.length d4) := by simpa using h4.cell 2
  have k5 : w8.cell? ⟨p5, 2, none⟩ = some (.slice B5 fA.b.length d5) := by simpa using h5.cell 2
  have l4 := h4.lt
  have l5 := h5.lt
  have l4' : p4 < w8.heap.size + 1 := by omega
  have l5' : p5 < w8.heap.size + 1 := by omega
  have x2 : ∀ o1 o2 : Obj, Below w8.heap.size w8 ((w8.alloc o1).alloc o2) := fun o1 o2 => ((Below.refl _ _).alloc (Nat.le_refl _) o1).alloc (by simp) o2
  have v4 : ∀ o1 o2 : Obj, (convert 27 9 (.slice B4 fB.b.length d4)).run Try.prog ((w8.alloc o1).alloc o2) = .ok (.string ⟨#[98]⟩) ((w8.alloc o1).alloc o2) := fun o1 o2 => conv_bytes (b4.later (x2 o1 o2))
  have v5 : ∀ o1 o2 : Obj, (convert 27 9 (.slice B5 fA.b.length d5)).run Try.prog ((w8.alloc o1).alloc o2) = .ok (.string ⟨#[97]⟩) ((w8.alloc o1).alloc o2) := fun o1 o2 => conv_bytes (b5.later (x2 o1 o2))
  have v8 : ∀ o1 o2 : Obj, (convert 27 9 (.slice B8 (turnF fC 0 (99 ^^^ 1)).b.length d8)).run Try.prog ((w8.alloc o1).alloc o2) = .ok (.string ⟨#[98]⟩) ((w8.alloc o1).alloc o2) := fun o1 o2 => conv_bytes (hB.later (x2 o1 o2))
  clear hf hB hb8 s6 K6 N6 h4 h5 b4 b5 x2
  have s8 := G6.out.size
  go_wp2_with fail
  refine bodyPost_ret (v := .bool (turnF fC 0 (99 ^^^ 1)).bad) (by simp [results, Try.results7, go_sem]) rfl ⟨rfl, ?_⟩
  exact (G6.out.alloc s8 _).alloc (by simp; omega) _
end Go.Proofs.Ytiognapakadggaa
