/- The program's calls and the reference's answer one net: of each pair one statement. What stands in memory while NetDoes goes on. -/
import Derived.Test.YtiognapakadggaaRefG
import Derived.Test.YtiognapakadggaaNClearW
namespace Go.Proofs.Ytiognapakadggaa
open Go.RowKit

/-- A net that is small. -/
def Sml (fs : List Fl) : Prop := fs.length ≤ 60 ∧ ∀ f ∈ fs, f.b.length ≤ 2000
theorem Sml.of_light {fs : List Fl} (h : lightB fs = true) : Sml fs := by
  simp [lightB] at h
  exact h
theorem Sml.big {fs : List Fl} (h : Sml fs) : ∀ f ∈ fs, f.b.length ≤ 1000000 := fun f hf => Nat.le_trans (h.2 f hf) (by omega)

theorem NetB.of_send {w w' : World} {fs : List Fl} {ok : Bool} {e : Ending} (h : SendR w fs ok e w') : NetB w fs ok e w' := by
  obtain ⟨v, h1, h2, h3⟩ := h
  exact ⟨v, h1, h2.netAt, h3⟩
theorem NetC.of_kept {w w' : World} {fs : List Fl} {e : Ending} (h : KeptR w fs e w') : NetC w fs e w' := by
  obtain ⟨v, h1, h2, h3⟩ := h
  exact ⟨v, h1, h2.netAt, h3⟩

theorem send_agree (fs : List Fl) (hs : Sml fs) (fr tt : Int) (b : List UInt8) (hb : b.length ≤ 2000) : ∃ (L : List Fl) (ok : Bool), L.length ≤ 1000 ∧
    (∀ (w : World) (v bv : Value), NetAt w v fs → BytesAt w bv b → Calls Try.prog 8 #[.agg #[v], .int .i64 fr, .int .i64 tt, bv] w (NetB w L ok)) ∧
    (∀ (w : World) (v bv : Value), NetAt w v fs → BytesAt w bv b → Calls Try.prog 13 #[.agg #[v], .int .i64 fr, .int .i64 tt, bv] w (NetB w L ok)) := by
  have hl := hs.1
  by_cases hr : fs.length < 40
  · exact ⟨_, true, by simp; omega, fun w v bv h1 h2 => (send_ok v fs fr tt bv b w h1 h2 (by omega) hs.big (by omega) hr).mono fun _ _ => NetB.of_send, fun w v bv h1 h2 => rsend_ok v fs fr tt bv b w h1 h2 hr⟩
  · exact ⟨fs, false, by omega, fun w v bv h1 h2 => (send_full v fs fr tt bv b w h1 h2 (by omega) hs.big (by omega)).mono fun _ _ => NetB.of_send, fun w v bv h1 _ => rsend_full v fs fr tt bv w h1 (by omega)⟩

/-- What a call that answers a net, a piece and an error says. -/
def TakeG (w : World) (fs : List Fl) (f : Fl) (n : Int) (e : Ending) (w' : World) : Prop :=
  ∃ v A c, e = .returned (.tuple #[.agg #[v], .agg #[.int .i64 f.fr, .int .i64 f.to, .slice A f.b.length c, .bool f.bad], .int .i64 n]) ∧ NetAt w' v fs ∧ BytesAt w' (.slice A f.b.length c) f.b ∧ Below w.heap.size w w'
theorem TakeG.of_n {w w' : World} {e : Ending} (h : TakeN w e w') : TakeG w [] ⟨0, 0, [], false⟩ 4 e w' := ⟨_, none, 0, h.1, netNil _, ⟨none, 0, rfl, fun hp => absurd hp (by simp)⟩, h.2⟩
theorem TakeG.of_s {w w' : World} {e : Ending} {fs : List Fl} {k : Nat} {f : Fl} (h : TakeS w fs k f e w') : TakeG w (fs.eraseIdx k) f 0 e w' := by
  obtain ⟨v, A, c, h1, h2, h3, h4⟩ := h
  exact ⟨v, A, c, h1, h2.netAt, h3, h4⟩
theorem TakeG.of_e {w w' : World} {e : Ending} {fs : List Fl} {f : Fl} (h : TakeE w fs f e w') : TakeG w fs f 0 e w' := h

theorem len_erase (fs : List Fl) (k : Nat) : (fs.eraseIdx k).length ≤ fs.length := by rw [List.length_eraseIdx]; split <;> omega

theorem take_agree (fs : List Fl) (hs : Sml fs) (i : Int) (hi : i ≤ 9223372036854775807) : ∃ (L : List Fl) (f : Fl) (n : Int), L.length ≤ 1000 ∧
    (∀ (w : World) (v : Value), NetAt w v fs → Calls Try.prog 9 #[.agg #[v], .int .i64 i] w (TakeG w L f n)) ∧
    (∀ (w : World) (A : Option Addr) (c : Nat), NetAt w (.slice A fs.length c) fs → fs.length ≤ c → Calls Try.prog 15 #[.agg #[.slice A fs.length c], .int .i64 i] w (TakeG w L f n)) := by
  have hl := hs.1
  by_cases hne : fs = []
  · subst hne
    exact ⟨[], _, 4, by simp, fun w v h => (take_none v i w h).mono fun _ _ => TakeG.of_n, fun w A c h _ => (rtake_none _ i w h).mono fun _ _ => TakeG.of_n⟩
  · obtain ⟨k, f, hf, hk⟩ := of_some hne i
    have := len_erase fs k
    exact ⟨fs.eraseIdx k, f, 0, by omega, fun w v h => (take_some v fs i k f w h hf hk hi (by omega) hs.big).mono fun _ _ => TakeG.of_s, fun w A c h hc => (rtake_some A c fs i k f w h hc hf hk hi (by omega)).mono fun _ _ => TakeG.of_e⟩

theorem drop_agree (fs : List Fl) (hs : Sml fs) (i : Int) (hi : i ≤ 9223372036854775807) : ∃ (L : List Fl) (n : Int), L.length ≤ 1000 ∧
    (∀ (w : World) (v : Value), NetAt w v fs → Calls Try.prog 16 #[.agg #[v], .int .i64 i] w (NetE w L n)) ∧
    (∀ (w : World) (A : Option Addr) (c : Nat), NetAt w (.slice A fs.length c) fs → fs.length ≤ c → Calls Try.prog 17 #[.agg #[.slice A fs.length c], .int .i64 i] w (NetE w L n)) := by
  have hl := hs.1
  by_cases hne : fs = []
  · subst hne
    exact ⟨[], 4, by simp, fun w v h => drop_none v i w h, fun w A c h _ => rdrop_none _ i w h⟩
  · obtain ⟨k, f, hf, hk⟩ := of_some hne i
    have := len_erase fs k
    exact ⟨fs.eraseIdx k, 0, by omega, fun w v h => drop_some v fs i k f w h hf hk hi (by omega) hs.big, fun w A c h hc => rdrop_some A c fs i k f w h hc hf hk hi (by omega)⟩

theorem double_agree (fs : List Fl) (hs : Sml fs) (i : Int) (hi : i ≤ 9223372036854775807) : ∃ (L : List Fl) (n : Int), L.length ≤ 1000 ∧
    (∀ (w : World) (v : Value), NetAt w v fs → Calls Try.prog 18 #[.agg #[v], .int .i64 i] w (NetE w L n)) ∧
    (∀ (w : World) (v : Value), NetAt w v fs → Calls Try.prog 19 #[.agg #[v], .int .i64 i] w (NetE w L n)) := by
  have hl := hs.1
  by_cases hne : fs = []
  · subst hne
    exact ⟨[], 4, by simp, fun w v h => double_none v i w h, fun w v h => rdouble_none v i w h⟩
  · by_cases hr : fs.length < 40
    · obtain ⟨k, f, hf, hk⟩ := of_some hne i
      exact ⟨fs ++ [f], 0, by simp; omega, fun w v h => double_ok v fs i k f w h hf hk hi hr hs.big, fun w v h => rdouble_ok v fs i k f w h hf hk hi hr⟩
    · exact ⟨[], 3, by simp, fun w v h => double_full v fs i w h (by omega) (by omega), fun w v h => rdouble_full v fs i w h (by omega)⟩

theorem turn_agree (fs : List Fl) (hs : Sml fs) (i a : Int) (y : UInt8) (hi : i ≤ 9223372036854775807) (ha : a ≤ 9223372036854775807) : ∃ (L : List Fl) (n : Int), L.length ≤ 1000 ∧
    (∀ (w : World) (v : Value), NetAt w v fs → Calls Try.prog 20 #[.agg #[v], .int .i64 i, .int .i64 a, .int .u8 (y.toNat : Int)] w (NetE w L n)) ∧
    (∀ (w : World) (v : Value), NetAt w v fs → Calls Try.prog 21 #[.agg #[v], .int .i64 i, .int .i64 a, .int .u8 (y.toNat : Int)] w (NetE w L n)) := by
  have hl := hs.1
  by_cases hne : fs = []
  · subst hne
    exact ⟨[], 4, by simp, fun w v h => (turn_none v i a _ w h).mono fun _ _ => NetE.of_err, fun w v h => rturn_none v i a _ w h⟩
  · obtain ⟨k, f, hf, hk⟩ := of_some hne i
    have hfl := hs.2 f (List.mem_of_getElem? hf)
    cases hbad : f.bad with
    | true =>
      exact ⟨[], 6, by simp, fun w v h => (turn_bad v fs i a y k f w h hf hk hi (by omega) hs.big hbad).mono fun _ _ => NetE.of_err,
        fun w v h => rturn_any v fs i a y k f w h hf hk hi ha (by omega) hfl _ (fun _ _ _ h => h) (fun hb => by rw [hbad] at hb; cases hb) (fun hb => by rw [hbad] at hb; cases hb)⟩
    | false =>
      by_cases hy : (y.toNat : Int) = 0
      · exact ⟨[], 1, by simp, fun w v h => (turn_zero v fs i a y k f w h hf hk hi (by omega) hs.big hbad (by simpa using hy)).mono fun _ _ => NetE.of_err,
          fun w v h => rturn_any v fs i a y k f w h hf hk hi ha (by omega) hfl _ (fun hb => by rw [hbad] at hb; cases hb) (fun _ _ _ _ h => h) (fun _ hy' => absurd hy hy')⟩
      · by_cases hb : f.b.length = 0
        · exact ⟨[], 1, by simp, fun w v h => (turn_void v fs i a y k f w h hf hk hi (by omega) hs.big hbad (by simpa using hy) (by simp [hb])).mono fun _ _ => NetE.of_err,
            fun w v h => rturn_any v fs i a y k f w h hf hk hi ha (by omega) hfl _ (fun hb => by rw [hbad] at hb; cases hb) (fun _ _ _ _ h => h) (fun _ _ j x hx => by have := (List.getElem?_eq_some_iff.1 hx).1; omega)⟩
        · have hv : ((f.b.length : Int) == 0) = false := by rw [beq_eq_false_iff_ne]; omega
          obtain ⟨j, x, hx, hj⟩ := of_byte hv a
          refine ⟨fs.set k (turnF f j (x ^^^ y)), 0, by simp; omega, fun w v h => (turn_ok v fs i a y k f w h hf hk hi (by omega) hs.big hbad (by simpa using hy) hv j x hx hj ha).mono fun _ _ => NetE.of_net,
            fun w v h => rturn_any v fs i a y k f w h hf hk hi ha (by omega) hfl _ (fun hb => by rw [hbad] at hb; cases hb) (fun _ h' => by rcases h' with h' | h'; exact absurd h' hy; exact absurd h' hb) (fun _ _ j' x' hx' hj' _ _ h => ?_)⟩
          have hjj : j' = j := by omega
          subst hjj
          rw [hx] at hx'
          cases hx'
          exact h

theorem clear_agree (fs : List Fl) (hs : Sml fs) (fr tt : Int) : ∃ L : List Fl, L.length ≤ 1000 ∧
    (∀ (w : World) (v : Value), NetAt w v fs → Calls Try.prog 11 #[.agg #[v], .int .i64 fr, .int .i64 tt] w (NetC w L)) ∧
    (∀ (w : World) (v : Value), NetAt w v fs → Calls Try.prog 22 #[.agg #[v], .int .i64 fr, .int .i64 tt] w (NetC w L)) := by
  have hl := hs.1
  have := List.length_filter_le (fun f : Fl => f.fr != fr || f.to != tt) fs
  exact ⟨_, by omega, fun w v h => (clear_any v fs fr tt w h (by omega) hs.big).mono fun _ _ => NetC.of_kept, fun w v h => rclear_any v fs fr tt w h (by omega)⟩
end Go.Proofs.Ytiognapakadggaa
