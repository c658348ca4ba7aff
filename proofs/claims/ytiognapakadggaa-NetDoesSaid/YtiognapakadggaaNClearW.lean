/- NetClears, walked: whatever the net: the law answers true, and writes into new memory alone. -/
import Derived.Test.YtiognapakadggaaAwake
import Derived.Test.YtiognapakadggaaOne
import Derived.Test.YtiognapakadggaaNAllW
namespace Go.Proofs.Ytiognapakadggaa
open Go.RowKit

theorem light_any (v : Value) (fs : List Fl) (w : World) (h : NetAt w v fs) (hn : fs.length ≤ 9223372036854775807) : Calls Try.prog 10 #[.agg #[v]] w (SaysB w (lightB fs)) := by
  by_cases hm : fs.length ≤ 60
  · exact light_few v fs w h hm
  · exact light_many v fs w h (by omega) hn

set_option maxHeartbeats 1000000 in
theorem nclear_heavy (v : Value) (fs : List Fl) (fv tv : Int) (w : World) (h : NetAt w v fs) (hn : fs.length ≤ 9223372036854775807) (hl : lightB fs = false) : Calls Try.prog 4 #[.agg #[v], .int .i64 fv, .int .i64 tv] w (Yes w) := by
  obtain ⟨A, c, rfl, hc⟩ := id h
  have HN := Lib.hid h
  have HL := Lib.hid hl
  clear h hl hc
  go_enter Try.func4, Try.ntmps4
  go_wp2_with fail
  refine (awake_any _).mono ?_
  rintro e w1 ⟨rfl, hb1⟩
  have hB := HasBlk.later (HasBlk.fresh w 26 #[.slice A fs.length c]) hb1
  have n0 := hB.cell 0
  have nl := hB.lt
  simp at n0
  have hN1 := (HN.out.later ((Below.refl _ _).alloc (Nat.le_refl _) (.cells #[.slice A fs.length c] 26))).later hb1
  have g1 : Below w.heap.size w w1 := below_on (by simp) ((Below.refl _ _).alloc (Nat.le_refl _) _) hb1
  have q1 := g1.size
  have HN1 := Lib.hid hN1
  have HG := Lib.hid g1
  clear hB hN1 g1 hb1 HN
  go_wp2_with fail
  refine (light_any _ fs _ HN1.out hn).mono ?_
  rintro e w2 ⟨rfl, hb2⟩
  rw [HL.out]
  go_wp2
  go_ret
  exact ⟨rfl, below_on q1 HG.out hb2⟩

theorem filter_next {α : Type} {p : α → Bool} {l : List α} {i : Nat} {x : α} (h : l[i]? = some x) (hp : p x = true) : (l.filter p)[((l.take i).filter p).length]? = some x := by
  obtain ⟨hi, he⟩ := List.getElem?_eq_some_iff.1 h
  have hs : l = l.take i ++ x :: l.drop (i + 1) := by
    rw [← he, ← List.drop_eq_getElem_cons hi, List.take_append_drop]
  have hf : l.filter p = (l.take i).filter p ++ x :: (l.drop (i + 1)).filter p := by
    conv => lhs; rw [hs]
    rw [List.filter_append, List.filter_cons, if_pos hp]
  rw [hf, List.getElem?_append_right (Nat.le_refl _)]
  simp
theorem filter_more {α : Type} {p : α → Bool} {l : List α} {i : Nat} {x : α} (h : l[i]? = some x) : ((l.take (i + 1)).filter p).length = ((l.take i).filter p).length + (if p x then 1 else 0) := by
  rw [List.take_add_one, h, List.filter_append, List.length_append]
  simp only [Option.toList_some, List.filter_cons, List.filter_nil]
  split <;> simp

set_option maxRecDepth 100000 in
set_option maxHeartbeats 4000000 in
theorem nclear_light (v : Value) (fs : List Fl) (fv tv : Int) (w : World) (h : NetAt w v fs) (hl : lightB fs = true) : Calls Try.prog 4 #[.agg #[v], .int .i64 fv, .int .i64 tv] w (Yes w) := by
  have hn : fs.length ≤ 60 := by simp [lightB] at hl; exact hl.1
  have hsm : ∀ f ∈ fs, f.b.length ≤ 1000000 := by
    intro f hf
    simp [lightB] at hl
    have := hl.2 f hf
    omega
  obtain ⟨A, c, rfl, hc⟩ := id h
  have HN := Lib.hid h
  have HL := Lib.hid hl
  have HS := Lib.hid hsm
  clear h hl hc hsm
  go_enter Try.func4, Try.ntmps4
  go_wp2_with fail
  refine (awake_any _).mono ?_
  rintro e w1 ⟨rfl, hb1⟩
  have hB := HasBlk.later (HasBlk.fresh w 26 #[.slice A fs.length c]) hb1
  have hN1 := (HN.out.later ((Below.refl _ _).alloc (Nat.le_refl _) (.cells #[.slice A fs.length c] 26))).later hb1
  have g1 : Below w.heap.size w w1 := below_on (by simp) ((Below.refl _ _).alloc (Nat.le_refl _) _) hb1
  have q1 := g1.size
  have n0 := hB.cell 0
  have nl := hB.lt
  simp at n0
  have HN1 := Lib.hid hN1
  have HG := Lib.hid g1
  have HB := Lib.hid hB
  clear hB hN1 g1 hb1 HN
  go_wp2_with fail
  refine (light_any _ fs _ HN1.out (by omega)).mono ?_
  rintro e w2 ⟨rfl, hb2⟩
  rw [HL.out]
  replace HN1 := Lib.hid (HN1.out.later hb2)
  replace HB := Lib.hid (HB.out.later hb2)
  replace HG := Lib.hid (below_on q1 HG.out hb2)
  have q2 := HG.out.size
  have n1 := HB.out.cell 0
  have nl1 := HB.out.lt
  simp at n1
  clear n0 nl hb2 q1
  go_wp2_with fail
  refine (clear_any _ fs fv tv _ HN1.out (by omega) HS.out).mono ?_
  rintro e w3 ⟨v3, rfl, hf3, hb3⟩
  obtain ⟨A3, c3, rfl⟩ := hf3.shape
  have hf3 := hf3
  obtain ⟨gs, hgs⟩ : ∃ gs, (fs.filter fun f => f.fr != fv || f.to != tv) = gs := ⟨_, rfl⟩
  rw [hgs] at hf3
  rw [hgs]
  have hgl : gs.length ≤ 60 := by rw [← hgs]; exact Nat.le_trans (List.length_filter_le _ _) hn
  have HGS := Lib.hid hgs
  have X3 : Below w3.heap.size w3 (w3.alloc (.cells #[.slice A3 gs.length c3] 26)) := (Below.refl _ _).alloc (Nat.le_refl _) _
  have HN3 := Lib.hid ((HN1.out.later hb3).later X3)
  have HM3 := Lib.hid (hf3.netAt.later X3)
  have HB3 := Lib.hid ((HB.out.later hb3).later X3)
  have HBM := Lib.hid (HasBlk.fresh w3 26 #[.slice A3 gs.length c3])
  have g3 : Below w.heap.size w w3 := below_on q2 HG.out hb3
  have q3 := g3.size
  have HG3 := Lib.hid (g3.alloc q3 (.cells #[.slice A3 gs.length c3] 26))
  clear hf3 hgs X3 HN1 hb3 g3 HG HB n1 nl1 q2
  go_wp2_with fail
  generalize hW : w3.alloc (.cells #[.slice A3 gs.length c3] 26) = W at HN3 HM3 HB3 HBM HG3 ⊢
  clear hW
  go_loopg [10, 11] fs.length (fun gk k i wr => ∃ j : Nat, j + gk = fs.length ∧ i = .int .i64 j ∧ k = .int .i64 (((fs.take j).filter fun f => f.fr != fv || f.to != tv).length : Nat) ∧ Below W.heap.size W wr)
  case atStart => exact ⟨0, by omega, rfl, by simp, Below.refl _ _⟩
  case round =>
    obtain ⟨j, hj, rfl, rfl, hW⟩ := hrel
    have HJ := Lib.hid hj
    have hj' : j ≤ fs.length := by omega
    have HN := Lib.hid (HN3.out.later hW)
    have HM := Lib.hid (HM3.out.later hW)
    have hB := HB3.out.later hW
    have hBM := HBM.out.later hW
    have n0 := hB.cell 0
    have m0 := hBM.cell 0
    simp at n0 m0
    have nl := hB.lt
    have ml := hBM.lt
    have HW := Lib.hid hW
    clear hj hB hBM hW
    by_cases hlt : j < fs.length
    case neg =>
      obtain rfl : j = fs.length := by omega
      have hk : ((fs.take fs.length).filter fun f => f.fr != fv || f.to != tv).length = gs.length := by rw [List.take_length, HGS.out]
      rw [hk]
      go_wp2_with fail
      go_ret
      exact ⟨rfl, below_on HG3.out.size HG3.out HW.out⟩
    case pos =>
      obtain ⟨f, hf⟩ : ∃ f, fs[j]? = some f := ⟨_, List.getElem?_eq_getElem hlt⟩
      obtain ⟨A', c', hv, hc⟩ := HN.out
      simp only [Value.slice.injEq, true_and] at hv
      obtain ⟨rfl, rfl⟩ := hv
      obtain ⟨g, o, rfl, hfl⟩ := hc (by omega)
      obtain ⟨vb, c0, c1, c2, c3', hB⟩ := hfl j f hf
      obtain ⟨bA, bc, rfl⟩ : ∃ bA bc, vb = .slice bA f.b.length bc := by obtain ⟨bA, bc, h, _⟩ := hB; exact ⟨bA, bc, h⟩
      have hj0 : (0 : Int) ≤ (j : Int) := by omega
      have hj1 : (j : Int) < (fs.length : Int) := by omega
      have HF := Lib.hid hf
      have HBB := Lib.hid hB
      have hmore := filter_more (p := fun f : Fl => f.fr != fv || f.to != tv) hf
      clear hfl hc hf hB
      by_cases hp : (f.fr != fv || f.to != tv) = true
      case neg =>
        have hp1 : (f.fr == fv) = true := by simp at hp; simp [hp.1]
        have hp2 : (f.to == tv) = true := by simp at hp; simp [hp.2]
        rw [if_neg hp] at hmore
        have HMO := Lib.hid hmore
        clear hmore hp
        go_wp2_with fail
        go_roundg (fs.length - j - 1)
        case measure => have := HJ.out; omega
        case rel => exact ⟨j + 1, by have := HJ.out; omega, by go_num, by rw [HMO.out]; simp, HW.out⟩
      case pos =>
        rw [if_pos hp] at hmore
        obtain ⟨k, hk⟩ : ∃ k, ((fs.take j).filter fun f => f.fr != fv || f.to != tv).length = k := ⟨_, rfl⟩
        have hgk : gs[k]? = some f := by rw [← HGS.out, ← hk]; exact filter_next HF.out hp
        rw [hk] at hmore ⊢
        have HK := Lib.hid hk
        have hkl : k < gs.length := (List.getElem?_eq_some_iff.1 hgk).1
        have hk0 : (0 : Int) ≤ (k : Int) := by omega
        have hk1 : (k : Int) < (gs.length : Int) := by omega
        have hk2 : ¬ (gs.length : Int) ≤ (k : Int) := by omega
        have hk3 : decide (gs.length ≤ k) = false := decide_eq_false (by omega)
        have hk4 : decide ((gs.length : Int) ≤ (k : Int)) = false := decide_eq_false (by omega)
        obtain ⟨A', c', hv, hc⟩ := HM.out
        simp only [Value.slice.injEq, true_and] at hv
        obtain ⟨rfl, rfl⟩ := hv
        obtain ⟨g', o', rfl, hfl⟩ := hc (by omega)
        obtain ⟨vb, d0, d1, d2, d3, hB⟩ := hfl k f hgk
        obtain ⟨bA', bc', rfl⟩ : ∃ bA' bc', vb = .slice bA' f.b.length bc' := by obtain ⟨bA, bc, h, _⟩ := hB; exact ⟨bA, bc, h⟩
        have HBB' := Lib.hid hB
        have HMO := Lib.hid hmore
        have HGK := Lib.hid hgk
        clear hfl hc hB hmore hk hgk
        have HP := Lib.hid hp
        clear hp
        have hones : oneB f f = true := by simp [oneB]
        have HO := Lib.hid hones
        clear hones
        go_upto_region 10 with (fail)
        go_cut [50] (fun c wx => c = .bool false ∧ wx = wr)
        case first =>
          by_cases hp1 : (f.fr == fv) = true
          case pos =>
            have hp2 : (f.to == tv) = false := by
              have hp := HP.out
              simp only [Bool.or_eq_true, bne_iff_ne, ne_eq, beq_iff_eq] at hp hp1 ⊢
              simp [hp1] at hp
              simpa using hp
            go_wp2_with fail
            go_meet
            case rel => exact ⟨rfl, rfl⟩
          case neg =>
            have hp1 : (f.fr == fv) = false := by simpa using hp1
            go_wp2_with fail
            go_meet
            case rel => exact ⟨rfl, rfl⟩
        case rest =>
          obtain ⟨rfl, rfl⟩ := hcut
          go_wp2_with fail
          go_region_with (go_at_call 12; refine (one_any f f _ _ _ _ _ HBB'.out.drew HBB.out.drew).mono ?_; rintro e w4 ⟨rfl, hb4⟩; rw [HO.out])
          all_goals
            go_wp2_with fail
            go_roundg (fs.length - j - 1)
            case measure => have := HJ.out; omega
            case rel => exact ⟨j + 1, by have := HJ.out; omega, by go_num, by rw [HMO.out]; go_num, below_on (W := wc.drew) HW.out.size HW.out.drew hb4⟩

theorem nclear_any (v : Value) (fs : List Fl) (fv tv : Int) (w : World) (h : NetAt w v fs) (hn : fs.length ≤ 9223372036854775807) : Calls Try.prog 4 #[.agg #[v], .int .i64 fv, .int .i64 tv] w (Yes w) := by
  cases hl : lightB fs with
  | true => exact nclear_light v fs fv tv w h hl
  | false => exact nclear_heavy v fs fv tv w h hn hl
end Go.Proofs.Ytiognapakadggaa
