/- The reference's Clear. -/
import Derived.Test.YtiognapakadggaaRefE
namespace Go.Proofs.Ytiognapakadggaa
open Go.RowKit

/-- What a call that answers a net says. -/
def NetC (w : World) (fs : List Fl) (e : Ending) (w' : World) : Prop := ∃ v, e = .returned (.agg #[v]) ∧ NetAt w' v fs ∧ Below w.heap.size w w'

theorem src_cells {w : World} {g o m k : Nat} {ps : List (Fl × Value)} {f : Fl} {v : Value} (h : SrcAt w (some ⟨g, o, none⟩) m (ps.flatMap pcells)) (hm : 0 < m) (hp : ps[k]? = some (f, v)) :
    w.cell? ⟨g, o + k * 4, none⟩ = some (.int .i64 f.fr) ∧ w.cell? ⟨g, o + k * 4 + 1, none⟩ = some (.int .i64 f.to) ∧ w.cell? ⟨g, o + k * 4 + 2, none⟩ = some v ∧ w.cell? ⟨g, o + k * 4 + 3, none⟩ = some (.bool f.bad) := by
  obtain ⟨g', o', hA, hc⟩ := h hm
  cases hA
  have hcc : ∀ j, j < 4 → w.cell? ⟨g, o + k * 4 + j, none⟩ = (pcells (f, v))[j]? := by
    intro j hj
    have h1 := pflat ps k _ hp j hj
    have h4 : j < (pcells (f, v)).length := by simpa [pcells] using hj
    rw [List.getElem?_eq_getElem h4] at h1 ⊢
    rw [show o + k * 4 + j = o + (k * 4 + j) by omega]
    exact hc _ _ h1
  exact ⟨hcc 0 (by omega), hcc 1 (by omega), hcc 2 (by omega), hcc 3 (by omega)⟩
theorem filter_app {α : Type} {p : α → Bool} {l : List α} {i : Nat} {x : α} (h : l[i]? = some x) (hp : p x = true) : (l.take (i + 1)).filter p = (l.take i).filter p ++ [x] := by
  rw [List.take_add_one, h, List.filter_append]
  simp [hp]
theorem filter_skip {α : Type} {p : α → Bool} {l : List α} {i : Nat} {x : α} (h : l[i]? = some x) (hp : p x = false) : (l.take (i + 1)).filter p = (l.take i).filter p := by
  rw [List.take_add_one, h, List.filter_append]
  simp [hp]

set_option maxRecDepth 100000 in
set_option maxHeartbeats 4000000 in
theorem rclear_any (v : Value) (fs : List Fl) (fv tv : Int) (w : World) (h : NetAt w v fs) (hn : fs.length ≤ 400) : Calls Try.prog 22 #[.agg #[v], .int .i64 fv, .int .i64 tv] w (NetC w (fs.filter fun f => f.fr != fv || f.to != tv)) := by
  obtain ⟨A, c, ps, rfl, hps, hby, hsrc⟩ := h.row
  have hpl := fls_len hps
  have HPS := Lib.hid hps
  have HBY := Lib.hid hby
  have HSRC : Hid (SrcAt w A fs.length (ps.flatMap pcells)) := Lib.hid hsrc
  clear h hps hby hsrc
  go_enter Try.func22, Try.ntmps22
  go_wp2_with fail
  have b2 : Below w.heap.size w ((w.alloc (.cells #[.slice A fs.length c] 26)).alloc (.cells #[.slice none 0 0] 26)) := ((Below.refl _ _).alloc (Nat.le_refl _) _).alloc (by simp) _
  have Y0 := (HasBlk.fresh w 26 #[.slice A fs.length c]).past (.cells #[.slice none 0 0] 26)
  have Y1 := HasBlk.fresh (w.alloc (.cells #[.slice A fs.length c] 26)) 26 #[.slice none 0 0]
  simp only [World.size_alloc] at Y1
  go_loopg [7, 8] fs.length (fun gk l i wr => ∃ (k : Nat) (A1 : Option Addr) (ca1 : Nat), k + gk = fs.length ∧ i = .int .i64 k ∧ l = .slice A1 ((ps.take k).filter fun p => p.1.fr != fv || p.1.to != tv).length ca1 ∧
    wr.ownsRow (w.heap.size + 1 + 1) 31 4 (.slice A1 ((ps.take k).filter fun p => p.1.fr != fv || p.1.to != tv).length ca1) ((ps.take k).filter fun p => p.1.fr != fv || p.1.to != tv).length (((ps.take k).filter fun p => p.1.fr != fv || p.1.to != tv).flatMap pcells) ∧
    HasBlk wr w.heap.size 26 #[.slice A fs.length c] ∧ HasBlk wr (w.heap.size + 1) 26 #[.slice none 0 0] ∧ Below w.heap.size w wr)
  case atStart => exact ⟨0, none, 0, by omega, rfl, by simp, by simpa using World.ownsRow_nil _ _ _ _, Y0, Y1, b2⟩
  case round =>
    clear Y0 Y1 b2
    obtain ⟨k, A1, ca1, hk, rfl, rfl, hO, hY0, hY1, hG⟩ := hrel
    have hk' : k ≤ fs.length := by omega
    have hle : ((ps.take k).filter fun p => p.1.fr != fv || p.1.to != tv).length ≤ 400 := Nat.le_trans (List.length_filter_le _ _) (by simp; omega)
    have HK := Lib.hid hk
    have HO := Lib.hid hO
    have HY := Lib.hid (And.intro hY0 hY1)
    have HG := Lib.hid hG
    have n0 := hY0.cell 0
    have nl := hY0.lt
    have r0 := hY1.cell 0
    have rf := hY1.free 0
    have rl := hY1.lt
    simp only [List.getElem?_toArray, List.getElem?_cons_zero] at n0 r0
    clear hk hO hY0 hY1 hG
    by_cases hlt : k < fs.length
    case neg =>
      obtain rfl : k = fs.length := by omega
      have hall : (ps.take fs.length).filter (fun p => p.1.fr != fv || p.1.to != tv) = ps.filter fun p => p.1.fr != fv || p.1.to != tv := by rw [List.take_of_length_le (by omega)]
      rw [hall] at HO ⊢
      have hmap : (ps.filter fun p => p.1.fr != fv || p.1.to != tv).map (·.1) = fs.filter fun f => f.fr != fv || f.to != tv := by
        rw [← HPS.out, List.filter_map]
        rfl
      have HF := Lib.hid ((row_net HO.out (fun p hp => HBY.out p (List.mem_filter.1 hp).1) HG.out hmap).box HY.out.2 (.slice A1 (ps.filter fun p => p.1.fr != fv || p.1.to != tv).length ca1))
      clear hall hmap hle
      go_wp2
      exact bodyPost_ret (v := .agg #[.slice A1 (ps.filter fun p => p.1.fr != fv || p.1.to != tv).length ca1]) (by simp [results, Try.results22, go_sem, r0]) rfl ⟨_, rfl, HF.out, HG.out.setCell (p := ⟨w.heap.size + 1, 0, none⟩) (by dsimp only; omega) _⟩
    case pos =>
      obtain ⟨⟨f, pv⟩, hp⟩ : ∃ p, ps[k]? = some p := ⟨_, List.getElem?_eq_getElem (by omega)⟩
      have hB := HBY.out _ (List.mem_of_getElem? hp)
      simp only at hB
      obtain ⟨bA, bc, rfl⟩ := hB.shape
      obtain ⟨g, o, rfl, _⟩ := HSRC.out (by omega)
      obtain ⟨e0, e1, e2, e3⟩ := src_cells HSRC.out (by omega) hp
      have hgw : g < w.heap.size := World.block_lt_of_cell? _ _ e0
      have d0 := (HG.out.cell (p := ⟨g, o + k * 4, none⟩) hgw).trans e0
      have d1 := (HG.out.cell (p := ⟨g, o + k * 4 + 1, none⟩) hgw).trans e1
      have d2 := (HG.out.cell (p := ⟨g, o + k * 4 + 2, none⟩) hgw).trans e2
      have d3 := (HG.out.cell (p := ⟨g, o + k * 4 + 3, none⟩) hgw).trans e3
      have HP := Lib.hid hp
      have HB := Lib.hid hB
      have hk0 : (0 : Int) ≤ (k : Int) := by omega
      have hk1 : (k : Int) < (fs.length : Int) := by omega
      clear e0 e1 e2 e3 hp hB
      by_cases hq : (f.fr != fv || f.to != tv) = true
      case neg =>
        have hp1 : (f.fr != fv) = false := by simp at hq; simp [hq.1]
        have hp2 : (f.to != tv) = false := by simp at hq; simp [hq.2]
        have hsk := filter_skip (p := fun p : Fl × Value => p.1.fr != fv || p.1.to != tv) HP.out (by simpa using hq)
        have HSK := Lib.hid hsk
        clear hq hsk
        generalize hqs : (ps.take k).filter (fun p => p.1.fr != fv || p.1.to != tv) = qs at HO HSK hle ⊢
        go_wp2_with fail
        go_roundg (fs.length - k - 1)
        case measure => have := HK.out; omega
        case rel => exact ⟨k + 1, A1, ca1, by have := HK.out; omega, by go_num, by rw [HSK.out], by rw [HSK.out]; exact HO.out, HY.out.1, HY.out.2, HG.out⟩
      case pos =>
        have hap := filter_app (p := fun p : Fl × Value => p.1.fr != fv || p.1.to != tv) HP.out (by simpa using hq)
        have HAP := Lib.hid hap
        have HQ := Lib.hid hq
        clear hq hap
        generalize hqs : (ps.take k).filter (fun p => p.1.fr != fv || p.1.to != tv) = qs at HO HAP hle ⊢
        clear hqs
        go_upto_region 5 with (fail)
        go_cut [33] (fun c wx => c = .bool true ∧ wx = wr)
        case first =>
          by_cases hp1 : (f.fr != fv) = false
          case pos =>
            have hp2 : (f.to != tv) = true := by
              have hp := HQ.out
              rw [hp1] at hp
              simpa using hp
            go_wp2_with fail
            go_meet
            case rel => exact ⟨rfl, rfl⟩
          case neg =>
            have hp1 : (f.fr != fv) = true := by simpa using hp1
            go_wp2_with fail
            go_meet
            case rel => exact ⟨rfl, rfl⟩
        case rest =>
          obtain ⟨rfl, rfl⟩ := hcut
          go_wp2_with (at_builtin; refine app31 rfl (.tmp 34) (.tmp 40) rfl rfl rfl (HO.out.alloc _) (news := pcells (f, .slice bA f.b.length bc)) rfl (SrcAt.lit _ _ _ _ _ rfl) (pcells_one HB.out) (by omega) (by simp; omega) ?_)
          intro A2 ca2 w2 hown2 hgr
          have low := (HG.out.alloc HG.out.size (.cells #[.int .i64 f.fr, .int .i64 f.to, .slice bA f.b.length bc, .bool f.bad] 31)).grown hgr (by have := HG.out.size; simp; omega) (fun r hr => by have := (World.ownsRow.lt HO.out r hr).1; omega)
          have Z0 := (HY.out.1.past (.cells #[.int .i64 f.fr, .int .i64 f.to, .slice bA f.b.length bc, .bool f.bad] 31)).grown hgr (own_ne HO.out HY.out.1 (by decide))
          have Z1 := (HY.out.2.past (.cells #[.int .i64 f.fr, .int .i64 f.to, .slice bA f.b.length bc, .bool f.bad] 31)).grown hgr (own_ne HO.out HY.out.2 (by decide))
          have HFIN := Lib.hid (And.intro hown2 (And.intro Z0 (And.intro Z1 low)))
          clear hown2 hgr low Z0 Z1 n0 nl r0 rf rl d0 d1 d2 d3
          go_wp2_with fail
          go_roundg (fs.length - k - 1)
          case measure => have := HK.out; omega
          case rel =>
            obtain ⟨h1, h2, h3, h4⟩ := HFIN.out
            exact ⟨k + 1, A2, ca2, by have := HK.out; omega, by go_num, by rw [HAP.out]; simp, by rw [HAP.out, List.flatMap_append]; simpa using h1, h2, h3, h4⟩
end Go.Proofs.Ytiognapakadggaa
