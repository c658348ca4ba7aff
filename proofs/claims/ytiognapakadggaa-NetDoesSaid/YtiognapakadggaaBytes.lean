/- net.bytes: bytes that share nothing: a block of its own, and what it holds; net.of and the reference's place: which piece is meant. -/
import Derived.Test.YtiognapakadggaaNet
import Derived.Laws.CopyOwn
import Derived.OwnWalk
import Derived.Outline
namespace Go.Proofs.Ytiognapakadggaa
open Go.RowKit

theorem Try.info5 : (Try.prog.info? 5).map (fun i => (i.zero, i.size, i.bytes)) = some (some (.int .u8 0), 1, 1) := by kernel_rfl
theorem Try.size5 : (Try.prog.info? 5).map (·.size) = some 1 := by kernel_rfl

/-- What bytes leaves: a block of its own. -/
def CopiedB (w : World) (b : List UInt8) (e : Ending) (w' : World) : Prop :=
  ∃ g, e = .returned (.slice (some ⟨g, 0, none⟩) b.length b.length) ∧ w.heap.size ≤ g ∧ HasBlk w' g 5 (byteCells b).toArray ∧ Below w.heap.size w w'

theorem splice_all {α : Type} (L cs : List α) (h : cs.length = L.length) : splice L 0 cs = cs := by
  simp [splice, h]

theorem own_whole {w : World} {base : Nat} {e : TypeId} {g n : Nat} {xs : List Value} (h : w.ownsRow base e 1 (.slice (some ⟨g, 0, none⟩) n n) n xs) :
    ∃ cur : List Value, cur.length = n ∧ w.heap[g]? = some (.cells cur.toArray e (0, 0)) := by
  rcases h.2 with ⟨hv, _⟩ | ⟨g', cap, cur, hv, _, hh, _, _, hs, _⟩
  · cases hv
  · simp only [Value.slice.injEq, Option.some.injEq, Addr.mk.injEq] at hv
    obtain ⟨⟨rfl, _⟩, _, rfl⟩ := hv
    exact ⟨cur.toList, by simpa using hs, by simpa using hh⟩

set_option maxHeartbeats 1000000 in
theorem bytes_any (v : Value) (b : List UInt8) (w : World) (h : BytesAt w v b) (hl : b.length ≤ 1000000) : Calls Try.prog 25 #[v] w (CopiedB w b) := by
  have hB := h
  obtain ⟨A, c, rfl, hc⟩ := h
  obtain ⟨i5, hi, hz0, hz1, hz2⟩ := info_parts Try.info5
  have HC := Lib.hid hc
  have HB := Lib.hid hB
  clear hc hB
  go_enter Try.func25, Try.ntmps25
  go_wp2_with (first
    | (at_make; refine wpList_make_full _ rfl _ _ 27 rfl w.heap.size 5 i5 (.int .u8 0) 1 Try.underlying27 hi hz0 hz1 .i64 .i64 _ _ b.length rfl rfl rfl rfl (by rw [hz2]; omega) (by simp only [maxLen]; omega) (Nat.le_refl _) ?_; intro w1 hown hg1; obtain ⟨cur, hcl, hcur⟩ := own_whole hown; have hb1 : Below w.heap.size w w1 := (Below.refl _ _).grown hg1 (Nat.le_refl _) (by simp); have HCL := Lib.hid hcl; have HCUR := Lib.hid hcur; clear hcl hcur hown hg1)
    | (with_reducible refine wpList_copy_splice rfl (.tmp 7) (.tmp 8) 27 27 rfl 5 Try.underlying27 Try.size5 _ _ _ _ _ _ rfl rfl w.heap.size 0 cur 5 HCUR.out (byteCells b) ?hn ?hpos ?hfit (byteCells_one b) w.heap.size w hb1 (Nat.le_refl _) ?_))
  case hn => rw [byteCells_length]; show _ = min _ _; omega
  case hpos =>
    intro hp
    rw [byteCells_length] at hp
    obtain ⟨g, o, rfl, hcell⟩ := HC.out hp
    have hcs : ∀ j u, (byteCells b)[j]? = some u → w1.cell? ((⟨g, o, none⟩ : Addr).add j) = some u := by
     intro j u hj
     have hx : ∃ x, b[j]? = some x ∧ u = .int .u8 (x.toNat : Int) := by
       simp only [byteCells, List.getElem?_map, Option.map_eq_some_iff] at hj
       obtain ⟨x, h1, h2⟩ := hj
       exact ⟨x, h1, h2.symm⟩
     obtain ⟨x, hx1, rfl⟩ := hx
     have := cell_later hb1 (hcell j x hx1)
     rw [← Go.WideShapes.add_plain] at this
     exact this
    first
    | exact ⟨rfl, _, rfl, hcs⟩
    | exact ⟨_, rfl, hcs⟩
  case hfit => rw [byteCells_length, HCL.out]; omega
  intro w2 hg2 hb2
  go_wp2
  go_ret
  have hs : splice cur 0 (byteCells b) = byteCells b := splice_all _ _ (by rw [byteCells_length, HCL.out])
  refine ⟨w.heap.size, rfl, Nat.le_refl _, ?_, hb2⟩
  have := hg2.out
  rw [hs] at this
  exact this

def ofI (i n : Int) : Int := (max i 0) % n
theorem ofI_lt {i n : Int} (h : 0 < n) : 0 ≤ ofI i n ∧ ofI i n < n := ⟨Int.emod_nonneg _ (by omega), Int.emod_lt_of_pos _ h⟩

theorem of_any (i n : Int) (w : World) (h : 0 < n) (h2 : n ≤ 9223372036854775807) (h3 : i ≤ 9223372036854775807) : Calls Try.prog 26 #[.int .i64 i, .int .i64 n] w fun e w' => e = .returned (.int .i64 (ofI i n)) ∧ w = w' := by
  by_cases hi : 0 ≤ i
  · have H : Hid (ofI i n = i % n) := Lib.hid (by unfold ofI; rw [Int.max_eq_left hi])
    go_enter Try.func26, Try.ntmps26
    go_wp2
    go_ret
    exact ⟨by rw [H.out]; rfl, rfl⟩
  · have H : Hid (ofI i n = 0) := Lib.hid (by unfold ofI; rw [Int.max_eq_right (by omega)]; simp)
    go_enter Try.func26, Try.ntmps26
    go_wp2
    go_ret
    exact ⟨by rw [H.out]; rfl, rfl⟩

theorem place_any (i n : Int) (w : World) (h : 0 < n) (h2 : n ≤ 9223372036854775807) (h3 : i ≤ 9223372036854775807) : Calls Try.prog 30 #[.int .i64 i, .int .i64 n] w fun e w' => e = .returned (.int .i64 (ofI i n)) ∧ w = w' := by
  by_cases hi : 0 ≤ i
  · have H : Hid (ofI i n = i % n) := Lib.hid (by unfold ofI; rw [Int.max_eq_left hi])
    go_enter Try.func30, Try.ntmps30
    go_wp2
    go_ret
    exact ⟨by rw [H.out]; rfl, rfl⟩
  · have H : Hid (ofI i n = 0) := Lib.hid (by unfold ofI; rw [Int.max_eq_right (by omega)]; simp)
    go_enter Try.func30, Try.ntmps30
    go_wp2
    go_ret
    exact ⟨by rw [H.out]; rfl, rfl⟩
end Go.Proofs.Ytiognapakadggaa
