/-
  tarpaulinalike.Ints, Round; tarpaulinref1.rising: THE WALKS.
-/
import Derived.Test.YtajblpopbipegaaDoorRise
namespace Go.Proofs.YtajblpopbipegaaDoor
open Go.RowKit Go.Lib

def sameB (a b : List Int) : Bool := decide (a = b)
set_option maxHeartbeats 1000000 in
/-- Ints. -/
theorem ints_any (xs ys : List Int) (u v : Value) (w : World) (hx : IRep w xs u) (hy : IRep w ys v) : Calls Tryd.prog 15 #[u, v] w fun e w' => e = .returned (.bool (sameB xs ys)) ∧ Below w.heap.size w w' := by
  obtain ⟨a, cap, b, off, rfl, hc, hm, ha, hcell⟩ := hx
  obtain ⟨a', cap', b', off', rfl, hc', hm', ha', hcell'⟩ := hy
  unfold maxLen at hm hm'
  have HC := Lib.hid hcell
  have HC' := Lib.hid hcell'
  have HA := Lib.hid ha
  have HA' := Lib.hid ha'
  clear hcell hcell' ha ha'
  by_cases hl : xs.length = ys.length
  · have hle : ((xs.length : Int) != (ys.length : Int)) = false := by rw [hl]; simp
    have HL := Lib.hid hl
    clear hl
    go_enter Tryd.func15, Tryd.ntmps15
    go_wp2_with fail
    go_loopw [5] (fun vi wr => ∃ k : Nat, k ≤ xs.length ∧ vi = .int .i64 k ∧ xs.take k = ys.take k ∧ Below w.heap.size w wr) (fun vi _ => xs.length - (intOf vi).toNat)
    case atStart => exact ⟨0, by omega, rfl, rfl, Below.refl _ _⟩
    case round =>
      obtain ⟨k, hk, rfl, hn, hB⟩ := hrel
      have HN := Lib.hid hn
      clear hn
      by_cases hlt : k < xs.length
      · obtain ⟨x, hxk⟩ : ∃ x, xs[k]? = some x := ⟨_, List.getElem?_eq_getElem hlt⟩
        have hlt' : k < ys.length := by have := HL.out; omega
        obtain ⟨y, hyk⟩ : ∃ y, ys[k]? = some y := ⟨_, List.getElem?_eq_getElem hlt'⟩
        have e1 := keep_below hB (HC.out k x hxk)
        have e2 := keep_below hB (HC'.out k y hyk)
        obtain rfl := HA.out (by omega)
        obtain rfl := HA'.out (by omega)
        have k0 : (0 : Int) ≤ (k : Int) := by omega
        have k1 : (k : Int) < (xs.length : Int) := by omega
        have k2 : (k : Int) < (ys.length : Int) := by omega
        have HX := Lib.hid hxk
        have HY := Lib.hid hyk
        clear hxk hyk
        cases d : (x != y) with
        | true =>
          go_wp2_with fail
          go_quiet (fail)
          go_wp2_with fail
          go_ret
          refine ⟨?_, bdrewN hB _⟩
          have hne : xs ≠ ys := fun e => by
            have h1 := HX.out
            rw [e, HY.out] at h1
            injection h1 with h1
            rw [h1] at d
            simp at d
          rw [show sameB xs ys = false from decide_eq_false hne]
          rfl
        | false =>
          go_wp2_with fail
          go_quiet (fail)
          go_wp2_with fail
          go_roundw
          case rel =>
            refine ⟨k + 1, by omega, by go_num, ?_, bdrewN hB _⟩
            rw [List.take_add_one, List.take_add_one, HN.out, HX.out, HY.out]
            have : x = y := by simpa using d
            rw [this]
          case measure => simp [intOf]; omega
      · obtain rfl : k = xs.length := by omega
        go_wp2_with fail
        go_ret
        refine ⟨?_, hB⟩
        have h1 := HN.out
        rw [List.take_length, HL.out, List.take_length] at h1
        rw [show sameB xs ys = true from decide_eq_true h1]
        rfl
  · have hle : ((xs.length : Int) != (ys.length : Int)) = true := by rw [bne_iff_ne]; omega
    have e : sameB xs ys = false := decide_eq_false fun e => hl (by rw [e])
    rw [e]
    clear hl e
    go_enter Tryd.func15, Tryd.ntmps15
    go_wp2_with fail
    go_ret
    exact ⟨rfl, Below.refl _ _⟩

/-- Which of the first k are yes. -/
def upB (B : Nat → Bool) (k : Nat) : List Int := ((List.range k).filter B).map fun (j : Nat) => (j : Int)
theorem upB_len (B : Nat → Bool) (k : Nat) : (upB B k).length ≤ k := by
  unfold upB
  rw [List.length_map]
  exact Nat.le_trans (List.length_filter_le _ _) (by simp)
theorem upB_succ (B : Nat → Bool) (k : Nat) : upB B (k + 1) = upB B k ++ (if B k then [(k : Int)] else []) := by
  unfold upB
  rw [List.range_succ, List.filter_append, List.map_append]
  congr 1
  by_cases h : B k = true <;> simp [h]
def aggB (B : Nat → Bool) : Array Value := #[.bool (B 0), .bool (B 1), .bool (B 2), .bool (B 3), .bool (B 4), .bool (B 5), .bool (B 6), .bool (B 7)]

set_option maxRecDepth 100000 in
set_option maxHeartbeats 1000000 in
/-- The document's rising. -/
theorem rrise_any (B : Nat → Bool) (w : World) : Calls Tryd.prog 30 #[.agg #[.bool (B 0), .bool (B 1), .bool (B 2), .bool (B 3), .bool (B 4), .bool (B 5), .bool (B 6), .bool (B 7)]] w (RPost w (upB B 8)) := by
  obtain ⟨i0, hi0, hz0, hz1, hz2⟩ := info_parts Tryd.info3
  have hb0 : ∀ j, j < 8 → (w.alloc (.cells #[.bool (B 0), .bool (B 1), .bool (B 2), .bool (B 3), .bool (B 4), .bool (B 5), .bool (B 6), .bool (B 7)] 50)).cell? ⟨w.heap.size, j, none⟩ = some (.bool (B j)) := fun j hj => by
    match j, hj with
    | 0, _ => simp
    | 1, _ => simp
    | 2, _ => simp
    | 3, _ => simp
    | 4, _ => simp
    | 5, _ => simp
    | 6, _ => simp
    | 7, _ => simp
  go_enter Tryd.func30, Tryd.ntmps30
  go_wp2_with fail
  have hw0 : Below w.heap.size w (w.alloc (.cells #[.bool (B 0), .bool (B 1), .bool (B 2), .bool (B 3), .bool (B 4), .bool (B 5), .bool (B 6), .bool (B 7)] 50)) := bnew (Below.refl _ _) _
  have hsz : (w.alloc (.cells #[.bool (B 0), .bool (B 1), .bool (B 2), .bool (B 3), .bool (B 4), .bool (B 5), .bool (B 6), .bool (B 7)] 50)).heap.size = w.heap.size + 1 := by simp
  generalize hwb : w.alloc (.cells #[.bool (B 0), .bool (B 1), .bool (B 2), .bool (B 3), .bool (B 4), .bool (B 5), .bool (B 6), .bool (B 7)] 50) = wb at hb0 hw0 hsz ⊢
  have HB0 := Lib.hid hb0
  have HW0 := Lib.hid hw0
  have HSZ := Lib.hid hsz
  clear hwb hb0 hw0 hsz
  go_loopw [3, 4] (fun v3 vi wr => ∃ k : Nat, k ≤ 8 ∧ vi = .int .i64 k ∧ Row wb.heap.size wr (upB B k) v3 ∧ Below wb.heap.size wb wr) (fun _ vi _ => 8 - (intOf vi).toNat)
  case atStart => exact ⟨0, by omega, rfl, World.ownsRow_nil _ _ _ _, Below.refl _ _⟩
  case round =>
    obtain ⟨k, hk, rfl, hrow, hB⟩ := hrel
    have hrow' : wr.ownsRow wb.heap.size 3 1 u3 (upB B k).length ((upB B k).map (Value.int .i64)) := hrow
    have hlen := upB_len B k
    have hszr := hB.size
    by_cases hlt : k < 8
    · have y := keep_below hB (HB0.out k hlt)
      have hs := Lib.hid (upB_succ B k)
      cases hbk : B k with
      | true =>
        rw [hbk] at y
        have HK := Lib.hid hbk
        clear hbk
        go_wp2_with (at_builtin; refine wpList_append_lies (w := _) (hgd := rfl) (s := _) (x := _) (t := _) (ho := rfl) (base := wb.heap.size) (e := 3) (i := i0) (z := _) (size := 1) (bytes := 8) (ht := Tryd.underlying32) (hi := hi0) (hz := hz0) (hsize := hz1) (hby := hz2) (hzs := rfl) (hsz := Nat.one_pos) (v := u3) (n := (upB B k).length) (xs := (upB B k).map (Value.int .i64)) (hs := ?_) (hown := ?_) (ad := ⟨wr.heap.size, 0, none⟩) (m := 1) (c := 1) (news := [.int .i64 k]) (hx := ?_) (hl := ?_) (hnews := ?_) (h1 := ?_) (hm := by omega) (h63 := ?_) (hbytes := ?_) (hbase := ?_) (H := _) (hH := rfl) (h := ?_); (rfl); (exact hrow'.alloc _); (rfl); (rfl); (exact World.news_of_block (heap_alloc_new _ _)); (simp [Value.oneCell']); (unfold maxLen; omega); (omega); (first | omega | (simp; omega)); intro gg1 cap1 u1 own1 grow1 hat1 hlt1)
        have hb1 : Below wb.heap.size wb u1 := (bnew hB _).grown grow1 (by simp; omega) (fun j hj => (hrow'.lt j hj).1)
        have hr1 : Row wb.heap.size u1 (upB B (k + 1)) (.slice (some ⟨gg1, 0, none⟩) ((upB B k).length + 1) cap1) := by
          rw [hs.out, HK.out]
          simpa [Row] using own1
        clear hrow hrow' own1 grow1 hat1 hB y
        go_roundw
        case rel => exact ⟨k + 1, by omega, by go_num, hr1, hb1⟩
        case measure => simp [intOf]; omega
      | false =>
        rw [hbk] at y
        have HK := Lib.hid hbk
        clear hbk
        go_wp2_with fail
        have hr1 : Row wb.heap.size wr (upB B (k + 1)) u3 := by
          rw [hs.out, HK.out]
          simpa [Row] using hrow
        clear hrow hrow'
        go_roundw
        case rel => exact ⟨k + 1, by omega, by go_num, hr1, hB⟩
        case measure => simp [intOf]; omega
    · obtain rfl : k = 8 := by omega
      go_wp2_with fail
      go_ret
      exact ⟨_, rfl, IRep.of_own hrow', bcall HW0.out hB⟩
end Go.Proofs.YtajblpopbipegaaDoor
