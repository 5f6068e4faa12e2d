/-
  strconv.Itoa AT WHATEVER TABLE.
-/
import Derived.Test.YtpdljglamjanmaaDoorBase10
import Derived.Lib.ItoaMem
namespace Go.Proofs.YtpdljglamjanmaaDoor
open Go.RowKit Go.Extern.Stop Go.Stop Go.Extern Go.Sort

set_option maxHeartbeats 6400000 in
set_option maxRecDepth 100000 in
theorem formatInt_tab (T : Nat → Int) (u : Nat) (hu1 : 100 ≤ u) (hu64 : u ≤ 9223372036854775807) (w : World) (hT : TabAny T w) :
    Calls Tryd.prog 50 #[.int .i64 u, .int .i64 10] w fun e w' => e = .returned (.string ⟨(run10 (ndT T u) u (Array.replicate (ndT T u) 0))⟩) ∧ ∃ k os, w' = grow (w.drewN k) os := by
  obtain ⟨hnd20, hbd⟩ := ndT_le T u (by omega) (by omega)
  have hT1 : TabAny T (w.alloc (.cells Lib.zeros24 105)) := fun j hj => keep_alloc (hT j hj)
  have C52 := Lib.hid (numDigits_tab T u (by omega) (by omega) _ hT1)
  generalize ndT T u = nd at hnd20 hbd C52
  have hb3 : nd ≤ 23 := by omega
  have hal : Tryd.prog.arrayLen 105 = 24 := by kernel_rfl
  have hsl1 : ∀ W, (Instr.sliceAt 105 (.pointer (some ⟨w.heap.size, 0, none⟩)) (some (.int .i64 1)) (some (.int .i64 (1 + (nd : Int)))) none).run Tryd.prog W = .ok (.slice (some ⟨w.heap.size, 1, none⟩) nd 23) W := fun W => by
    rw [run_sliceAt_array_lh W 105 ⟨w.heap.size, 0, none⟩ (by kernel_rfl) .i64 .i64 1 (1 + (nd : Int)) (by omega) (by omega) (by rw [hal]; omega)]
    go_simp
    omega
  have hH0 := Lib.holds_zero w 105 nd (by omega)
  have hfmt := base10_any w.heap.size 1 23 u (Array.replicate nd 0) (w.alloc (.cells Lib.zeros24 105)) hH0 (by rw [Array.size_replicate]; exact hbd) (by omega) (by rw [Array.size_replicate]; omega)
  rw [Array.size_replicate] at hfmt
  have HH0 := Lib.hid hH0
  have HF := Lib.hid hfmt
  clear hH0 hal hfmt hT hT1
  have hneg : decide ((u : Int) < 0) = false := decide_eq_false (by omega)
  have hbig : decide ((u : Int) < 100) = false := by simp; omega
  have hpos : decide ((0 : Int) ≤ (u : Int)) = true := decide_eq_true (by omega)
  go_enter Tryd.func50, Tryd.ntmps50
  go_wp2_with (first | (go_at_call 52; refine C52.out.mono ?_; rintro e w' ⟨rfl, rfl⟩))
  go_at_call 53
  refine HF.out.mono ?_
  rintro e w' ⟨rfl, k, rfl⟩
  have hRs : (run10 nd u (Array.replicate nd 0)).size = nd := by rw [run10_size]; simp
  generalize hR : run10 nd u (Array.replicate nd 0) = R at hRs
  have HRR := Lib.hid hR
  clear hR
  have hsl3 := hsl1
  have hcv : (convert 89 9 (.slice (some ⟨w.heap.size, 1, none⟩) nd 23)).run Tryd.prog ((putRow (fun (b : UInt8) => Value.int .u8 (b.toNat : Int)) (w.alloc (.cells Lib.zeros24 105)) w.heap.size 1 R).drewN k) = .ok (.string ⟨R⟩) ((putRow (fun (b : UInt8) => Value.int .u8 (b.toNat : Int)) (w.alloc (.cells Lib.zeros24 105)) w.heap.size 1 R).drewN k) := by
    have h := run_convert_bytes_back (P := Tryd.prog) ((putRow (fun (b : UInt8) => Value.int .u8 (b.toNat : Int)) (w.alloc (.cells Lib.zeros24 105)) w.heap.size 1 R).drewN k) 89 9 5 ⟨w.heap.size, 1, none⟩ 23 R.toList Tryd.underlying89 Tryd.underlying5 Tryd.underlying9 (fun j hj => by
      have hj' : j < R.size := by simpa using hj
      rw [Lib.add_plain, World.cell?_drewN]
      have := cell?_putRow (fun (b : UInt8) => Value.int .u8 (b.toNat : Int)) _ w.heap.size 1 _ R HH0.out (by rw [hRs, Array.size_replicate]) j hj'
      rw [this]
      simp [getElem!_pos, hj'])
    simpa [hRs] using h
  go_wp2
  go_ret
  obtain ⟨os, eo⟩ := Lib.fin_pos w (.cells Lib.zeros24 105) R k
  rw [HRR.out]
  exact ⟨rfl, k, os, eo⟩

theorem itoa47_tab (T : Nat → Int) (u : Nat) (hu1 : 100 ≤ u) (hu64 : u ≤ 9223372036854775807) (w : World) (hT : TabAny T w) :
    Calls Tryd.prog 47 #[.int .i64 u] w fun e w' => e = .returned (.string ⟨(fT T u).toArray⟩) ∧ Below w.heap.size w w' := by
  have C50 := Lib.hid (formatInt_tab T u hu1 hu64 w hT)
  have hf : fT T u = (run10 (ndT T u) u (Array.replicate (ndT T u) 0)).toList := by
    unfold fT
    rw [if_neg (by omega)]
    rfl
  clear hT
  go_enter Tryd.func47, Tryd.ntmps47
  go_wp2_with (go_at_call 50; refine C50.out.mono ?_; rintro e w' ⟨rfl, k, os, rfl⟩)
  go_ret
  refine ⟨?_, below_grow _ _ _⟩
  rw [hf]
  rfl
theorem itoa_tab (T : Nat → Int) (u : Nat) (hu1 : 100 ≤ u) (hu64 : u ≤ 9223372036854775807) (w : World) (hT : TabAny T w) :
    Calls Tryd.prog 38 #[.int .i64 u] w fun e w' => e = .returned (.string ⟨(fT T u).toArray⟩) ∧ Below w.heap.size w w' := by
  have C47 := Lib.hid (itoa47_tab T u hu1 hu64 w hT)
  clear hT
  go_enter Tryd.func38, Tryd.ntmps38
  go_wp2_with (go_at_call 47; refine C47.out.mono ?_; rintro e w' ⟨rfl, hB⟩)
  go_ret
  exact ⟨rfl, hB⟩
theorem itoaT (T : Nat → Int) : ItoaOK (fT T) (CdT T) where
  call n w hn := by
    obtain ⟨k, rfl⟩ := Int.eq_ofNat_of_zero_le (show (0 : Int) ≤ n by have := hn.1; omega)
    by_cases h : k < 100
    · refine (Tryd.strconv_Itoa_small k h w).mono ?_
      rintro e w' ⟨rfl, rfl⟩
      refine ⟨?_, Below.refl _ _⟩
      unfold fT
      rw [if_pos (by omega)]
      rfl
    · exact itoa_tab T k (by omega) (by have := hn.2.1; omega) w hn.2.2
  keep n w w' h hb := ⟨h.1, h.2.1, tabAny_keep h.2.2 hb⟩
  short n w h := by
    have h1 := h.1
    have h2 := h.2.1
    unfold fT
    split
    · have := decDigits_short n.toNat (by omega); omega
    · have := (ndT_le T n.toNat (by omega) (by omega)).1
      rw [Array.length_toList, run10_size]
      simp; omega
end Go.Proofs.YtpdljglamjanmaaDoor
