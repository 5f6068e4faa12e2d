/-
  strconv.Itoa AT WHATEVER TABLE internal/strconv.uint64pow10: a function of the table and the number.
-/
import Derived.Test.YtpdljglamjanmaaDoorWhy
import Derived.Lib.ItoaWalk
namespace Go.Proofs.YtpdljglamjanmaaDoor
open Go.RowKit Go.Extern.Stop Go.Stop Go.Extern Go.Sort

/-- What the table's places hold. -/
def TabAny (T : Nat → Int) (w : World) : Prop := ∀ j, j < 20 → w.cell? ⟨1, j, none⟩ = some (.int .u64 (T j))
/-- What numDigits comes to. -/
def ndT (T : Nat → Int) (u : Nat) : Nat := Lib.l10 (Lib.bitLen u) + if T (Lib.l10 (Lib.bitLen u)) ≤ (u : Int) then 1 else 0

/-- What formatBase10 leaves in its places: n of them are still to be written, v is the number left. -/
def run10 : Nat → Nat → Array UInt8 → Array UInt8
  | 0, _, d => d
  | 1, v, d => d.setIfInBounds 0 (UInt8.ofNat (48 + v))
  | n + 2, v, d => run10 n (v / 100) ((d.setIfInBounds (n + 1) (Lib.sm (v % 100 * 2 + 1))).setIfInBounds n (Lib.sm (v % 100 * 2)))
/-- How far it is. -/
structure FInv (R : Array UInt8) (N n v : Nat) (d : Array UInt8) : Prop where
  size : d.size = N
  le : n ≤ N
  goal : run10 n v d = R
  bound : v < 10 ^ (n + 1)
theorem FInv.step2 {R : Array UInt8} {N n v : Nat} {d : Array UInt8} (h : FInv R N (n + 2) v d) : FInv R N n (v / 100) ((d.setIfInBounds (n + 1) (Lib.sm (v % 100 * 2 + 1))).setIfInBounds n (Lib.sm (v % 100 * 2))) where
  size := by simp [h.size]
  le := by have := h.le; omega
  goal := h.goal
  bound := by
    have := h.bound
    rw [show n + 2 + 1 = (n + 1) + 2 by omega, Nat.pow_add] at this
    omega
theorem run10_size : ∀ (n v : Nat) (d : Array UInt8), (run10 n v d).size = d.size
  | 0, _, _ => rfl
  | 1, _, _ => by simp [run10]
  | n + 2, v, d => by rw [run10, run10_size n]; simp
/-- What Itoa comes to. -/
def fT (T : Nat → Int) (n : Int) : List UInt8 := if n < 100 then Lib.decDigits n.toNat else (run10 (ndT T n.toNat) n.toNat (Array.replicate (ndT T n.toNat) 0)).toList
def CdT (T : Nat → Int) (n : Int) (w : World) : Prop := 1 ≤ n ∧ n ≤ 9223372036854775807 ∧ TabAny T w
theorem tabAny_keep {T : Nat → Int} {w w' : World} (h : TabAny T w) (hb : Below w.heap.size w w') : TabAny T w' := fun j hj => keep_below hb (h j hj)
theorem ndT_le (T : Nat → Int) (u : Nat) (h1 : 1 ≤ u) (h2 : u < 18446744073709551616) : ndT T u ≤ 20 ∧ u < 10 ^ (ndT T u + 1) := by
  obtain ⟨h, h19⟩ := Lib.numDigits_eq u h1 h2
  have hlt := Lib.lt_pow_nDigits u
  unfold ndT
  refine ⟨by split <;> omega, Nat.lt_of_lt_of_le hlt (Nat.pow_le_pow_right (by omega) ?_)⟩
  rw [← h]
  split <;> split <;> omega

set_option maxRecDepth 20000 in
theorem numDigits_tab (T : Nat → Int) (u : Nat) (h1 : 1 ≤ u) (h2 : u < 18446744073709551616) (w : World) (hT : TabAny T w) : Calls Tryd.prog 52 #[.int .u64 u] w fun e w' => e = .returned (.int .i64 (ndT T u)) ∧ w' = w := by
  obtain ⟨_, h19⟩ := Lib.numDigits_eq u h1 h2
  have hL : Lib.bitLen u ≤ 64 := Lib.bitLen_le u 64 (Nat.le_refl _) h2
  have hcell := hT (Lib.l10 (Lib.bitLen u)) (by omega)
  have hnd : ndT T u = Lib.l10 (Lib.bitLen u) + if T (Lib.l10 (Lib.bitLen u)) ≤ (u : Int) then 1 else 0 := rfl
  have C56 := Tryd.bits_Len64 u w (by omega) (by omega)
  have C55 := Tryd.internal_strconv_log10Pow2 (Lib.bitLen u) hL w
  rw [show ((u : Int)).toNat = u by omega] at C56
  generalize hq : Lib.l10 (Lib.bitLen u) = q at hnd h19 hcell C55
  have Hnd := Lib.hid hnd
  have HC56 := Lib.hid C56
  have HC55 := Lib.hid C55
  clear hnd C56 C55 hT
  have q20 : (q : Int) < 20 := by omega
  have q0 : (0 : Int) ≤ (q : Int) := by omega
  cases hb : decide (T q ≤ (u : Int)) with
  | true =>
    have hb' : T q ≤ (u : Int) := by simpa using hb
    go_enter Tryd.func52, Tryd.ntmps52
    go_wp2_with fail
    refine HC56.out.mono ?_
    rintro e w1 ⟨rfl, rfl⟩
    go_wp2_with fail
    refine HC55.out.mono ?_
    rintro e w2 ⟨rfl, rfl⟩
    go_wp2_with fail
    refine (Tryd.internal_strconv_bool2_int true _).mono ?_
    rintro e w3 ⟨rfl, rfl⟩
    go_wp2_with fail
    go_ret
    refine ⟨?_, rfl⟩
    rw [Hnd.out, if_pos hb']
    simp
  | false =>
    have hb' : ¬ T q ≤ (u : Int) := by simpa using hb
    go_enter Tryd.func52, Tryd.ntmps52
    go_wp2_with fail
    refine HC56.out.mono ?_
    rintro e w1 ⟨rfl, rfl⟩
    go_wp2_with fail
    refine HC55.out.mono ?_
    rintro e w2 ⟨rfl, rfl⟩
    go_wp2_with fail
    refine (Tryd.internal_strconv_bool2_int false _).mono ?_
    rintro e w3 ⟨rfl, rfl⟩
    go_wp2_with fail
    go_ret
    refine ⟨?_, rfl⟩
    rw [Hnd.out, if_neg (by omega)]
    simp
end Go.Proofs.YtpdljglamjanmaaDoor
