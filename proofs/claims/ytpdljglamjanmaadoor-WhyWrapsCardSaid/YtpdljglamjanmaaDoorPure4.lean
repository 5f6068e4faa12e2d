/-
  PLAIN LEAN, MORE: sizes of rows of alike kids; shapes nested deep.
-/
import Derived.Test.YtpdljglamjanmaaDoorPure2
import Derived.Laws.Strings
namespace Go.Proofs.YtpdljglamjanmaaDoor
open Go

theorem sizeL_all (f : Sh → Nat × Nat × Bool) (p q : Nat) : ∀ (ks : List Sh), (∀ s ∈ ks, f s = (p, q, true)) → ∀ n d, n ≤ 50 →
    sizeL f ks n d true = if n + p * ks.length ≤ 50 then (n + p * ks.length, (if ks.length = 0 then d else max d q) + 1, true) else (0, 0, false)
  | [], _, n, d, hn => by simp [sizeL, hn]
  | k :: ks, h, n, d, hn => by
    have hk := h k (by simp)
    have hlen : p * (ks.length + 1) = p * ks.length + p := by rw [Nat.mul_add, Nat.mul_one]
    have ih := sizeL_all f p q ks (fun s hs => h s (by simp [hs])) (n + p) (max d q)
    simp only [sizeL, hk, List.length_cons, hlen]
    generalize p * ks.length = m at *
    by_cases h1 : 50 < n + p
    · have h2 : ¬ n + (m + p) ≤ 50 := by omega
      simp [h1, h2]
    · have h3 : ¬ (decide (50 < n + p) = true) := by simpa using h1
      simp only [Bool.and_self, Bool.not_true, Bool.false_or, if_neg h3]
      rw [ih (by omega)]
      have e : n + p + m = n + (m + p) := by omega
      rw [e]
      by_cases h2 : n + (m + p) ≤ 50
      · have hmx : max (max d q) q = max d q := by omega
        by_cases h0 : ks.length = 0 <;> simp [h2, h0, hmx]
      · simp [h2]

theorem hasCs_any (n : Int) : ∀ ks, hasCs n ks = ks.any (hasC n)
  | [] => rfl
  | k :: ks => by simp [hasCs, hasCs_any n ks]

def oB : ByteArray := ⟨#[111]⟩
def wB : ByteArray := ⟨#[119]⟩
/-- A code with so many levels of one kid around it, less one. -/
def nest (code : Int) : Nat → Sh
  | 0 => .mk code ⟨#[]⟩ []
  | k + 1 => .mk 0 oB [nest code k]

theorem oB_no : oB.toList.isEmpty = false := by rw [ByteArray.toList_eq]; rfl
theorem wB_no : wB.toList.isEmpty = false := by rw [ByteArray.toList_eq]; rfl

theorem size_nest (code : Int) (hc : 0 < code) : ∀ (d l : Nat), d ≤ 40 → sizeP l (nest code d) = if d + 1 ≤ l then (d + 1, d + 1, true) else (0, 0, false)
  | 0, 0, _ => by simp [sizeP]
  | 0, l + 1, _ => by simp [nest, sizeP, hc]
  | d + 1, 0, _ => by simp [sizeP]
  | d + 1, l + 1, h => by
    have ih := size_nest code hc d l (by omega)
    simp only [nest, sizeP]
    rw [if_neg (by omega)]
    simp only [sizeL, oB_no, ih]
    by_cases hl : d + 1 ≤ l
    · simp only [if_pos hl]
      rw [if_neg (by simp; omega), if_pos (by omega)]
      simp
      omega
    · simp only [if_neg hl]
      rw [if_pos (by simp), if_neg (by omega)]

theorem has_nest (code : Int) : ∀ d, hasC code (nest code d) = true
  | 0 => by simp [nest, hasC]
  | d + 1 => by simp [nest, hasC, has_nest code d]

/-- The codes from 1 on, so many. -/
def codesTo (n : Nat) : List Sh := (List.range n).map fun (i : Nat) => .mk ((i : Int) + 1) ⟨#[]⟩ []
theorem codesTo_succ (n : Nat) : codesTo (n + 1) = codesTo n ++ [.mk ((n : Int) + 1) ⟨#[]⟩ []] := by simp [codesTo, List.range_succ]
theorem codesTo_len (n : Nat) : (codesTo n).length = n := by simp [codesTo]
def wideS (n : Nat) : Sh := .mk 0 wB (codesTo n)

theorem size_wide (n : Nat) (h : 0 < n) : (sizeP 20 (wideS n)).2.2 = decide (n ≤ 49) := by
  have h1 : ((0 : Int) == 0 && !wB.toList.isEmpty && !(codesTo n).isEmpty) = true := by
    have : (codesTo n).isEmpty = false := by
      have := codesTo_len n
      cases hc : codesTo n with
      | nil => rw [hc] at this; simp at this; omega
      | cons a b => rfl
    simp [wB_no, this]
  simp only [wideS, sizeP]
  rw [if_neg (by omega), h1, sizeL_all _ 1 1 _ (fun s hs => by
    obtain ⟨i, _, rfl⟩ := List.mem_map.1 hs
    have : (0 : Int) < (i : Int) + 1 := by omega
    simp [sizeP, this]) 1 0 (by omega), codesTo_len]
  by_cases h2 : n ≤ 49
  · rw [if_pos (by omega)]; simp [h2]
  · rw [if_neg (by omega)]; simp [h2]

theorem has_wide (n : Nat) (h : 0 < n) : hasC (n : Int) (wideS n) = true := by
  rw [wideS, hasC_wrap _ _ _ _ (by rw [codesTo_len]; exact h), hasCs_any, List.any_eq_true]
  refine ⟨.mk (n : Int) ⟨#[]⟩ [], ?_, by simp [hasC]⟩
  obtain ⟨m, rfl⟩ : ∃ m, n = m + 1 := ⟨n - 1, by omega⟩
  rw [codesTo_succ]
  simp
end Go.Proofs.YtpdljglamjanmaaDoor
