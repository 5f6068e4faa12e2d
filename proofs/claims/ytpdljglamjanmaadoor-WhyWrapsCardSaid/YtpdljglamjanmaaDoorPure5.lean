/-
  PLAIN LEAN, MORE: rows of codes: their errors, their join, what wraps it.
-/
import Derived.Test.YtpdljglamjanmaaDoorAwake
import Derived.Test.YtpdljglamjanmaaDoorPure4
namespace Go.Proofs.YtpdljglamjanmaaDoor
open Go Go.RowKit

/-- The codes of a row that are above 0, as shapes. -/
def posK (zs : List Int) : List Sh := (zs.filter (fun c => decide (0 < c))).map codeS
def errOf (c : Int) : Option Sh := if 0 < c then some (codeS c) else none
def ers (zs : List Int) : List (Option Sh) := zs.map errOf
def joinS (zs : List Int) : Sh := .mk 0 allB (posK zs)
def wrapS (op : ByteArray) (zs : List Int) : Sh := .mk 0 op [joinS zs]
/-- A code's three cells; an error's value. -/
def kidV (c : Int) : List Value := if 0 < c then [.int .i64 c, .string ⟨#[]⟩, .slice none 0 0] else []
def kidVs (zs : List Int) : List Value := zs.flatMap kidV
def errV (c : Int) : Value := if 0 < c then .iface 40 (.agg #[.int .i64 c]) else .nilIface
def errVs (zs : List Int) : List Value := zs.map errV

theorem kidsOf_ers : ∀ zs, kidsOf (ers zs) = posK zs
  | [] => rfl
  | c :: zs => by
    have ih := kidsOf_ers zs
    unfold kidsOf ers posK errOf at *
    by_cases h : 0 < c <;> simp [h, ih]
theorem posK_len (zs : List Int) : (posK zs).length ≤ zs.length := by
  unfold posK
  rw [List.length_map]
  exact List.length_filter_le _ _
theorem posK_take (zs : List Int) (k : Nat) (c : Int) (h : zs[k]? = some c) : posK (zs.take (k + 1)) = if 0 < c then posK (zs.take k) ++ [codeS c] else posK (zs.take k) := by
  unfold posK
  rw [List.take_add_one, h]
  by_cases hc : 0 < c <;> simp [hc]
theorem kidVs_take (zs : List Int) (k : Nat) (c : Int) (h : zs[k]? = some c) : kidVs (zs.take (k + 1)) = kidVs (zs.take k) ++ kidV c := by
  unfold kidVs
  rw [List.take_add_one, h]
  simp
theorem errVs_take (zs : List Int) (k : Nat) (c : Int) (h : zs[k]? = some c) : errVs (zs.take (k + 1)) = errVs (zs.take k) ++ [errV c] := by
  unfold errVs
  rw [List.take_add_one, h]
  simp
theorem kidVs_len : ∀ zs, (kidVs zs).length = (posK zs).length * 3
  | [] => rfl
  | c :: zs => by
    have ih := kidVs_len zs
    unfold kidVs posK kidV at *
    by_cases h : 0 < c
    · simp [h]
      simp at ih
      omega
    · simp [h]
      simpa using ih
theorem posK_mem {zs : List Int} {s : Sh} (h : s ∈ posK zs) : ∃ c, 0 < c ∧ s = codeS c := by
  unfold posK at h
  obtain ⟨c, hc, rfl⟩ := List.mem_map.1 h
  exact ⟨c, by simpa using (List.mem_filter.1 hc).2, rfl⟩

theorem size_join (l : Nat) (zs : List Int) (hz : zs.length ≤ 15) (h0 : posK zs ≠ []) : sizeP (l + 2) (joinS zs) = ((posK zs).length + 1, 2, true) := by
  have hn := posK_len zs
  have hp : 0 < (posK zs).length := List.length_pos_iff.2 h0
  unfold joinS
  rw [sizeP_kids _ _ _ _ (by omega)]
  have e : ((0 : Int) == 0 && !allB.toList.isEmpty && !(posK zs).isEmpty) = true := by
    have : (posK zs).isEmpty = false := by cases h : posK zs <;> simp_all
    simp [toList_all, this]
  rw [e, sizeL_all (sizeP (l + 1)) 1 1 (posK zs) (fun s hs => by
    obtain ⟨c, hc, rfl⟩ := posK_mem hs
    exact size_code l c hc) 1 0 (by omega)]
  rw [if_pos (by omega), if_neg (by omega)]
  simp
  omega
theorem join_ers (zs : List Int) (hz : zs.length ≤ 15) : joinO (ers zs) = if posK zs = [] then none else some (joinS zs) := by
  unfold joinO
  rw [kidsOf_ers]
  show makeO (joinS zs) = _
  unfold makeO
  by_cases h0 : posK zs = []
  · rw [if_pos h0]
    unfold joinS
    rw [h0]
    simp [sizeP, sizeL]
  · rw [if_neg h0, size_join 18 zs hz h0]
    simp
theorem wrap_join (op : ByteArray) (zs : List Int) (hz : zs.length ≤ 15) (h0 : posK zs ≠ []) : wrapO op (some (joinS zs)) = if op.toList.isEmpty then none else some (wrapS op zs) := by
  show makeO (wrapS op zs) = _
  unfold makeO wrapS
  rw [sizeP_kids _ _ _ _ (by omega)]
  have hn := posK_len zs
  have hs := size_join 17 zs hz h0
  by_cases ho : op.toList.isEmpty = true
  · simp [sizeL, ho]
  · have ho : op.toList.isEmpty = false := by simpa using ho
    have h1 : ¬ 50 < 1 + ((posK zs).length + 1) := by omega
    simp [sizeL, ho, hs, h1]
theorem has_join (zs : List Int) (c : Int) (hm : c ∈ zs) (hc : 0 < c) : hasC c (joinS zs) = true := by
  have hmem : codeS c ∈ posK zs := List.mem_map.2 ⟨c, List.mem_filter.2 ⟨hm, by simpa using hc⟩, rfl⟩
  have hp : 0 < (posK zs).length := List.length_pos_iff.2 (fun e => by rw [e] at hmem; simp at hmem)
  unfold joinS
  rw [hasC_wrap _ _ _ _ hp, hasCs_any]
  exact List.any_eq_true.2 ⟨_, hmem, by simp [codeS, hasC]⟩
theorem has_wrap (op : ByteArray) (zs : List Int) (c : Int) (hm : c ∈ zs) (hc : 0 < c) : hasC c (wrapS op zs) = true := by
  unfold wrapS
  rw [hasC_wrap _ _ _ _ (by simp)]
  simp [hasCs, has_join zs c hm hc]

/-- A row of integers in memory. -/
def IRep (w : World) (zs : List Int) (v : Value) : Prop :=
  ∃ a cap b off, v = .slice a zs.length cap ∧ zs.length ≤ maxLen ∧ (0 < zs.length → a = some ⟨b, off, none⟩) ∧ ∀ i, i < zs.length → w.cell? ⟨b, off + i, none⟩ = some (.int .i64 (zs.getD i 0))

/-- Two slices in the making: the kids of a struct variable in block B0, the errors in a slot. -/
def MRel (W0 : World) (B0 : Nat) (xs : List Value) (m : Nat) (kv : Value) (ys : List Value) (k : Nat) (ev : Value) (wr : World) : Prop :=
  B0 < W0.heap.size ∧ wr.heap[B0]? = some (.cells #[.int .i64 0, .string allB, kv] 27 (0, 0)) ∧ wr.ownsRow W0.heap.size 27 3 kv m xs ∧ wr.ownsRow W0.heap.size 29 1 ev k ys ∧
  (∀ b, kv.ownBlock = some b → ev.ownBlock ≠ some b) ∧ W0.grownBy wr (some B0)

end Go.Proofs.YtpdljglamjanmaaDoor
