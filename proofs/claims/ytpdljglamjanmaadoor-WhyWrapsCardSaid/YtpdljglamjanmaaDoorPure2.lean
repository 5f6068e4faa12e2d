/-
  PLAIN LEAN, MORE: which codes are in a shape.
-/
import Derived.Test.YtpdljglamjanmaaDoorPure
namespace Go.Proofs.YtpdljglamjanmaaDoor
mutual
/-- Is the code n in the shape? -/
def hasC (n : Int) : Sh → Bool
  | .mk c _ [] => c == n
  | .mk _ _ (k :: ks) => hasC n k || hasCs n ks
def hasCs (n : Int) : List Sh → Bool
  | [] => false
  | k :: ks => hasC n k || hasCs n ks
end

theorem hasC_wrap (n c : Int) (op : ByteArray) (ks : List Sh) (h : 0 < ks.length) : hasC n (.mk c op ks) = hasCs n ks := by
  cases ks with
  | nil => simp at h
  | cons k ks => rfl
theorem hasCs_drop_nil (n : Int) (ks : List Sh) (k : Nat) (h : ks.length ≤ k) : hasCs n (ks.drop k) = false := by rw [List.drop_eq_nil_of_le h]; rfl
theorem hasCs_drop (n : Int) (ks : List Sh) (k : Nat) (s : Sh) (h : ks[k]? = some s) : hasCs n (ks.drop k) = (hasC n s || hasCs n (ks.drop (k + 1))) := by
  obtain ⟨hl, hs⟩ := List.getElem?_eq_some_iff.1 h
  rw [List.drop_eq_getElem_cons hl, hs]; rfl
end Go.Proofs.YtpdljglamjanmaaDoor
