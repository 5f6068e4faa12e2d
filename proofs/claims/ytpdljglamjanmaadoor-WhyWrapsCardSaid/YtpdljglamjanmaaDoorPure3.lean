/-
  PLAIN LEAN, MORE: what is said of an error, whatever the decimal of a number is made by (f).
-/
import Derived.Test.YtpdljglamjanmaaDoorPure2
import Derived.Lib.Join
namespace Go.Proofs.YtpdljglamjanmaaDoor
open Go

mutual
/-- The text of an error; 'f' tells a number in decimal. -/
def say (f : Int → List UInt8) : Sh → List UInt8
  | .mk c _ [] => [99, 111, 100, 101, 32] ++ f c
  | .mk _ op (k :: ks) => op.data.toList ++ [58, 32] ++ Lib.join (say f k :: says f ks) [59, 32]
def says (f : Int → List UInt8) : List Sh → List (List UInt8)
  | [] => []
  | k :: ks => say f k :: says f ks
end

mutual
/-- A bound of its length. -/
def wt : Sh → Nat
  | .mk _ _ [] => 40
  | .mk _ op (k :: ks) => op.size + 2 + (wt k + 2) + wts ks
def wts : List Sh → Nat
  | [] => 0
  | k :: ks => (wt k + 2) + wts ks
end

/-- Every code of the shape. -/
inductive AllC (p : Int → Prop) : Sh → Prop
  | code (n : Int) (op : ByteArray) (h : p n) : AllC p (.mk n op [])
  | wrap (c : Int) (op : ByteArray) (ks : List Sh) (hk : 0 < ks.length) (h : ∀ s, s ∈ ks → AllC p s) : AllC p (.mk c op ks)

theorem says_map (f : Int → List UInt8) : ∀ ks, says f ks = ks.map (say f)
  | [] => rfl
  | k :: ks => by simp [says, says_map f ks]
theorem say_wrap (f : Int → List UInt8) (c : Int) (op : ByteArray) (ks : List Sh) (h : 0 < ks.length) : say f (.mk c op ks) = op.data.toList ++ [58, 32] ++ Lib.join (ks.map (say f)) [59, 32] := by
  cases ks with
  | nil => simp at h
  | cons k ks => simp [say, says_map]
theorem wt_wrap (c : Int) (op : ByteArray) (ks : List Sh) (h : 0 < ks.length) : wt (.mk c op ks) = op.size + 2 + wts ks := by
  cases ks with
  | nil => simp at h
  | cons k ks => simp [wt, wts]; omega
theorem wts_mem : ∀ (ks : List Sh) (s : Sh), s ∈ ks → wt s + 2 ≤ wts ks
  | [], s, h => by simp at h
  | k :: ks, s, h => by
    simp only [wts]
    rcases List.mem_cons.1 h with rfl | h
    · omega
    · have := wts_mem ks s h; omega

theorem joinTail_len (f : Int → List UInt8) : ∀ ks : List Sh, (∀ s ∈ ks, (say f s).length ≤ wt s) → (Lib.joinTail [59, 32] (ks.map (say f))).length ≤ wts ks
  | [], _ => by simp [Lib.joinTail, wts]
  | k :: ks, h => by
    have h1 := h k (by simp)
    have h2 := joinTail_len f ks (fun s hs => h s (by simp [hs]))
    simp only [Lib.joinTail] at h2 ⊢
    simp only [List.map_cons, List.flatten_cons, List.length_append, wts, List.length_cons, List.length_nil]
    omega
theorem join_len (f : Int → List UInt8) (ks : List Sh) (h : ∀ s ∈ ks, (say f s).length ≤ wt s) : (Lib.join (ks.map (say f)) [59, 32]).length ≤ wts ks := by
  cases ks with
  | nil => simp [Lib.join_nil, wts]
  | cons k ks =>
    have h1 := h k (by simp)
    have h2 := joinTail_len f ks (fun s hs => h s (by simp [hs]))
    rw [List.map_cons, Lib.join_cons, List.length_append]
    simp only [wts]
    omega
theorem say_len (f : Int → List UInt8) (s : Sh) (hg : Good s) (h : AllC (fun n => (f n).length ≤ 30) s) : (say f s).length ≤ wt s := by
  induction hg with
  | code n hn =>
    cases h with
    | code n op h => simp only [say, wt, List.length_append, List.length_cons, List.length_nil]; omega
    | wrap c op ks hk h => simp at hk
  | wrap op ks ho hk hgs ih =>
    cases h with
    | code n op h => simp at hk
    | wrap c op ks _ h =>
      rw [say_wrap _ _ _ _ hk, wt_wrap _ _ _ hk]
      have := join_len f ks (fun s hs => ih s hs (h s hs))
      simp only [List.length_append, List.length_cons, List.length_nil, Array.length_toList]
      have e : op.data.size = op.size := rfl
      omega
end Go.Proofs.YtpdljglamjanmaaDoor
