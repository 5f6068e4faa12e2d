/-
  PLAIN LEAN: the shapes of errors, and what the program's functions on shapes come to. No program in sight.
-/
namespace Go.Proofs.YtpdljglamjanmaaDoor

/-- An error's shape: its own code, what it is called, what it wraps. -/
inductive Sh where
  | mk (code : Int) (op : ByteArray) (kids : List Sh)

def Sh.code : Sh → Int | .mk c _ _ => c
def Sh.op : Sh → ByteArray | .mk _ o _ => o
def Sh.kids : Sh → List Sh | .mk _ _ k => k

def sizeL (f : Sh → Nat × Nat × Bool) : List Sh → Nat → Nat → Bool → Nat × Nat × Bool
  | [], n, d, ok => (n, d + 1, ok)
  | k :: ks, n, d, ok => if (!(ok && (f k).2.2) || decide (50 < n + (f k).1)) then (0, 0, false) else sizeL f ks (n + (f k).1) (max d (f k).2.1) (ok && (f k).2.2)

/-- What 'size' comes to with so many levels left. -/
def sizeP : Nat → Sh → Nat × Nat × Bool
  | 0, _ => (0, 0, false)
  | l + 1, .mk c op ks => if 0 < c then (1, 1, op.toList.isEmpty && ks.isEmpty) else sizeL (sizeP l) ks 1 0 ((c == 0) && !op.toList.isEmpty && !ks.isEmpty)

/-- A shape that may be, but for its depth and its number. -/
inductive Good : Sh → Prop
  | code (n : Int) (h : 0 < n) : Good (.mk n ⟨#[]⟩ [])
  | wrap (op : ByteArray) (ks : List Sh) (ho : op.toList.isEmpty = false) (hk : 0 < ks.length) (hg : ∀ s, s ∈ ks → Good s) : Good (.mk 0 op ks)

/-- The code that stands first, from the left. -/
def firstCode : Sh → Int
  | .mk c _ [] => c
  | .mk _ _ (k :: _) => firstCode k

theorem sizeL_bd (f : Sh → Nat × Nat × Bool) (l : Nat) (hf : ∀ s, (f s).1 ≤ 50 ∧ (f s).2.1 ≤ l) : ∀ (ks : List Sh) (n d : Nat) (ok : Bool), n ≤ 50 → d ≤ l → (sizeL f ks n d ok).1 ≤ 50 ∧ (sizeL f ks n d ok).2.1 ≤ l + 1
  | [], n, d, ok, hn, hd => ⟨hn, by simp [sizeL]; omega⟩
  | k :: ks, n, d, ok, hn, hd => by
    unfold sizeL
    split
    · simp
    · rename_i h
      simp at h
      exact sizeL_bd f l hf ks _ _ _ (by omega) (by have := (hf k).2; omega)

theorem sizeP_bd : ∀ (l : Nat) (s : Sh), (sizeP l s).1 ≤ 50 ∧ (sizeP l s).2.1 ≤ l
  | 0, s => by simp [sizeP]
  | l + 1, .mk c op ks => by
    unfold sizeP
    split
    · simp
    · exact sizeL_bd _ l (sizeP_bd l) ks 1 0 _ (by omega) (by omega)

theorem sizeP_code (l : Nat) (c : Int) (op : ByteArray) (ks : List Sh) (h : 0 < c) : sizeP (l + 1) (.mk c op ks) = (1, 1, op.toList.isEmpty && ks.isEmpty) := by simp [sizeP, h]
theorem sizeP_kids (l : Nat) (c : Int) (op : ByteArray) (ks : List Sh) (h : ¬ 0 < c) : sizeP (l + 1) (.mk c op ks) = sizeL (sizeP l) ks 1 0 ((c == 0) && !op.toList.isEmpty && !ks.isEmpty) := by simp [sizeP, h]

theorem sizeL_good (f : Sh → Nat × Nat × Bool) (hf : ∀ s, (f s).2.2 = true → Good s) : ∀ (ks : List Sh) (n d : Nat) (ok : Bool), (sizeL f ks n d ok).2.2 = true → ok = true ∧ ∀ s ∈ ks, Good s
  | [], n, d, ok, h => ⟨h, by simp⟩
  | k :: ks, n, d, ok, h => by
    unfold sizeL at h
    split at h
    · simp at h
    · rename_i hc
      simp at hc
      obtain ⟨h1, h2⟩ := sizeL_good f hf ks _ _ _ h
      simp at h1
      exact ⟨h1.1, fun s hs => by
        rcases List.mem_cons.1 hs with rfl | hs
        · exact hf _ h1.2
        · exact h2 s hs⟩

theorem toList_empty {op : ByteArray} (h : op.toList.isEmpty = true) : op = ⟨#[]⟩ := by
  have h0 : op.size = 0 := by
    rcases Nat.eq_zero_or_pos op.size with h0 | h0
    · exact h0
    · unfold ByteArray.toList at h
      rw [ByteArray.toList.loop] at h
      simp [h0] at h
      have : ∀ (n i : Nat) (l : List UInt8), op.size - i ≤ n → l ≠ [] → ByteArray.toList.loop op i l ≠ [] := by
        intro n
        induction n with
        | zero => intro i l hi hl; unfold ByteArray.toList.loop; simp [show ¬ i < op.size by omega, hl]
        | succ n ih =>
          intro i l hi hl
          unfold ByteArray.toList.loop
          split
          · exact ih _ _ (by omega) (by simp)
          · simp [hl]
      exact absurd h (this _ 1 _ (Nat.le_refl _) (by simp))
  obtain ⟨d⟩ := op
  have : d = #[] := Array.eq_empty_of_size_eq_zero h0
  rw [this]

theorem good_of_size : ∀ (l : Nat) (s : Sh), (sizeP l s).2.2 = true → Good s
  | 0, s, h => by simp [sizeP] at h
  | l + 1, .mk c op ks, h => by
    by_cases h0 : 0 < c
    · rw [sizeP_code _ _ _ _ h0] at h
      simp at h
      obtain ⟨h1, rfl⟩ := h
      have e : op = ⟨#[]⟩ := toList_empty (by simpa using h1)
      subst e
      exact .code c h0
    · rw [sizeP_kids _ _ _ _ h0] at h
      obtain ⟨h1, h2⟩ := sizeL_good _ (good_of_size l) _ _ _ _ h
      simp at h1
      obtain ⟨⟨rfl, h3⟩, h4⟩ := h1
      exact .wrap op ks (by simpa using h3) (by cases ks <;> simp_all) h2

end Go.Proofs.YtpdljglamjanmaaDoor
