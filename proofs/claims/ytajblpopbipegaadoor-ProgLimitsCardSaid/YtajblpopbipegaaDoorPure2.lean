/-
  WHAT THE PROGRAM READS AND WRITES, IN ORDER, IS WHAT THE DOCUMENT SAYS.
-/
import Derived.Test.YtajblpopbipegaaDoorPure
namespace Go.Proofs.YtajblpopbipegaaDoor

theorem any_eq (l : List Int) (k : Int) : (l.any fun x => x == k) = decide (k ∈ l) := by
  rw [Bool.eq_iff_iff, List.any_eq_true, decide_eq_true_iff]
  exact ⟨fun ⟨x, h, e⟩ => by rw [← (beq_iff_eq.1 e)]; exact h, fun h => ⟨k, h, by simp⟩⟩
theorem up_mem (l : List Int) (x : Int) : x ∈ upI l ↔ x ∈ l ∧ 0 ≤ x ∧ x < 8 := by
  unfold upI
  rw [List.mem_map]
  constructor
  · rintro ⟨k, hk, rfl⟩
    obtain ⟨h1, h2⟩ := List.mem_filter.1 hk
    rw [any_eq, decide_eq_true_iff] at h2
    have := List.mem_range.1 h1
    exact ⟨h2, by omega, by omega⟩
  · rintro ⟨h1, h2, h3⟩
    obtain ⟨k, rfl⟩ := Int.eq_ofNat_of_zero_le h2
    exact ⟨k, List.mem_filter.2 ⟨List.mem_range.2 (by omega), by rw [any_eq, decide_eq_true_iff]; exact h1⟩, rfl⟩
theorem up_sorted (l : List Int) : (upI l).Pairwise (· < ·) := by
  unfold upI
  rw [List.pairwise_map]
  refine List.Pairwise.filter _ ?_
  exact List.pairwise_lt_range.imp fun h => by omega
/-- Two rising lists of the same numbers are one. -/
theorem rising_eq : ∀ (a b : List Int), a.Pairwise (· < ·) → b.Pairwise (· < ·) → (∀ x, x ∈ a ↔ x ∈ b) → a = b
  | [], [], _, _, _ => rfl
  | [], y :: b, _, _, h => by have := (h y).2 (by simp); simp at this
  | x :: a, [], _, _, h => by have := (h x).1 (by simp); simp at this
  | x :: a, y :: b, ha, hb, h => by
    obtain ⟨ha1, ha2⟩ := List.pairwise_cons.1 ha
    obtain ⟨hb1, hb2⟩ := List.pairwise_cons.1 hb
    have e : x = y := by
      rcases List.mem_cons.1 ((h x).1 (by simp)) with e | e
      · exact e
      · rcases List.mem_cons.1 ((h y).2 (by simp)) with e' | e'
        · exact e'.symm
        · have := hb1 x e; have := ha1 y e'; omega
    subst e
    rw [rising_eq a b ha2 hb2 fun z => ?_]
    constructor
    · intro hz
      rcases List.mem_cons.1 ((h z).1 (by simp [hz])) with e | e
      · have := ha1 z hz; omega
      · exact e
    · intro hz
      rcases List.mem_cons.1 ((h z).2 (by simp [hz])) with e | e
      · have := hb1 z hz; omega
      · exact e

/-- Of a list that does not fall: what is kept rises, and is the same numbers. -/
theorem upTo_facts (d : Array Int) (hs : ∀ i j, i ≤ j → j < d.size → d[i]! ≤ d[j]!) : ∀ m, m ≤ d.size →
    (Lib.compactUpTo d m).Pairwise (· < ·) ∧ (∀ x, x ∈ Lib.compactUpTo d m ↔ ∃ j, j < m ∧ d[j]! = x)
  | 0, _ => by
    refine ⟨by simp [Lib.compactUpTo], fun x => ?_⟩
    simp [Lib.compactUpTo]
  | m + 1, hm => by
    obtain ⟨h1, h2⟩ := upTo_facts d hs m (by omega)
    rw [Lib.compactUpTo_succ]
    by_cases hk : m = 0 ∨ d[m]! ≠ d[m - 1]!
    · have hkeep : Lib.keeps d m = true := by
        rcases hk with rfl | hk
        · exact Lib.keeps_lt_one d 0 (by omega)
        · exact Lib.keeps_pos hk
      rw [if_pos hkeep]
      constructor
      · rw [List.pairwise_append]
        refine ⟨h1, by simp, fun x hx y hy => ?_⟩
        rw [List.mem_singleton.1 hy]
        obtain ⟨j, hj, rfl⟩ := (h2 x).1 hx
        rcases hk with rfl | hk
        · omega
        · have a := hs j (m - 1) (by omega) (by omega)
          have b := hs (m - 1) m (by omega) (by omega)
          omega
      · intro x
        rw [List.mem_append, h2, List.mem_singleton]
        constructor
        · rintro (⟨j, hj, e⟩ | e)
          · exact ⟨j, by omega, e⟩
          · exact ⟨m, by omega, e.symm⟩
        · rintro ⟨j, hj, e⟩
          by_cases hjm : j = m
          · right; rw [← e, hjm]
          · exact .inl ⟨j, by omega, e⟩
    · have hm0 : ¬ m = 0 := fun e => hk (.inl e)
      have he : d[m]! = d[m - 1]! := by
        by_cases e : d[m]! = d[m - 1]!
        · exact e
        · exact absurd (.inr e) hk
      rw [if_neg (by rw [Lib.keeps_neg (by omega) he]; simp), List.append_nil]
      refine ⟨h1, fun x => ?_⟩
      rw [h2]
      constructor
      · rintro ⟨j, hj, e⟩
        exact ⟨j, by omega, e⟩
      · rintro ⟨j, hj, e⟩
        by_cases hjm : j = m
        · exact ⟨m - 1, by omega, by rw [← he, ← hjm]; exact e⟩
        · exact ⟨j, by omega, e⟩
theorem sort_pair (l : List Int) : (sortI l).Pairwise (· ≤ ·) := by
  have h := List.pairwise_mergeSort (le := fun (x y : Int) => decide (x ≤ y)) (fun a b c h1 h2 => by simp at *; omega) (fun a b => by simp; omega) l
  exact h.imp fun h => by simpa using h
theorem rising_facts (l : List Int) : (risingI l).Pairwise (· < ·) ∧ ∀ x, x ∈ risingI l ↔ x ∈ l := by
  have hp := sort_pair l
  have hs : ∀ i j, i ≤ j → j < (sortI l).toArray.size → (sortI l).toArray[i]! ≤ (sortI l).toArray[j]! := fun i j hij hj => by
    have hj' : j < (sortI l).length := by simpa using hj
    rw [getElem!_pos _ i (by simp; omega), getElem!_pos _ j (by simpa using hj')]
    simp only [List.getElem_toArray]
    by_cases e : i = j
    · subst e; omega
    · exact List.pairwise_iff_getElem.1 hp i j (by omega) hj' (by omega)
  obtain ⟨h1, h2⟩ := upTo_facts (sortI l).toArray hs (sortI l).toArray.size (Nat.le_refl _)
  have e : risingI l = Lib.compactUpTo (sortI l).toArray (sortI l).toArray.size := by unfold risingI Lib.compact; simp
  rw [e]
  refine ⟨h1, fun x => ?_⟩
  rw [h2]
  have hm : x ∈ sortI l ↔ x ∈ l := List.mem_mergeSort
  rw [← hm]
  constructor
  · rintro ⟨j, hj, rfl⟩
    rw [getElem!_pos _ j hj]
    simp
  · intro hx
    obtain ⟨j, hj, rfl⟩ := List.getElem_of_mem hx
    exact ⟨j, by simpa using hj, by rw [getElem!_pos _ j (by simpa using hj)]; simp⟩
/-- Ordering, and striking what stands twice, gives the registers that are yes. -/
theorem rising_up (l m : List Int) (h : ∀ x, x ∈ l ↔ x ∈ m) (hr : ∀ x, x ∈ l → 0 ≤ x ∧ x < 8) : risingI l = upI m := by
  obtain ⟨h1, h2⟩ := rising_facts l
  refine rising_eq _ _ h1 (up_sorted m) fun x => ?_
  rw [h2, up_mem, ← h]
  exact ⟨fun hx => ⟨hx, hr x hx⟩, fun hx => hx.1⟩

theorem ops_32 (i : Ins) (h1 : 1 ≤ i.op) (h2 : i.op ≤ 32) : i.op = 1 ∨ i.op = 2 ∨ i.op = 3 ∨ i.op = 4 ∨ i.op = 5 ∨ i.op = 6 ∨ i.op = 7 ∨ i.op = 8 ∨ i.op = 9 ∨ i.op = 10 ∨ i.op = 11 ∨ i.op = 12 ∨ i.op = 13 ∨ i.op = 14 ∨ i.op = 15 ∨ i.op = 16 ∨ i.op = 17 ∨ i.op = 18 ∨ i.op = 19 ∨ i.op = 20 ∨ i.op = 21 ∨ i.op = 22 ∨ i.op = 23 ∨ i.op = 24 ∨ i.op = 25 ∨ i.op = 26 ∨ i.op = 27 ∨ i.op = 28 ∨ i.op = 29 ∨ i.op = 30 ∨ i.op = 31 ∨ i.op = 32 := by omega
theorem reads_mem (i : Ins) (h1 : 1 ≤ i.op) (h2 : i.op ≤ 32) (hc : i.op ≠ 15 → i.cases = []) (x : Int) : x ∈ readsL i ↔ x ∈ inR i := by
  have hcs : i.op ≠ 15 → (i.cases.map fun c => if c.send then [c.ch, c.val] else [c.ch]).flatten = [] := fun h => by rw [hc h]; rfl
  unfold readsL inR
  generalize (i.cases.map fun c => if c.send then [c.ch, c.val] else [c.ch]).flatten = fl at hcs ⊢
  rcases ops_32 i h1 h2 with h | h | h | h | h | h | h | h | h | h | h | h | h | h | h | h | h | h | h | h | h | h | h | h | h | h | h | h | h | h | h | h <;>
    (rw [h] at hcs; simp only [h]; simp [inL, formAt, formsL, rF] at hcs ⊢) <;> (try subst hcs) <;> (try simp) <;> (try exact Or.comm)
theorem writes_mem (i : Ins) (h1 : 1 ≤ i.op) (h2 : i.op ≤ 32) (x : Int) : x ∈ writesL i ↔ x ∈ inW i := by
  unfold writesL inW
  rcases ops_32 i h1 h2 with h | h | h | h | h | h | h | h | h | h | h | h | h | h | h | h | h | h | h | h | h | h | h | h | h | h | h | h | h | h | h | h <;>
    (simp only [h]; simp [inL, formAt, formsL, wF]) <;> (try exact Or.comm)
theorem one_parts {i : Ins} {p : Int} (h : oneB i p = true) : 1 ≤ i.op ∧ i.op ≤ 32 ∧ okF (formAt i.op).1 i.a p = true ∧ okF (formAt i.op).2.1 i.b p = true ∧ okF (formAt i.op).2.2 i.c p = true ∧ (i.op ≠ 15 → i.cases = []) ∧ (i.cases.any badC) = false := by
  unfold oneB at h
  simp only [Bool.and_eq_true, decide_eq_true_eq] at h
  obtain ⟨⟨⟨⟨⟨h1, h2⟩, h3⟩, h4⟩, h5⟩, h6⟩ := h
  refine ⟨h1, h2, h3, h4, h5, ?_, ?_⟩
  · intro hne
    rw [if_neg hne] at h6
    simp only [Bool.and_eq_true] at h6
    exact List.isEmpty_iff.1 h6.1
  · by_cases he : i.op = 15
    · rw [if_pos he] at h6
      simp only [Bool.and_eq_true] at h6
      simpa using h6.1
    · rw [if_neg he] at h6
      simp only [Bool.and_eq_true] at h6
      rw [List.isEmpty_iff.1 h6.1]
      rfl
theorem reg_of {n : Int} (h : regB n = true) : 0 ≤ n ∧ n < 8 := by simpa [regB] using h
theorem r_range {f : Nat} {n p : Int} (h : okF f n p = true) : (∀ x ∈ rF f n, 0 ≤ x ∧ x < 8) ∧ ∀ x ∈ wF f n, 0 ≤ x ∧ x < 8 := by
  unfold rF wF
  constructor
  · split
    · rename_i hf
      intro x hx
      rw [List.mem_singleton.1 hx]
      rcases hf with rfl | rfl <;> exact reg_of (by simpa [okF] using h)
    · intro x hx; simp at hx
  · split
    · rename_i hf
      intro x hx
      rw [List.mem_singleton.1 hx]
      rcases hf with rfl | rfl <;> exact reg_of (by simpa [okF] using h)
    · intro x hx; simp at hx
theorem bad_regs {c : Cs} (h : badC c = false) : regB c.ch = true ∧ regB c.val = true := by
  unfold badC at h
  cases h1 : regB c.ch <;> cases h2 : regB c.val <;> simp [h1, h2] at h ⊢
theorem cases_range {l : List Cs} (h : l.any badC = false) : ∀ x ∈ (l.map fun c => if c.send then [c.ch, c.val] else [c.ch]).flatten, 0 ≤ x ∧ x < 8 := by
  intro x hx
  obtain ⟨m, hm, hxm⟩ := List.mem_flatten.1 hx
  obtain ⟨c, hc, rfl⟩ := List.mem_map.1 hm
  have hb : badC c = false := by
    cases e : badC c with
    | false => rfl
    | true => rw [List.any_eq_true.2 ⟨c, hc, e⟩] at h; simp at h
  obtain ⟨h1, h2⟩ := bad_regs hb
  by_cases hs : c.send = true
  · rw [if_pos hs] at hxm
    rcases List.mem_cons.1 hxm with rfl | hxm
    · exact reg_of h1
    · rw [List.mem_singleton.1 hxm]; exact reg_of h2
  · rw [if_neg hs] at hxm
    rw [List.mem_singleton.1 hxm]; exact reg_of h1
theorem inR_range {i : Ins} {p : Int} (h : oneB i p = true) : ∀ x ∈ inR i, 0 ≤ x ∧ x < 8 := by
  obtain ⟨_, _, h3, h4, h5, _, h7⟩ := one_parts h
  intro x hx
  unfold inR at hx
  rcases List.mem_append.1 hx with hx | hx
  · rcases List.mem_append.1 hx with hx | hx
    · rcases List.mem_append.1 hx with hx | hx
      · exact (r_range h3).1 x hx
      · exact (r_range h4).1 x hx
    · exact (r_range h5).1 x hx
  · exact cases_range h7 x hx
theorem inW_range {i : Ins} {p : Int} (h : oneB i p = true) : ∀ x ∈ inW i, 0 ≤ x ∧ x < 8 := by
  obtain ⟨_, _, h3, h4, h5, _, _⟩ := one_parts h
  intro x hx
  unfold inW at hx
  rcases List.mem_append.1 hx with hx | hx
  · rcases List.mem_append.1 hx with hx | hx
    · exact (r_range h3).2 x hx
    · exact (r_range h4).2 x hx
  · exact (r_range h5).2 x hx
theorem reads_ref (i : Ins) : readsB i = refReads i := by
  unfold readsB refReads
  rw [good_one]
  by_cases h : oneB i 100 = true
  · rw [if_pos h, if_pos h]
    obtain ⟨h1, h2, _, _, _, h6, _⟩ := one_parts h
    exact rising_up _ _ (reads_mem i h1 h2 h6) fun x hx => inR_range h x ((reads_mem i h1 h2 h6 x).1 hx)
  · rw [if_neg h, if_neg h]
theorem writes_ref (i : Ins) : writesB i = refWrites i := by
  unfold writesB refWrites
  rw [good_one]
  by_cases h : oneB i 100 = true
  · rw [if_pos h, if_pos h]
    obtain ⟨h1, h2, _, _, _, _, _⟩ := one_parts h
    exact rising_up _ _ (writes_mem i h1 h2) fun x hx => inW_range h x ((writes_mem i h1 h2 x).1 hx)
  · rw [if_neg h, if_neg h]
end Go.Proofs.YtajblpopbipegaaDoor
