/-
  PROGRAMS AS PLAIN DATA: what may be, what is read, what is written; the program's answers and the document's are the same.
-/
import Derived.Lib.SlicesCompact
namespace Go.Proofs.YtajblpopbipegaaDoor

structure Cs where
  send : Bool
  ch : Int
  val : Int
instance : Inhabited Cs := ⟨⟨false, 0, 0⟩⟩
structure Ins where
  op : Int
  a : Int
  b : Int
  c : Int
  cases : List Cs
  dflt : Bool
instance : Inhabited Ins := ⟨⟨0, 0, 0, 0, [], false⟩⟩

/-- A register. -/
def regB (n : Int) : Bool := decide (0 ≤ n) && decide (n < 8)
/-- The kinds of the fields A, B, C of each operation, one behind the other. -/
def fieldsL : List Nat := [114, 110, 45, 114, 114, 45, 114, 110, 45, 112, 45, 45, 114, 112, 45, 114, 45, 45, 45, 45, 45, 114, 103, 45, 114, 110, 45, 114, 114, 45, 114, 114, 114, 114, 45, 45, 114, 114, 45, 114, 114, 45, 114, 114, 114, 114, 45, 45, 114, 114, 114, 114, 114, 114, 114, 114, 103, 114, 114, 45, 114, 114, 114, 114, 114, 45, 114, 114, 114, 114, 114, 114, 114, 114, 45, 114, 114, 45, 114, 114, 45, 114, 114, 45, 114, 114, 45, 114, 114, 114, 114, 114, 103, 114, 114, 45]
/-- May a field of that kind be n, among so many places? -/
def mayB (k : Nat) (n p : Int) : Bool := if k = 114 then regB n else if k = 112 then decide (0 ≤ n) && decide (n ≤ p) else if k = 103 then decide (0 ≤ n) && decide (n < 16) else if k = 45 then decide (n = 0) else true
/-- A case that may not be. -/
def badC (c : Cs) : Bool := !regB c.ch || !regB c.val || (!c.send && decide (c.val ≠ 0))
def kindAt (op : Int) (j : Nat) : Nat := fieldsL.getD (3 * (op.toNat - 1) + j) 0
def headB (i : Ins) : Bool := decide (1 ≤ i.op) && decide (i.op ≤ 32) && (decide (i.op = 15) || (i.cases.isEmpty && !i.dflt)) && decide (i.cases.length ≤ 16)
/-- May an instruction be, among so many places? -/
def goodB (i : Ins) (p : Int) : Bool := headB i && mayB (kindAt i.op 0) i.a p && mayB (kindAt i.op 1) i.b p && mayB (kindAt i.op 2) i.c p && !(i.cases.any badC)

/-- The document's forms. -/
def formsL : List (Nat × Nat × Nat) := [(0, 0, 0), (2, 5, 0), (2, 1, 0), (6, 5, 0), (3, 0, 0), (1, 3, 0), (1, 0, 0), (0, 0, 0), (2, 4, 0), (2, 5, 0), (1, 1, 0), (1, 2, 2), (1, 0, 0), (1, 2, 0), (1, 2, 0), (2, 2, 2), (2, 0, 0), (2, 1, 2), (2, 1, 2), (2, 1, 4), (1, 2, 0), (1, 1, 2), (2, 1, 0), (2, 1, 1), (2, 1, 1), (2, 1, 0), (1, 1, 0), (1, 2, 0), (1, 2, 0), (1, 2, 0), (1, 2, 2), (2, 1, 4), (1, 2, 0)]
def formAt (op : Int) : Nat × Nat × Nat := if 0 ≤ op then formsL.getD op.toNat (0, 0, 0) else (0, 0, 0)
def okF (f : Nat) (n p : Int) : Bool := if f = 0 then decide (n = 0) else if f = 3 then decide (0 ≤ n) && decide (n ≤ p) else if f = 4 then decide (0 ≤ n) && decide (n < 16) else if f = 5 then true else regB n
def oneB (i : Ins) (p : Int) : Bool := decide (1 ≤ i.op) && decide (i.op ≤ 32) && okF (formAt i.op).1 i.a p && okF (formAt i.op).2.1 i.b p && okF (formAt i.op).2.2 i.c p && (if i.op = 15 then !(i.cases.any badC) && decide (i.cases.length ≤ 16) else i.cases.isEmpty && !i.dflt)

def rel (k f : Nat) : Bool := (k == 114 && (f == 1 || f == 2 || f == 6)) || (k == 45 && f == 0) || (k == 112 && f == 3) || (k == 103 && f == 4) || (k == 110 && f == 5)
theorem rel_all : ∀ n : Fin 32, rel (fieldsL.getD (3 * n.val) 0) (formsL.getD (n.val + 1) (0, 0, 0)).1 = true ∧ rel (fieldsL.getD (3 * n.val + 1) 0) (formsL.getD (n.val + 1) (0, 0, 0)).2.1 = true ∧ rel (fieldsL.getD (3 * n.val + 2) 0) (formsL.getD (n.val + 1) (0, 0, 0)).2.2 = true := by decide
theorem may_ok {k f : Nat} (h : rel k f = true) (n p : Int) : mayB k n p = okF f n p := by
  unfold rel at h
  simp only [Bool.or_eq_true, Bool.and_eq_true, beq_iff_eq] at h
  rcases h with (((⟨rfl, (h | h) | h⟩ | ⟨rfl, rfl⟩) | ⟨rfl, rfl⟩) | ⟨rfl, rfl⟩) | ⟨rfl, rfl⟩
  · subst h; rfl
  · subst h; rfl
  · subst h; rfl
  · rfl
  · rfl
  · rfl
  · rfl
theorem rel_at (op : Int) (h1 : 1 ≤ op) (h2 : op ≤ 32) : rel (kindAt op 0) (formAt op).1 = true ∧ rel (kindAt op 1) (formAt op).2.1 = true ∧ rel (kindAt op 2) (formAt op).2.2 = true := by
  obtain ⟨n, rfl⟩ := Int.eq_ofNat_of_zero_le (show 0 ≤ op by omega)
  have h := rel_all ⟨n - 1, by omega⟩
  unfold kindAt formAt
  rw [if_pos (by omega)]
  simp only [Int.toNat_natCast] at h ⊢
  rw [show n - 1 + 1 = n by omega] at h
  exact h
theorem good_one (i : Ins) (p : Int) : goodB i p = oneB i p := by
  unfold goodB oneB headB
  by_cases h : 1 ≤ i.op ∧ i.op ≤ 32
  · obtain ⟨h1, h2⟩ := h
    obtain ⟨r0, r1, r2⟩ := rel_at i.op h1 h2
    rw [may_ok r0, may_ok r1, may_ok r2]
    generalize okF (formAt i.op).1 i.a p = x
    generalize okF (formAt i.op).2.1 i.b p = y
    generalize okF (formAt i.op).2.2 i.c p = z
    by_cases h3 : i.op = 15
    · simp only [h3, decide_true, Bool.true_or, if_true]
      generalize decide (i.cases.length ≤ 16) = u
      generalize i.cases.any badC = v
      cases x <;> cases y <;> cases z <;> cases u <;> cases v <;> simp
    · simp only [h1, h2, h3, decide_true, decide_false, Bool.false_or, Bool.true_and, if_false]
      cases hc : i.cases with
      | nil => simp; cases x <;> cases y <;> cases z <;> simp
      | cons c l => simp
  · have : (decide (1 ≤ i.op) && decide (i.op ≤ 32)) = false := by
      rw [Bool.and_eq_false_iff]
      by_cases h1 : 1 ≤ i.op
      · right; simp; omega
      · left; simp; omega
    simp [this]

/-- Programs. -/
def checkB (l : List Ins) : Bool := decide (l.length ≤ 100) && l.all fun i => goodB i l.length
def startsN (i : Ins) : Int := if i.op = 8 then i.b else if i.op = 19 ∨ i.op = 31 then i.c else -1
def allB (l : List (List Ins)) : Bool := decide (1 ≤ l.length) && decide (l.length ≤ 16) && l.all fun p => checkB p && !(p.any fun i => decide ((l.length : Int) ≤ startsN i))

/-- What is read, ahead of its ordering. -/
def inL (l : List Int) (x : Int) : Bool := l.any (· == x)
def readsL (i : Ins) : List Int :=
  if inL [23, 24] i.op then [i.c, i.b]
  else if inL [2, 17, 18, 19, 22, 25, 31] i.op then [i.b]
  else if inL [10, 21, 26] i.op then [i.b, i.a]
  else if inL [3, 5, 6, 11, 12, 13, 14, 20, 27, 28, 29, 30, 32] i.op then [i.a]
  else if i.op = 15 then (i.cases.map fun c => if c.send then [c.ch, c.val] else [c.ch]).flatten
  else []
def writesL (i : Ins) : List Int :=
  if inL [11, 30] i.op then [i.c, i.b]
  else if inL [13, 14, 20, 27, 28, 29, 32] i.op then [i.b]
  else if inL [17, 18] i.op then [i.c, i.a]
  else if inL [1, 2, 3, 8, 9, 16, 19, 22, 23, 24, 25, 31] i.op then [i.a]
  else if i.op = 21 then [i.c]
  else if i.op = 15 then [i.a, i.b, i.c]
  else []
def sortI (l : List Int) : List Int := l.mergeSort fun x y => decide (x ≤ y)
def risingI (l : List Int) : List Int := Lib.compact (sortI l)
def readsB (i : Ins) : List Int := if goodB i 100 then risingI (readsL i) else []
def writesB (i : Ins) : List Int := if goodB i 100 then risingI (writesL i) else []

/-- The document's: which registers are yes. -/
def upI (l : List Int) : List Int := ((List.range 8).filter fun (k : Nat) => l.any fun x => x == (k : Int)).map fun (k : Nat) => (k : Int)
def rF (f : Nat) (n : Int) : List Int := if f = 1 ∨ f = 6 then [n] else []
def wF (f : Nat) (n : Int) : List Int := if f = 2 ∨ f = 6 then [n] else []
def inR (i : Ins) : List Int := rF (formAt i.op).1 i.a ++ rF (formAt i.op).2.1 i.b ++ rF (formAt i.op).2.2 i.c ++ (i.cases.map fun c => if c.send then [c.ch, c.val] else [c.ch]).flatten
def inW (i : Ins) : List Int := wF (formAt i.op).1 i.a ++ wF (formAt i.op).2.1 i.b ++ wF (formAt i.op).2.2 i.c
def refReads (i : Ins) : List Int := if oneB i 100 then upI (inR i) else []
def refWrites (i : Ins) : List Int := if oneB i 100 then upI (inW i) else []
end Go.Proofs.YtajblpopbipegaaDoor
