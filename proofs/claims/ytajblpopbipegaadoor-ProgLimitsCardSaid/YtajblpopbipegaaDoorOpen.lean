/-
  FROM HOW AN ARGUMENT READS TO HOW IT LIES: cases, programs, rows of programs.
-/
import Derived.Test.YtajblpopbipegaaDoorMem
import Derived.Deep.Slices
import Derived.ChangeSame
namespace Go.Proofs.YtajblpopbipegaaDoor
open Go.RowKit Go.ChangeShapes Go.WideShapes Go.Deep

theorem list_of {α : Type} {Q : Nat → α → Prop} : ∀ n : Nat, (∀ i, i < n → ∃ x, Q i x) → ∃ l : List α, l.length = n ∧ ∀ i x, l[i]? = some x → Q i x
  | 0, _ => ⟨[], rfl, fun i x h => by simp at h⟩
  | n + 1, h => by
    obtain ⟨l, hl, hq⟩ := list_of n (fun i hi => h i (by omega))
    obtain ⟨x, hx⟩ := h n (by omega)
    refine ⟨l ++ [x], by simp [hl], fun i y hi => ?_⟩
    by_cases hin : i < n
    · rw [List.getElem?_append_left (by omega)] at hi
      exact hq i y hi
    · have : i = n := by
        have := (List.getElem?_eq_some_iff.1 hi).1
        simp [hl] at this
        omega
      subst this
      rw [← hl, List.getElem?_concat_length] at hi
      injection hi with hi
      rw [← hi]; exact hx

theorem spot_none {w : World} {a : Addr} {v : Value} (h : w.cell? a = some v) : a = ⟨a.block, a.off, none⟩ := by
  obtain ⟨b, o, s⟩ := a
  cases s with
  | none => rfl
  | some x =>
    exfalso
    unfold World.cell? at h
    split at h
    · simp at h
    · cases h
/-- What is asked of a field: its type, its place. -/
def fieldsAre (fs : Array Field) (l : List (TypeId × Nat)) : Prop := fs.toList.map (fun f => (f.type, f.offset)) = l
theorem field_at {fs : Array Field} {l : List (TypeId × Nat)} (h : fieldsAre fs l) (i : Nat) (x : TypeId × Nat) (hi : l[i]? = some x) : ∃ f : Field, fs[i]? = some f ∧ f.type = x.1 ∧ f.offset = x.2 := by
  unfold fieldsAre at h
  rw [← h, List.getElem?_map] at hi
  cases hf : fs.toList[i]? with
  | none => rw [hf] at hi; cases hi
  | some f =>
    rw [hf] at hi
    simp at hi
    exact ⟨f, by simpa using hf, by rw [← hi], by rw [← hi]⟩
/-- The types that programs are made of. -/
structure Und (P : Program) : Prop where
  u3 : P.underlying 3 = some (.int .i64)
  u4 : P.underlying 4 = some .bool
  u22 : P.underlying 22 = some (.slice 29)
  u29 : P.underlying 29 = some (.slice 36)
  u34 : P.underlying 34 = some (.slice 41)
  u36 : ∃ fs, P.underlying 36 = some (.struct fs) ∧ fieldsAre fs [(3, 0), (3, 1), (3, 2), (3, 3), (34, 4), (4, 5)]
  u41 : ∃ fs, P.underlying 41 = some (.struct fs) ∧ fieldsAre fs [(4, 0), (3, 1), (3, 2)]
  c36 : P.cellsOf 36 = 6
  c41 : P.cellsOf 41 = 3
  c29 : P.cellsOf 29 = 1
  c34 : P.cellsOf 34 = 1
  c3 : P.cellsOf 3 = 1
  c4 : P.cellsOf 4 = 1
section
variable {P : Program} {H : Type} {enc : TypeId × Value → H} {w : World} {spare : Nat → Bool} {held : Bool}

theorem open_case (U : Und P) {n : Nat} {cs : List Value} {y : DataW H × List MemPlace} (h : DataW.trod enc P w 0 spare held n 41 cs = some y) : ∃ c : Cs, cs = [.bool c.send, .int .i64 c.ch, .int .i64 c.val] := by
  obtain ⟨fs, hu, hfs⟩ := U.u41
  obtain ⟨ys, n', _, _, hlen, hyl, hf⟩ := DataW.trod_struct hu h
  rw [U.c41] at hlen
  have hyl : ys.length = 3 := by rw [hyl]; simpa [fieldsAre] using congrArg List.length hfs
  obtain ⟨k0, a0, b0, d0⟩ := field_at hfs 0 _ rfl
  obtain ⟨k1, a1, b1, d1⟩ := field_at hfs 1 _ rfl
  obtain ⟨k2, a2, b2, d2⟩ := field_at hfs 2 _ rfl
  match cs, hlen with
  | [c0, c1, c2], _ =>
    match ys, hyl with
    | [y0, y1, y2], _ =>
      obtain ⟨b, e0, _⟩ := DataW.trod_bool U.u4 (by have := hf 0 _ a0; rw [b0, d0] at this; simpa [U.c4] using this)
      obtain ⟨p, e1, _⟩ := DataW.trod_int U.u3 (by have := hf 1 _ a1; rw [b1, d1] at this; simpa [U.c3] using this)
      obtain ⟨q, e2, _⟩ := DataW.trod_int U.u3 (by have := hf 2 _ a2; rw [b2, d2] at this; simpa [U.c3] using this)
      injection e0 with e0
      injection e1 with e1
      injection e2 with e2
      exact ⟨⟨b, p, q⟩, by rw [e0, e1, e2]⟩
theorem open_cases (U : Und P) {n : Nat} {v : Value} {y : DataW H × List MemPlace} (h : DataW.trod enc P w 0 spare held n 34 [v] = some y) : ∃ cs, CRep w cs v := by
  rcases open_slice U.u34 h with ⟨h0, _⟩ | ⟨a, len, cap, m, n', D, Pl, hcs, _, hl, hm, hmm, _, hi⟩
  · injection h0 with h0
    subst h0
    exact ⟨[], none, 0, 0, 0, rfl, Nat.le_refl _, by unfold maxLen; omega, fun h => by simp at h, fun j c hj => by simp at hj⟩
  · injection hcs with hv
    subst hv
    have hml : len ≤ m := by rw [hmm]; split <;> omega
    have key : ∀ i, i < len → ∃ c : Cs, a.spot = none ∧ w.cell? ⟨a.block, a.off + i * 3, none⟩ = some (.bool c.send) ∧ w.cell? ⟨a.block, a.off + i * 3 + 1, none⟩ = some (.int .i64 c.ch) ∧ w.cell? ⟨a.block, a.off + i * 3 + 2, none⟩ = some (.int .i64 c.val) := fun i hil => by
      obtain ⟨cs', hc, ht⟩ := hi i (by omega)
      obtain ⟨_, _, hat0⟩ := World.cells?_some hc
      rw [U.c41] at hat0
      obtain ⟨c, rfl⟩ := open_case U ht
      have hsp : a.spot = none := by
        obtain ⟨_, ⟨cs0, hc0, ht0⟩⟩ : True ∧ _ := ⟨trivial, hi 0 (by omega)⟩
        obtain ⟨_, _, hat1⟩ := World.cells?_some hc0
        rw [U.c41] at hat1
        obtain ⟨c0, rfl⟩ := open_case U ht0
        have h1 := hat1 0 (by omega)
        have := spot_none (w := w) (a := a) (v := .bool c0.send) (by simpa [Addr.add] using h1)
        rw [this]
      obtain ⟨b, o, s⟩ := a
      simp only at hsp
      subst hsp
      have g0 := hat0 0 (by omega)
      have g1 := hat0 1 (by omega)
      have g2 := hat0 2 (by omega)
      simp only [Addr.add_lit] at g0 g1 g2
      exact ⟨c, rfl, by simpa using g0, by simpa using g1, by simpa using g2⟩
    obtain ⟨l, hll, hq⟩ := list_of len key
    subst hll
    obtain ⟨b, o, s⟩ := a
    refine ⟨l, some ⟨b, o, s⟩, cap, b, o, rfl, hl, hm, fun h0 => ?_, fun j c hj => (hq j c hj).2⟩
    have := (hq 0 _ (List.getElem?_eq_getElem h0)).1
    simp only at this
    rw [this]
theorem open_ins (U : Und P) {n : Nat} {cs : List Value} {y : DataW H × List MemPlace} (h : DataW.trod enc P w 0 spare held n 36 cs = some y) : ∃ (i : Ins) (cv : Value), cs = [.int .i64 i.op, .int .i64 i.a, .int .i64 i.b, .int .i64 i.c, cv, .bool i.dflt] ∧ CRep w i.cases cv := by
  obtain ⟨fs, hu, hfs⟩ := U.u36
  obtain ⟨ys, n', _, _, hlen, hyl, hf⟩ := DataW.trod_struct hu h
  rw [U.c36] at hlen
  have hyl : ys.length = 6 := by rw [hyl]; simpa [fieldsAre] using congrArg List.length hfs
  obtain ⟨k0, a0, b0, d0⟩ := field_at hfs 0 _ rfl
  obtain ⟨k1, a1, b1, d1⟩ := field_at hfs 1 _ rfl
  obtain ⟨k2, a2, b2, d2⟩ := field_at hfs 2 _ rfl
  obtain ⟨k3, a3, b3, d3⟩ := field_at hfs 3 _ rfl
  obtain ⟨k4, a4, b4, d4⟩ := field_at hfs 4 _ rfl
  obtain ⟨k5, a5, b5, d5⟩ := field_at hfs 5 _ rfl
  match cs, hlen with
  | [c0, c1, c2, c3, c4, c5], _ =>
    match ys, hyl with
    | [y0, y1, y2, y3, y4, y5], _ =>
      obtain ⟨p0, e0, _⟩ := DataW.trod_int U.u3 (by have := hf 0 _ a0; rw [b0, d0] at this; simpa [U.c3] using this)
      obtain ⟨p1, e1, _⟩ := DataW.trod_int U.u3 (by have := hf 1 _ a1; rw [b1, d1] at this; simpa [U.c3] using this)
      obtain ⟨p2, e2, _⟩ := DataW.trod_int U.u3 (by have := hf 2 _ a2; rw [b2, d2] at this; simpa [U.c3] using this)
      obtain ⟨p3, e3, _⟩ := DataW.trod_int U.u3 (by have := hf 3 _ a3; rw [b3, d3] at this; simpa [U.c3] using this)
      obtain ⟨l, hl⟩ := open_cases U (v := c4) (by have := hf 4 _ a4; rw [b4, d4] at this; simpa [U.c34] using this)
      obtain ⟨b, e5, _⟩ := DataW.trod_bool U.u4 (by have := hf 5 _ a5; rw [b5, d5] at this; simpa [U.c4] using this)
      injection e0 with e0
      injection e1 with e1
      injection e2 with e2
      injection e3 with e3
      injection e5 with e5
      exact ⟨⟨p0, p1, p2, p3, l, b⟩, c4, by rw [e0, e1, e2, e3, e5], hl⟩
theorem open_prog (U : Und P) {n : Nat} {v : Value} {y : DataW H × List MemPlace} (h : DataW.trod enc P w 0 spare held n 29 [v] = some y) : ∃ l, LRep w l v := by
  rcases open_slice U.u29 h with ⟨h0, _⟩ | ⟨a, len, cap, m, n', D, Pl, hcs, _, hl, hm, hmm, _, hi⟩
  · injection h0 with h0
    subst h0
    exact ⟨[], none, 0, 0, 0, fun _ => .nilIface, rfl, Nat.le_refl _, by unfold maxLen; omega, fun h => by simp at h, fun j c hj => by simp at hj⟩
  · injection hcs with hv
    subst hv
    have hml : len ≤ m := by rw [hmm]; split <;> omega
    have key : ∀ i, i < len → ∃ x : Ins × Value, a.spot = none ∧ CRep w x.1.cases x.2 ∧ w.cell? ⟨a.block, a.off + i * 6, none⟩ = some (.int .i64 x.1.op) ∧ w.cell? ⟨a.block, a.off + i * 6 + 1, none⟩ = some (.int .i64 x.1.a) ∧ w.cell? ⟨a.block, a.off + i * 6 + 2, none⟩ = some (.int .i64 x.1.b) ∧ w.cell? ⟨a.block, a.off + i * 6 + 3, none⟩ = some (.int .i64 x.1.c) ∧ w.cell? ⟨a.block, a.off + i * 6 + 4, none⟩ = some x.2 ∧ w.cell? ⟨a.block, a.off + i * 6 + 5, none⟩ = some (.bool x.1.dflt) := fun i hil => by
      obtain ⟨cs', hc, ht⟩ := hi i (by omega)
      obtain ⟨_, _, hat0⟩ := World.cells?_some hc
      rw [U.c36] at hat0
      obtain ⟨x, cv, rfl, hcv⟩ := open_ins U ht
      have hsp : a.spot = none := by
        obtain ⟨cs0, hc0, ht0⟩ := hi 0 (by omega)
        obtain ⟨_, _, hat1⟩ := World.cells?_some hc0
        rw [U.c36] at hat1
        obtain ⟨c0, cv0, rfl, _⟩ := open_ins U ht0
        have h1 := hat1 0 (by omega)
        have := spot_none (w := w) (a := a) (v := .int .i64 c0.op) (by simpa [Addr.add] using h1)
        rw [this]
      obtain ⟨b, o, s⟩ := a
      simp only at hsp
      subst hsp
      have g0 := hat0 0 (by omega)
      have g1 := hat0 1 (by omega)
      have g2 := hat0 2 (by omega)
      have g3 := hat0 3 (by omega)
      have g4 := hat0 4 (by omega)
      have g5 := hat0 5 (by omega)
      simp only [Addr.add_lit] at g0 g1 g2 g3 g4 g5
      exact ⟨(x, cv), rfl, hcv, by simpa using g0, by simpa using g1, by simpa using g2, by simpa using g3, by simpa using g4, by simpa using g5⟩
    obtain ⟨l, hll, hq⟩ := list_of len key
    subst hll
    obtain ⟨b, o, s⟩ := a
    refine ⟨l.map (·.1), some ⟨b, o, s⟩, cap, b, o, fun j => (l.getD j (default, .nilIface)).2, by simp, by simpa using hl, hm, fun h0 => ?_, fun j c hj => ?_⟩
    · have h0 : 0 < l.length := by simpa using h0
      have := (hq 0 _ (List.getElem?_eq_getElem h0)).1
      simp only at this
      rw [this]
    · rw [List.getElem?_map] at hj
      cases hx : l[j]? with
      | none => rw [hx] at hj; cases hj
      | some x =>
        rw [hx] at hj
        simp at hj
        subst hj
        have := (hq j x hx).2
        simp only [List.getD_eq_getElem?_getD, hx, Option.getD_some]
        exact this
theorem open_progs (U : Und P) {n : Nat} {v : Value} {y : DataW H × List MemPlace} (h : DataW.trod enc P w 0 spare held n 22 [v] = some y) : ∃ l, PRep w l v := by
  rcases open_slice U.u22 h with ⟨h0, _⟩ | ⟨a, len, cap, m, n', D, Pl, hcs, _, hl, hm, hmm, _, hi⟩
  · injection h0 with h0
    subst h0
    exact ⟨[], none, 0, 0, 0, fun _ => .nilIface, rfl, Nat.le_refl _, by unfold maxLen; omega, fun h => by simp at h, fun j c hj => by simp at hj⟩
  · injection hcs with hv
    subst hv
    have hml : len ≤ m := by rw [hmm]; split <;> omega
    have key : ∀ i, i < len → ∃ x : List Ins × Value, a.spot = none ∧ LRep w x.1 x.2 ∧ w.cell? ⟨a.block, a.off + i, none⟩ = some x.2 := fun i hil => by
      have step : ∀ i, i < len → ∃ cv : Value, w.cell? (a.add i) = some cv ∧ ∃ n' y', DataW.trod enc P w 0 spare held n' 29 [cv] = some y' := fun i hil => by
        obtain ⟨cs', hc, ht⟩ := hi i (by omega)
        obtain ⟨_, hcl, hat0⟩ := World.cells?_some hc
        rw [U.c29] at hcl hat0
        match cs', hcl with
        | [cv], _ =>
          have g0 := hat0 0 (by omega)
          exact ⟨cv, by simpa [Addr.add] using g0, _, _, ht⟩
      obtain ⟨cv0, h00, _⟩ := step 0 (by omega)
      have hsp : a.spot = none := by
        have := spot_none (w := w) (a := a) (v := cv0) (by simpa [Addr.add] using h00)
        rw [this]
      obtain ⟨cv, hcv, n2, y2, ht⟩ := step i hil
      obtain ⟨l, hl⟩ := open_prog U ht
      obtain ⟨b, o, s⟩ := a
      simp only at hsp
      subst hsp
      rw [Addr.add_lit] at hcv
      exact ⟨(l, cv), rfl, hl, hcv⟩
    obtain ⟨l, hll, hq⟩ := list_of len key
    subst hll
    obtain ⟨b, o, s⟩ := a
    refine ⟨l.map (·.1), some ⟨b, o, s⟩, cap, b, o, fun j => (l.getD j (default, .nilIface)).2, by simp, by simpa using hl, hm, fun h0 => ?_, fun j c hj => ?_⟩
    · have h0 : 0 < l.length := by simpa using h0
      have := (hq 0 _ (List.getElem?_eq_getElem h0)).1
      simp only at this
      rw [this]
    · rw [List.getElem?_map] at hj
      cases hx : l[j]? with
      | none => rw [hx] at hj; cases hj
      | some x =>
        rw [hx] at hj
        simp at hj
        subst hj
        have := (hq j x hx).2
        simp only [List.getD_eq_getElem?_getD, hx, Option.getD_some]
        exact this
end
theorem und : Und Tryd.prog := ⟨Tryd.underlying3, Tryd.underlying4, Tryd.underlying22, Tryd.underlying29, Tryd.underlying34, ⟨_, Tryd.underlying36, rfl⟩, ⟨_, Tryd.underlying41, rfl⟩, by kernel_rfl, by kernel_rfl, by kernel_rfl, by kernel_rfl, by kernel_rfl, by kernel_rfl⟩
end Go.Proofs.YtajblpopbipegaaDoor
