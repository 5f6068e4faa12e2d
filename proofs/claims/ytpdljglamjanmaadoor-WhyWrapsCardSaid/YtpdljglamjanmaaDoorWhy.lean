/-
  THE PACKAGE why, AS FUNCTIONS ON SHAPES.
-/
import Derived.Test.YtpdljglamjanmaaDoorTexts
namespace Go.Proofs.YtpdljglamjanmaaDoor
open Go.RowKit Go.Extern.Stop Go.Stop Go.Extern

def deadB : ByteArray := ⟨#[100, 101, 97, 100, 108, 105, 110, 101]⟩
def causeB : ByteArray := ⟨#[99, 97, 117, 115, 101]⟩
theorem dead_no : deadB.toList.isEmpty = false := by rw [ByteArray.toList_eq]; rfl
theorem cause_no : causeB.toList.isEmpty = false := by rw [ByteArray.toList_eq]; rfl
def deadS : Sh := .mk 0 deadB [codeS 2]
def causeT (c : Int) : Sh := .mk 0 causeB [codeS c]
def bothS (c : Int) (d : Sh) : Sh := .mk 0 allB [causeT c, d]
/-- Err. -/
def errS (n : Int) : Option Sh := if n = 1 then some (codeS 1) else if n = 2 then some deadS else none
/-- Cause. -/
def causeS (e c : Int) : Option Sh :=
  match errS e with
  | none => none
  | some d => if c = e ∨ c < 1 then some d else some (bothS c d)

theorem size_wrapc (l : Nat) (op : ByteArray) (ho : op.toList.isEmpty = false) (c : Int) (hc : 0 < c) : sizeP (l + 2) (.mk 0 op [codeS c]) = (2, 2, true) := by
  rw [sizeP_kids _ _ _ _ (by omega)]
  simp [sizeL, ho, size_code l c hc]
theorem wrap_code (op : ByteArray) (ho : op.toList.isEmpty = false) (c : Int) (hc : 0 < c) : wrapO op (some (codeS c)) = some (.mk 0 op [codeS c]) := by
  show makeO _ = _
  unfold makeO
  rw [size_wrapc 18 op ho c hc]
  rfl
theorem errS_cases {e : Int} {d : Sh} (h : errS e = some d) : (e = 1 ∧ d = codeS 1) ∨ (e = 2 ∧ d = deadS) := by
  unfold errS at h
  split at h
  · rename_i h1
    simp at h
    exact .inl ⟨h1, h.symm⟩
  · split at h
    · rename_i h2
      simp at h
      exact .inr ⟨h2, h.symm⟩
    · simp at h
theorem join_both (c : Int) (hc : 0 < c) {e : Int} {d : Sh} (h : errS e = some d) : joinO [some (causeT c), some d] = some (bothS c d) := by
  show makeO (bothS c d) = _
  unfold makeO bothS
  rw [sizeP_kids _ _ _ _ (by omega)]
  have h1 := size_wrapc 17 causeB cause_no c hc
  rcases errS_cases h with ⟨_, rfl⟩ | ⟨_, rfl⟩
  · have h2 := size_code 18 1 (by omega)
    simp [sizeL, toList_all, causeT, h1, h2]
  · have h2 := size_wrapc 17 deadB dead_no 2 (by omega)
    simp [sizeL, toList_all, causeT, deadS, h1, h2]
theorem hasO_err (n e : Int) (he : e = 1 ∨ e = 2) : hasO n (errS e) = decide (n = e) := by
  rcases he with rfl | rfl
  · simp [errS, hasO, codeS, hasC]
    exact decide_eq_decide.2 eq_comm
  · simp [errS, hasO, deadS, codeS, hasC, hasCs]
    exact decide_eq_decide.2 eq_comm
theorem hasO_cause (n e c : Int) (he : e = 1 ∨ e = 2) : hasO n (causeS e c) = decide (n = e ∨ (1 ≤ c ∧ n = c)) := by
  have h0 := hasO_err n e he
  unfold causeS
  obtain ⟨d, hd⟩ : ∃ d, errS e = some d := by
    rcases he with rfl | rfl
    · exact ⟨_, rfl⟩
    · exact ⟨_, rfl⟩
  rw [hd] at h0 ⊢
  by_cases hc : c = e ∨ c < 1
  · simp only [if_pos hc]
    rw [h0]
    exact decide_eq_decide.2 ⟨fun h => .inl h, fun h => by rcases h with h | h <;> omega⟩
  · simp only [if_neg hc]
    have h0 : hasC n d = decide (n = e) := h0
    simp only [hasO, bothS, causeT, codeS, hasC, hasCs, h0, Bool.or_false]
    by_cases h1 : n = e
    · simp [h1]
    · simp only [h1, decide_false, Bool.or_false, false_or]
      have : 1 ≤ c := by omega
      simp only [this, true_and]
      by_cases h2 : n = c
      · simp [h2]
      · have h3 : ¬ c = n := fun e => h2 e.symm
        simp [h2, h3]

/-- Deepest. -/
def deepFrom (o : Option Sh) : Nat → Nat
  | 0 => 0
  | k + 1 => if hasO ((k : Int) + 1) o then k + 1 else deepFrom o k
def deepO (o : Option Sh) : Nat := deepFrom o 1000
theorem deep_max (o : Option Sh) (m : Nat) : ∀ k, m ≤ k → (0 < m → hasO (m : Int) o = true) → (∀ n : Nat, m < n → n ≤ k → hasO (n : Int) o = false) → deepFrom o k = m
  | 0, h, _, _ => by simp [deepFrom]; omega
  | k + 1, h, h1, h2 => by
    by_cases e : m = k + 1
    · subst e
      have := h1 (by omega)
      simp only [deepFrom]
      rw [if_pos (by simpa using this)]
    · simp only [deepFrom]
      have := h2 (k + 1) (by omega) (Nat.le_refl _)
      rw [if_neg (by simpa using this)]
      exact deep_max o m k (by omega) h1 (fun n hn hk => h2 n hn (by omega))

theorem wcode_any (n : Int) (hn : 0 < n) (w : World) : Calls Tryd.prog 39 #[.int .i64 n] w (OPost w (some (codeS n))) := by
  have C := make_any (fun _ => True) _ _ _ _ w (lit_code _ w n)
  rw [show (Sh.mk n ⟨#[]⟩ []) = codeS n from rfl, make_code n hn] at C
  have CH := Lib.hid C
  clear C
  go_enter Tryd.func39, Tryd.ntmps39
  go_wp2_with fail
  refine CH.out.mono ?_
  rintro e w1 ⟨v, rfl, hv, hB⟩
  go_wp2_with fail
  go_ret
  exact ⟨_, rfl, hv, hB⟩

theorem wis_any {A : Nat → Prop} {o : Option Sh} {v : Value} (n : Int) (w : World) (h : ORep A w o v) : Calls Tryd.prog 26 #[v, .int .i64 n] w fun e w' => e = .returned (.bool (hasO n o)) ∧ Below w.heap.size w w' := by
  have CH := Lib.hid (has_O h n)
  clear h
  go_enter Tryd.func26, Tryd.ntmps26
  go_wp2_with fail
  refine CH.out.mono ?_
  rintro e w1 ⟨rfl, hB⟩
  go_wp2_with fail
  go_ret
  exact ⟨rfl, hB⟩
theorem wtime_any {A : Nat → Prop} {o : Option Sh} {v : Value} (w : World) (h : ORep A w o v) : Calls Tryd.prog 28 #[v] w fun e w' => e = .returned (.bool (hasO 2 o)) ∧ Below w.heap.size w w' := by
  have CH := Lib.hid (wis_any 2 w h)
  clear h
  go_enter Tryd.func28, Tryd.ntmps28
  go_wp2_with fail
  refine CH.out.mono ?_
  rintro e w1 ⟨rfl, hB⟩
  go_wp2_with fail
  go_ret
  exact ⟨rfl, hB⟩

theorem werr_any (n : Int) (w : World) (hT : ErrT w) : Calls Tryd.prog 23 #[.int .i64 n] w (OPost w (errS n)) := by
  have HT := Lib.hid hT
  clear hT
  by_cases h1 : n = 1
  · subst h1
    go_enter Tryd.func23, Tryd.ntmps23
    go_wp2_with fail
    refine (wcode_any 1 (by omega) w).mono ?_
    rintro e w1 ⟨v, rfl, hv, hB⟩
    go_wp2_with fail
    go_ret
    exact ⟨_, rfl, hv, hB⟩
  · have e1 : (n == 1) = false := by simpa using h1
    by_cases h2 : n = 2
    · subst h2
      go_enter Tryd.func23, Tryd.ntmps23
      go_wp2_with fail
      refine (wcode_any 2 (by omega) w).mono ?_
      rintro e w1 ⟨v, rfl, hv, hB⟩
      go_wp2_with fail
      have C := wrap_any deadB (by decide) _ _ v w1 hv (errT_keep HT.out hB)
      rw [wrap_code deadB dead_no 2 (by omega)] at C
      refine C.mono ?_
      clear C
      rintro e w2 ⟨v2, rfl, hv2, hB2⟩
      go_wp2_with fail
      go_ret
      exact ⟨_, rfl, hv2.mono fun b hb => Nat.le_trans hB.size hb, bcall hB hB2⟩
    · have e2 : (n == 2) = false := by simpa using h2
      have e3 : errS n = none := by simp [errS, h1, h2]
      rw [e3]
      go_enter Tryd.func23, Tryd.ntmps23
      go_wp2_with fail
      go_ret
      exact ⟨_, rfl, rfl, Below.refl _ _⟩

theorem list2 {A : Nat → Prop} {w : World} {o0 o1 : Option Sh} {v0 v1 : Value} (h0 : ORep A w o0 v0) (h1 : ORep A w o1 v1) :
    LRep (fun b => A b ∨ b = w.heap.size) (w.alloc (.cells #[v0, v1] 29)) [o0, o1] (.slice (some ⟨w.heap.size, 0, none⟩) 2 2) := by
  refine ⟨some ⟨w.heap.size, 0, none⟩, 2, w.heap.size, 0, rfl, by simp, fun _ => ⟨rfl, .inr rfl⟩, fun i o hi => ?_⟩
  have M : ∀ {o v}, ORep A w o v → ORep (fun b => A b ∨ b = w.heap.size) (w.alloc (.cells #[v0, v1] 29)) o v := fun h => (h.ext (Ext.alloc w _)).mono fun b hb => .inl hb
  rw [Nat.zero_add]
  match i, hi with
  | 0, hi => simp at hi; subst hi; exact ⟨v0, by simp, M h0⟩
  | 1, hi => simp at hi; subst hi; exact ⟨v1, by simp, M h1⟩
  | i + 2, hi => simp at hi

set_option maxHeartbeats 2000000 in
theorem wcause_any (e c : Int) (he : e = 1 ∨ e = 2) (w : World) (hT : ErrT w) : Calls Tryd.prog 24 #[.int .i64 e, .int .i64 c] w (OPost w (causeS e c)) := by
  have HT := Lib.hid hT
  clear hT
  obtain ⟨d, hd⟩ : ∃ d, errS e = some d := by
    rcases he with rfl | rfl
    · exact ⟨_, rfl⟩
    · exact ⟨_, rfl⟩
  have C23 := werr_any e w HT.out
  rw [hd] at C23
  have CH := Lib.hid C23
  clear C23
  by_cases h1 : c = e
  · have e1 : (c == e) = true := by simpa using h1
    have e2 : causeS e c = some d := by unfold causeS; rw [hd]; simp [h1]
    rw [e2]
    clear e2 h1
    go_enter Tryd.func24, Tryd.ntmps24
    go_wp2_with fail
    refine CH.out.mono ?_
    rintro e' w1 ⟨v, rfl, hv, hB⟩
    obtain ⟨t, u, rfl⟩ := hv.2.form
    go_wp2_with fail
    go_ret
    exact ⟨_, rfl, hv, hB⟩
  · have e1 : (c == e) = false := by simpa using h1
    by_cases h2 : c < 1
    · have d2 : decide (c < 1) = true := by simpa using h2
      have e2 : causeS e c = some d := by unfold causeS; rw [hd]; simp [h2]
      rw [e2]
      clear e2 h1 h2
      go_enter Tryd.func24, Tryd.ntmps24
      go_wp2_with fail
      refine CH.out.mono ?_
      rintro e' w1 ⟨v, rfl, hv, hB⟩
      obtain ⟨t, u, rfl⟩ := hv.2.form
      go_wp2_with fail
      go_ret
      exact ⟨_, rfl, hv, hB⟩
    · have d2 : decide (c < 1) = false := by simpa using h2
      have hc : 0 < c := by omega
      have e2 : causeS e c = some (bothS c d) := by unfold causeS; rw [hd]; simp [h1, h2]
      have hj := Lib.hid (join_both c hc hd)
      rw [e2]
      clear e2 h1 h2
      go_enter Tryd.func24, Tryd.ntmps24
      go_wp2_with fail
      refine CH.out.mono ?_
      rintro e' w1 ⟨v, rfl, hv, hB⟩
      obtain ⟨t, u, rfl⟩ := hv.2.form
      go_wp2_with fail
      refine (wcode_any c hc w1).mono ?_
      rintro e' w2 ⟨v2, rfl, hv2, hB2⟩
      have hb2 := bcall hB hB2
      have C := wrap_any causeB (by decide) _ _ v2 w2 hv2 (errT_keep HT.out hb2)
      rw [wrap_code causeB cause_no c hc] at C
      have C14 := Lib.hid C
      clear C
      go_wp2_with fail
      refine C14.out.mono ?_
      rintro e' w3 ⟨v3, rfl, hv3, hB3⟩
      have hb3 := bcall hb2 hB3
      obtain ⟨t3, u3, rfl⟩ := hv3.2.form
      have C := join_any _ _ _ _ (list2 (A := fun _ => True) (hv3.mono fun _ _ => trivial) (((hv.ext (Ext.of_below hB2)).ext (Ext.of_below hB3)).mono fun _ _ => trivial)) (errT_keep HT.out (bnew hb3 _))
      rw [show (Sh.mk 0 causeB [codeS c]) = causeT c from rfl, hj.out] at C
      have C13 := Lib.hid C
      clear C
      go_wp2_with fail
      refine C13.out.mono ?_
      rintro e' w4 ⟨v4, rfl, hv4, hB4⟩
      go_wp2_with fail
      go_ret
      exact ⟨_, rfl, hv4.mono fun b hb => Nat.le_trans (bnew hb3 _).size hb, bcall (bnew hb3 _) hB4⟩

/-- Deepest. -/
theorem wdeep_any {A : Nat → Prop} {o : Option Sh} {v : Value} (w : World) (h : ORep A w o v) : Calls Tryd.prog 31 #[v] w fun e w' => e = .returned (.int .i64 (deepO o)) ∧ Below w.heap.size w w' := by
  have hh := Lib.hid h
  clear h
  go_enter Tryd.func31, Tryd.ntmps31
  go_wp2_with fail
  go_loopw [3] (fun vi wr => ∃ k : Nat, k ≤ 1000 ∧ vi = .int .i64 k ∧ deepFrom o k = deepO o ∧ Below w.heap.size w wr) (fun vi _ => (intOf vi).toNat)
  case atStart => exact ⟨1000, by omega, rfl, rfl, Below.refl _ _⟩
  case round =>
    obtain ⟨k, hk, rfl, hd, hB⟩ := hrel
    cases k with
    | zero =>
      have hd0 := Lib.hid hd
      clear hd
      go_wp2_with fail
      go_ret
      refine ⟨?_, hB⟩
      rw [← hd0.out]
      rfl
    | succ k =>
      have d0 : decide ((0 : Int) < (k : Int) + 1) = true := decide_eq_true (by omega)
      have CH := Lib.hid (wis_any ((k : Int) + 1) wr (hh.out.ext (Ext.of_below hB)))
      have HD := Lib.hid hd
      clear hd
      cases hq : hasO ((k : Int) + 1) o with
      | true =>
        rw [hq] at CH
        go_wp2_with fail
        refine CH.out.mono ?_
        rintro e w1 ⟨rfl, hB1⟩
        go_wp2_with fail
        go_ret
        refine ⟨?_, bcall hB hB1⟩
        have := HD.out
        rw [deepFrom, if_pos hq] at this
        rw [← this]
        simp
      | false =>
        rw [hq] at CH
        go_wp2_with (go_at_call 26; refine CH.out.mono ?_; rintro e w1 ⟨rfl, hB1⟩)
        go_roundw
        case rel =>
          have := HD.out
          rw [deepFrom, if_neg (by rw [hq]; simp)] at this
          exact ⟨k, by omega, by go_num, this, bcall hB hB1⟩
        case measure => simp [intOf]

/-- Text, of a wrapping error; of nil. -/
theorem wtext_wrap {f : Int → List UInt8} {Cd : Int → World → Prop} (H : ItoaOK f Cd) (s : Sh) (hg : Good s) (A : Nat → Prop) (b : Nat) (w : World) (hE : ERep A w s (.iface 66 (.pointer (some ⟨b, 0, none⟩)))) (hA : AllC (fun n => Cd n w) s) (hW : wt s ≤ 1000000) :
    Calls Tryd.prog 27 #[.iface 66 (.pointer (some ⟨b, 0, none⟩))] w fun e w' => e = .returned (.string ⟨(say f s).toArray⟩) ∧ Below w.heap.size w w' := by
  have CH := Lib.hid (wrap_error H s hg A b w hE hA hW)
  have mW := mErrorW
  clear hE hA hW
  go_enter Tryd.func27, Tryd.ntmps27
  go_wp2_with fail
  refine CH.out.mono ?_
  rintro e w1 ⟨rfl, hB⟩
  go_wp2_with fail
  go_ret
  exact ⟨rfl, hB⟩
theorem wtext_nil (w : World) : Calls Tryd.prog 27 #[.nilIface] w fun e w' => e = .returned (.string ⟨#[]⟩) ∧ Below w.heap.size w w' := by
  go_enter Tryd.func27, Tryd.ntmps27
  go_wp2_with fail
  go_ret
  exact ⟨rfl, Below.refl _ _⟩

def s91 : Sh := bothS 9 (codeS 1)
theorem fS9 : fS 9 = [57] := by simp [fS, Lib.decDigits]
theorem fS1 : fS 1 = [49] := by simp [fS, Lib.decDigits]
theorem fS2 : fS 2 = [50] := by simp [fS, Lib.decDigits]
theorem say_91 : say fS s91 = [97, 108, 108, 58, 32, 99, 97, 117, 115, 101, 58, 32, 99, 111, 100, 101, 32, 57, 59, 32, 99, 111, 100, 101, 32, 49] := by
  simp [say, says, s91, bothS, causeT, codeS, fS9, fS1, Lib.join_cons, Lib.joinTail, allB, causeB]
theorem say_dead : say fS deadS = [100, 101, 97, 100, 108, 105, 110, 101, 58, 32, 99, 111, 100, 101, 32, 50] := by
  simp [say, says, deadS, codeS, fS2, Lib.join_cons, Lib.joinTail, deadB]
theorem cause_91 : causeS 1 9 = some s91 := by simp [causeS, errS, s91]
theorem deep_91 : deepO (some s91) = 9 := by
  rw [← cause_91]
  refine deep_max _ 9 1000 (by omega) (fun _ => ?_) (fun n hn hk => ?_)
  · rw [hasO_cause _ _ _ (.inl rfl)]; simp
  · rw [hasO_cause _ _ _ (.inl rfl)]
    refine decide_eq_false ?_
    omega
theorem deep_none : deepO none = 0 := deep_max none 0 1000 (by omega) (fun h => by omega) (fun n _ _ => rfl)
theorem wt_91 : wt s91 ≤ 1000000 := by simp [wt, wts, s91, bothS, causeT, codeS, allB, causeB]; decide
theorem wt_dead : wt deadS ≤ 1000000 := by simp [wt, wts, deadS, codeS, deadB]; decide
theorem has_91 (n : Int) (h : n = 9 ∨ n = 1) : hasO n (some s91) = true := by rw [← cause_91, hasO_cause _ _ _ (.inl rfl)]; exact decide_eq_true (by omega)
theorem has_91_2 : hasO 2 (some s91) = false := by rw [← cause_91, hasO_cause _ _ _ (.inl rfl)]; exact decide_eq_false (by omega)
theorem has_dead : hasO 2 (some deadS) = true := by simp [hasO, deadS, codeS, hasC, hasCs]

set_option maxHeartbeats 4000000 in
theorem wawake_any (w : World) (hT : ErrT w) : Calls Tryd.prog 29 #[] w fun e w' => e = .returned (.bool true) ∧ Below w.heap.size w w' := by
  have HT := Lib.hid hT
  clear hT
  go_enter Tryd.func29, Tryd.ntmps29
  go_wp2_with fail
  have C := wcause_any 1 9 (.inl rfl) w HT.out
  rw [cause_91] at C
  refine C.mono ?_
  clear C
  rintro e w1 ⟨v1, rfl, ⟨hg1, h1⟩, hB1⟩
  obtain ⟨b1, rfl⟩ := wrap_form h1
  have C1 := wis_any 9 w1 (o := some s91) ⟨hg1, h1⟩
  rw [has_91 9 (.inl rfl)] at C1
  have C1h := Lib.hid C1
  clear C1
  go_wp2_with fail
  refine C1h.out.mono ?_
  rintro e w2 ⟨rfl, hB2⟩
  have hb2 := bcall hB1 hB2
  have h2 := h1.ext (Ext.of_below hB2)
  have C2 := wis_any 1 w2 (o := some s91) ⟨hg1, h2⟩
  rw [has_91 1 (.inr rfl)] at C2
  have C2h := Lib.hid C2
  clear C2 h1
  go_wp2_with fail
  refine C2h.out.mono ?_
  rintro e w3 ⟨rfl, hB3⟩
  have hb3 := bcall hb2 hB3
  have h3 := h2.ext (Ext.of_below hB3)
  have C3 := wis_any 2 w3 (o := some s91) ⟨hg1, h3⟩
  rw [has_91_2] at C3
  have C3h := Lib.hid C3
  clear C3 h2
  go_wp2_with fail
  refine C3h.out.mono ?_
  rintro e w4 ⟨rfl, hB4⟩
  have hb4 := bcall hb3 hB4
  have h4 := h3.ext (Ext.of_below hB4)
  have C4 := wdeep_any w4 (o := some s91) ⟨hg1, h4⟩
  rw [deep_91] at C4
  have C4h := Lib.hid C4
  clear C4 h3
  go_wp2_with fail
  refine C4h.out.mono ?_
  rintro e w5 ⟨rfl, hB5⟩
  have hb5 := bcall hb4 hB5
  have h5 := h4.ext (Ext.of_below hB5)
  clear h4
  go_wp2_with fail
  refine (werr_any 0 w5 (errT_keep HT.out hb5)).mono ?_
  rintro e w6 ⟨v6, rfl, h6, hB6⟩
  obtain rfl : v6 = .nilIface := h6
  have hb6 := bcall hb5 hB6
  go_wp2_with fail
  refine (werr_any 2 w6 (errT_keep HT.out hb6)).mono ?_
  rintro e w7 ⟨v7, rfl, h7, hB7⟩
  have hb7 := bcall hb6 hB7
  have C7 := wtime_any w7 (o := some deadS) h7
  rw [has_dead] at C7
  have C7h := Lib.hid C7
  clear C7 h7
  go_wp2_with fail
  refine C7h.out.mono ?_
  rintro e w8 ⟨rfl, hB8⟩
  have hb8 := bcall hb7 hB8
  have h8 := ((h5.ext (Ext.of_below hB6)).ext (Ext.of_below hB7)).ext (Ext.of_below hB8)
  have C8 := wtime_any w8 (o := some s91) ⟨hg1, h8⟩
  rw [has_91_2] at C8
  have C8h := Lib.hid C8
  clear C8 h5
  go_wp2_with fail
  refine C8h.out.mono ?_
  rintro e w9 ⟨rfl, hB9⟩
  have hb9 := bcall hb8 hB9
  go_wp2_with fail
  refine (werr_any 2 w9 (errT_keep HT.out hb9)).mono ?_
  rintro e w10 ⟨v10, rfl, ⟨hg10, h10⟩, hB10⟩
  have hb10 := bcall hb9 hB10
  have h10' : ERep (fun b => w9.heap.size ≤ b) w10 deadS v10 := h10
  obtain ⟨b10, rfl⟩ := wrap_form h10'
  have C10 := wtext_wrap itoa_small deadS hg10 _ b10 w10 h10' (.wrap _ _ _ (by simp) (fun s hs => by simp at hs; subst hs; exact .code _ _ ⟨by omega, by omega⟩)) wt_dead
  rw [say_dead] at C10
  have C10h := Lib.hid C10
  clear C10 h10 h10'
  go_wp2_with fail
  refine C10h.out.mono ?_
  rintro e w11 ⟨rfl, hB11⟩
  have hb11 := bcall hb10 hB11
  have h11 := ((h8.ext (Ext.of_below hB9)).ext (Ext.of_below hB10)).ext (Ext.of_below hB11)
  have C11 := wtext_wrap itoa_small s91 hg1 _ b1 w11 h11 (.wrap _ _ _ (by simp) (fun s hs => by
    simp at hs
    rcases hs with rfl | rfl
    · exact .wrap _ _ _ (by simp) (fun s hs => by simp at hs; subst hs; exact .code _ _ ⟨by omega, by omega⟩)
    · exact .code _ _ ⟨by omega, by omega⟩)) wt_91
  rw [say_91] at C11
  have C11h := Lib.hid C11
  clear C11 h8 h11
  go_wp2_with fail
  refine C11h.out.mono ?_
  rintro e w12 ⟨rfl, hB12⟩
  have hb12 := bcall hb11 hB12
  go_wp2_with fail
  refine (wtext_nil w12).mono ?_
  rintro e w13 ⟨rfl, hB13⟩
  have hb13 := bcall hb12 hB13
  have C13 := wdeep_any (A := fun _ => True) w13 (o := none) (v := .nilIface) rfl
  rw [deep_none] at C13
  have C13h := Lib.hid C13
  clear C13
  go_wp2_with fail
  refine C13h.out.mono ?_
  rintro e w14 ⟨rfl, hB14⟩
  go_wp2_with fail
  go_ret
  exact ⟨rfl, bcall hb13 hB14⟩
end Go.Proofs.YtpdljglamjanmaaDoor
