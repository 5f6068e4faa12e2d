/-
  tarpaulinlaw2.awake: true.
-/
import Derived.Test.YtpdljglamjanmaaDoorText
import Derived.Test.YtpdljglamjanmaaDoorJoin
namespace Go.Proofs.YtpdljglamjanmaaDoor
open Go.RowKit Go.Extern.Stop Go.Stop Go.Extern

def fS (n : Int) : List UInt8 := Lib.decDigits n.toNat
def CdS (n : Int) (_ : World) : Prop := 0 ≤ n ∧ n < 100

theorem decDigits_short (u : Nat) (h : u < 100) : (Lib.decDigits u).length ≤ 2 := by
  unfold Lib.decDigits
  split
  · simp
  · rw [Lib.decDigits, dif_pos (by omega)]; simp

theorem itoa_small : ItoaOK fS CdS where
  call n w hn := by
    obtain ⟨k, rfl⟩ := Int.eq_ofNat_of_zero_le hn.1
    refine (Tryd.strconv_Itoa_small k (by have := hn.2; omega) w).mono ?_
    rintro e w' ⟨rfl, rfl⟩
    exact ⟨rfl, Below.refl _ _⟩
  keep n w w' h _ := h
  short n w h := by have := decDigits_short n.toNat (by have := h.1; have := h.2; omega); unfold fS; omega

def codeS (n : Int) : Sh := .mk n ⟨#[]⟩ []
theorem toList_all : allB.toList.isEmpty = false := by rw [ByteArray.toList_eq]; rfl

theorem size_code (l : Nat) (n : Int) (h : 0 < n) : sizeP (l + 1) (codeS n) = (1, 1, true) := by simp [codeS, sizeP, h]
theorem make_code (n : Int) (h : 0 < n) : makeO (codeS n) = some (codeS n) := by unfold makeO; rw [size_code 19 n h]; rfl
def sX : Sh := .mk 0 ⟨#[120]⟩ [codeS 2]
def sJ : Sh := .mk 0 allB [sX, codeS 5]
theorem size_x : sizeP 20 sX = (2, 2, true) := by
  simp [sX, sizeP, sizeL, size_code 18 2 (by omega)]
theorem size_x19 : sizeP 19 sX = (2, 2, true) := by
  simp [sX, sizeP, sizeL, size_code 17 2 (by omega)]
theorem wrap_x : wrapO ⟨#[120]⟩ (some (codeS 2)) = some sX := by
  show makeO sX = _
  unfold makeO; rw [size_x]; rfl
theorem join_j : joinO [none, some sX, some (codeS 5)] = some sJ := by
  show makeO sJ = _
  unfold makeO
  have : sizeP 20 sJ = (4, 3, true) := by
    have h1 := size_x19
    have h2 := size_code 18 5 (by omega)
    simp only [sJ, sizeP]
    simp [sizeL, toList_all, h1, h2]
  rw [this]; rfl
theorem make_none : makeO (.mk 0 ⟨#[]⟩ []) = none := by simp [makeO, sizeP, sizeL]
theorem join_none : joinO [] = none := by simp [joinO, makeO, sizeP, sizeL, kidsOf, toList_all]
theorem say_x : say fS sX = [120, 58, 32, 99, 111, 100, 101, 32, 50] := by
  have : fS 2 = [50] := by simp [fS, Lib.decDigits]
  simp [say, says, sX, codeS, this, Lib.join_one]
theorem say_j : say fS sJ = [97, 108, 108, 58, 32, 120, 58, 32, 99, 111, 100, 101, 32, 50, 59, 32, 99, 111, 100, 101, 32, 53] := by
  have h5 : fS 5 = [53] := by simp [fS, Lib.decDigits]
  have h2 : fS 2 = [50] := by simp [fS, Lib.decDigits]
  simp [say, says, sJ, sX, codeS, h5, h2, Lib.join_cons, Lib.joinTail, allB]
theorem wt_x : wt sX ≤ 1000000 := by simp [wt, wts, sX, codeS]; decide
theorem wt_j : wt sJ ≤ 1000000 := by simp [wt, wts, sJ, sX, codeS, allB]; decide
theorem has_x2 : hasC 2 sX = true := by simp [hasC, hasCs, sX, codeS]
theorem has_x3 : hasC 3 sX = false := by simp [hasC, hasCs, sX, codeS]
theorem has_j5 : hasC 5 sJ = true := by simp [hasC, hasCs, sJ, sX, codeS]

theorem lit_code (A : Nat → Prop) (w : World) (n : Int) : FRep A w (.mk n ⟨#[]⟩ []) (.int .i64 n) (.string ⟨#[]⟩) (.slice none 0 0) :=
  .mk n ⟨#[]⟩ [] none 0 0 0 (fun _ => undef) (by decide) (by simp) (by simp) (by simp) (by simp) (by simp) (by simp)

theorem wrap_form {A : Nat → Prop} {w : World} {op : ByteArray} {k : Sh} {ks : List Sh} {v : Value} (h : ERep A w (.mk 0 op (k :: ks)) v) : ∃ b, v = .iface 66 (.pointer (some ⟨b, 0, none⟩)) := by
  cases h with
  | wrap op ks b kb koff cap vs hop hks hpos hcap hcm hA hA' c0 c1 hc hr => exact ⟨b, rfl⟩

/-- A list of three errors, as a call's own slice. -/
theorem list3 {A : Nat → Prop} {w : World} {o0 o1 o2 : Option Sh} {v0 v1 v2 : Value} (h0 : ORep A w o0 v0) (h1 : ORep A w o1 v1) (h2 : ORep A w o2 v2) :
    LRep (fun b => A b ∨ b = w.heap.size) (w.alloc (.cells #[v0, v1, v2] 29)) [o0, o1, o2] (.slice (some ⟨w.heap.size, 0, none⟩) 3 3) := by
  refine ⟨some ⟨w.heap.size, 0, none⟩, 3, w.heap.size, 0, rfl, by simp, fun _ => ⟨rfl, .inr rfl⟩, fun i o hi => ?_⟩
  have M : ∀ {o v}, ORep A w o v → ORep (fun b => A b ∨ b = w.heap.size) (w.alloc (.cells #[v0, v1, v2] 29)) o v := fun h => (h.ext (Ext.alloc w _)).mono fun b hb => .inl hb
  rw [Nat.zero_add]
  match i, hi with
  | 0, hi => simp at hi; subst hi; exact ⟨v0, by simp, M h0⟩
  | 1, hi => simp at hi; subst hi; exact ⟨v1, by simp, M h1⟩
  | 2, hi => simp at hi; subst hi; exact ⟨v2, by simp, M h2⟩
  | i + 3, hi => simp at hi

theorem listNil (A : Nat → Prop) (w : World) : LRep A w [] (.slice none 0 0) := ⟨none, 0, 0, 0, rfl, by simp, fun h => by simp at h, fun i o hi => by simp at hi⟩

set_option maxHeartbeats 4000000 in
theorem awake_any (w : World) (hT : ErrT w) : Calls Tryd.prog 11 #[] w fun e w' => e = .returned (.bool true) ∧ Below w.heap.size w w' := by
  have mW := mErrorW
  have HT := Lib.hid hT
  clear hT
  go_enter Tryd.func11, Tryd.ntmps11
  go_wp2_with fail
  have C := make_any (fun _ => True) _ _ _ _ w (lit_code _ w 2)
  rw [show (Sh.mk 2 ⟨#[]⟩ []) = codeS 2 from rfl, make_code 2 (by omega)] at C
  refine C.mono ?_
  clear C
  rintro e w1 ⟨v1, rfl, h1, hB1⟩
  go_wp2_with fail
  have C := wrap_any ⟨#[120]⟩ (by decide) _ _ v1 w1 h1 (errT_keep HT.out hB1)
  rw [wrap_x] at C
  refine C.mono ?_
  clear C h1
  rintro e w2 ⟨v2, rfl, ⟨hg2, h2⟩, hB2⟩
  obtain ⟨b2, rfl⟩ := wrap_form h2
  have hb2 := bcall hB1 hB2
  go_wp2_with fail
  refine (shape_any sX hg2 _ _ w2 h2 (errT_keep HT.out hb2)).mono ?_
  rintro e w3 ⟨fa, fc, rfl, hF, hB3⟩
  have hb3 := bcall hb2 hB3
  have e1 : sX.code = 0 := rfl
  have e2 : sX.op = ⟨#[120]⟩ := rfl
  have e3 : sX.kids.length = 1 := rfl
  rw [e1, e2, e3] at hF
  have hb3' := bnew hb3 (.cells #[.int .i64 0, .string ⟨#[120]⟩, .slice fa 1 fc] 27)
  have h3 := (h2.ext (Ext.of_below hB3)).ext (Ext.alloc w3 (.cells #[.int .i64 0, .string ⟨#[120]⟩, .slice fa 1 fc] 27))
  have q1 : (w3.alloc (.cells #[.int .i64 0, .string ⟨#[120]⟩, .slice fa 1 fc] 27)).cell? ⟨w3.heap.size, 1, none⟩ = some (.string ⟨#[120]⟩) := by simp
  have q2 : (w3.alloc (.cells #[.int .i64 0, .string ⟨#[120]⟩, .slice fa 1 fc] 27)).cell? ⟨w3.heap.size, 2, none⟩ = some (.slice fa 1 fc) := by simp
  have C20 := Lib.hid (find_any sX hg2 _ _ _ h3 (errT_keep HT.out hb3'))
  go_wp2_with fail
  refine C20.out.mono ?_
  rintro e w4 ⟨rfl, hB4⟩
  have e4 : firstCode sX = 2 := rfl
  have hb4 := bcall hb3' hB4
  have q1' := keep_below hB4 q1
  have q2' := keep_below hB4 q2
  have h4 := h3.ext (Ext.of_below hB4)
  clear q1 q2 h3
  go_wp2_with fail
  have C := make_any (fun _ => True) _ _ _ _ w4 (lit_code _ w4 5)
  rw [show (Sh.mk 5 ⟨#[]⟩ []) = codeS 5 from rfl, make_code 5 (by omega)] at C
  refine C.mono ?_
  clear C
  rintro e w5 ⟨v5, rfl, h5, hB5⟩
  have hb5 := bcall hb4 hB5
  have C13 := join_any _ _ _ _ (list3 (A := fun _ => True) (w := w5) (o0 := none) (o1 := some sX) (o2 := some (codeS 5)) (v0 := .nilIface) rfl ⟨hg2, (h4.ext (Ext.of_below hB5)).mono fun _ _ => trivial⟩ (h5.mono fun _ _ => trivial)) (errT_keep HT.out (bnew hb5 _))
  rw [join_j] at C13
  have C13h := Lib.hid C13
  clear C13
  obtain ⟨t5, u5, rfl⟩ : ∃ t u, v5 = .iface t u := h5.2.form
  go_wp2_with fail
  refine C13h.out.mono ?_
  rintro e w6 ⟨v6, rfl, ⟨hg6, h6⟩, hB6⟩
  have hb6 := bcall (bnew hb5 _) hB6
  obtain ⟨b6, rfl⟩ := wrap_form h6
  have h2' := (((h4.ext (Ext.of_below hB5)).ext (Ext.alloc w5 _)).ext (Ext.of_below hB6))
  have r1 := keep_below hB6 (keep_alloc (keep_below hB5 q1'))
  have r2 := keep_below hB6 (keep_alloc (keep_below hB5 q2'))
  have hAx : AllC (fun n => CdS n w6) sX := .wrap _ _ _ (by simp) (fun s hs => by simp at hs; subst hs; exact .code _ _ ⟨by omega, by omega⟩)
  have C79 := Lib.hid (wrap_error itoa_small sX hg2 _ b2 w6 h2' hAx wt_x)
  rw [say_x] at C79
  clear q1' q2' h4
  go_wp2_with fail
  refine C79.out.mono ?_
  rintro e w7 ⟨rfl, hB7⟩
  have hb7 := bcall hb6 hB7
  have s1 := keep_below hB7 r1
  have s2 := keep_below hB7 r2
  have x7 := h2'.ext (Ext.of_below hB7)
  have C17a := Lib.hid (Has_any sX hg2 _ _ 2 w7 x7)
  rw [has_x2] at C17a
  clear r1 r2
  go_wp2_with fail
  refine C17a.out.mono ?_
  rintro e w8 ⟨rfl, hB8⟩
  have hb8 := bcall hb7 hB8
  have C17b := Lib.hid (Has_any sX hg2 _ _ 3 w8 (x7.ext (Ext.of_below hB8)))
  rw [has_x3] at C17b
  clear x7
  go_wp2_with fail
  refine C17b.out.mono ?_
  rintro e w9 ⟨rfl, hB9⟩
  have hb9 := bcall hb8 hB9
  have y9 := ((h6.ext (Ext.of_below hB7)).ext (Ext.of_below hB8)).ext (Ext.of_below hB9)
  have hAj : AllC (fun n => CdS n w9) sJ := .wrap _ _ _ (by simp) (fun s hs => by
    simp at hs
    rcases hs with rfl | rfl
    · exact .wrap _ _ _ (by simp) (fun s hs => by simp at hs; subst hs; exact .code _ _ ⟨by omega, by omega⟩)
    · exact .code _ _ ⟨by omega, by omega⟩)
  have C79b := Lib.hid (wrap_error itoa_small sJ hg6 _ b6 w9 y9 hAj wt_j)
  rw [say_j] at C79b
  clear h6
  go_wp2_with fail
  refine C79b.out.mono ?_
  rintro e w10 ⟨rfl, hB10⟩
  have hb10 := bcall hb9 hB10
  have y10 := y9.ext (Ext.of_below hB10)
  have C17c := Lib.hid (Has_any sJ hg6 _ _ 5 w10 y10)
  rw [has_j5] at C17c
  clear y9
  go_wp2_with fail
  refine C17c.out.mono ?_
  rintro e w11 ⟨rfl, hB11⟩
  have hb11 := bcall hb10 hB11
  have y11 := y10.ext (Ext.of_below hB11)
  clear y10
  go_wp2_with fail
  have C := make_any (fun _ => True) _ _ _ _ w11 (lit_code _ w11 0)
  rw [make_none] at C
  refine C.mono ?_
  clear C
  rintro e w12 ⟨v12, rfl, h12, hB12⟩
  obtain rfl : v12 = .nilIface := h12
  have hb12 := bcall hb11 hB12
  go_wp2_with fail
  refine (wrap_any ⟨#[120]⟩ (by decide) (fun _ => True) none .nilIface w12 rfl (errT_keep HT.out hb12)).mono ?_
  rintro e w13 ⟨v13, rfl, h13, hB13⟩
  obtain rfl : v13 = .nilIface := h13
  have hb13 := bcall hb12 hB13
  have CJ := join_any (fun _ => True) [] _ w13 (listNil _ w13) (errT_keep HT.out hb13)
  rw [join_none] at CJ
  have CJh := Lib.hid CJ
  clear CJ
  go_wp2_with fail
  refine CJh.out.mono ?_
  rintro e w14 ⟨v14, rfl, h14, hB14⟩
  obtain rfl : v14 = .nilIface := h14
  have hb14 := bcall hb13 hB14
  have y14 := ((y11.ext (Ext.of_below hB12)).ext (Ext.of_below hB13)).ext (Ext.of_below hB14)
  have C34 := Lib.hid (Is_any sJ hg6 _ _ 5 w14 y14)
  rw [has_j5] at C34
  clear y14
  go_wp2_with fail
  refine C34.out.mono ?_
  rintro e w15 ⟨rfl, hB15⟩
  go_wp2_with fail
  go_ret
  exact ⟨rfl, bcall hb14 hB15⟩
end Go.Proofs.YtpdljglamjanmaaDoor
