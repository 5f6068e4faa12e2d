/-
  tarpaulinlaw16.WhyWraps: THE WALK.
-/
import Derived.Test.YtpdljglamjanmaaDoorItoaT
namespace Go.Proofs.YtpdljglamjanmaaDoor
open Go.RowKit Go.Extern.Stop Go.Stop Go.Extern

/-- Text, of any error. -/
theorem wtext_some {f : Int → List UInt8} {Cd : Int → World → Prop} (H : ItoaOK f Cd) (s : Sh) (hg : Good s) (A : Nat → Prop) (v : Value) (w : World) (hE : ERep A w s v) (hA : AllC (fun n => Cd n w) s) (hW : wt s ≤ 1000000) :
    Calls Tryd.prog 27 #[v] w fun e w' => e = .returned (.string ⟨(say f s).toArray⟩) ∧ Below w.heap.size w w' := by
  cases hg with
  | code n hn =>
    obtain rfl := code_form (c := n) hE
    have hC : Cd n w := by
      cases hA with
      | code n op h => exact h
      | wrap c op ks hk h => simp at hk
    have CH := Lib.hid (code_error H n w hC)
    have mC := mErrorC
    clear hE hA hW hC
    go_enter Tryd.func27, Tryd.ntmps27
    go_wp2_with fail
    refine CH.out.mono ?_
    rintro e w1 ⟨rfl, hB⟩
    go_wp2_with fail
    go_ret
    exact ⟨rfl, hB⟩
  | wrap op ks ho hk hgs =>
    obtain ⟨k, ks', rfl⟩ : ∃ k ks', ks = k :: ks' := by
      cases ks with
      | nil => simp at hk
      | cons k ks' => exact ⟨k, ks', rfl⟩
    obtain ⟨b, rfl⟩ := wrap_form hE
    exact wtext_wrap H _ (.wrap op _ ho hk hgs) A b w hE hA hW

/-- What Cause gives, in general. -/
theorem wcause_all (e c : Int) (w : World) (hT : ErrT w) : Calls Tryd.prog 24 #[.int .i64 e, .int .i64 c] w (OPost w (causeS e c)) := by
  by_cases he : e = 1 ∨ e = 2
  · exact wcause_any e c he w hT
  · have e0 : errS e = none := by unfold errS; rw [if_neg (by omega), if_neg (by omega)]
    have e1 : causeS e c = none := by unfold causeS; rw [e0]
    have C23 := werr_any e w hT
    rw [e0] at C23
    have CH := Lib.hid C23
    rw [e1]
    clear C23 e0 e1 hT
    go_enter Tryd.func24, Tryd.ntmps24
    go_wp2_with fail
    refine CH.out.mono ?_
    rintro e' w1 ⟨v, rfl, hv, hB⟩
    obtain rfl : v = .nilIface := hv
    go_wp2_with fail
    go_ret
    exact ⟨_, rfl, rfl, hB⟩

theorem cause_form {e c : Int} {g : Sh} (h : causeS e c = some g) : ∃ d, errS e = some d ∧ (g = d ∨ (0 < c ∧ g = bothS c d)) := by
  unfold causeS at h
  cases hd : errS e with
  | none => rw [hd] at h; simp at h
  | some d =>
    rw [hd] at h
    simp only at h
    by_cases hc : c = e ∨ c < 1
    · rw [if_pos hc] at h
      exact ⟨d, rfl, .inl (by injection h with h; exact h.symm)⟩
    · rw [if_neg hc] at h
      exact ⟨d, rfl, .inr ⟨by omega, by injection h with h; exact h.symm⟩⟩
theorem size_cause {e c : Int} {g : Sh} (h : causeS e c = some g) : (sizeP 19 g).2.2 = true ∧ (sizeP 19 g).1 ≤ 5 := by
  obtain ⟨d, hd, hg⟩ := cause_form h
  rcases hg with rfl | ⟨hc, rfl⟩
  · rcases errS_cases hd with ⟨_, rfl⟩ | ⟨_, rfl⟩
    · rw [size_code 18 1 (by omega)]; simp
    · unfold deadS; rw [size_wrapc 17 deadB dead_no 2 (by omega)]; simp
  · have h1 := size_wrapc 16 causeB cause_no c hc
    unfold bothS
    rw [sizeP_kids _ _ _ _ (by omega)]
    rcases errS_cases hd with ⟨_, rfl⟩ | ⟨_, rfl⟩
    · have h2 := size_code 17 1 (by omega)
      simp [sizeL, toList_all, causeT, h1, h2]
    · have h2 := size_wrapc 16 deadB dead_no 2 (by omega)
      simp [sizeL, toList_all, causeT, deadS, h1, h2]
def wrapG (op : ByteArray) (g : Sh) : Sh := .mk 0 op [g]
theorem wrap_cause (op : ByteArray) (ho : op.toList.isEmpty = false) {e c : Int} {g : Sh} (h : causeS e c = some g) : wrapO op (some g) = some (wrapG op g) := by
  obtain ⟨h1, h2⟩ := size_cause h
  show makeO (wrapG op g) = _
  unfold makeO wrapG
  rw [sizeP_kids _ _ _ _ (by omega)]
  have h3 : ¬ 50 < 1 + (sizeP 19 g).1 := by omega
  simp [sizeL, ho, h1, h3]
theorem has_wrapG (op : ByteArray) (g : Sh) (n : Int) : hasO n (some (wrapG op g)) = hasO n (some g) := by
  simp [hasO, wrapG, hasC, hasCs]
theorem deep_wrapG (op : ByteArray) (g : Sh) : deepO (some (wrapG op g)) = deepO (some g) := by
  unfold deepO
  generalize 1000 = k
  induction k with
  | zero => rfl
  | succ k ih => simp only [deepFrom, has_wrapG, ih]
theorem say_wrapG (f : Int → List UInt8) (op : ByteArray) (g : Sh) : say f (wrapG op g) = op.data.toList ++ [58, 32] ++ say f g := by
  simp [wrapG, say, says, Lib.join_one]
theorem allC_cause {p : Int → Prop} {e c : Int} {g : Sh} (h : causeS e c = some g) (h1 : p 1) (h2 : p 2) (hc : 0 < c → p c) : AllC p g := by
  obtain ⟨d, hd, hg⟩ := cause_form h
  have hdA : AllC p d := by
    rcases errS_cases hd with ⟨_, rfl⟩ | ⟨_, rfl⟩
    · exact .code _ _ h1
    · exact .wrap _ _ _ (by simp) (fun s hs => by simp at hs; subst hs; exact .code _ _ h2)
  rcases hg with rfl | ⟨hc0, rfl⟩
  · exact hdA
  · exact .wrap _ _ _ (by simp) (fun s hs => by
      simp at hs
      rcases hs with rfl | rfl
      · exact .wrap _ _ _ (by simp) (fun s hs => by simp at hs; subst hs; exact .code _ _ (hc hc0))
      · exact hdA)
theorem wt_cause {e c : Int} {g : Sh} (h : causeS e c = some g) : wt g ≤ 1000 := by
  obtain ⟨d, hd, hg⟩ := cause_form h
  have hd' : wt d ≤ 200 := by
    rcases errS_cases hd with ⟨_, rfl⟩ | ⟨_, rfl⟩
    · simp [codeS, wt]
    · simp only [deadS, codeS, wt, wts]; decide
  rcases hg with rfl | ⟨hc0, rfl⟩
  · omega
  · have e1 : allB.size = 3 := rfl
    have e2 : causeB.size = 5 := rfl
    simp only [bothS, causeT, codeS, wt, wts, e1, e2]
    omega

theorem AllC.mono {p q : Int → Prop} {s : Sh} (h : AllC p s) (hpq : ∀ n, p n → q n) : AllC q s := by
  induction h with
  | code n op h => exact .code n op (hpq _ h)
  | wrap c op ks hk _ ih => exact .wrap c op ks hk ih
theorem whyw_out (e c : Int) (op : ByteArray) (ho : op.size < 1 ∨ 50 < op.size) (w : World) (hT : ErrT w) : Calls Tryd.prog 9 #[.int .i64 e, .int .i64 c, .string op] w fun e w' => e = .returned (.bool true) ∧ Below w.heap.size w w' := by
  have HT := Lib.hid hT
  clear hT
  rcases ho with ho | ho
  · go_enter Tryd.func9, Tryd.ntmps9
    go_wp2_with fail
    refine (wawake_any w HT.out).mono ?_
    rintro e w1 ⟨rfl, hB⟩
    go_wp2_with fail
    go_ret
    exact ⟨rfl, hB⟩
  · have ho' : ¬ op.size < 1 := by omega
    go_enter Tryd.func9, Tryd.ntmps9
    go_wp2_with fail
    refine (wawake_any w HT.out).mono ?_
    rintro e w1 ⟨rfl, hB⟩
    go_wp2_with fail
    go_ret
    exact ⟨rfl, hB⟩

set_option maxHeartbeats 4000000 in
theorem whyw_none (e c : Int) (op : ByteArray) (ho1 : 1 ≤ op.size) (ho2 : op.size ≤ 50) (h : causeS e c = none) (w : World) (hT : ErrT w) : Calls Tryd.prog 9 #[.int .i64 e, .int .i64 c, .string op] w fun e w' => e = .returned (.bool true) ∧ Below w.heap.size w w' := by
  have hn : e ≠ 1 ∧ e ≠ 2 := by
    refine ⟨fun he => ?_, fun he => ?_⟩ <;> (subst he; unfold causeS errS at h; simp at h; split at h <;> simp at h)
  have n1 : (e != 1) = true := bne_iff_ne.2 hn.1
  have n2 : (e != 2) = true := bne_iff_ne.2 hn.2
  have HT := Lib.hid hT
  have C24 := wcause_all e c w hT
  rw [h] at C24
  have C24h := Lib.hid C24
  clear hT C24 h hn
  go_enter Tryd.func9, Tryd.ntmps9
  go_wp2_with fail
  refine C24h.out.mono ?_
  rintro e' w1 ⟨v, rfl, hv, hB1⟩
  obtain rfl : v = .nilIface := hv
  have C14h := Lib.hid (wrap_any op (by omega) (fun _ => True) none .nilIface w1 rfl (errT_keep HT.out hB1))
  go_wp2_with fail
  refine C14h.out.mono ?_
  rintro e' w2 ⟨v2, rfl, hv2, hB2⟩
  obtain rfl : v2 = .nilIface := hv2
  have hb2 := bcall hB1 hB2
  go_wp2_with fail
  refine (wawake_any w2 (errT_keep HT.out hb2)).mono ?_
  rintro e' w3 ⟨rfl, hB3⟩
  go_wp2_with fail
  go_ret
  exact ⟨rfl, bcall hb2 hB3⟩

set_option maxHeartbeats 8000000 in
theorem whyw_some (T : Nat → Int) (e c : Int) (g : Sh) (op : ByteArray) (ho1 : 1 ≤ op.size) (ho2 : op.size ≤ 50) (hc : c ≤ 9223372036854775807) (h : causeS e c = some g) (w : World) (hT : ErrT w) (hTab : TabAny T w) : Calls Tryd.prog 9 #[.int .i64 e, .int .i64 c, .string op] w fun e w' => e = .returned (.bool true) ∧ Below w.heap.size w w' := by
  have hop : op.toList.isEmpty = false := by
    cases hl : op.toList with
    | nil =>
      rw [ByteArray.toList_eq] at hl
      have : op.data.toList.length = 0 := by rw [hl]; rfl
      have h2 : op.data.toList.length = op.size := rfl
      omega
    | cons x y => rfl
  have he : e = 1 ∨ e = 2 := by
    obtain ⟨d, hd, _⟩ := cause_form h
    rcases errS_cases hd with ⟨h1, _⟩ | ⟨h1, _⟩
    · exact .inl h1
    · exact .inr h1
  have hAll : ∀ w', TabAny T w' → AllC (fun n => CdT T n w') g := fun w' hT' => allC_cause h ⟨by omega, by omega, hT'⟩ ⟨by omega, by omega, hT'⟩ (fun h0 => ⟨by omega, by omega, hT'⟩)
  have hwt := wt_cause h
  have C24 := wcause_all e c w hT
  have W := Lib.hid (wrap_cause op hop h)
  have hE := hasO_cause e e c he
  rw [h] at C24 hE
  have hE' : hasO e (some (wrapG op g)) = true := by rw [has_wrapG, hE]; simp
  have HE := Lib.hid hE'
  have HA := Lib.hid hAll
  have HT := Lib.hid hT
  have HTab := Lib.hid hTab
  have C24h := Lib.hid C24
  have Hop := Lib.hid hop
  clear hT C24 h he hE hE' hAll hTab hop
  go_enter Tryd.func9, Tryd.ntmps9
  go_wp2_with fail
  refine C24h.out.mono ?_
  rintro e' w1 ⟨v, rfl, hv, hB1⟩
  have C14 := wrap_any op (by omega) _ _ v w1 hv (errT_keep HT.out hB1)
  rw [W.out] at C14
  have C14h := Lib.hid C14
  obtain ⟨t, u, rfl⟩ := hv.2.form
  clear C14
  go_wp2_with fail
  refine C14h.out.mono ?_
  rintro e' w2 ⟨v2, rfl, hv2, hB2⟩
  have hb2 := bcall hB1 hB2
  have hvb := hv.ext (Ext.of_below hB2)
  have D := wdeep_any w2 hv2
  rw [deep_wrapG] at D
  have Dh := Lib.hid D
  clear D
  go_wp2_with fail
  refine Dh.out.mono ?_
  rintro e' w3 ⟨rfl, hB3⟩
  have hb3 := bcall hb2 hB3
  have hvc := hvb.ext (Ext.of_below hB3)
  have hv3 := hv2.ext (Ext.of_below hB3)
  have D := Lib.hid (wdeep_any w3 hvc)
  go_wp2_with fail
  refine D.out.mono ?_
  rintro e' w4 ⟨rfl, hB4⟩
  have hb4 := bcall hb3 hB4
  have hvd := hvc.ext (Ext.of_below hB4)
  have hv4 := hv3.ext (Ext.of_below hB4)
  have D2 := wtime_any w4 hv4
  rw [has_wrapG] at D2
  have D2h := Lib.hid D2
  clear D2
  generalize deepO (some g) = dd
  go_wp2_with fail
  refine D2h.out.mono ?_
  rintro e' w5 ⟨rfl, hB5⟩
  have hb5 := bcall hb4 hB5
  have hve := hvd.ext (Ext.of_below hB5)
  have hv5 := hv4.ext (Ext.of_below hB5)
  have D3 := Lib.hid (wtime_any w5 hve)
  go_wp2_with fail
  refine D3.out.mono ?_
  rintro e' w6 ⟨rfl, hB6⟩
  have hb6 := bcall hb5 hB6
  have hvf := hve.ext (Ext.of_below hB6)
  have hv6 := hv5.ext (Ext.of_below hB6)
  have D4 := wis_any e w6 hv6
  rw [HE.out] at D4
  have D4h := Lib.hid D4
  clear D4
  generalize hasO 2 (some g) = bb
  go_wp2_with fail
  refine D4h.out.mono ?_
  rintro e' w7 ⟨rfl, hB7⟩
  have hb7 := bcall hb6 hB7
  have hvg := hvf.ext (Ext.of_below hB7)
  have hv7 := hv6.ext (Ext.of_below hB7)
  have hTab7 := tabAny_keep HTab.out hb7
  have D5 := wtext_some (itoaT T) (wrapG op g) hv7.1 _ _ w7 hv7.2 (AllC.wrap _ _ _ (by simp) (fun s hs => by simp at hs; subst hs; exact HA.out w7 hTab7)) (by simp only [wrapG, wt, wts]; omega)
  rw [say_wrapG] at D5
  have D5h := Lib.hid D5
  clear D5
  go_wp2_with fail
  refine D5h.out.mono ?_
  rintro e' w8 ⟨rfl, hB8⟩
  have hb8 := bcall hb7 hB8
  have hvh := hvg.ext (Ext.of_below hB8)
  have hTab8 := tabAny_keep HTab.out hb8
  have hl := say_len (fT T) g hvh.1 ((HA.out w8 hTab8).mono fun n hn => (itoaT T).short n w8 hn)
  have D6 := Lib.hid (wtext_some (itoaT T) g hvh.1 _ _ w8 hvh.2 (HA.out w8 hTab8) (by omega))
  go_wp2_with fail
  refine D6.out.mono ?_
  rintro e' w9 ⟨rfl, hB9⟩
  have hb9 := bcall hb8 hB9
  generalize say (fT T) g = tx at hl
  have hq : (op ++ (⟨#[58, 32]⟩ : ByteArray) ++ ⟨tx.toArray⟩).toList = op.data.toList ++ 58 :: 32 :: tx := by
    rw [ByteArray.toList_eq]
    simp [ByteArray.data_append]
  go_wp2_with fail
  refine (wawake_any w9 (errT_keep HT.out hb9)).mono ?_
  rintro e' w10 ⟨rfl, hB10⟩
  go_wp2_with fail
  go_ret
  exact ⟨rfl, bcall hb9 hB10⟩
theorem whyw_any (T : Nat → Int) (e c : Int) (op : ByteArray) (hc : c ≤ 9223372036854775807) (w : World) (hT : ErrT w) (hTab : TabAny T w) : Calls Tryd.prog 9 #[.int .i64 e, .int .i64 c, .string op] w fun e w' => e = .returned (.bool true) ∧ Below w.heap.size w w' := by
  by_cases ho : op.size < 1 ∨ 50 < op.size
  · exact whyw_out e c op ho w hT
  · cases h : causeS e c with
    | none => exact whyw_none e c op (by omega) (by omega) h w hT
    | some g => exact whyw_some T e c g op (by omega) (by omega) hc h w hT hTab
end Go.Proofs.YtpdljglamjanmaaDoor
