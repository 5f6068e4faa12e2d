/-
  tarpaulinlaw16.WhyDeep returns true for every row of codes, and each argument reads afterwards as it read before. Condition: the library's variable errors.errorType starts as the program's text lays it; the card ties it to that text.
-/
import Derived.Test.YtpdljglamjanmaaDoorLaid
import Derived.Test.YtpdljglamjanmaaDoorWhyDeep
import Derived.Test.YtpdljglamjanmaaDoorCards
import Derived.Test.YtpdljglamjanmaaDoorTie
import Derived.SevenTiedAt
import Derived.Carry
import Derived.OpenShut
namespace Go.Proofs.YtpdljglamjanmaaDoor
open Go.ChangeShapes Go.WideShapes Go.RowKit Go.ChangeAt

set_option maxRecDepth 100000 in
theorem whydeep_lifted (os : Os) (started : os.Started) (H : Type) (enc : TypeId × Value → H) :
    ReturnsInHanded {} Tryd.checked os 10 .any (fun w args => (Rows.whyDeepSpec.pre enc Tryd.prog Tryd.f10 [] false w args ∧ laidMetH Tryd.prog laidE w) ∧ sizedMet enc Tryd.prog Tryd.f10 (OpenSpec.ofChange Rows.whyDeepSpec) false w args)
      (Rows.whyDeepSpec.post enc Tryd.prog Tryd.f10 false true false false) := by
  refine returnsInHanded_of_change_and (C := Tryd.checked) (X := fun w _ => laidMetH Tryd.prog laidE w) (fun _ _ _ hh h => h.of_heap hh) ownK started (by kernel_rfl) Tryd.func10
    (ChangeSpec.witness_at (enc := enc) (C := Tryd.checked) (os := os) (X := fun w _ => laidMetH Tryd.prog laidE w) false (laidWorld os) #[.slice none 0 0] 8 rfl (by kernel_rfl) (by kernel_rfl) (by kernel_rfl) (by kernel_rfl) (by kernel_rfl) (laidWorld_met os _)) ?_
  intro W base args ds gs before hval0 hW _ _ hL _
  have hval : ∀ (j : Nat) t v, Tryd.f10.params[j]? = some t → args[j]? = some v → Value.okWide Tryd.prog W .any base t v := hval0
  have hW' := hW
  obtain ⟨p, q, hA0, hV0, rfl, hfz, hnd⟩ := hW
  have hA : DataW.TrodAll enc Tryd.prog W 0 (fun _ => true) true Tryd.f10.params.toList args.toList ds p := hA0
  have hV : DataW.TrodVars enc Tryd.prog W (fun _ => true) [] gs q := hV0
  rw [Tryd.params10] at hA hval
  obtain ⟨v0, vs0, d0, ds0, p0, q0, hargs, rfl, rfl, h0, r0⟩ := trodAll_cons hA
  obtain ⟨rfl, rfl, rfl⟩ := trodAll_nil r0
  obtain rfl : args = #[v0] := by cases args; simp_all
  obtain ⟨rfl, rfl⟩ : gs = [] ∧ q = [] := by
    cases gs with
    | nil => exact ⟨rfl, hV⟩
    | cons g r => exact absurd hV (by intro h; cases h)
  have h0k := h0
  have hlt : ∀ x ∈ p0, x.block < W.heap.size := fun x hx => by simpa using hW'.lt x (by simp [hx])
  obtain ⟨a0, len, cap, rfl⟩ := okWide_slice Tryd.underlying22 (hval 0 22 v0 rfl rfl)
  obtain ⟨fuel, hf⟩ := h0
  have hI : ∃ zs, IRep W zs (.slice a0 len cap) := by
    rcases open_ints Tryd.underlying22 Tryd.underlying3 (by kernel_rfl) hf with ⟨hcs, hx⟩ | ⟨a, len', cap', zs, hcs, _, hl, hm, hz, hx, hcell, hwz⟩
    · simp [Value.cells] at hcs
      obtain ⟨rfl, rfl, rfl⟩ := hcs
      exact ⟨[], none, 0, 0, 0, rfl, by simp, fun h => by simp at h, fun i hi => by simp at hi⟩
    · simp [Value.cells] at hcs
      obtain ⟨rfl, rfl, rfl⟩ := hcs
      have hzl : zs.length = cap := by simpa using hz
      have htl : (zs.take len).length = len := by simp; omega
      by_cases h0 : 0 < len
      · obtain ⟨b, off, rfl, hc⟩ := ints_at hcell (by omega)
        refine ⟨zs.take len, some ⟨b, off, none⟩, cap, b, off, by rw [htl], by omega, fun _ => rfl, fun i hi => ?_⟩
        rw [htl] at hi
        rw [hc i (by omega)]
        simp [List.getD, hi]
      · have : len = 0 := by omega
        subst this
        exact ⟨[], some a, cap, 0, 0, rfl, by simp, fun h => by simp at h, fun i hi => by simp at hi⟩
  obtain ⟨zs, hI⟩ := hI
  have hT := errT_of_laid hL
  clear hA0 hval0
  refine (whydeep_any zs _ W hI hT).mono fun e W' ⟨he, bel⟩ => ?_
  subst he
  exact ⟨_, rfl, _, _, _, [], _, [], hW', trodAll_mk1 (shut_bool Tryd.underlying4 _), (trodAll_cons_mk (Below.trod (by kernel_rfl) (by kernel_rfl) (of_decide_eq_true (by kernel_rfl)) h0k bel hlt) trodAll_mk0), rfl, bel.frame _, fun h => by cases h⟩

theorem whydeep_row : Rows.WhyDeepSaid :=
  OpenClaim.holds_of_wide 10 Tryd.f10 rfl rfl rfl rfl rfl rfl rfl ⟨rfl, rfl, rfl, rfl, rfl⟩ rfl rfl rfl rfl rfl (by kernel_rfl) Tryd.func10 (by kernel_rfl)
    (of_decide_eq_true (by kernel_rfl)) (by unfold Func.isWrapper; rw [if_neg (of_decide_eq_false (by kernel_rfl))]; exact ⟨rfl, rfl⟩)
    (fun os started H enc _ => whydeep_lifted os started H enc)

theorem whydeep_card : Rows.WhyDeepCardSaid :=
  Claim7.holds_tied_plain_at .later [] [.handle] true (true, "87b936b3407ec05a912a830ebb492adf0f3001ee538bb6fe53a5bed8e1cf6544") true
    whydeep_row (fun _ h => by cases h) (by kernel_rfl) (fun _ h => by cases h) whyDeep_row_tie rfl ⟨rfl, rfl⟩ (by kernel_rfl) rfl
    (fun f fn hf hfn => by
      obtain rfl : f = 10 := Option.some.inj ((show Tryd.prog.funcNamed "tarpaulin/tarpaulinlaw16.WhyDeep" = some 10 by kernel_rfl).symm.trans hf) |>.symm
      obtain rfl : fn = Tryd.f10 := (Option.some.inj (Tryd.func10.symm.trans hfn)).symm
      exact ⟨by kernel_rfl, fun j t ht => by
        rw [Tryd.params10] at ht
        have h3 : t = 22 := by
          rcases j with _ | j
          · simpa using ht.symm
          · simp at ht
        subst h3
        exact (show Tryd.prog.wantsStandIn 22 = false by kernel_rfl)⟩)
    (by kernel_rfl)
#print axioms whydeep_card
end Go.Proofs.YtpdljglamjanmaaDoor
