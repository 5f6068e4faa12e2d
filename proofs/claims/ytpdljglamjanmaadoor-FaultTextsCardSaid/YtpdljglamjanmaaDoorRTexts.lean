/-
  tarpaulinlaw2.FaultTexts returns true for every text and every row of codes, and each argument reads afterwards as it read before. Condition: the library's four listed variables start as the program's text lays them; the card ties them to that text.
-/
import Derived.Test.YtpdljglamjanmaaDoorLaid2
import Derived.Test.YtpdljglamjanmaaDoorTexts
import Derived.Test.YtpdljglamjanmaaDoorCards
import Derived.Test.YtpdljglamjanmaaDoorTie
import Derived.SevenTiedAt
import Derived.Carry
import Derived.OpenShut
namespace Go.Proofs.YtpdljglamjanmaaDoor
open Go.ChangeShapes Go.WideShapes Go.RowKit Go.ChangeAt
open Go.ChangeMaps (open_string shut_string)

set_option maxRecDepth 100000 in
theorem texts_lifted (os : Os) (started : os.Started) (H : Type) (enc : TypeId × Value → H) :
    ReturnsInHanded {} Tryd.checked os 5 .any (fun w args => (Rows.faultTextsSpec.pre enc Tryd.prog Tryd.f5 [] false w args ∧ laidMetH Tryd.prog laidT w) ∧ sizedMet enc Tryd.prog Tryd.f5 (OpenSpec.ofChange Rows.faultTextsSpec) false w args)
      (Rows.faultTextsSpec.post enc Tryd.prog Tryd.f5 false true false false) := by
  refine returnsInHanded_of_change_and (C := Tryd.checked) (X := fun w _ => laidMetH Tryd.prog laidT w) (fun _ _ _ hh h => h.of_heap hh) ownK started (by kernel_rfl) Tryd.func5
    (ChangeSpec.witness_at (enc := enc) (C := Tryd.checked) (os := os) (X := fun w _ => laidMetH Tryd.prog laidT w) false (laidWorldT os) #[.string ⟨#[]⟩, .slice none 0 0] 8 rfl (by kernel_rfl) (by kernel_rfl) (by kernel_rfl) (by kernel_rfl) (by kernel_rfl) (laidWorldT_met os _)) ?_
  intro W base args ds gs before hval0 hW _ _ hL _
  have hval : ∀ (j : Nat) t v, Tryd.f5.params[j]? = some t → args[j]? = some v → Value.okWide Tryd.prog W .any base t v := hval0
  have hW' := hW
  obtain ⟨p, q, hA0, hV0, rfl, hfz, hnd⟩ := hW
  have hA : DataW.TrodAll enc Tryd.prog W 0 (fun _ => true) true Tryd.f5.params.toList args.toList ds p := hA0
  have hV : DataW.TrodVars enc Tryd.prog W (fun _ => true) [] gs q := hV0
  rw [Tryd.params5] at hA hval
  obtain ⟨v0, vs0, d0, ds0, p0, q0, hargs, rfl, rfl, h0, r0⟩ := trodAll_cons hA
  obtain ⟨v1, vs1, d1, ds1, p1, q1, rfl, rfl, rfl, h1, r1⟩ := trodAll_cons r0
  obtain ⟨rfl, rfl, rfl⟩ := trodAll_nil r1
  obtain rfl : args = #[v0, v1] := by cases args; simp_all
  obtain ⟨rfl, rfl⟩ : gs = [] ∧ q = [] := by
    cases gs with
    | nil => exact ⟨rfl, hV⟩
    | cons g r => exact absurd hV (by intro h; cases h)
  have h1k := h1
  have hlt : ∀ x ∈ p1, x.block < W.heap.size := fun x hx => by simpa using hW'.lt x (by simp [hx])
  obtain ⟨a0, len, cap, rfl⟩ := okWide_slice Tryd.underlying22 (hval 1 22 v1 rfl rfl)
  obtain ⟨fuel, hf⟩ := h1
  obtain ⟨s, rfl, rfl, rfl, ws⟩ := open_string Tryd.underlying9 (hval 0 9 v0 rfl rfl) h0
  have hI : ∃ zs, IRep W zs (.slice a0 len cap) ∧ ∀ c ∈ zs, -9223372036854775808 ≤ c ∧ c ≤ 9223372036854775807 := by
    rcases open_ints Tryd.underlying22 Tryd.underlying3 (by kernel_rfl) hf with ⟨hcs, hx⟩ | ⟨a, len', cap', zs, hcs, _, hl, hm, hz, hx, hcell, hwz⟩
    · simp [Value.cells] at hcs
      obtain ⟨rfl, rfl, rfl⟩ := hcs
      exact ⟨[], ⟨none, 0, 0, 0, rfl, by simp, fun h => by simp at h, fun i hi => by simp at hi⟩, fun c hc => by simp at hc⟩
    · simp [Value.cells] at hcs
      obtain ⟨rfl, rfl, rfl⟩ := hcs
      have hzl : zs.length = cap := by simpa using hz
      have htl : (zs.take len).length = len := by simp; omega
      by_cases h0 : 0 < len
      · obtain ⟨b, off, rfl, hc⟩ := ints_at hcell (by omega)
        refine ⟨zs.take len, ⟨some ⟨b, off, none⟩, cap, b, off, by rw [htl], by omega, fun _ => rfl, fun i hi => ?_⟩, fun c hc => bounds_i64 (hwz c (List.mem_of_mem_take hc))⟩
        rw [htl] at hi
        rw [hc i (by omega)]
        simp [List.getD, hi]
      · have : len = 0 := by omega
        subst this
        exact ⟨[], ⟨some a, cap, 0, 0, rfl, by simp, fun h => by simp at h, fun i hi => by simp at hi⟩, fun c hc => by simp at hc⟩
  obtain ⟨zs, hI, hR⟩ := hI
  have hTab := tab_of_laidT hL
  have hT := errT_of_laidT hL
  clear hA0 hval0
  refine (texts_any s zs _ W hI hT hTab hR).mono fun e W' ⟨he, bel⟩ => ?_
  subst he
  exact ⟨_, rfl, _, _, _, [], _, [], hW', trodAll_mk1 (shut_bool Tryd.underlying4 _), (trodAll_cons_mk (shut_string Tryd.underlying9 ws) (trodAll_cons_mk (Below.trod (by kernel_rfl) (by kernel_rfl) (of_decide_eq_true (by kernel_rfl)) h1k bel hlt) trodAll_mk0)), rfl, bel.frame _, fun h => by cases h⟩

theorem texts_row : Rows.FaultTextsSaid :=
  OpenClaim.holds_of_wide 5 Tryd.f5 rfl rfl rfl rfl rfl rfl rfl ⟨rfl, rfl, rfl, rfl, rfl⟩ rfl rfl rfl rfl rfl (by kernel_rfl) Tryd.func5 (by kernel_rfl)
    (of_decide_eq_true (by kernel_rfl)) (by unfold Func.isWrapper; rw [if_neg (of_decide_eq_false (by kernel_rfl))]; exact ⟨rfl, rfl⟩)
    (fun os started H enc _ => texts_lifted os started H enc)

theorem texts_card : Rows.FaultTextsCardSaid :=
  Claim7.holds_tied_plain_at .later [] [.data, .data, .data, .handle] true (true, "87b936b3407ec05a912a830ebb492adf0f3001ee538bb6fe53a5bed8e1cf6544") true
    texts_row (fun _ h => by cases h) (by kernel_rfl) (fun _ h => by cases h) faultTexts_row_tie rfl ⟨rfl, rfl⟩ (by kernel_rfl) rfl
    (fun f fn hf hfn => by
      obtain rfl : f = 5 := Option.some.inj ((show Tryd.prog.funcNamed "tarpaulin/tarpaulinlaw2.FaultTexts" = some 5 by kernel_rfl).symm.trans hf) |>.symm
      obtain rfl : fn = Tryd.f5 := (Option.some.inj (Tryd.func5.symm.trans hfn)).symm
      exact ⟨by kernel_rfl, fun j t ht => by
        rw [Tryd.params5] at ht
        have h3 : t = 9 ∨ t = 22 := by
          rcases j with _ | _ | j
          · left; simpa using ht.symm
          · right; simpa using ht.symm
          · simp at ht
        rcases h3 with rfl | rfl
        · exact (show Tryd.prog.wantsStandIn 9 = false by kernel_rfl)
        · exact (show Tryd.prog.wantsStandIn 22 = false by kernel_rfl)⟩)
    (by kernel_rfl)
#print axioms texts_card
end Go.Proofs.YtpdljglamjanmaaDoor
