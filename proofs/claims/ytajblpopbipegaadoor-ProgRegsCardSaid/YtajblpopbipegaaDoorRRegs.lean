/-
  tarpaulinlaw4.ProgRegs returns true for every instruction, and the argument reads afterwards as it read before. Condition: the library's variables unicode.White_Space and strings.asciiSpace start as the program's text lays them; the card ties them to that text.
-/
import Derived.Test.YtajblpopbipegaaDoorLaid
import Derived.Test.YtajblpopbipegaaDoorRegs
import Derived.Test.YtajblpopbipegaaDoorCards
import Derived.Test.YtajblpopbipegaaDoorTie
import Derived.SevenTiedAt
namespace Go.Proofs.YtajblpopbipegaaDoor
open Go.ChangeShapes Go.WideShapes Go.RowKit Go.ChangeAt

set_option maxRecDepth 100000 in
theorem regs_lifted (os : Os) (started : os.Started) (H : Type) (enc : TypeId × Value → H) :
    ReturnsInHanded {} Tryd.checked os 6 .any (fun w args => (Rows.progRegsSpec.pre enc Tryd.prog Tryd.f6 [] false w args ∧ laidMetH Tryd.prog laidL w) ∧ sizedMet enc Tryd.prog Tryd.f6 (OpenSpec.ofChange Rows.progRegsSpec) false w args)
      (Rows.progRegsSpec.post enc Tryd.prog Tryd.f6 false true false false) := by
  refine returnsInHanded_of_change_and (C := Tryd.checked) (X := fun w _ => laidMetH Tryd.prog laidL w) (fun _ _ _ hh h => h.of_heap hh) ownK started (by kernel_rfl) Tryd.func6
    (ChangeSpec.witness_shaped (enc := enc) (C := Tryd.checked) (os := os) (X := fun w _ => laidMetH Tryd.prog laidL w) false (laidWorld os) #[.agg #[.int .i64 0, .int .i64 0, .int .i64 0, .int .i64 0, .slice none 0 0, .bool false]] 8 (World.layVars_os _ _ _) (World.shaped_of_RefB (by kernel_rfl) (by kernel_rfl)) (by kernel_rfl) (by kernel_rfl) (by kernel_rfl) (laidWorld_met os _)) ?_
  intro W base args ds gs before hval0 hW _ _ hL _
  have hval : ∀ (j : Nat) t v, Tryd.f6.params[j]? = some t → args[j]? = some v → Value.okWide Tryd.prog W .any base t v := hval0
  have hW' := hW
  obtain ⟨p, q, hA0, hV0, rfl, hfz, hnd⟩ := hW
  have hA : DataW.TrodAll enc Tryd.prog W 0 (fun _ => true) true Tryd.f6.params.toList args.toList ds p := hA0
  have hV : DataW.TrodVars enc Tryd.prog W (fun _ => true) [] gs q := hV0
  rw [Tryd.params6] at hA hval
  obtain ⟨v0, vs0, d0, ds0, p0, q0, hargs, rfl, rfl, h0, r0⟩ := trodAll_cons hA
  obtain ⟨rfl, rfl, rfl⟩ := trodAll_nil r0
  obtain rfl : args = #[v0] := by cases args; simp_all
  obtain ⟨rfl, rfl⟩ : gs = [] ∧ q = [] := by
    cases gs with
    | nil => exact ⟨rfl, hV⟩
    | cons g r => exact absurd hV (by intro h; cases h)
  have h0k := h0
  have hlt : ∀ x ∈ p0, x.block < W.heap.size := fun x hx => by simpa using hW'.lt x (by simp [hx])
  obtain ⟨cs, rfl, _⟩ := okWide_struct Tryd.underlying36 (hval 0 36 v0 rfl rfl)
  obtain ⟨fuel, hf⟩ := h0
  obtain ⟨i, cv, hcs, hcv⟩ := open_ins und hf
  obtain rfl : cs = #[.int .i64 i.op, .int .i64 i.a, .int .i64 i.b, .int .i64 i.c, cv, .bool i.dflt] := by
    have : cs.toList = [.int .i64 i.op, .int .i64 i.a, .int .i64 i.b, .int .i64 i.c, cv, .bool i.dflt] := hcs
    obtain ⟨l⟩ := cs
    simp only at this
    rw [this]
  have hT := tab_of_laid hL
  clear hA0 hval0
  refine (regs_any i cv W hcv hT).mono fun e W' ⟨he, bel⟩ => ?_
  subst he
  exact ⟨_, rfl, _, _, _, [], _, [], hW', trodAll_mk1 (shut_bool Tryd.underlying4 _), (trodAll_cons_mk (Below.trod (by kernel_rfl) (by kernel_rfl) (of_decide_eq_true (by kernel_rfl)) h0k bel hlt) trodAll_mk0), rfl, bel.frame _, fun h => by cases h⟩

theorem regs_row : Rows.ProgRegsSaid :=
  OpenClaim.holds_of_wide 6 Tryd.f6 rfl rfl rfl rfl rfl rfl rfl ⟨rfl, rfl, rfl, rfl, rfl⟩ rfl rfl rfl rfl rfl (by kernel_rfl) Tryd.func6 (by kernel_rfl)
    (of_decide_eq_true (by kernel_rfl)) (by unfold Func.isWrapper; rw [if_neg (of_decide_eq_false (by kernel_rfl))]; exact ⟨rfl, rfl⟩)
    (fun os started H enc _ => regs_lifted os started H enc)

theorem regs_card : Rows.ProgRegsCardSaid :=
  Claim7.holds_tied_plain_at .later [] [.listed, .data] true (true, "283af11beb0acd5d12700db32459b5a59d92721f94512ffa37902bb4f23a1b25") false
    regs_row (fun _ h => by cases h) (by kernel_rfl) (fun _ h => by cases h) progRegs_row_tie rfl ⟨rfl, rfl⟩ (by kernel_rfl) rfl
    (fun f fn hf hfn => by
      obtain rfl : f = 6 := Option.some.inj ((show Tryd.prog.funcNamed "tarpaulin/tarpaulinlaw4.ProgRegs" = some 6 by kernel_rfl).symm.trans hf) |>.symm
      obtain rfl : fn = Tryd.f6 := (Option.some.inj (Tryd.func6.symm.trans hfn)).symm
      exact ⟨by kernel_rfl, fun j t ht => by
        rw [Tryd.params6] at ht
        have h3 : t = 36 := by
          rcases j with _ | j
          · simpa using ht.symm
          · simp at ht
        subst h3
        exact (show Tryd.prog.wantsStandIn 36 = false by kernel_rfl)⟩)
    (by kernel_rfl)
#print axioms regs_card
end Go.Proofs.YtajblpopbipegaaDoor
