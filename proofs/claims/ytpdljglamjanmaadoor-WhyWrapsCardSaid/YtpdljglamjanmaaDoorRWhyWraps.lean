/-
  tarpaulinlaw16.WhyWraps returns true for every two numbers and every text, and each argument reads afterwards as it read before. Condition: the library's variable errors.errorType starts as the program's text lays it; the card ties it to that text.
-/
import Derived.Test.YtpdljglamjanmaaDoorLaid
import Derived.Test.YtpdljglamjanmaaDoorWhyWraps
import Derived.Test.YtpdljglamjanmaaDoorCards
import Derived.Test.YtpdljglamjanmaaDoorTie
import Derived.SevenTiedAt
namespace Go.Proofs.YtpdljglamjanmaaDoor
open Go.ChangeShapes Go.WideShapes Go.RowKit Go.ChangeAt
open Go.ChangeMaps (open_string shut_string)

theorem powRow : (((begin Tryd.prog (fun _ _ => 0) default).world.heap[1]?).bind Obj.row?).map (fun x => (x.1.size, x.2)) = some (20, 112) := by kernel_rfl
theorem powCells : (Tryd.prog.cellTypes Tryd.prog.depth 112).map (fun ts => ts.all (· == 88)) = some true := by kernel_rfl
theorem powBuilds : Tryd.prog.buildable 112 = true := by kernel_rfl
theorem globN : 1 < Tryd.prog.globals.size := of_decide_eq_true (by kernel_rfl)

theorem cell_u64 {P : Program} {w : World} {r : Reach} {base : Nat} {t : TypeId} {v : Value} (hu : P.underlying t = some (.int .u64)) (h : Cell.ok P w r base t v) : ∃ n, v = .int .u64 n := by
  unfold Cell.ok at h
  rw [hu] at h
  cases v with
  | int k n => exact ⟨n, by rw [h.1]⟩
  | _ => exact absurd h (by simp)
theorem all88 {ts : List TypeId} {j : Nat} {u : TypeId} (h : ts.all (· == 88) = true) (hu : ts[j]? = some u) : u = 88 := beq_iff_eq.1 (List.all_eq_true.1 h u (List.mem_of_getElem? hu))
theorem some_eq {x : Option (List TypeId)} {ts : List TypeId} (h : x.map (fun ts => ts.all (· == 88)) = some true) (e : x = some ts) : ts.all (· == 88) = true := by
  subst e
  exact Option.some.inj h
/-- Whatever a table holds, it holds numbers. -/
theorem tab_gen {P : Program} {w : World} (h : World.ShapedOpen P w) (g : Nat) (hr : (((begin P (fun _ _ => 0) default).world.heap[g]?).bind Obj.row?).map (fun x => (x.1.size, x.2)) = some (20, 112))
    (hc : (P.cellTypes P.depth 112).map (fun ts => ts.all (· == 88)) = some true) (hb : P.buildable 112 = true) (hg : g < P.globals.size) (hu : P.underlying 88 = some (.int .u64)) :
    ∃ T : Nat → Int, ∀ j, j < 20 → w.cell? ⟨g, j, none⟩ = some (.int .u64 (T j)) := by
  obtain ⟨h1, _⟩ := h
  have h2 := h1 g
  clear h1
  generalize ((begin P (fun _ _ => 0) default).world.heap[g]?).bind Obj.row? = o at hr h2
  cases o with
  | none => cases hr
  | some x =>
    obtain ⟨zero, t⟩ := x
    simp only [Option.map_some, Option.some.injEq, Prod.mk.injEq] at hr
    obtain ⟨hs, rfl⟩ := hr
    obtain ⟨cs, hcs, hn, hok⟩ := h2 zero 112 hg rfl
    obtain ⟨ts, hts, _, hv⟩ := hok hb
    have hall : ts.all (· == 88) = true := some_eq hc hts
    have key : ∀ j, j < 20 → ∃ n, cs[j]? = some (.int .u64 n) := fun j hj => by
      obtain ⟨v, hjv⟩ : ∃ v, cs[j]? = some v := ⟨_, Array.getElem?_eq_getElem (by omega)⟩
      obtain ⟨u, hu', hok⟩ := hv j v hjv
      obtain rfl : u = 88 := all88 hall hu'
      obtain ⟨n, e⟩ := cell_u64 hu hok
      exact ⟨n, by rw [hjv, e]⟩
    refine ⟨fun j => match cs[j]? with | some (.int _ n) => n | _ => 0, fun j hj => ?_⟩
    obtain ⟨n, hn⟩ := key j hj
    simp only [hn]
    exact cell_of_row w g j _ _ _ hcs |>.trans hn
theorem tab_shaped {w : World} (h : World.ShapedOpen Tryd.prog w) : ∃ T : Nat → Int, TabAny T w := tab_gen h 1 powRow powCells powBuilds globN Tryd.underlying88

set_option maxRecDepth 100000 in
theorem whyw_lifted (os : Os) (started : os.Started) (H : Type) (enc : TypeId × Value → H) :
    ReturnsInHanded {} Tryd.checked os 9 .any (fun w args => (Rows.whyWrapsSpec.pre enc Tryd.prog Tryd.f9 [] false w args ∧ laidMetH Tryd.prog laidE w) ∧ sizedMet enc Tryd.prog Tryd.f9 (OpenSpec.ofChange Rows.whyWrapsSpec) false w args)
      (Rows.whyWrapsSpec.post enc Tryd.prog Tryd.f9 false true false false) := by
  refine returnsInHanded_of_calls (C := Tryd.checked) ownK started (by kernel_rfl)
    (ChangeSpec.witness_at (enc := enc) (C := Tryd.checked) (os := os) (X := fun w _ => laidMetH Tryd.prog laidE w) false (laidWorld os) #[.int .i64 0, .int .i64 0, .string ⟨#[]⟩] 8 rfl (by kernel_rfl) (by kernel_rfl) (by kernel_rfl) (by kernel_rfl) (by kernel_rfl) (laidWorld_met os _)) ?_
  intro w tape i _ hsh _ hok hpre _
  obtain ⟨_, _, _, fn', hfn', _, _, _, _, hval0⟩ := hok
  obtain rfl : fn' = Tryd.f9 := Option.some.inj (hfn'.symm.trans Tryd.func9)
  obtain ⟨⟨⟨ds, gs, before, hw0, _⟩, hx⟩, _⟩ := hpre
  have hL : laidMetH Tryd.prog laidE (w.forCall tape i) := laidMetH.of_heap (show (w.forCall tape i).memory.heap = (w.forCall tape i).heap from rfl) hx
  have hW := DataW.Whole.of_heap (w' := w.forCall tape i) (by rfl) hw0
  obtain ⟨T, hTab⟩ := tab_shaped hsh
  generalize w.forCall tape i = W at hval0 hW hL hTab ⊢
  generalize i.args = args at hval0 hW ⊢
  suffices hS : Calls Tryd.prog 9 args W fun e W' => ∃ v, e = .returned v ∧ Rows.whyWrapsSpec.post enc Tryd.prog Tryd.f9 false true false false W args v W' from
    hS.mono fun e W' ⟨v, he, hp⟩ => by subst he; exact ChangeSpec.post_blind hp
  have hval : ∀ (j : Nat) t v, Tryd.f9.params[j]? = some t → args[j]? = some v → Value.okWide Tryd.prog W .any w.heap.size t v := hval0
  have hW' := hW
  obtain ⟨p, q, hA0, hV0, rfl, hfz, hnd⟩ := hW
  have hA : DataW.TrodAll enc Tryd.prog W 0 (fun _ => true) true Tryd.f9.params.toList args.toList ds p := hA0
  have hV : DataW.TrodVars enc Tryd.prog W (fun _ => true) [] gs q := hV0
  rw [Tryd.params9] at hA hval
  obtain ⟨v0, vs0, d0, ds0, p0, q0, hargs, rfl, rfl, h0, r0⟩ := trodAll_cons hA
  obtain ⟨v1, vs1, d1, ds1, p1, q1, rfl, rfl, rfl, h1, r1⟩ := trodAll_cons r0
  obtain ⟨v2, vs2, d2, ds2, p2, q2, rfl, rfl, rfl, h2, r2⟩ := trodAll_cons r1
  obtain ⟨rfl, rfl, rfl⟩ := trodAll_nil r2
  obtain rfl : args = #[v0, v1, v2] := by cases args; simp_all
  obtain ⟨rfl, rfl⟩ : gs = [] ∧ q = [] := by
    cases gs with
    | nil => exact ⟨rfl, hV⟩
    | cons g r => exact absurd hV (by intro h; cases h)
  obtain ⟨m, rfl, rfl, rfl, wm⟩ := open_int Tryd.underlying3 (hval 0 3 v0 rfl rfl) h0
  obtain ⟨n, rfl, rfl, rfl, wn⟩ := open_int Tryd.underlying3 (hval 1 3 v1 rfl rfl) h1
  obtain ⟨s, rfl, rfl, rfl, ws⟩ := open_string Tryd.underlying9 (hval 2 9 v2 rfl rfl) h2
  have hT := errT_of_laid hL
  have hn := (bounds_i64 wn).2
  clear hA0 hval0
  refine (whyw_any T m n s hn W hT hTab).mono fun e W' ⟨he, bel⟩ => ?_
  subst he
  exact ⟨_, rfl, _, _, _, [], _, [], hW', trodAll_mk1 (shut_bool Tryd.underlying4 _), (trodAll_cons_mk (shut_int Tryd.underlying3 wm) (trodAll_cons_mk (shut_int Tryd.underlying3 wn) (trodAll_cons_mk (shut_string Tryd.underlying9 ws) trodAll_mk0))), rfl, bel.frame _, fun h => by cases h⟩

theorem whyw_row : Rows.WhyWrapsSaid :=
  OpenClaim.holds_of_wide 9 Tryd.f9 rfl rfl rfl rfl rfl rfl rfl ⟨rfl, rfl, rfl, rfl, rfl⟩ rfl rfl rfl rfl rfl (by kernel_rfl) Tryd.func9 (by kernel_rfl)
    (of_decide_eq_true (by kernel_rfl)) (by unfold Func.isWrapper; rw [if_neg (of_decide_eq_false (by kernel_rfl))]; exact ⟨rfl, rfl⟩)
    (fun os started H enc _ => whyw_lifted os started H enc)

theorem whyw_card : Rows.WhyWrapsCardSaid :=
  Claim7.holds_tied_plain_at .later [] [.handle] true (true, "87b936b3407ec05a912a830ebb492adf0f3001ee538bb6fe53a5bed8e1cf6544") true
    whyw_row (fun _ h => by cases h) (by kernel_rfl) (fun _ h => by cases h) whyWraps_row_tie rfl ⟨rfl, rfl⟩ (by kernel_rfl) rfl
    (fun f fn hf hfn => by
      obtain rfl : f = 9 := Option.some.inj ((show Tryd.prog.funcNamed "tarpaulin/tarpaulinlaw16.WhyWraps" = some 9 by kernel_rfl).symm.trans hf) |>.symm
      obtain rfl : fn = Tryd.f9 := (Option.some.inj (Tryd.func9.symm.trans hfn)).symm
      exact ⟨by kernel_rfl, fun j t ht => by
        rw [Tryd.params9] at ht
        have h3 : t = 3 ∨ t = 9 := by
          rcases j with _ | _ | _ | j
          · left; simpa using ht.symm
          · left; simpa using ht.symm
          · right; simpa using ht.symm
          · simp at ht
        rcases h3 with rfl | rfl
        · exact (show Tryd.prog.wantsStandIn 3 = false by kernel_rfl)
        · exact (show Tryd.prog.wantsStandIn 9 = false by kernel_rfl)⟩)
    (by kernel_rfl)
#print axioms whyw_card
end Go.Proofs.YtpdljglamjanmaaDoor
