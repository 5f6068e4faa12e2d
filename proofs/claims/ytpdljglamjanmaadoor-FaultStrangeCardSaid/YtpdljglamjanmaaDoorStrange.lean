/-
  tarpaulinlaw2.FaultStrange: THE WALK.
-/
import Derived.Test.YtpdljglamjanmaaDoorAwake
import Derived.Test.YtpdljglamjanmaaDoorIs
namespace Go.Proofs.YtpdljglamjanmaaDoor
open Go.RowKit Go.Extern.Stop Go.Stop Go.Extern

set_option maxHeartbeats 1000000 in
theorem wrap_str (op : ByteArray) (p : Value) (w : World) (hT : ErrT w) : Calls Tryd.prog 14 #[.string op, .iface 71 p] w fun e w' => e = .returned .nilIface ∧ Below w.heap.size w w' := by
  have C := Lib.hid (shape_str p w hT)
  clear hT
  go_enter Tryd.func14, Tryd.ntmps14
  go_wp2_with (go_at_call 15; refine C.out.mono ?_; rintro e w1 ⟨rfl, hB⟩)
  go_ret
  exact ⟨rfl, bnew hB _⟩

set_option maxHeartbeats 1000000 in
theorem join_str (p : Value) (b : Nat) (w : World) (hT : ErrT w) (hc : w.cell? ⟨b, 0, none⟩ = some (.iface 71 p)) : Calls Tryd.prog 13 #[.slice (some ⟨b, 0, none⟩) 1 1] w fun e w' => e = .returned .nilIface ∧ Below w.heap.size w w' := by
  have C := Lib.hid (shape_str p (w.alloc (.cells #[.int .i64 0, .string ⟨#[97, 108, 108]⟩, .slice none 0 0] 27)) (keep_alloc hT))
  have hc1 := keep_alloc (o := .cells #[.int .i64 0, .string ⟨#[97, 108, 108]⟩, .slice none 0 0] 27) hc
  clear hT hc
  go_enter Tryd.func13, Tryd.ntmps13
  go_wp2_with fail
  refine wp_loop_rounds 1 ?_
  rw [rounds_succ]
  go_wp2_with (go_at_call 15; refine C.out.mono ?_; rintro e w1 ⟨rfl, hB⟩)
  go_ret
  exact ⟨rfl, bnew (bcall (bnew (Below.refl _ w) _) hB) _⟩

set_option maxHeartbeats 4000000 in
theorem strange_any (text : ByteArray) (code : Int) (w : World) (hT : ErrT w) : Calls Tryd.prog 6 #[.string text, .int .i64 code] w fun e w' => e = .returned (.bool true) ∧ Below w.heap.size w w' := by
  have HT := Lib.hid hT
  clear hT
  by_cases hl : (100 : Int) < text.size
  · go_enter Tryd.func6, Tryd.ntmps6
    go_wp2_with fail
    refine (awake_any w HT.out).mono ?_
    rintro e w1 ⟨rfl, hB⟩
    go_wp2_with fail
    go_ret
    exact ⟨rfl, hB⟩
  · go_enter Tryd.func6, Tryd.ntmps6
    go_wp2_with fail
    refine (new_any text w).mono ?_
    rintro e w1 ⟨rfl, hB1⟩
    go_wp2_with fail
    refine (shape_str _ w1 (errT_keep HT.out hB1)).mono ?_
    rintro e w2 ⟨rfl, hB2⟩
    have hb2 := bcall hB1 hB2
    go_wp2_with fail
    have hb2' := bnew hb2 (.cells #[.int .i64 0, .string ⟨#[]⟩, .slice none 0 0] 27)
    refine (find_str _ _ (errT_keep HT.out hb2')).mono ?_
    rintro e w3 ⟨rfl, hB3⟩
    have hb3 := bcall hb2' hB3
    go_wp2_with fail
    refine (shape_nil w3).mono ?_
    rintro e w4 ⟨rfl, hB4⟩
    have hb4 := bcall hb3 hB4
    have hb4' := bnew hb4 (.cells #[.int .i64 0, .string ⟨#[]⟩, .slice none 0 0] 27)
    go_wp2_with fail
    refine (Has_str _ code _).mono ?_
    rintro e w5 ⟨rfl, hB5⟩
    have hb5 := bcall hb4' hB5
    go_wp2_with fail
    refine (Has_nil code w5).mono ?_
    rintro e w6 ⟨rfl, hB6⟩
    have hb6 := bcall hb5 hB6
    go_wp2_with fail
    refine (wrap_str ⟨#[120]⟩ _ w6 (errT_keep HT.out hb6)).mono ?_
    rintro e w7 ⟨rfl, hB7⟩
    have hb7 := bcall hb6 hB7
    go_wp2_with fail
    refine (join_str (.pointer (some ⟨w.heap.size, 0, none⟩)) w7.heap.size (w7.alloc (.cells #[.iface 71 (.pointer (some ⟨w.heap.size, 0, none⟩))] 29)) (errT_keep HT.out (bnew hb7 _)) (by simp)).mono ?_
    rintro e w8 ⟨rfl, hB8⟩
    have hb8 := bcall (bnew hb7 _) hB8
    go_wp2_with fail
    refine (awake_any w8 (errT_keep HT.out hb8)).mono ?_
    rintro e w9 ⟨rfl, hB9⟩
    go_wp2_with fail
    go_ret
    exact ⟨rfl, bcall hb8 hB9⟩
end Go.Proofs.YtpdljglamjanmaaDoor
