/-
  fault.Join, AS A FUNCTION ON SHAPES.
-/
import Derived.Test.YtpdljglamjanmaaDoorMake
namespace Go.Proofs.YtpdljglamjanmaaDoor
open Go.RowKit Go.Extern.Stop Go.Stop Go.Extern

/-- A slice of errors, each nil or made here. -/
def LRep (A : Nat → Prop) (w : World) (l : List (Option Sh)) (v : Value) : Prop :=
  ∃ a cap b off, v = .slice a l.length cap ∧ l.length ≤ 4096 ∧ (0 < l.length → a = some ⟨b, off, none⟩ ∧ A b) ∧ ∀ i o, l[i]? = some o → ∃ x, w.cell? ⟨b, off + i, none⟩ = some x ∧ ORep A w o x

def kidsOf (l : List (Option Sh)) : List Sh := l.filterMap id
def allB : ByteArray := ⟨#[97, 108, 108]⟩
/-- Join, on shapes. -/
def joinO (l : List (Option Sh)) : Option Sh := makeO (.mk 0 allB (kidsOf l))

theorem kidsOf_none (l : List (Option Sh)) (k : Nat) (h : l[k]? = some none) : kidsOf (l.take (k + 1)) = kidsOf (l.take k) := by
  unfold kidsOf
  rw [List.take_add_one, h]; simp
theorem kidsOf_some (l : List (Option Sh)) (k : Nat) (s : Sh) (h : l[k]? = some (some s)) : kidsOf (l.take (k + 1)) = kidsOf (l.take k) ++ [s] := by
  unfold kidsOf
  rw [List.take_add_one, h]; simp
theorem kidsOf_len (l : List (Option Sh)) (k : Nat) : (kidsOf (l.take k)).length ≤ k := by
  unfold kidsOf
  exact Nat.le_trans (List.length_filterMap_le _ _) (List.length_take_le _ _)

set_option maxHeartbeats 2000000 in
theorem join_any (A : Nat → Prop) (l : List (Option Sh)) (v : Value) (w : World) (h : LRep A w l v) (hT : ErrT w) : Calls Tryd.prog 13 #[v] w (OPost w (joinO l)) := by
  obtain ⟨i0, hi0, hz0, hz1, hz2⟩ := info_parts Tryd.info27
  obtain ⟨a, cap, b, off, rfl, hl, hab, hc⟩ := h
  obtain ⟨W0, hW0⟩ : ∃ W0, W0 = w.alloc (.cells #[.int .i64 0, .string allB, .slice none 0 0] 27) := ⟨_, rfl⟩
  have hx0 : W0.heap[w.heap.size]? = some (.cells #[.int .i64 0, .string allB, .slice none 0 0] 27 (0, 0)) := by rw [hW0]; exact heap_alloc_new w _
  have hwW0 : Below w.heap.size w W0 := by rw [hW0]; exact bnew (Below.refl _ w) _
  have hsw : w.heap.size < W0.heap.size := by rw [hW0]; simp
  have HW0 : Hid (W0 = w.alloc (.cells #[.int .i64 0, .string ⟨#[97, 108, 108]⟩, .slice none 0 0] 27)) := hW0
  have HTw := Lib.hid hT
  have HC := Lib.hid hc
  have HAB := Lib.hid hab
  clear hW0 hT hc hab
  go_enter Tryd.func13, Tryd.ntmps13
  go_wp2_with fail
  rw [← HW0.out]
  have HTW := Lib.hid (keep_below hwW0 HTw.out)
  go_loopw [11] (fun vi wr => ∃ (k : Nat) (kv : Value) (xs : List Value), k ≤ l.length ∧ vi = .int .i64 k ∧ KidsRel W0 w.heap.size allB (kidsOf (l.take k)) kv xs wr) (fun vi _ => l.length - (intOf vi).toNat)
  case atStart => exact ⟨0, _, _, by omega, rfl, kids_start hx0⟩
  case round =>
    obtain ⟨k, kv, xs, hkl, rfl, hK⟩ := hrel
    by_cases hlt : k < l.length
    · obtain ⟨ea, hAb⟩ := HAB.out (by omega)
      subst ea
      obtain ⟨o, ho⟩ : ∃ o, l[k]? = some o := ⟨_, List.getElem?_eq_getElem hlt⟩
      obtain ⟨x, hx, hO⟩ := HC.out k o ho
      have hK0 := Lib.hid hK
      obtain ⟨_, hbB, hown, _, hgr⟩ := hK
      have hbl : b < w.heap.size := cell_lt hx
      have EX : Ext (fun b => A b ∧ b < w.heap.size) w wr := (Ext.of_below hwW0).trans (Ext.grown hgr fun b hb e => by injection e with e; omega)
      have e0 := EX ⟨b, off + k, none⟩ _ ⟨hAb, hbl⟩ hx
      have hszr : W0.heap.size ≤ wr.heap.size := hgr.size
      cases o with
      | none =>
        obtain rfl : x = .nilIface := hO
        have HK : Hid (KidsRel W0 w.heap.size allB (kidsOf (l.take (k + 1))) kv xs wr) := by rw [kidsOf_none l k ho]; exact hK0.out
        clear ho hx hbB hown hgr EX hK0
        go_wp2_with fail
        go_roundw
        case rel => exact ⟨k + 1, kv, xs, by omega, by go_num, HK.out⟩
        case measure => simp [intOf]; omega
      | some s' =>
        obtain ⟨hg', hE0⟩ := hO
        have hE := hE0.lt.ext EX
        have hTr : ErrT wr := by
          refine keep_grown hgr (fun e => ?_) HTW.out
          injection e with e
          have := cell_lt HTw.out
          simp at this e
          omega
        obtain ⟨x1, y1, rfl⟩ := hE.form
        have C := shape_any s' hg' _ _ _ hE hTr
        have hlen : (kidsOf (l.take k)).length ≤ k := kidsOf_len l k
        obtain ⟨m, hm⟩ : ∃ m, (kidsOf (l.take k)).length = m := ⟨_, rfl⟩
        rw [hm] at hown hlen
        have z2 : wr.cell? ⟨w.heap.size, 2, none⟩ = some kv := by rw [cell_of_row wr _ _ _ _ _ hbB]; rfl
        have zf : wr.frozen? ⟨w.heap.size, 2, none⟩ = false := by simp [World.frozen?, hbB]
        have hne : some w.heap.size ≠ kv.ownBlock := fun e => by have := (hown.lt _ e.symm).1; omega
        have HKK : Hid (KidsRel W0 w.heap.size allB (kidsOf (l.take k)) kv xs wr ∧ (kidsOf (l.take k)).length = m ∧ kidsOf (l.take (k + 1)) = kidsOf (l.take k) ++ [s']) := ⟨hK0.out, hm, kidsOf_some l k s' ho⟩
        have CH := Lib.hid C
        clear C hE hE0 hg' ho hx EX hTr hbB hgr hm hK0
        go_wp2_with (first | (go_at_call 15; refine CH.out.mono ?_; rintro e u1 ⟨sa, scap, rfl, hF, hB⟩; have z3 := keep_below hB z2; have zg : u1.frozen? ⟨w.heap.size, 2, none⟩ = false := by { rw [hB.frozen (cell_lt z2)]; exact zf }; have zs := hB.size; have z3a := fun o => keep_alloc (o := o) z3) | (at_builtin; refine wpList_append_lies (w := _) (hgd := rfl) (s := _) (x := _) (t := _) (ho := rfl) (base := W0.heap.size) (e := 27) (i := i0) (z := _) (size := 3) (bytes := 48) (ht := Tryd.underlying25) (hi := hi0) (hz := hz0) (hsize := hz1) (hby := hz2) (hzs := rfl) (hsz := by omega) (v := kv) (n := m) (xs := xs) (hs := ?a1) (hown := ?a2) (ad := ⟨u1.heap.size + 1, 0, none⟩) (m := 1) (c := 1) (news := [.int .i64 s'.code, .string s'.op, .slice sa s'.kids.length scap]) (hx := ?a3) (hl := ?a4) (hnews := ?a5) (h1 := ?a6) (hm := by omega) (h63 := ?a8) (hbytes := ?a9) (hbase := ?a10) (H := _) (hH := rfl) (h := ?_); (rotate_left 9); intro gg cap2 u2 hown2 hgrow hat hlt2; have z4 := keep_grown hgrow hne (keep_alloc (z3a _)); have zg2 : u2.frozen? ⟨w.heap.size, 2, none⟩ = false := by { rw [hgrow.frozen_far _ (by simp; omega) hne, World.frozen?_alloc_old _ _ _ (by simp; omega), World.frozen?_alloc_old _ _ _ (by simp; omega)]; exact zg }))
        case a1 => rfl
        case a2 => exact ((own_below hown hB).alloc _).alloc _
        case a3 => rfl
        case a4 => rfl
        case a5 =>
          have := World.news_of_block (w := (u1.alloc (.cells #[.int .i64 s'.code, .string s'.op, .slice sa s'.kids.length scap] 27)).alloc (.cells #[.int .i64 s'.code, .string s'.op, .slice sa s'.kids.length scap] 27)) (heap_alloc_new _ _)
          simpa using this
        case a6 => simp [Value.oneCell']
        case a8 => unfold maxLen; omega
        case a9 => omega
        case a10 => simp; omega
        go_roundw
        case rel =>
          obtain ⟨hKr, hlen, htk⟩ := HKK.out
          have hstep := kids_step (w1 := (u1.alloc (.cells #[.int .i64 s'.code, .string s'.op, .slice sa s'.kids.length scap] 27)).alloc (.cells #[.int .i64 s'.code, .string s'.op, .slice sa s'.kids.length scap] 27)) (w2 := u2) (gg := gg) (cap2 := cap2) hKr (bnew (bnew hB _) _) ((hF.ext (Ext.alloc _ _)).ext (Ext.alloc _ _)) (by rw [hlen]; exact hown2) hgrow (by simpa using hat)
          rw [hlen] at hstep
          rw [← htk] at hstep
          exact ⟨k + 1, _, _, by omega, by go_num, hstep⟩
        case measure => simp [intOf]; omega
    · obtain rfl : k = l.length := by omega
      have hln := kidsOf_len l l.length
      obtain ⟨a', cap', rfl, hF⟩ := kids_end hK (by decide) (by omega)
      have hbB := hK.2.1
      have hgr := hK.2.2.2.2
      rw [List.take_length] at hF hbB hln
      have q0 : wr.cell? ⟨w.heap.size, 0, none⟩ = some (.int .i64 0) := by rw [cell_of_row wr _ _ _ _ _ hbB]; rfl
      have q1 : wr.cell? ⟨w.heap.size, 1, none⟩ = some (.string allB) := by rw [cell_of_row wr _ _ _ _ _ hbB]; rfl
      have q2 : wr.cell? ⟨w.heap.size, 2, none⟩ = some (.slice a' (kidsOf l).length cap') := by rw [cell_of_row wr _ _ _ _ _ hbB]; rfl
      have hbl : Below w.heap.size w wr := hwW0.trans ⟨hgr.os, hgr.tape, hgr.output, hgr.size, fun j hj => hgr.block j (by omega) (fun e => by injection e with e; omega)⟩
      have CM := Lib.hid (make_any _ _ _ _ _ _ hF)
      clear hF hgr hbB hK
      go_wp2_with (go_at_call 12; refine CM.out.mono ?_; rintro e w3 ⟨v, rfl, hv, hB3⟩)
      go_ret
      exact ⟨_, rfl, hv.mono fun b hx => Nat.le_trans hbl.size hx, bcall hbl hB3⟩
end Go.Proofs.YtpdljglamjanmaaDoor
