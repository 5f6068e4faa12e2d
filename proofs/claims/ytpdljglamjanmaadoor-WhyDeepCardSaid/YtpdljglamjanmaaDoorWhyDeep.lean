/-
  tarpaulinlaw16.WhyDeep: THE WALK.
-/
import Derived.Test.YtpdljglamjanmaaDoorWhy
namespace Go.Proofs.YtpdljglamjanmaaDoor
open Go.RowKit Go.Extern.Stop Go.Stop Go.Extern

def wS (c : Int) : Sh := .mk 0 wB [codeS c]
def wL (zs : List Int) : List (Option Sh) := zs.map fun c => some (wS c)
def wJ (zs : List Int) : Sh := .mk 0 allB (zs.map wS)
def hasZ (n : Int) (zs : List Int) : Bool := zs.any fun c => c == n
def bestI (zs : List Int) : Int := zs.foldl (fun b c => if c ≤ 1000 then max b c else b) 0

theorem join_w (zs : List Int) (hz : zs.length ≤ 20) (hp : ∀ c ∈ zs, 0 < c) : joinO (wL zs) = if zs = [] then none else some (wJ zs) := by
  unfold joinO
  have hk : kidsOf (wL zs) = zs.map wS := by
    unfold kidsOf wL
    rw [List.filterMap_map]
    induction zs with
    | nil => rfl
    | cons c zs ih => simp
  rw [hk]
  show makeO (wJ zs) = _
  unfold makeO
  by_cases h0 : zs = []
  · subst h0
    simp [wJ, sizeP, sizeL]
  · rw [if_neg h0]
    have hl : 0 < zs.length := List.length_pos_iff.2 h0
    unfold wJ
    rw [sizeP_kids _ _ _ _ (by omega)]
    have e : ((0 : Int) == 0 && !allB.toList.isEmpty && !(zs.map wS).isEmpty) = true := by
      have : (zs.map wS).isEmpty = false := by cases zs <;> simp_all
      simp [toList_all, this]
    rw [e, sizeL_all (sizeP 19) 2 2 (zs.map wS) (fun s hs => by
      obtain ⟨c, hc, rfl⟩ := List.mem_map.1 hs
      exact size_wrapc 17 wB wB_no c (hp c hc)) 1 0 (by omega)]
    have hl : 1 + 2 * (zs.map wS).length ≤ 50 := by rw [List.length_map]; omega
    rw [if_pos hl]
    rfl
theorem has_w (n : Int) (zs : List Int) : hasO n (if zs = [] then none else some (wJ zs)) = hasZ n zs := by
  by_cases h0 : zs = []
  · subst h0; rfl
  · rw [if_neg h0]
    show hasC n (wJ zs) = _
    unfold wJ
    rw [hasC_wrap _ _ _ _ (by rw [List.length_map]; exact List.length_pos_iff.2 h0), hasCs_any, List.any_map]
    unfold hasZ
    exact List.any_congr rfl (fun c => by simp [wS, codeS, hasC, hasCs])
theorem hasZ_true (n : Int) (zs : List Int) : hasZ n zs = true ↔ n ∈ zs := by
  unfold hasZ
  rw [List.any_eq_true]
  exact ⟨fun ⟨c, h, e⟩ => by have : c = n := by simpa using e
                             rwa [← this], fun h => ⟨n, h, by simp⟩⟩
theorem bestI_take (zs : List Int) (k : Nat) (c : Int) (h : zs[k]? = some c) : bestI (zs.take (k + 1)) = if c ≤ 1000 then max (bestI (zs.take k)) c else bestI (zs.take k) := by
  unfold bestI
  rw [List.take_add_one, h]
  simp
theorem bestI_facts : ∀ (zs : List Int), (∀ c ∈ zs, 0 < c) → 0 ≤ bestI zs ∧ bestI zs ≤ 1000 ∧ (bestI zs = 0 ∨ bestI zs ∈ zs) ∧ ∀ c ∈ zs, c ≤ 1000 → c ≤ bestI zs := by
  have key : ∀ (zs : List Int) (b : Int), 0 ≤ b → b ≤ 1000 → (∀ c ∈ zs, 0 < c) →
      let r := zs.foldl (fun b c => if c ≤ 1000 then max b c else b) b
      b ≤ r ∧ r ≤ 1000 ∧ (r = b ∨ r ∈ zs) ∧ ∀ c ∈ zs, c ≤ 1000 → c ≤ r := by
    intro zs
    induction zs with
    | nil => intro b h1 h2 _; simp; omega
    | cons x zs ih =>
      intro b h1 h2 hp
      have hx := hp x (by simp)
      simp only [List.foldl_cons]
      by_cases h : x ≤ 1000
      · rw [if_pos h]
        obtain ⟨a1, a2, a3, a4⟩ := ih (max b x) (by omega) (by omega) (fun c hc => hp c (by simp [hc]))
        refine ⟨by omega, a2, ?_, ?_⟩
        · rcases a3 with a3 | a3
          · by_cases hb : x ≤ b
            · left; omega
            · right
              have : List.foldl (fun b c => if c ≤ 1000 then max b c else b) (max b x) zs = x := by omega
              rw [this]; simp
          · right; exact List.mem_cons_of_mem _ a3
        · intro c hc hc2
          rcases List.mem_cons.1 hc with rfl | hc
          · omega
          · exact a4 c hc hc2
      · rw [if_neg h]
        obtain ⟨a1, a2, a3, a4⟩ := ih b h1 h2 (fun c hc => hp c (by simp [hc]))
        refine ⟨a1, a2, ?_, ?_⟩
        · rcases a3 with a3 | a3
          · left; exact a3
          · right; exact List.mem_cons_of_mem _ a3
        · intro c hc hc2
          rcases List.mem_cons.1 hc with rfl | hc
          · omega
          · exact a4 c hc hc2
  intro zs hp
  obtain ⟨a1, a2, a3, a4⟩ := key zs 0 (by omega) (by omega) hp
  exact ⟨a1, a2, a3, a4⟩
theorem deep_w (zs : List Int) (hp : ∀ c ∈ zs, 0 < c) : (deepO (if zs = [] then none else some (wJ zs)) : Int) = bestI zs := by
  obtain ⟨h0, h1, h2, h3⟩ := bestI_facts zs hp
  obtain ⟨m, hm⟩ := Int.eq_ofNat_of_zero_le h0
  rw [hm]
  congr 1
  refine deep_max _ m 1000 (by omega) (fun hpos => ?_) (fun n hn hk => ?_)
  · rw [has_w, hasZ_true, ← hm]
    rcases h2 with h2 | h2
    · omega
    · exact h2
  · rw [has_w]
    cases hz : hasZ (n : Int) zs with
    | false => rfl
    | true =>
      have := h3 n ((hasZ_true _ _).1 hz) (by omega)
      omega

/-- has. -/
theorem whas_any (zs : List Int) (n : Int) (v : Value) (w : World) (hI : IRep w zs v) : Calls Tryd.prog 33 #[v, .int .i64 n] w fun e w' => e = .returned (.bool (hasZ n zs)) ∧ Below w.heap.size w w' := by
  obtain ⟨a, cap, b, off, rfl, hmx, hab, hc⟩ := hI
  have HC := Lib.hid hc
  have HAB := Lib.hid hab
  clear hc hab
  go_enter Tryd.func33, Tryd.ntmps33
  go_wp2_with fail
  go_loopw [5] (fun vi wr => ∃ k : Nat, k ≤ zs.length ∧ vi = .int .i64 k ∧ (∀ c ∈ zs.take k, c ≠ n) ∧ wr = w) (fun vi _ => zs.length - (intOf vi).toNat)
  case atStart => exact ⟨0, by omega, rfl, by simp, rfl⟩
  case round =>
    obtain ⟨k, hk, rfl, hn, rfl⟩ := hrel
    have HN := Lib.hid hn
    clear hn
    by_cases hlt : k < zs.length
    · obtain ea := HAB.out (by omega)
      subst ea
      have hkc : (k : Int) < (zs.length : Int) := by omega
      have hk0 : (0 : Int) ≤ (k : Int) := by omega
      have hml : zs.length ≤ 9223372036854775807 := by unfold maxLen at hmx; omega
      obtain ⟨c, hcz⟩ : ∃ c, zs[k]? = some c := ⟨_, List.getElem?_eq_getElem hlt⟩
      have hcr : wr.cell? ⟨b, off + k, none⟩ = some (.int .i64 c) := by rw [HC.out k hlt]; simp [List.getD, hcz]
      have HZ := Lib.hid hcz
      clear hcz
      cases d : (c == n) with
      | true =>
        go_wp2_with fail
        go_ret
        have e : c = n := by simpa using d
        refine ⟨?_, Below.refl _ _⟩
        rw [(hasZ_true n zs).2 (by rw [← e]; exact List.mem_of_getElem? HZ.out)]
        rfl
      | false =>
        go_wp2_with fail
        go_roundw
        case rel =>
          refine ⟨k + 1, by omega, by go_num, fun x hx => ?_, trivial⟩
          rw [List.take_add_one, HZ.out] at hx
          rcases List.mem_append.1 hx with h | h
          · exact HN.out x h
          · simp at h
            rw [h]
            simpa using d
        case measure => simp [intOf]; omega
    · obtain rfl : k = zs.length := by omega
      have hml : zs.length ≤ 9223372036854775807 := by unfold maxLen at hmx; omega
      go_wp2_with fail
      go_ret
      refine ⟨?_, Below.refl _ _⟩
      have := HN.out
      rw [List.take_length] at this
      cases hz : hasZ n zs with
      | false => rfl
      | true => exact absurd rfl (this n ((hasZ_true n zs).1 hz))

theorem irep_keep {w w' : World} {zs : List Int} {v : Value} (h : IRep w zs v) (hb : Below w.heap.size w w') : IRep w' zs v := by
  obtain ⟨a, cap, b, off, e, hm, ha, hc⟩ := h
  exact ⟨a, cap, b, off, e, hm, ha, fun i hi => keep_below hb (hc i hi)⟩
/-- How far the row of wrapped codes is made. -/
def DRel (w : World) (zs : List Int) (k : Nat) (ev : Value) (vs : List Value) (wr : World) : Prop :=
  wr.ownsRow w.heap.size 29 1 ev k vs ∧ (∀ i c v, i < k → zs[i]? = some c → vs[i]? = some v → ORep (fun b => w.heap.size ≤ b ∧ some b ≠ ev.ownBlock) wr (some (wS c)) v) ∧ Below w.heap.size w wr

theorem ORep.lt {A : Nat → Prop} {w : World} {o : Option Sh} {v : Value} (h : ORep A w o v) : ORep (fun b => A b ∧ b < w.heap.size) w o v := by
  cases o with
  | none => exact h
  | some s => exact ⟨h.1, h.2.lt⟩
theorem d_step {w wr w1 u : World} {zs : List Int} {k : Nat} {ev : Value} {vs : List Value} {c : Int} {v : Value} {o : Obj} {gg cap2 : Nat} (h : DRel w zs k ev vs wr) (hB : Below wr.heap.size wr w1) (hc : zs[k]? = some c)
    (hv : ORep (fun b => wr.heap.size ≤ b) w1 (some (wS c)) v) (hown2 : u.ownsRow w.heap.size 29 1 (.slice (some ⟨gg, 0, none⟩) (k + 1) cap2) (k + 1) (vs ++ [v])) (hgrow : (w1.alloc o).grownBy u ev.ownBlock) (hat : ev.ownBlock = some gg ∨ gg = (w1.alloc o).heap.size) :
    DRel w zs (k + 1) (.slice (some ⟨gg, 0, none⟩) (k + 1) cap2) (vs ++ [v]) u := by
  obtain ⟨hown, hr, hb⟩ := h
  have hlen : vs.length = k := by have := hown.1; omega
  have hs1 := hB.size
  have hbs := hb.size
  have hs2 : (w1.alloc o).heap.size = w1.heap.size + 1 := by simp
  have hfar : ∀ b, wr.heap.size ≤ b → some b ≠ ev.ownBlock := fun b hb e => by have := (hown.lt _ e.symm).2; omega
  have E : ∀ (A : Nat → Prop), (∀ b, A b → some b ≠ ev.ownBlock) → Ext A w1 u := fun A hA => (Ext.alloc w1 o).trans (Ext.grown hgrow hA)
  have hngg : ∀ b, some b ≠ ev.ownBlock → b < w1.heap.size → some b ≠ (Value.slice (some ⟨gg, 0, none⟩) (k + 1) cap2).ownBlock := fun b hb hbl e => by
    have : b = gg := by simpa [Value.ownBlock] using e
    rcases hat with e' | e'
    · exact hb (by rw [e', this])
    · omega
  refine ⟨hown2, fun i x y hi hx hy => ?_, ?_⟩
  · by_cases hik : i < k
    · rw [List.getElem?_append_left (by omega)] at hy
      have R := (hr i x y hik hx hy).ext (Ext.of_below hB)
      exact (R.lt.ext (E _ fun b hb => hb.1.2)).mono fun b hb => ⟨hb.1.1, hngg b hb.1.2 hb.2⟩
    · obtain rfl : i = k := by omega
      rw [List.getElem?_append_right (by omega), hlen, Nat.sub_self] at hy
      simp at hy
      subst hy
      rw [hc] at hx
      injection hx with hx
      subst hx
      exact (hv.lt.ext (E _ fun b hb => hfar b hb.1)).mono fun b hb => ⟨by have := hb.1; have := hbs; omega, hngg b (hfar b hb.1) hb.2⟩
  · exact (bnew (bcall hb hB) o).grown hgrow (bnew (bcall hb hB) o).size (fun j hj => (hown.lt _ hj).1)
theorem d_list {w wr : World} {zs : List Int} {ev : Value} {vs : List Value} (h : DRel w zs zs.length ev vs wr) (hz : zs.length ≤ 20) : LRep (fun b => w.heap.size ≤ b) wr (wL zs) ev := by
  obtain ⟨hown, hr, hb⟩ := h
  have hl : (wL zs).length = zs.length := by simp [wL]
  have hlen : vs.length = zs.length := by have := hown.1; omega
  rcases hown.2 with ⟨rfl, hz'⟩ | ⟨g, cap, cur, rfl, hgb, hh, h1, h2, _⟩
  · have : zs = [] := List.eq_nil_of_length_eq_zero hz'
    subst this
    exact ⟨none, 0, 0, 0, rfl, by simp [wL], fun h => by simp [wL] at h, fun i o hi => by simp [wL] at hi⟩
  · refine ⟨some ⟨g, 0, none⟩, cap, g, 0, by rw [hl], by omega, fun _ => ⟨rfl, hgb⟩, fun i o ho => ?_⟩
    unfold wL at ho
    rw [List.getElem?_map] at ho
    obtain ⟨c, hc, rfl⟩ := Option.map_eq_some_iff.1 ho
    have hi := (List.getElem?_eq_some_iff.1 hc).1
    refine ⟨vs[i]'(by omega), ?_, ?_⟩
    · rw [Nat.zero_add, hown.cellAt i (by omega), List.getElem?_eq_getElem (by omega)]
    · exact (hr i c _ hi hc (List.getElem?_eq_getElem (by omega))).mono fun b hb => hb.1

set_option maxHeartbeats 8000000 in
set_option maxRecDepth 20000 in
theorem whydeep_any (zs : List Int) (v : Value) (w : World) (hI : IRep w zs v) (hT : ErrT w) : Calls Tryd.prog 10 #[v] w fun e w' => e = .returned (.bool true) ∧ Below w.heap.size w w' := by
  obtain ⟨j0, hj0, jz0, jz1, jz2⟩ := info_parts Tryd.info29
  have HI := Lib.hid hI
  obtain ⟨a, cap, b, off, rfl, hmx, hab, hc⟩ := hI
  have HT := Lib.hid hT
  have HC := Lib.hid hc
  have HAB := Lib.hid hab
  clear hT hc hab
  by_cases hin : zs.length ≤ 20
  · have d1 : decide ((20 : Int) < (zs.length : Int)) = false := by simp; omega
    go_enter Tryd.func10, Tryd.ntmps10
    go_wp2_with fail
    go_loopw [3, 4, 5] (fun ev vb vi wr => ∃ (k : Nat) (vs : List Value), k ≤ zs.length ∧ vi = .int .i64 k ∧ vb = .int .i64 (bestI (zs.take k)) ∧ (∀ c ∈ zs.take k, 0 < c) ∧ DRel w zs k ev vs wr) (fun _ _ vi _ => zs.length - (intOf vi).toNat)
    case atStart => exact ⟨0, [], by omega, rfl, rfl, by simp, World.ownsRow_nil _ _ _ _, fun i c v hi => by omega, Below.refl _ _⟩
    case round =>
      obtain ⟨k, vs, hkl, rfl, rfl, hpos, hD⟩ := hrel
      have HD := Lib.hid hD
      have HP := Lib.hid hpos
      obtain ⟨hown, _, hwr⟩ := hD
      clear hpos
      by_cases hlt : k < zs.length
      · obtain ea := HAB.out (by omega)
        subst ea
        have hkc : (k : Int) < (zs.length : Int) := by omega
        have hk0 : (0 : Int) ≤ (k : Int) := by omega
        obtain ⟨c, hcz⟩ : ∃ c, zs[k]? = some c := ⟨_, List.getElem?_eq_getElem hlt⟩
        have hcw : w.cell? ⟨b, off + k, none⟩ = some (.int .i64 c) := by rw [HC.out k hlt]; simp [List.getD, hcz]
        have HCW := Lib.hid hcw
        have hcr := keep_below hwr hcw
        have HZ := Lib.hid hcz
        have hbt := Lib.hid (bestI_take zs k c hcz)
        clear hcw hcz
        by_cases hc0 : c < 1
        · have d0 : decide (c < 1) = true := by simpa using hc0
          clear hown
          go_wp2_with fail
          refine (wawake_any _ (errT_keep HT.out hwr)).mono ?_
          rintro e w1 ⟨rfl, hB⟩
          go_wp2_with fail
          go_ret
          exact ⟨rfl, bcall hwr hB⟩
        · have d0 : decide (c < 1) = false := by simpa using hc0
          have hcp : 0 < c := by omega
          have hpos' : ∀ x ∈ zs.take (k + 1), 0 < x := fun x hx => by
            rw [List.take_add_one, HZ.out] at hx
            rcases List.mem_append.1 hx with h | h
            · exact HP.out x h
            · simp at h; omega
          have HP' := Lib.hid hpos'
          have C := make_any (fun _ => True) _ _ _ _ wr (lit_code _ wr c)
          rw [show (Sh.mk c ⟨#[]⟩ []) = codeS c from rfl, make_code c hcp] at C
          have C12 := Lib.hid C
          clear C hpos' hc0
          by_cases hbig : c ≤ 1000
          · have d9 : decide (c ≤ 1000) = true := by simpa using hbig
            go_wp2_with fail
            refine C12.out.mono ?_
            rintro e w1 ⟨v1, rfl, hv1, hB1⟩
            have hb1 := bcall hwr hB1
            have C := wrap_any wB (by decide) _ _ v1 w1 hv1 (errT_keep HT.out hb1)
            rw [wrap_code wB wB_no c hcp] at C
            have C14 := Lib.hid C
            clear C
            go_wp2_with fail
            refine C14.out.mono ?_
            rintro e w2 ⟨v2, rfl, hv2, hB2⟩
            have hb2 := bcall hb1 hB2
            obtain ⟨t2, u2, rfl⟩ := hv2.2.form
            have hb12 := bcall hB1 hB2
            have hv2' := Lib.hid (hv2.mono (A' := fun b => wr.heap.size ≤ b) fun b hb => Nat.le_trans hB1.size hb)
            have hs0 := hwr.size
            have hs12 := hb12.size
            have own2 := own_below hown hb12
            have hcr2 := keep_below hb2 HCW.out
            have hcr2a := fun o => keep_alloc (o := o) hcr2
            clear hv2 hown
            go_wp2_with (at_builtin; refine wpList_append_lies (w := _) (hgd := rfl) (s := _) (x := _) (t := _) (ho := rfl) (base := w.heap.size) (e := 29) (i := j0) (z := _) (size := 1) (bytes := 16) (ht := Tryd.underlying24) (hi := hj0) (hz := jz0) (hsize := jz1) (hby := jz2) (hzs := rfl) (hsz := by omega) (v := u3) (n := k) (xs := vs) (hs := ?_) (hown := ?_) (ad := ⟨w2.heap.size, 0, none⟩) (m := 1) (c := 1) (news := [.iface t2 u2]) (hx := ?_) (hl := ?_) (hnews := ?_) (h1 := ?_) (hm := by omega) (h63 := ?_) (hbytes := ?_) (hbase := ?_) (H := _) (hH := rfl) (h := ?_); (rfl); (exact own2.alloc _); (rfl); (rfl); (exact World.news_of_block (heap_alloc_new _ _)); (simp [Value.oneCell']); (unfold maxLen; omega); (omega); (first | omega | (simp; omega)); intro gg cap2 u5' hown3 hgrow hat hlt2; have hcr5 := keep_grown hgrow (fun e => by { have := (own2.lt _ e.symm).1; have := cell_lt HCW.out; simp at *; omega }) (hcr2a _))
            case roundEnd =>
              have hst := d_step (w1 := w2) (u := u5') (gg := gg) (cap2 := cap2) HD.out hb12 HZ.out hv2'.out hown3 hgrow (by simpa using hat)
              refine ⟨⟨k + 1, _, by omega, by go_num, ?_, HP'.out, hst⟩, by simp [intOf]; omega⟩
              rw [hbt.out, if_pos hbig]
          · have d9 : decide (c ≤ 1000) = false := by simpa using hbig
            go_wp2_with fail
            refine C12.out.mono ?_
            rintro e w1 ⟨v1, rfl, hv1, hB1⟩
            have hb1 := bcall hwr hB1
            have C := wrap_any wB (by decide) _ _ v1 w1 hv1 (errT_keep HT.out hb1)
            rw [wrap_code wB wB_no c hcp] at C
            have C14 := Lib.hid C
            clear C
            go_wp2_with fail
            refine C14.out.mono ?_
            rintro e w2 ⟨v2, rfl, hv2, hB2⟩
            have hb2 := bcall hb1 hB2
            obtain ⟨t2, u2, rfl⟩ := hv2.2.form
            have hb12 := bcall hB1 hB2
            have hv2' := Lib.hid (hv2.mono (A' := fun b => wr.heap.size ≤ b) fun b hb => Nat.le_trans hB1.size hb)
            have hs0 := hwr.size
            have hs12 := hb12.size
            have own2 := own_below hown hb12
            have hcr2 := keep_below hb2 HCW.out
            have hcr2a := fun o => keep_alloc (o := o) hcr2
            clear hv2 hown
            go_wp2_with (at_builtin; refine wpList_append_lies (w := _) (hgd := rfl) (s := _) (x := _) (t := _) (ho := rfl) (base := w.heap.size) (e := 29) (i := j0) (z := _) (size := 1) (bytes := 16) (ht := Tryd.underlying24) (hi := hj0) (hz := jz0) (hsize := jz1) (hby := jz2) (hzs := rfl) (hsz := by omega) (v := u3) (n := k) (xs := vs) (hs := ?_) (hown := ?_) (ad := ⟨w2.heap.size, 0, none⟩) (m := 1) (c := 1) (news := [.iface t2 u2]) (hx := ?_) (hl := ?_) (hnews := ?_) (h1 := ?_) (hm := by omega) (h63 := ?_) (hbytes := ?_) (hbase := ?_) (H := _) (hH := rfl) (h := ?_); (rfl); (exact own2.alloc _); (rfl); (rfl); (exact World.news_of_block (heap_alloc_new _ _)); (simp [Value.oneCell']); (unfold maxLen; omega); (omega); (first | omega | (simp; omega)); intro gg cap2 u5' hown3 hgrow hat hlt2; have hcr5 := keep_grown hgrow (fun e => by { have := (own2.lt _ e.symm).1; have := cell_lt HCW.out; simp at *; omega }) (hcr2a _))
            case roundEnd =>
              have hst := d_step (w1 := w2) (u := u5') (gg := gg) (cap2 := cap2) HD.out hb12 HZ.out hv2'.out hown3 hgrow (by simpa using hat)
              refine ⟨⟨k + 1, _, by omega, by go_num, ?_, HP'.out, hst⟩, by simp [intOf]; omega⟩
              rw [hbt.out, if_neg (by omega)]
      · obtain rfl : k = zs.length := by omega
        rw [List.take_length] at HP ⊢
        have hL := d_list HD.out hin
        have C := join_any _ _ _ wr hL (errT_keep HT.out hwr)
        rw [join_w zs hin HP.out] at C
        have C13 := Lib.hid C
        obtain ⟨hb0, hb1k, hb2k, _⟩ := bestI_facts zs HP.out
        have hdeep := Lib.hid (deep_w zs HP.out)
        have hhas := Lib.hid (fun n => has_w n zs)
        have hbest : bestI zs = 0 ∨ hasO (bestI zs) (if zs = [] then none else some (wJ zs)) = true := by
          rcases hb2k with h | h
          · exact .inl h
          · exact .inr (by rw [has_w]; exact (hasZ_true _ _).2 h)
        clear C hL hown hb2k
        generalize bestI zs = best at hdeep hbest hb0 hb1k
        generalize (if zs = [] then none else some (wJ zs) : Option Sh) = o at C13 hdeep hhas hbest
        go_wp2_with fail
        refine C13.out.mono ?_
        rintro e w1 ⟨v1, rfl, hv1, hB1⟩
        have hb1 := bcall hwr hB1
        have C := wdeep_any w1 hv1
        rw [hdeep.out] at C
        have C31 := Lib.hid C
        clear C
        go_wp2_with fail
        refine C31.out.mono ?_
        rintro e w2 ⟨rfl, hB2⟩
        have hb2 := bcall hb1 hB2
        have hv2 := hv1.ext (Ext.of_below hB2)
        by_cases h0 : best = 0
        · have e0 : (best == 0) = true := by simpa using h0
          cases hq : hasZ 2 zs <;> (
          have Cx := wis_any 2 w2 hv2
          rw [hhas.out, hq] at Cx
          have Cy := Lib.hid Cx
          clear Cx
          go_wp2_with fail
          refine Cy.out.mono ?_
          rintro e w4 ⟨rfl, hB4⟩
          have hb4 := bcall hb2 hB4
          have hv4 := hv2.ext (Ext.of_below hB4)
          have Cx := whas_any zs 2 _ w4 (irep_keep HI.out hb4)
          rw [hq] at Cx
          have Cz := Lib.hid Cx
          clear Cx
          go_wp2_with fail
          refine Cz.out.mono ?_
          rintro e w5 ⟨rfl, hB5⟩
          have hb5 := bcall hb4 hB5
          have hv5 := hv4.ext (Ext.of_below hB5)
          have Cx := wtime_any w5 hv5
          rw [hhas.out, hq] at Cx
          have Ct := Lib.hid Cx
          clear Cx
          go_wp2_with fail
          refine Ct.out.mono ?_
          rintro e w6 ⟨rfl, hB6⟩
          have hb6 := bcall hb5 hB6
          have Cx := whas_any zs 2 _ w6 (irep_keep HI.out hb6)
          rw [hq] at Cx
          have Cu := Lib.hid Cx
          clear Cx
          go_wp2_with fail
          refine Cu.out.mono ?_
          rintro e w7 ⟨rfl, hB7⟩
          have hb7 := bcall hb6 hB7
          go_wp2_with fail
          refine (wawake_any w7 (errT_keep HT.out hb7)).mono ?_
          rintro e w8 ⟨rfl, hB8⟩
          go_wp2_with fail
          go_ret
          exact ⟨rfl, bcall hb7 hB8⟩)
        · have e0 : (best == 0) = false := by simpa using h0
          have hbt : hasO best o = true := by
            rcases hbest with h | h
            · exact absurd h h0
            · exact h
          have Cx := wis_any best w2 hv2
          rw [hbt] at Cx
          have C26 := Lib.hid Cx
          clear Cx hbt hbest
          go_wp2_with fail
          refine C26.out.mono ?_
          rintro e w3 ⟨rfl, hB3⟩
          have hb3 := bcall hb2 hB3
          have hv3 := hv2.ext (Ext.of_below hB3)
          cases hq : hasZ 2 zs <;> (
          have Cx := wis_any 2 w3 hv3
          rw [hhas.out, hq] at Cx
          have Cy := Lib.hid Cx
          clear Cx
          go_wp2_with fail
          refine Cy.out.mono ?_
          rintro e w4 ⟨rfl, hB4⟩
          have hb4 := bcall hb3 hB4
          have hv4 := hv3.ext (Ext.of_below hB4)
          have Cx := whas_any zs 2 _ w4 (irep_keep HI.out hb4)
          rw [hq] at Cx
          have Cz := Lib.hid Cx
          clear Cx
          go_wp2_with fail
          refine Cz.out.mono ?_
          rintro e w5 ⟨rfl, hB5⟩
          have hb5 := bcall hb4 hB5
          have hv5 := hv4.ext (Ext.of_below hB5)
          have Cx := wtime_any w5 hv5
          rw [hhas.out, hq] at Cx
          have Ct := Lib.hid Cx
          clear Cx
          go_wp2_with fail
          refine Ct.out.mono ?_
          rintro e w6 ⟨rfl, hB6⟩
          have hb6 := bcall hb5 hB6
          have Cx := whas_any zs 2 _ w6 (irep_keep HI.out hb6)
          rw [hq] at Cx
          have Cu := Lib.hid Cx
          clear Cx
          go_wp2_with fail
          refine Cu.out.mono ?_
          rintro e w7 ⟨rfl, hB7⟩
          have hb7 := bcall hb6 hB7
          go_wp2_with fail
          refine (wawake_any w7 (errT_keep HT.out hb7)).mono ?_
          rintro e w8 ⟨rfl, hB8⟩
          go_wp2_with fail
          go_ret
          exact ⟨rfl, bcall hb7 hB8⟩)
  · have d1 : decide ((20 : Int) < (zs.length : Int)) = true := by simp; omega
    go_enter Tryd.func10, Tryd.ntmps10
    go_wp2_with fail
    refine (wawake_any w HT.out).mono ?_
    rintro e w1 ⟨rfl, hB⟩
    go_wp2_with fail
    go_ret
    exact ⟨rfl, hB⟩
end Go.Proofs.YtpdljglamjanmaaDoor
