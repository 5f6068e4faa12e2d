/-
  tarpaulinlaw4.ProgOne: THE WALK (printed by genlaw1.py).
-/
import Derived.Test.YtajblpopbipegaaDoorLaw1
import Derived.Deep.DeepCutAuto
import Derived.Outline
namespace Go.Proofs.YtajblpopbipegaaDoor
open Go.RowKit Go.Lib

theorem info36v : (Tryd.prog.info? 36).map (fun i => (i.zero, i.size, i.bytes)) = some (some (.agg #[.int .i64 0, .int .i64 0, .int .i64 0, .int .i64 0, .slice none 0 0, .bool false]), 6, 64) := by kernel_rfl
/-- How a program's cells lie, for copying. -/
structure Src (w : World) (l : List Ins) (b off cap : Nat) (zs : List (Ins × Value)) : Prop where
  rep : LRep w l (.slice (some ⟨b, off, none⟩) l.length cap)
  map : zs.map (·.1) = l
  kids : ∀ x ∈ zs, CRep w x.1.cases x.2
  cells : ∀ j u, (flat6 zs)[j]? = some u → w.cell? ⟨b, off + j, none⟩ = some u
theorem Src.ext {w w' : World} {l : List Ins} {b off cap : Nat} {zs : List (Ins × Value)} (h : Src w l b off cap zs) (e : Ext w w') : Src w' l b off cap zs :=
  ⟨h.rep.ext e, h.map, fun x hx => (h.kids x hx).ext e, fun j u hj => e _ _ (h.cells j u hj)⟩
theorem Src.len {w : World} {l : List Ins} {b off cap : Nat} {zs : List (Ins × Value)} (h : Src w l b off cap zs) : zs.length = l.length := by rw [← h.map, List.length_map]
theorem Src.at {w : World} {l : List Ins} {b off cap : Nat} {zs : List (Ins × Value)} (h : Src w l b off cap zs) {k : Nat} {x : Ins} (hx : l[k]? = some x) : ∃ cv, zs[k]? = some (x, cv) := by
  rw [← h.map, List.getElem?_map] at hx
  cases hz : zs[k]? with
  | none => rw [hz] at hx; cases hx
  | some y =>
    rw [hz] at hx
    simp at hx
    obtain ⟨i, v⟩ := y
    simp only at hx
    exact ⟨v, by rw [hx]⟩
theorem Src.news {w : World} {l : List Ins} {b off cap : Nat} {zs : List (Ins × Value)} (h : Src w l b off cap zs) (j : Nat) (u : Value) (hj : (flat6 zs)[j]? = some u) : w.cell? ((⟨b, off, none⟩ : Addr).add j) = some u := by
  rw [Addr.add_lit]
  exact h.cells j u hj
theorem Src.six {w : World} {l : List Ins} {b off cap : Nat} {zs : List (Ins × Value)} (h : Src w l b off cap zs) {k : Nat} {x : Ins} {cv : Value} (hx : zs[k]? = some (x, cv)) :
    w.cell? ⟨b, off + k * 6, none⟩ = some (.int .i64 x.op) ∧ w.cell? ⟨b, off + k * 6 + 1, none⟩ = some (.int .i64 x.a) ∧ w.cell? ⟨b, off + k * 6 + 2, none⟩ = some (.int .i64 x.b) ∧ w.cell? ⟨b, off + k * 6 + 3, none⟩ = some (.int .i64 x.c) ∧ w.cell? ⟨b, off + k * 6 + 4, none⟩ = some cv ∧ w.cell? ⟨b, off + k * 6 + 5, none⟩ = some (.bool x.dflt) := by
  have key : ∀ i u, i < 6 → (encI x cv)[i]? = some u → w.cell? ⟨b, off + k * 6 + i, none⟩ = some u := fun i u hi hu => by
    rw [Nat.add_assoc]
    exact h.cells _ u ((flat6_at zs k i (x, cv) hi hx).trans hu)
  exact ⟨by simpa using key 0 _ (by omega) rfl, key 1 _ (by omega) rfl, key 2 _ (by omega) rfl, key 3 _ (by omega) rfl, key 4 _ (by omega) rfl, key 5 _ (by omega) rfl⟩
theorem flat6_one (zs : List (Ins × Value)) : ∀ u ∈ flat6 zs, (∀ x ∈ zs, x.2.oneCell' = true) → u.oneCell' = true := fun u hu hc => by
  unfold flat6 at hu
  obtain ⟨x, hx, hu⟩ := List.mem_flatMap.1 hu
  simp only [encI, List.mem_cons, List.mem_nil_iff, or_false] at hu
  rcases hu with rfl | rfl | rfl | rfl | rfl | rfl
  · rfl
  · rfl
  · rfl
  · rfl
  · exact hc x hx
  · rfl
theorem crep_one {w : World} {cs : List Cs} {v : Value} (h : CRep w cs v) : v.oneCell' = true := by
  obtain ⟨a, cap, rfl⟩ := h.form
  rfl
theorem flat6_get {zs : List (Ins × Value)} {k i : Nat} {x : Ins × Value} {u : Value} (hx : zs[k]? = some x) (hi : i < 6) (hu : (encI x.1 x.2)[i]? = some u) : (flat6 zs)[k * 6 + i]? = some u := (flat6_at zs k i x hi hx).trans hu
/-- A copy of a program that the call has made. -/
structure Cp (W w' : World) (zs : List (Ins × Value)) (g n cap : Nat) : Prop where
  own : w'.ownsRow W.heap.size 36 6 (.slice (some ⟨g, 0, none⟩) n cap) n (flat6 zs)
  below : Below W.heap.size W w'
  ge : W.heap.size ≤ g
  len : zs.length = n
theorem own_zero (W : World) : (W.alloc (.cells #[] 36)).ownsRow W.heap.size 36 6 (.slice (some ⟨W.heap.size, 0, none⟩) 0 0) 0 [] :=
  World.ownsRow_lit W #[] 0 (Nat.le_refl _) (by unfold maxLen; omega) rfl
theorem cp_of {W u : World} {zs : List (Ins × Value)} {g n cap : Nat} (own : u.ownsRow W.heap.size 36 6 (.slice (some ⟨g, 0, none⟩) (0 + n) cap) (0 + n) ([] ++ flat6 zs)) (grow : (W.alloc (.cells #[] 36)).grownBy u (some W.heap.size)) (hl : zs.length = n) : Cp W u zs g n cap := by
  rw [Nat.zero_add, List.nil_append] at own
  exact ⟨own, (bnew (Below.refl _ W) _).grown grow (by simp) (fun j hj => by injection hj with hj; omega), (own.lt g rfl).1, hl⟩
theorem cp_store {W u : World} {zs : List (Ins × Value)} {g n cap k i : Nat} {x y : Ins × Value} {v : Value} (h : Cp W u zs g n cap) (hx : zs[k]? = some x) (hi : i < 6) (hy : (encI x.1 x.2).set i v = encI y.1 y.2) : Cp W (u.setCell ⟨g, k * 6 + i, none⟩ v) (zs.set k y) g n cap :=
  ⟨own_set h.own hx hi hy, h.below.setCell h.ge v, h.ge, by rw [List.length_set]; exact h.len⟩
theorem cp_cell {W u : World} {zs : List (Ins × Value)} {g n cap k i : Nat} {x : Ins × Value} {v : Value} (h : Cp W u zs g n cap) (hx : zs[k]? = some x) (hi : i < 6) (hv : (encI x.1 x.2)[i]? = some v) : u.cell? ⟨g, k * 6 + i, none⟩ = some v ∧ u.frozen? ⟨g, k * 6 + i, none⟩ = false := by
  have hk := (List.getElem?_eq_some_iff.1 hx).1
  have := h.len
  exact ⟨(h.own.cellAt _ (by omega)).trans (flat6_get hx hi hv), h.own.frozenAt _⟩
theorem cp_rep {W u w' : World} {zs : List (Ins × Value)} {g n cap : Nat} {l : List Ins} (h : Cp W u zs g n cap) (hm : zs.map (·.1) = l) (hc : ∀ x ∈ zs, CRep u x.1.cases x.2) (e : Ext u w') : LRep w' l (.slice (some ⟨g, 0, none⟩) n cap) := by
  have ho := h.own
  rw [← h.len] at ho
  rw [← hm, ← h.len]
  exact (own_lrep ho hc).ext e
theorem kids_set {w : World} {zs : List (Ins × Value)} {k : Nat} {x y : Ins × Value} (h : ∀ z ∈ zs, CRep w z.1.cases z.2) (hx : zs[k]? = some x) (hy : y.1.cases = x.1.cases ∧ y.2 = x.2) : ∀ z ∈ zs.set k y, CRep w z.1.cases z.2 := fun z hz => by
  rcases List.mem_or_eq_of_mem_set hz with hz | rfl
  · exact h z hz
  · rw [hy.1, hy.2]; exact h x (List.mem_of_getElem? hx)
theorem Src.one {w : World} {l : List Ins} {b off cap : Nat} {zs : List (Ins × Value)} (h : Src w l b off cap zs) : ∀ u ∈ flat6 zs, u.oneCell' = true := fun u hu => flat6_one zs u hu fun x hx => crep_one (h.kids x hx)
/-- The kit's law of an append that lies, where the operation has a guard that holds. -/
theorem wpList_append_g {P : Program} {w : World} {ops : Array Oper} {rest : List Oper} {o : Oper} {a : Act} {Q : Exit → Act → World → Prop} (hgd : Region.wanted o (yielded ops a.tmps) = true) (s x : Operand) (t : TypeId)
    (ho : o.op = .call { callee := .builtin .append, args := #[s, x], argTypes := #[t, t] })
    (base : Nat) (e : TypeId) (i : TypeInfo) (z : Value) (size bytes : Nat) (ht : P.underlying t = some (.slice e)) (hi : P.info? e = some i) (hz : i.zero = some z)
    (hsize : i.size = size) (hby : i.bytes = bytes) (hzs : z.cells.size = size) (hsz : 0 < size)
    (v : Value) (n : Nat) (xs : List Value) (hs : a.eval s = v) (hown : w.ownsRow base e size v n xs)
    (ad : Addr) (m c : Nat) (news : List Value) (hx : a.eval x = .slice (some ad) m c) (hl : news.length = m * size) (hnews : ∀ j u, news[j]? = some u → w.cell? (ad.add j) = some u) (h1 : ∀ u ∈ news, u.oneCell' = true)
    (hm : 0 < m) (h63 : n + m ≤ maxLen) (hbytes : (n + m) * bytes ≤ 140737488355328) (hbase : base ≤ w.heap.size) (H : Nat) (hH : w.heap.size = H)
    (h : ∀ g cap w', w'.ownsRow base e size (.slice (some ⟨g, 0, none⟩) (n + m) cap) (n + m) (xs ++ news) → w.grownBy w' v.ownBlock → (v.ownBlock = some g ∨ g = H) → g < w'.heap.size → wpList P ops Q rest (a.put o.dst (.slice (some ⟨g, 0, none⟩) (n + m) cap)) w') : wpList P ops Q (o :: rest) a w :=
  wpList_step fun K hK => by
    rw [if_pos hgd]
    exact wp_append_lies w s x t ho base e i z size bytes ht hi hz hsize hby hzs hsz v n xs hs hown ad m c news hx hl hnews h1 hm h63 hbytes hbase H hH fun g cap w' h2 h3 h4 h5 => hK _ _ (h g cap w' h2 h3 h4 h5)
theorem more_of {W u u' : World} {zs : List (Ins × Value)} {g g' n cap cap' : Nat} {l : List Ins} {o : Obj} (h : Cp W u zs g n cap) (hm : zs.map (·.1) = l) (own : u'.ownsRow W.heap.size 36 6 (.slice (some ⟨g', 0, none⟩) (n + 1) cap') (n + 1) (flat6 zs ++ [.int .i64 7, .int .i64 0, .int .i64 0, .int .i64 0, .slice none 0 0, .bool false])) (grow : (u.alloc o).grownBy u' (some g)) (hk : ∀ x ∈ zs, CRep W x.1.cases x.2) :
    LRep u' (l ++ [exI]) (.slice (some ⟨g', 0, none⟩) (n + 1) cap') ∧ Below W.heap.size W u' := by
  have hb : Below W.heap.size W u' := (bnew h.below o).grown grow (by have := h.below.size; simp; omega) (fun j hj => by injection hj with hj; have := h.ge; omega)
  refine ⟨?_, hb⟩
  have e1 : flat6 zs ++ [.int .i64 7, .int .i64 0, .int .i64 0, .int .i64 0, .slice none 0 0, .bool false] = flat6 (zs ++ [(exI, .slice none 0 0)]) := by simp [flat6, encI, exI]
  have e2 : (zs ++ [(exI, Value.slice none 0 0)]).length = n + 1 := by simp [h.len]
  rw [e1, ← e2] at own
  rw [← e2, ← hm]
  have := own_lrep own (fun x hx => by
    rcases List.mem_append.1 hx with hx | hx
    · exact (hk x hx).ext (Ext.of_below hb)
    · rw [List.mem_singleton.1 hx]; exact crep0 _)
  simpa using this

set_option maxRecDepth 100000 in
set_option maxHeartbeats 8000000 in
theorem one_yes (l : List Ins) (at_ : Int) (b off cap : Nat) (zs : List (Ins × Value)) (w : World) (hS : Src w l b off cap zs) (hl0 : 0 < l.length) (hal : alikeB [l] = true) (hck : checkB l = true) (x : Ins) (k : Nat) (hk : roundI at_ l.length = k) (hx : l[k]? = some x) (h4 : (x.op == 4) = true) (hT : TabS w) : Calls Tryd.prog 4 #[.slice (some ⟨b, off, none⟩) l.length cap, .int .i64 at_] w fun e w' => e = .returned (.bool true) ∧ Below w.heap.size w w' := by
  have HT := Lib.hid hT
  have S0 := Lib.hid hS
  have h60 := alike_one hal
  have hkl : k < l.length := (List.getElem?_eq_some_iff.1 hx).1
  obtain ⟨i0, hi0, hz0, hz1, hz2⟩ := info_parts info36v
  have FL := Lib.hid (show (flat6 zs).length = l.length * 6 by rw [flat6_len, hS.len])
  have One := Lib.hid hS.one
  obtain ⟨cv, hzx'⟩ := hS.at hx
  have HX := Lib.hid hx
  have HZX := Lib.hid hzx'
  have SX := Lib.hid (hS.six hzx')
  have CA := alike_any [l] _ (w.alloc (.cells #[.slice (some ⟨b, off, none⟩) l.length cap] 29)) (pit1 l _ (hS.rep.ext (Ext.alloc _ _)) (heap_alloc_new _ _))
  rw [hal] at CA
  have CAh := Lib.hid CA
  have CC := Lib.hid (check_t (hS.rep.ext (Ext.alloc w (.cells #[.slice (some ⟨b, off, none⟩) l.length cap] 29))) hck)
  have HCK := Lib.hid hck
  obtain ⟨ca, ccap, hcv⟩ := ((hS.kids _ (List.mem_of_getElem? hzx')).form)
  simp only at hcv
  have CR : ∀ wc, Calls Tryd.prog 20 #[.int .i64 at_, .int .i64 (l.length : Int)] wc fun e w' => e = .returned (.int .i64 (k : Int)) ∧ wc = w' := fun wc => by
    have := round_any at_ l.length (by omega) (by omega) wc
    rw [hk] at this
    exact this
  have CRh := Lib.hid CR
  have hle0 : ((l.length : Int) == 0) = false := by rw [beq_eq_false_iff_ne]; omega
  clear hT hS hx hzx' CA hck hal hk CR
  subst hcv
  go_enter Tryd.func4, Tryd.ntmps4
  go_wp2_with fail
  refine CAh.out.mono ?_
  rintro e w1 ⟨rfl, rfl⟩
  go_wp2_with fail
  refine CC.out.mono ?_
  rintro e w2 ⟨rfl, hB2⟩
  have hb2 := bcall (bnew (Below.refl _ w) _) hB2
  clear CAh CC hB2
  go_wp2_with fail
  refine (CRh.out w2).mono ?_
  rintro e w3 ⟨rfl, rfl⟩
  obtain ⟨y0', y1', y2', y3', y4', y5'⟩ := SX.out
  have y0 := keep_below hb2 y0'
  have y1 := keep_below hb2 y1'
  have y2 := keep_below hb2 y2'
  have y3 := keep_below hb2 y3'
  have y4 := keep_below hb2 y4'
  have y5 := keep_below hb2 y5'
  clear y0' y1' y2' y3' y4' y5' CRh
  have kz : (0 : Int) ≤ (k : Int) := by omega
  have kl : (k : Int) < (l.length : Int) := by omega
  go_upto_region 7 with fail
  have hbW : Below w.heap.size w (w2.alloc (.cells #[.int .i64 x.op, .int .i64 x.a, .int .i64 x.b, .int .i64 x.c, .slice ca x.cases.length ccap, .bool x.dflt] 36)) := bnew hb2 _
  have hbx : (w2.alloc (.cells #[.int .i64 x.op, .int .i64 x.a, .int .i64 x.b, .int .i64 x.c, .slice ca x.cases.length ccap, .bool x.dflt] 36)).cell? ⟨w2.heap.size, 0, none⟩ = some (.int .i64 x.op) := by simp
  clear y0 y1 y2 y3 y4 y5 hb2
  generalize w2.alloc (.cells #[.int .i64 x.op, .int .i64 x.a, .int .i64 x.b, .int .i64 x.c, .slice ca x.cases.length ccap, .bool x.dflt] 36) = wb at hbW hbx ⊢
  generalize w2.heap.size = bx at hbx ⊢
  have S1 := Lib.hid (S0.out.ext (Ext.of_below hbW))
  go_upto_region 8 with (at_builtin; refine wpList_append_lies (w := _) (hgd := rfl) (s := _) (x := _) (t := _) (ho := rfl) (base := wb.heap.size) (e := 36) (i := i0) (z := _) (size := 6) (bytes := 64) (ht := Tryd.underlying29) (hi := hi0) (hz := hz0) (hsize := hz1) (hby := hz2) (hzs := rfl) (hsz := by omega) (v := .slice (some ⟨wb.heap.size, 0, none⟩) 0 0) (n := 0) (xs := []) (hs := ?_) (hown := ?_) (ad := ⟨b, off, none⟩) (m := l.length) (c := cap) (news := flat6 zs) (hx := ?_) (hl := ?_) (hnews := ?_) (h1 := ?_) (hm := by omega) (h63 := ?_) (hbytes := ?_) (hbase := ?_) (H := _) (hH := rfl) (h := ?_); (rfl); (exact own_zero _); (rfl); (exact FL.out); (exact (S1.out.ext (Ext.alloc _ _)).news); (exact One.out); (unfold maxLen; omega); (omega); (simp); intro g1 c1 u1 own1 grow1 hat1 hlt1)
  have C1 := cp_of own1 grow1 S1.out.len
  have hbx1 := keep_below C1.below hbx
  obtain ⟨z1, f1⟩ := cp_cell (i := 1) C1 HZX.out (by omega) rfl
  have D1 : Cp wb (u1.setCell ⟨g1, k * 6 + 1, none⟩ (.int .i64 8)) (zs.set k (withA x 8, .slice ca x.cases.length ccap)) g1 l.length c1 := cp_store C1 HZX.out (by omega) rfl
  have hlen1 : 0 + l.length = l.length := by omega
  clear own1 grow1 hat1 hlt1 C1 hbx1 hlen1
  go_upto_region 9 with fail
  have hbx1 := keep_below D1.below hbx
  clear z1 f1
  generalize u1.setCell ⟨g1, k * 6 + 1, none⟩ (.int .i64 8) = v1 at D1 hbx1 ⊢
  have HZ1 : (zs.set k (withA x 8, Value.slice ca x.cases.length ccap))[k]? = some (withA x 8, .slice ca x.cases.length ccap) := List.getElem?_set_self (by have := S0.out.len; omega)
  obtain ⟨z2, f2⟩ := cp_cell (i := 1) D1 HZ1 (by omega) rfl
  have D1b : Cp wb (v1.setCell ⟨g1, k * 6 + 1, none⟩ (.int .i64 ((l.length : Int) + 1))) ((zs.set k (withA x 8, .slice ca x.cases.length ccap)).set k (withA x ((l.length : Int) + 1), .slice ca x.cases.length ccap)) g1 l.length c1 := cp_store D1 HZ1 (by omega) rfl
  rw [List.set_set] at D1b
  clear HZ1 D1
  go_upto_region 11 with fail
  clear z2 f2 hbx1
  generalize v1.setCell ⟨g1, k * 6 + 1, none⟩ (.int .i64 ((l.length : Int) + 1)) = v2 at D1b ⊢
  have hb2 := bcall hbW D1b.below
  have S2 := Lib.hid (S1.out.ext (Ext.of_below D1b.below))
  have O1 : LRep v2 (l.set k (withA x ((l.length : Int) + 1))) (.slice (some ⟨g1, 0, none⟩) l.length c1) := cp_rep D1b (by rw [map_set, S0.out.map]) (kids_set S2.out.kids HZX.out ⟨rfl, rfl⟩) (Ext.refl _)
  have O1h := Lib.hid O1
  clear O1 D1b hbx
  go_upto_region 12 with (at_builtin; refine wpList_append_lies (w := _) (hgd := rfl) (s := _) (x := _) (t := _) (ho := rfl) (base := v2.heap.size) (e := 36) (i := i0) (z := _) (size := 6) (bytes := 64) (ht := Tryd.underlying29) (hi := hi0) (hz := hz0) (hsize := hz1) (hby := hz2) (hzs := rfl) (hsz := by omega) (v := .slice (some ⟨v2.heap.size, 0, none⟩) 0 0) (n := 0) (xs := []) (hs := ?_) (hown := ?_) (ad := ⟨b, off, none⟩) (m := l.length) (c := cap) (news := flat6 zs) (hx := ?_) (hl := ?_) (hnews := ?_) (h1 := ?_) (hm := by omega) (h63 := ?_) (hbytes := ?_) (hbase := ?_) (H := _) (hH := rfl) (h := ?_); (rfl); (exact own_zero _); (rfl); (exact FL.out); (exact (S2.out.ext (Ext.alloc _ _)).news); (exact One.out); (unfold maxLen; omega); (omega); (simp); intro g2 c2 u2 own2 grow2 hat2 hlt2)
  have C2 := cp_of own2 grow2 S2.out.len
  obtain ⟨z3, f3⟩ := cp_cell (i := 0) C2 HZX.out (by omega) rfl
  rw [Nat.add_zero] at z3 f3
  have D2 : Cp v2 (u2.setCell ⟨g2, k * 6, none⟩ (.int .i64 33)) (zs.set k (withOp x 33, .slice ca x.cases.length ccap)) g2 l.length c2 := cp_store (i := 0) C2 HZX.out (by omega) rfl
  clear own2 grow2 hat2 hlt2 C2
  go_upto_region 13 with fail
  clear z3 f3
  generalize u2.setCell ⟨g2, k * 6, none⟩ (.int .i64 33) = v3 at D2 ⊢
  have hb3 := bcall hb2 D2.below
  have S3 := Lib.hid (S2.out.ext (Ext.of_below D2.below))
  have O1g := Lib.hid (O1h.out.ext (Ext.of_below D2.below))
  have O2h := Lib.hid (cp_rep D2 (by rw [map_set, S0.out.map]) (kids_set S3.out.kids HZX.out ⟨rfl, rfl⟩) (Ext.refl _))
  clear O1h D2
  go_upto_region 14 with (at_builtin; refine wpList_append_lies (w := _) (hgd := rfl) (s := _) (x := _) (t := _) (ho := rfl) (base := v3.heap.size) (e := 36) (i := i0) (z := _) (size := 6) (bytes := 64) (ht := Tryd.underlying29) (hi := hi0) (hz := hz0) (hsize := hz1) (hby := hz2) (hzs := rfl) (hsz := by omega) (v := .slice (some ⟨v3.heap.size, 0, none⟩) 0 0) (n := 0) (xs := []) (hs := ?_) (hown := ?_) (ad := ⟨b, off, none⟩) (m := l.length) (c := cap) (news := flat6 zs) (hx := ?_) (hl := ?_) (hnews := ?_) (h1 := ?_) (hm := by omega) (h63 := ?_) (hbytes := ?_) (hbase := ?_) (H := _) (hH := rfl) (h := ?_); (rfl); (exact own_zero _); (rfl); (exact FL.out); (exact (S3.out.ext (Ext.alloc _ _)).news); (exact One.out); (unfold maxLen; omega); (omega); (simp); intro g3 c3 u3 own3 grow3 hat3 hlt3)
  have C3 := cp_of own3 grow3 S3.out.len
  obtain ⟨z4, f4⟩ := cp_cell (i := 0) C3 HZX.out (by omega) rfl
  rw [Nat.add_zero] at z4 f4
  have D3 : Cp v3 (u3.setCell ⟨g3, k * 6, none⟩ (.int .i64 0)) (zs.set k (withOp x 0, .slice ca x.cases.length ccap)) g3 l.length c3 := cp_store (i := 0) C3 HZX.out (by omega) rfl
  clear own3 grow3 hat3 hlt3 C3
  go_upto_region 15 with fail
  clear z4 f4
  generalize u3.setCell ⟨g3, k * 6, none⟩ (.int .i64 0) = v4 at D3 ⊢
  have hb4 := bcall hb3 D3.below
  have S4 := Lib.hid (S3.out.ext (Ext.of_below D3.below))
  have P1 := Lib.hid (O1g.out.ext (Ext.of_below D3.below))
  have P2 := Lib.hid (O2h.out.ext (Ext.of_below D3.below))
  have P3 := Lib.hid (cp_rep D3 (by rw [map_set, S0.out.map]) (kids_set S4.out.kids HZX.out ⟨rfl, rfl⟩) (Ext.refl _))
  have Hodd := Lib.hid (check_odd HCK.out HX.out)
  rw [if_pos (by simpa using h4)] at Hodd
  have CX1 := Lib.hid (check_f P1.out Hodd.out)
  clear O1g O2h D3
  go_wp2_with fail
  refine CX1.out.mono ?_
  rintro e w5 ⟨rfl, hB5⟩
  have hb5 := bcall hb4 hB5
  have CX2 := Lib.hid (check_f (P2.out.ext (Ext.of_below hB5)) (check_op hkl 33 (Or.inr (by omega))))
  clear CX1
  go_wp2_with fail
  refine CX2.out.mono ?_
  rintro e w6 ⟨rfl, hB6⟩
  have hb6 := bcall hb5 hB6
  have CX3 := Lib.hid (check_f ((P3.out.ext (Ext.of_below hB5)).ext (Ext.of_below hB6)) (check_op hkl 0 (Or.inl (by omega))))
  clear CX2
  go_wp2_with fail
  refine CX3.out.mono ?_
  rintro e w7 ⟨rfl, hB7⟩
  have hb7 := bcall hb6 hB7
  have S7 := Lib.hid (((S4.out.ext (Ext.of_below hB5)).ext (Ext.of_below hB6)).ext (Ext.of_below hB7))
  clear CX3 P1 P2 P3 hB5 hB6 hB7 hb2 hb3 hb4 hb5 hb6
  go_wp2_with (first | (at_builtin; refine wpList_append_g (w := _) (hgd := ?_) (s := _) (x := _) (t := _) (ho := rfl) (base := w7.heap.size) (e := 36) (i := i0) (z := _) (size := 6) (bytes := 64) (ht := Tryd.underlying29) (hi := hi0) (hz := hz0) (hsize := hz1) (hby := hz2) (hzs := rfl) (hsz := by omega) (v := .slice (some ⟨w7.heap.size, 0, none⟩) 0 0) (n := 0) (xs := []) (hs := ?_) (hown := ?_) (ad := ⟨b, off, none⟩) (m := l.length) (c := cap) (news := flat6 zs) (hx := ?_) (hl := ?_) (hnews := ?_) (h1 := ?_) (hm := by omega) (h63 := ?_) (hbytes := ?_) (hbase := ?_) (H := _) (hH := rfl) (h := ?_); (rfl); (rfl); (exact own_zero _); (rfl); (exact FL.out); (exact (S7.out.ext (Ext.alloc _ _)).news); (exact One.out); (unfold maxLen; omega); (omega); (simp); intro g4 c4 u4 own4 grow4 hat4 hlt4; have C4 := cp_of own4 grow4 S7.out.len) | (at_builtin; refine wpList_append_g (w := _) (hgd := ?_) (s := _) (x := _) (t := _) (ho := rfl) (base := w7.heap.size) (e := 36) (i := i0) (z := _) (size := 6) (bytes := 64) (ht := Tryd.underlying29) (hi := hi0) (hz := hz0) (hsize := hz1) (hby := hz2) (hzs := rfl) (hsz := by omega) (v := .slice (some ⟨g4, 0, none⟩) l.length c4) (n := l.length) (xs := flat6 zs) (hs := ?_) (hown := ?_) (ad := ⟨u4.heap.size, 0, none⟩) (m := 1) (c := 1) (news := [.int .i64 7, .int .i64 0, .int .i64 0, .int .i64 0, .slice none 0 0, .bool false]) (hx := ?_) (hl := ?_) (hnews := ?_) (h1 := ?_) (hm := by omega) (h63 := ?_) (hbytes := ?_) (hbase := ?_) (H := _) (hH := rfl) (h := ?_); (rfl); (rfl); (exact C4.own.alloc _); (rfl); (rfl); (exact World.news_of_block (heap_alloc_new _ _)); (simp [Value.oneCell']); (unfold maxLen; omega); (omega); (have := C4.below.size; simp; omega); intro g5 c5 u5 own5 grow5 hat5 hlt5))
  obtain ⟨hL5, hB8⟩ := more_of C4 S7.out.map own5 grow5 S7.out.kids
  have hb8 := bcall hb7 hB8
  clear own4 grow4 hat4 hlt4 own5 grow5 hat5 hlt5 C4
  refine (check_t hL5 (check_more HCK.out h60)).mono ?_
  rintro e w9 ⟨rfl, hB9⟩
  have hb9 := bcall hb8 hB9
  clear hL5 hB8 hb8 hb7 hB9
  go_wp2_with fail
  refine (awake_any _ (tab_keep HT.out hb9)).mono ?_
  rintro e w10 ⟨rfl, hB10⟩
  go_wp2_with fail
  go_ret
  exact ⟨rfl, bcall hb9 hB10⟩

set_option maxRecDepth 100000 in
set_option maxHeartbeats 8000000 in
theorem one_no (l : List Ins) (at_ : Int) (b off cap : Nat) (zs : List (Ins × Value)) (w : World) (hS : Src w l b off cap zs) (hl0 : 0 < l.length) (hal : alikeB [l] = true) (hck : checkB l = true) (x : Ins) (k : Nat) (hk : roundI at_ l.length = k) (hx : l[k]? = some x) (h4 : (x.op == 4) = false) (hT : TabS w) : Calls Tryd.prog 4 #[.slice (some ⟨b, off, none⟩) l.length cap, .int .i64 at_] w fun e w' => e = .returned (.bool true) ∧ Below w.heap.size w w' := by
  have HT := Lib.hid hT
  have S0 := Lib.hid hS
  have h60 := alike_one hal
  have hkl : k < l.length := (List.getElem?_eq_some_iff.1 hx).1
  obtain ⟨i0, hi0, hz0, hz1, hz2⟩ := info_parts info36v
  have FL := Lib.hid (show (flat6 zs).length = l.length * 6 by rw [flat6_len, hS.len])
  have One := Lib.hid hS.one
  obtain ⟨cv, hzx'⟩ := hS.at hx
  have HX := Lib.hid hx
  have HZX := Lib.hid hzx'
  have SX := Lib.hid (hS.six hzx')
  have CA := alike_any [l] _ (w.alloc (.cells #[.slice (some ⟨b, off, none⟩) l.length cap] 29)) (pit1 l _ (hS.rep.ext (Ext.alloc _ _)) (heap_alloc_new _ _))
  rw [hal] at CA
  have CAh := Lib.hid CA
  have CC := Lib.hid (check_t (hS.rep.ext (Ext.alloc w (.cells #[.slice (some ⟨b, off, none⟩) l.length cap] 29))) hck)
  have HCK := Lib.hid hck
  obtain ⟨ca, ccap, hcv⟩ := ((hS.kids _ (List.mem_of_getElem? hzx')).form)
  simp only at hcv
  have CR : ∀ wc, Calls Tryd.prog 20 #[.int .i64 at_, .int .i64 (l.length : Int)] wc fun e w' => e = .returned (.int .i64 (k : Int)) ∧ wc = w' := fun wc => by
    have := round_any at_ l.length (by omega) (by omega) wc
    rw [hk] at this
    exact this
  have CRh := Lib.hid CR
  have hle0 : ((l.length : Int) == 0) = false := by rw [beq_eq_false_iff_ne]; omega
  clear hT hS hx hzx' CA hck hal hk CR
  subst hcv
  go_enter Tryd.func4, Tryd.ntmps4
  go_wp2_with fail
  refine CAh.out.mono ?_
  rintro e w1 ⟨rfl, rfl⟩
  go_wp2_with fail
  refine CC.out.mono ?_
  rintro e w2 ⟨rfl, hB2⟩
  have hb2 := bcall (bnew (Below.refl _ w) _) hB2
  clear CAh CC hB2
  go_wp2_with fail
  refine (CRh.out w2).mono ?_
  rintro e w3 ⟨rfl, rfl⟩
  obtain ⟨y0', y1', y2', y3', y4', y5'⟩ := SX.out
  have y0 := keep_below hb2 y0'
  have y1 := keep_below hb2 y1'
  have y2 := keep_below hb2 y2'
  have y3 := keep_below hb2 y3'
  have y4 := keep_below hb2 y4'
  have y5 := keep_below hb2 y5'
  clear y0' y1' y2' y3' y4' y5' CRh
  have kz : (0 : Int) ≤ (k : Int) := by omega
  have kl : (k : Int) < (l.length : Int) := by omega
  go_upto_region 7 with fail
  have hbW : Below w.heap.size w (w2.alloc (.cells #[.int .i64 x.op, .int .i64 x.a, .int .i64 x.b, .int .i64 x.c, .slice ca x.cases.length ccap, .bool x.dflt] 36)) := bnew hb2 _
  have hbx : (w2.alloc (.cells #[.int .i64 x.op, .int .i64 x.a, .int .i64 x.b, .int .i64 x.c, .slice ca x.cases.length ccap, .bool x.dflt] 36)).cell? ⟨w2.heap.size, 0, none⟩ = some (.int .i64 x.op) := by simp
  clear y0 y1 y2 y3 y4 y5 hb2
  generalize w2.alloc (.cells #[.int .i64 x.op, .int .i64 x.a, .int .i64 x.b, .int .i64 x.c, .slice ca x.cases.length ccap, .bool x.dflt] 36) = wb at hbW hbx ⊢
  generalize w2.heap.size = bx at hbx ⊢
  have S1 := Lib.hid (S0.out.ext (Ext.of_below hbW))
  go_upto_region 8 with (at_builtin; refine wpList_append_lies (w := _) (hgd := rfl) (s := _) (x := _) (t := _) (ho := rfl) (base := wb.heap.size) (e := 36) (i := i0) (z := _) (size := 6) (bytes := 64) (ht := Tryd.underlying29) (hi := hi0) (hz := hz0) (hsize := hz1) (hby := hz2) (hzs := rfl) (hsz := by omega) (v := .slice (some ⟨wb.heap.size, 0, none⟩) 0 0) (n := 0) (xs := []) (hs := ?_) (hown := ?_) (ad := ⟨b, off, none⟩) (m := l.length) (c := cap) (news := flat6 zs) (hx := ?_) (hl := ?_) (hnews := ?_) (h1 := ?_) (hm := by omega) (h63 := ?_) (hbytes := ?_) (hbase := ?_) (H := _) (hH := rfl) (h := ?_); (rfl); (exact own_zero _); (rfl); (exact FL.out); (exact (S1.out.ext (Ext.alloc _ _)).news); (exact One.out); (unfold maxLen; omega); (omega); (simp); intro g1 c1 u1 own1 grow1 hat1 hlt1)
  have C1 := cp_of own1 grow1 S1.out.len
  have hbx1 := keep_below C1.below hbx
  obtain ⟨z1, f1⟩ := cp_cell (i := 1) C1 HZX.out (by omega) rfl
  have D1 : Cp wb (u1.setCell ⟨g1, k * 6 + 1, none⟩ (.int .i64 8)) (zs.set k (withA x 8, .slice ca x.cases.length ccap)) g1 l.length c1 := cp_store C1 HZX.out (by omega) rfl
  have hlen1 : 0 + l.length = l.length := by omega
  clear own1 grow1 hat1 hlt1 C1 hbx1 hlen1
  go_upto_region 9 with fail
  have hbx1 := keep_below D1.below hbx
  clear z1 f1
  generalize u1.setCell ⟨g1, k * 6 + 1, none⟩ (.int .i64 8) = v1 at D1 hbx1 ⊢
  go_upto_region 11 with fail
  have D1b := D1
  clear D1 hbx1
  obtain ⟨v2, hv2⟩ : ∃ v2, v1 = v2 := ⟨_, rfl⟩
  subst hv2
  have hb2 := bcall hbW D1b.below
  have S2 := Lib.hid (S1.out.ext (Ext.of_below D1b.below))
  have O1 : LRep v1 (l.set k (withA x 8)) (.slice (some ⟨g1, 0, none⟩) l.length c1) := cp_rep D1b (by rw [map_set, S0.out.map]) (kids_set S2.out.kids HZX.out ⟨rfl, rfl⟩) (Ext.refl _)
  have O1h := Lib.hid O1
  clear O1 D1b hbx
  go_upto_region 12 with (at_builtin; refine wpList_append_lies (w := _) (hgd := rfl) (s := _) (x := _) (t := _) (ho := rfl) (base := v1.heap.size) (e := 36) (i := i0) (z := _) (size := 6) (bytes := 64) (ht := Tryd.underlying29) (hi := hi0) (hz := hz0) (hsize := hz1) (hby := hz2) (hzs := rfl) (hsz := by omega) (v := .slice (some ⟨v1.heap.size, 0, none⟩) 0 0) (n := 0) (xs := []) (hs := ?_) (hown := ?_) (ad := ⟨b, off, none⟩) (m := l.length) (c := cap) (news := flat6 zs) (hx := ?_) (hl := ?_) (hnews := ?_) (h1 := ?_) (hm := by omega) (h63 := ?_) (hbytes := ?_) (hbase := ?_) (H := _) (hH := rfl) (h := ?_); (rfl); (exact own_zero _); (rfl); (exact FL.out); (exact (S2.out.ext (Ext.alloc _ _)).news); (exact One.out); (unfold maxLen; omega); (omega); (simp); intro g2 c2 u2 own2 grow2 hat2 hlt2)
  have C2 := cp_of own2 grow2 S2.out.len
  obtain ⟨z3, f3⟩ := cp_cell (i := 0) C2 HZX.out (by omega) rfl
  rw [Nat.add_zero] at z3 f3
  have D2 : Cp v1 (u2.setCell ⟨g2, k * 6, none⟩ (.int .i64 33)) (zs.set k (withOp x 33, .slice ca x.cases.length ccap)) g2 l.length c2 := cp_store (i := 0) C2 HZX.out (by omega) rfl
  clear own2 grow2 hat2 hlt2 C2
  go_upto_region 13 with fail
  clear z3 f3
  generalize u2.setCell ⟨g2, k * 6, none⟩ (.int .i64 33) = v3 at D2 ⊢
  have hb3 := bcall hb2 D2.below
  have S3 := Lib.hid (S2.out.ext (Ext.of_below D2.below))
  have O1g := Lib.hid (O1h.out.ext (Ext.of_below D2.below))
  have O2h := Lib.hid (cp_rep D2 (by rw [map_set, S0.out.map]) (kids_set S3.out.kids HZX.out ⟨rfl, rfl⟩) (Ext.refl _))
  clear O1h D2
  go_upto_region 14 with (at_builtin; refine wpList_append_lies (w := _) (hgd := rfl) (s := _) (x := _) (t := _) (ho := rfl) (base := v3.heap.size) (e := 36) (i := i0) (z := _) (size := 6) (bytes := 64) (ht := Tryd.underlying29) (hi := hi0) (hz := hz0) (hsize := hz1) (hby := hz2) (hzs := rfl) (hsz := by omega) (v := .slice (some ⟨v3.heap.size, 0, none⟩) 0 0) (n := 0) (xs := []) (hs := ?_) (hown := ?_) (ad := ⟨b, off, none⟩) (m := l.length) (c := cap) (news := flat6 zs) (hx := ?_) (hl := ?_) (hnews := ?_) (h1 := ?_) (hm := by omega) (h63 := ?_) (hbytes := ?_) (hbase := ?_) (H := _) (hH := rfl) (h := ?_); (rfl); (exact own_zero _); (rfl); (exact FL.out); (exact (S3.out.ext (Ext.alloc _ _)).news); (exact One.out); (unfold maxLen; omega); (omega); (simp); intro g3 c3 u3 own3 grow3 hat3 hlt3)
  have C3 := cp_of own3 grow3 S3.out.len
  obtain ⟨z4, f4⟩ := cp_cell (i := 0) C3 HZX.out (by omega) rfl
  rw [Nat.add_zero] at z4 f4
  have D3 : Cp v3 (u3.setCell ⟨g3, k * 6, none⟩ (.int .i64 0)) (zs.set k (withOp x 0, .slice ca x.cases.length ccap)) g3 l.length c3 := cp_store (i := 0) C3 HZX.out (by omega) rfl
  clear own3 grow3 hat3 hlt3 C3
  go_upto_region 15 with fail
  clear z4 f4
  generalize u3.setCell ⟨g3, k * 6, none⟩ (.int .i64 0) = v4 at D3 ⊢
  have hb4 := bcall hb3 D3.below
  have S4 := Lib.hid (S3.out.ext (Ext.of_below D3.below))
  have P1 := Lib.hid (O1g.out.ext (Ext.of_below D3.below))
  have P2 := Lib.hid (O2h.out.ext (Ext.of_below D3.below))
  have P3 := Lib.hid (cp_rep D3 (by rw [map_set, S0.out.map]) (kids_set S4.out.kids HZX.out ⟨rfl, rfl⟩) (Ext.refl _))
  have Hodd := Lib.hid (check_odd HCK.out HX.out)
  rw [if_neg (by simpa using h4)] at Hodd
  have CX1 := Lib.hid (check_f P1.out Hodd.out)
  clear O1g O2h D3
  go_wp2_with fail
  refine CX1.out.mono ?_
  rintro e w5 ⟨rfl, hB5⟩
  have hb5 := bcall hb4 hB5
  have CX2 := Lib.hid (check_f (P2.out.ext (Ext.of_below hB5)) (check_op hkl 33 (Or.inr (by omega))))
  clear CX1
  go_wp2_with fail
  refine CX2.out.mono ?_
  rintro e w6 ⟨rfl, hB6⟩
  have hb6 := bcall hb5 hB6
  have CX3 := Lib.hid (check_f ((P3.out.ext (Ext.of_below hB5)).ext (Ext.of_below hB6)) (check_op hkl 0 (Or.inl (by omega))))
  clear CX2
  go_wp2_with fail
  refine CX3.out.mono ?_
  rintro e w7 ⟨rfl, hB7⟩
  have hb7 := bcall hb6 hB7
  have S7 := Lib.hid (((S4.out.ext (Ext.of_below hB5)).ext (Ext.of_below hB6)).ext (Ext.of_below hB7))
  clear CX3 P1 P2 P3 hB5 hB6 hB7 hb2 hb3 hb4 hb5 hb6
  go_wp2_with (first | (at_builtin; refine wpList_append_g (w := _) (hgd := ?_) (s := _) (x := _) (t := _) (ho := rfl) (base := w7.heap.size) (e := 36) (i := i0) (z := _) (size := 6) (bytes := 64) (ht := Tryd.underlying29) (hi := hi0) (hz := hz0) (hsize := hz1) (hby := hz2) (hzs := rfl) (hsz := by omega) (v := .slice (some ⟨w7.heap.size, 0, none⟩) 0 0) (n := 0) (xs := []) (hs := ?_) (hown := ?_) (ad := ⟨b, off, none⟩) (m := l.length) (c := cap) (news := flat6 zs) (hx := ?_) (hl := ?_) (hnews := ?_) (h1 := ?_) (hm := by omega) (h63 := ?_) (hbytes := ?_) (hbase := ?_) (H := _) (hH := rfl) (h := ?_); (rfl); (rfl); (exact own_zero _); (rfl); (exact FL.out); (exact (S7.out.ext (Ext.alloc _ _)).news); (exact One.out); (unfold maxLen; omega); (omega); (simp); intro g4 c4 u4 own4 grow4 hat4 hlt4; have C4 := cp_of own4 grow4 S7.out.len) | (at_builtin; refine wpList_append_g (w := _) (hgd := ?_) (s := _) (x := _) (t := _) (ho := rfl) (base := w7.heap.size) (e := 36) (i := i0) (z := _) (size := 6) (bytes := 64) (ht := Tryd.underlying29) (hi := hi0) (hz := hz0) (hsize := hz1) (hby := hz2) (hzs := rfl) (hsz := by omega) (v := .slice (some ⟨g4, 0, none⟩) l.length c4) (n := l.length) (xs := flat6 zs) (hs := ?_) (hown := ?_) (ad := ⟨u4.heap.size, 0, none⟩) (m := 1) (c := 1) (news := [.int .i64 7, .int .i64 0, .int .i64 0, .int .i64 0, .slice none 0 0, .bool false]) (hx := ?_) (hl := ?_) (hnews := ?_) (h1 := ?_) (hm := by omega) (h63 := ?_) (hbytes := ?_) (hbase := ?_) (H := _) (hH := rfl) (h := ?_); (rfl); (rfl); (exact C4.own.alloc _); (rfl); (rfl); (exact World.news_of_block (heap_alloc_new _ _)); (simp [Value.oneCell']); (unfold maxLen; omega); (omega); (have := C4.below.size; simp; omega); intro g5 c5 u5 own5 grow5 hat5 hlt5))
  obtain ⟨hL5, hB8⟩ := more_of C4 S7.out.map own5 grow5 S7.out.kids
  have hb8 := bcall hb7 hB8
  clear own4 grow4 hat4 hlt4 own5 grow5 hat5 hlt5 C4
  refine (check_t hL5 (check_more HCK.out h60)).mono ?_
  rintro e w9 ⟨rfl, hB9⟩
  have hb9 := bcall hb8 hB9
  clear hL5 hB8 hb8 hb7 hB9
  go_wp2_with fail
  refine (awake_any _ (tab_keep HT.out hb9)).mono ?_
  rintro e w10 ⟨rfl, hB10⟩
  go_wp2_with fail
  go_ret
  exact ⟨rfl, bcall hb9 hB10⟩

set_option maxRecDepth 100000 in
set_option maxHeartbeats 8000000 in
theorem one4_any (l : List Ins) (at_ : Int) (v : Value) (w : World) (h : LRep w l v) (hT : TabS w) : Calls Tryd.prog 4 #[v, .int .i64 at_] w fun e w' => e = .returned (.bool true) ∧ Below w.heap.size w w' := by
  have HT := Lib.hid hT
  have HL := Lib.hid h
  obtain ⟨a, cap, rfl, hcap, hmx⟩ := h.form
  have hll : l.length ≤ 9223372036854775807 := by unfold maxLen at hmx; omega
  have CA := alike_any [l] _ (w.alloc (.cells #[.slice a l.length cap] 29)) (pit1 l _ (h.ext (Ext.alloc _ _)) (heap_alloc_new _ _))
  clear hT h hmx hcap
  cases hal : alikeB [l] with
  | false =>
    rw [hal] at CA
    have CAh := Lib.hid CA
    clear CA hal
    go_enter Tryd.func4, Tryd.ntmps4
    go_wp2_with fail
    refine CAh.out.mono ?_
    rintro e w1 ⟨rfl, rfl⟩
    have hb1 : Below w.heap.size w (w.alloc (.cells #[.slice a l.length cap] 29)) := bnew (Below.refl _ w) _
    go_wp2_with fail
    refine (awake_any _ (tab_keep HT.out hb1)).mono ?_
    rintro e w2 ⟨rfl, hB⟩
    go_wp2_with fail
    go_ret
    exact ⟨rfl, bcall hb1 hB⟩
  | true =>
    by_cases hl0 : l.length = 0
    · rw [hal] at CA
      have CAh := Lib.hid CA
      have hle0 : ((l.length : Int) == 0) = true := by rw [hl0]; rfl
      clear CA hal hl0
      go_enter Tryd.func4, Tryd.ntmps4
      go_wp2_with fail
      refine CAh.out.mono ?_
      rintro e w1 ⟨rfl, rfl⟩
      have hb1 : Below w.heap.size w (w.alloc (.cells #[.slice a l.length cap] 29)) := bnew (Below.refl _ w) _
      go_wp2_with fail
      refine (awake_any _ (tab_keep HT.out hb1)).mono ?_
      rintro e w2 ⟨rfl, hB⟩
      go_wp2_with fail
      go_ret
      exact ⟨rfl, bcall hb1 hB⟩
    · cases hck : checkB l with
      | false =>
        rw [hal] at CA
        have CAh := Lib.hid CA
        have hle0 : ((l.length : Int) == 0) = false := by rw [beq_eq_false_iff_ne]; omega
        have CC := Lib.hid (check_f (HL.out.ext (Ext.alloc w (.cells #[.slice a l.length cap] 29))) hck)
        have HCK := Lib.hid hck
        clear CA hal hl0 hck
        go_enter Tryd.func4, Tryd.ntmps4
        go_wp2_with fail
        refine CAh.out.mono ?_
        rintro e w1 ⟨rfl, rfl⟩
        have hb1 : Below w.heap.size w (w.alloc (.cells #[.slice a l.length cap] 29)) := bnew (Below.refl _ w) _
        go_wp2_with fail
        refine CC.out.mono ?_
        rintro e w2 ⟨rfl, hB2⟩
        have hb2 := bcall hb1 hB2
        have C9 := Lib.hid (all_f (pit1 (w := w2.alloc (.cells #[.slice a l.length cap] 29)) l _ ((HL.out.ext (Ext.of_below hb2)).ext (Ext.alloc _ _)) (heap_alloc_new _ _)) (all_one_no HCK.out))
        clear CAh CC hB2 hb1
        go_wp2_with fail
        refine C9.out.mono ?_
        rintro e w3 ⟨rfl, hB3⟩
        have hb3 := bcall (bnew hb2 _) hB3
        clear C9 hB3 hb2
        go_wp2_with fail
        refine (awake_any _ (tab_keep HT.out hb3)).mono ?_
        rintro e w4 ⟨rfl, hB4⟩
        go_wp2_with fail
        go_ret
        exact ⟨rfl, bcall hb3 hB4⟩
      | true =>
        obtain ⟨b, off, cap', zs, he, _, _, hm, hk, hc⟩ := lrep_flat HL.out (by omega)
        injection he with h1 _ h3
        subst h1 h3
        obtain ⟨r1, r2⟩ := round_range at_ l.length (by omega)
        obtain ⟨k, hk'⟩ := Int.eq_ofNat_of_zero_le r1
        obtain ⟨x, hx⟩ : ∃ x, l[k]? = some x := ⟨_, List.getElem?_eq_getElem (by omega)⟩
        cases h4 : (x.op == 4) with
        | true => exact one_yes l at_ b off cap zs w ⟨HL.out, hm, hk, hc⟩ (by omega) hal hck x k hk' hx h4 HT.out
        | false => exact one_no l at_ b off cap zs w ⟨HL.out, hm, hk, hc⟩ (by omega) hal hck x k hk' hx h4 HT.out
end Go.Proofs.YtajblpopbipegaaDoor
