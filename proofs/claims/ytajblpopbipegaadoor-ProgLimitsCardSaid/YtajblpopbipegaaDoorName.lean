/-
  prog.Name, tarpaulinref1.Name; tarpaulinalike.Progs, Round: THE WALKS.
-/
import Derived.Test.YtajblpopbipegaaDoorMem
import Derived.Test.YtajblpopbipegaaDoorShelf
import Derived.Outline
namespace Go.Proofs.YtajblpopbipegaaDoor
open Go.RowKit Go.Lib

def namesB : ByteArray := ⟨#[115, 101, 116, 32, 109, 111, 118, 101, 32, 105, 110, 99, 32, 106, 117, 109, 112, 32, 122, 101, 114, 111, 32, 101, 109, 105, 116, 32, 101, 120, 105, 116, 32, 103, 111, 32, 109, 97, 107, 101, 32, 115, 101, 110, 100, 32, 114, 101, 99, 118, 32, 99, 108, 111, 115, 101, 32, 108, 101, 110, 32, 99, 97, 112, 32, 115, 101, 108, 101, 99, 116, 32, 110, 111, 119, 32, 110, 101, 119, 116, 105, 109, 101, 114, 32, 116, 105, 99, 107, 101, 114, 32, 102, 117, 110, 99, 32, 115, 116, 111, 112, 32, 114, 101, 115, 101, 116, 32, 99, 97, 110, 99, 101, 108, 115, 32, 100, 101, 97, 100, 108, 105, 110, 101, 32, 116, 105, 109, 101, 111, 117, 116, 32, 119, 105, 116, 104, 111, 117, 116, 32, 99, 97, 110, 99, 101, 108, 32, 101, 114, 114, 32, 99, 97, 117, 115, 101, 32, 100, 111, 110, 101, 32, 117, 110, 116, 105, 108, 32, 97, 102, 116, 101, 114, 32, 117, 110, 97, 102, 116, 101, 114]⟩
def nameT : List (List UInt8) := [[115, 101, 116], [109, 111, 118, 101], [105, 110, 99], [106, 117, 109, 112], [122, 101, 114, 111], [101, 109, 105, 116], [101, 120, 105, 116], [103, 111], [109, 97, 107, 101], [115, 101, 110, 100], [114, 101, 99, 118], [99, 108, 111, 115, 101], [108, 101, 110], [99, 97, 112], [115, 101, 108, 101, 99, 116], [110, 111, 119], [110, 101, 119, 116, 105, 109, 101, 114], [116, 105, 99, 107, 101, 114], [102, 117, 110, 99], [115, 116, 111, 112], [114, 101, 115, 101, 116], [99, 97, 110, 99, 101, 108, 115], [100, 101, 97, 100, 108, 105, 110, 101], [116, 105, 109, 101, 111, 117, 116], [119, 105, 116, 104, 111, 117, 116], [99, 97, 110, 99, 101, 108], [101, 114, 114], [99, 97, 117, 115, 101], [100, 111, 110, 101], [117, 110, 116, 105, 108], [97, 102, 116, 101, 114], [117, 110, 97, 102, 116, 101, 114]]
theorem fields_eq : Lib.fields namesB.data.toList = nameT := by decide +kernel
theorem names_ascii : ∀ b ∈ namesB.data.toList, b.toNat < 128 := by decide +kernel
def nameV : List Value := nameT.map fun l => Value.string ⟨l.toArray⟩
/-- An operation's name. -/
def nameOf (op : Int) : ByteArray := if 1 ≤ op ∧ op ≤ 32 then ⟨(nameT.getD (op.toNat - 1) []).toArray⟩ else ⟨#[]⟩
theorem names_any (w : World) (hT : Lib.TabIs Tryd.prog w "strings.asciiSpace" .u8 Lib.asciiSpaceTab) : Calls Tryd.prog 24 #[.string namesB] w fun e w' => e = .returned (.slice (some ⟨w.heap.size, 0, none⟩) 32 32) ∧ w' = w.alloc (.cells nameV.toArray 9) := by
  have h := Tryd.strings_Fields namesB w (by decide +kernel) (fun j b hj => names_ascii b (List.mem_of_getElem? hj)) hT
  rw [fields_eq] at h
  exact h

theorem nameV_len : nameV.length = 32 := by decide +kernel
theorem nameV_at (m : Nat) (hm : m < 32) : nameV[m]? = some (.string (nameOf ((m : Int) + 1))) := by
  unfold nameV nameOf
  rw [if_pos ⟨by omega, by omega⟩, List.getElem?_map]
  have hl : nameT.length = 32 := by decide +kernel
  have : ((m : Int) + 1).toNat - 1 = m := by omega
  rw [this, List.getD_eq_getElem?_getD, List.getElem?_eq_getElem (by omega)]
  rfl
theorem nameOf_no {op : Int} (h : ¬ (1 ≤ op ∧ op ≤ 32)) : nameOf op = ⟨#[]⟩ := by unfold nameOf; rw [if_neg h]

set_option maxRecDepth 100000 in
theorem name_any (op : Int) (w : World) (hT : Lib.TabIs Tryd.prog w "strings.asciiSpace" .u8 Lib.asciiSpaceTab) : Calls Tryd.prog 11 #[.int .i64 op] w fun e w' => e = .returned (.string (nameOf op)) ∧ Below w.heap.size w w' := by
  by_cases h : 1 ≤ op ∧ op ≤ 32
  · have C := Lib.hid (names_any w hT)
    obtain ⟨m, rfl⟩ : ∃ m : Nat, op = (m : Int) + 1 := ⟨(op - 1).toNat, by omega⟩
    have hm : m < 32 := by omega
    have hm' : (m : Int) < 32 := by omega
    have hc : (w.alloc (.cells nameV.toArray 9)).cell? ⟨w.heap.size, m, none⟩ = some (.string (nameOf ((m : Int) + 1))) :=
      (cell_of_row _ w.heap.size m _ _ _ (heap_alloc_new w (.cells nameV.toArray 9))).trans (by simpa using nameV_at m hm)
    have hlen : (1 : Int) ≤ (m : Int) + 1 := by omega
    generalize nameV.toArray = V at C hc
    generalize nameOf ((m : Int) + 1) = N at hc ⊢
    clear hT h
    go_enter Tryd.func11, Tryd.ntmps11
    go_wp2_with fail
    refine C.out.mono ?_
    rintro e w1 ⟨rfl, rfl⟩
    go_wp2_with fail
    go_ret
    exact ⟨rfl, bnew (Below.refl _ _) _⟩
  · rw [nameOf_no h]
    clear hT
    by_cases h1 : op < 1
    · clear h
      go_enter Tryd.func11, Tryd.ntmps11
      go_wp2_with fail
      go_ret
      exact ⟨rfl, Below.refl _ _⟩
    · have h2 : 32 < op := by omega
      clear h
      go_enter Tryd.func11, Tryd.ntmps11
      go_wp2_with fail
      go_ret
      exact ⟨rfl, Below.refl _ _⟩
theorem nameR_at (m : Nat) (hm : m < 33) : (Value.string ⟨#[]⟩ :: nameV)[m]? = some (.string (nameOf (m : Int))) := by
  cases m with
  | zero => rfl
  | succ m => rw [List.getElem?_cons_succ, nameV_at m (by omega)]; rfl
theorem nameR_eq : (#[.string ⟨#[]⟩, .string ⟨#[115, 101, 116]⟩, .string ⟨#[109, 111, 118, 101]⟩, .string ⟨#[105, 110, 99]⟩, .string ⟨#[106, 117, 109, 112]⟩, .string ⟨#[122, 101, 114, 111]⟩, .string ⟨#[101, 109, 105, 116]⟩, .string ⟨#[101, 120, 105, 116]⟩, .string ⟨#[103, 111]⟩, .string ⟨#[109, 97, 107, 101]⟩, .string ⟨#[115, 101, 110, 100]⟩, .string ⟨#[114, 101, 99, 118]⟩, .string ⟨#[99, 108, 111, 115, 101]⟩, .string ⟨#[108, 101, 110]⟩, .string ⟨#[99, 97, 112]⟩, .string ⟨#[115, 101, 108, 101, 99, 116]⟩, .string ⟨#[110, 111, 119]⟩, .string ⟨#[110, 101, 119, 116, 105, 109, 101, 114]⟩, .string ⟨#[116, 105, 99, 107, 101, 114]⟩, .string ⟨#[102, 117, 110, 99]⟩, .string ⟨#[115, 116, 111, 112]⟩, .string ⟨#[114, 101, 115, 101, 116]⟩, .string ⟨#[99, 97, 110, 99, 101, 108, 115]⟩, .string ⟨#[100, 101, 97, 100, 108, 105, 110, 101]⟩, .string ⟨#[116, 105, 109, 101, 111, 117, 116]⟩, .string ⟨#[119, 105, 116, 104, 111, 117, 116]⟩, .string ⟨#[99, 97, 110, 99, 101, 108]⟩, .string ⟨#[101, 114, 114]⟩, .string ⟨#[99, 97, 117, 115, 101]⟩, .string ⟨#[100, 111, 110, 101]⟩, .string ⟨#[117, 110, 116, 105, 108]⟩, .string ⟨#[97, 102, 116, 101, 114]⟩, .string ⟨#[117, 110, 97, 102, 116, 101, 114]⟩] : Array Value) = (Value.string ⟨#[]⟩ :: nameV).toArray := rfl

set_option maxRecDepth 100000 in
set_option maxHeartbeats 4000000 in
theorem rname_any (op : Int) (w : World) : Calls Tryd.prog 12 #[.int .i64 op] w fun e w' => e = .returned (.string (nameOf op)) ∧ Below w.heap.size w w' := by
  by_cases h : 0 ≤ op ∧ op < 33
  · obtain ⟨m, rfl⟩ := Int.eq_ofNat_of_zero_le h.1
    have hm : m < 33 := by omega
    have hm' : (m : Int) < 33 := h.2
    have hc : (w.alloc (.cells #[.string ⟨#[]⟩, .string ⟨#[115, 101, 116]⟩, .string ⟨#[109, 111, 118, 101]⟩, .string ⟨#[105, 110, 99]⟩, .string ⟨#[106, 117, 109, 112]⟩, .string ⟨#[122, 101, 114, 111]⟩, .string ⟨#[101, 109, 105, 116]⟩, .string ⟨#[101, 120, 105, 116]⟩, .string ⟨#[103, 111]⟩, .string ⟨#[109, 97, 107, 101]⟩, .string ⟨#[115, 101, 110, 100]⟩, .string ⟨#[114, 101, 99, 118]⟩, .string ⟨#[99, 108, 111, 115, 101]⟩, .string ⟨#[108, 101, 110]⟩, .string ⟨#[99, 97, 112]⟩, .string ⟨#[115, 101, 108, 101, 99, 116]⟩, .string ⟨#[110, 111, 119]⟩, .string ⟨#[110, 101, 119, 116, 105, 109, 101, 114]⟩, .string ⟨#[116, 105, 99, 107, 101, 114]⟩, .string ⟨#[102, 117, 110, 99]⟩, .string ⟨#[115, 116, 111, 112]⟩, .string ⟨#[114, 101, 115, 101, 116]⟩, .string ⟨#[99, 97, 110, 99, 101, 108, 115]⟩, .string ⟨#[100, 101, 97, 100, 108, 105, 110, 101]⟩, .string ⟨#[116, 105, 109, 101, 111, 117, 116]⟩, .string ⟨#[119, 105, 116, 104, 111, 117, 116]⟩, .string ⟨#[99, 97, 110, 99, 101, 108]⟩, .string ⟨#[101, 114, 114]⟩, .string ⟨#[99, 97, 117, 115, 101]⟩, .string ⟨#[100, 111, 110, 101]⟩, .string ⟨#[117, 110, 116, 105, 108]⟩, .string ⟨#[97, 102, 116, 101, 114]⟩, .string ⟨#[117, 110, 97, 102, 116, 101, 114]⟩] 9)).cell? ⟨w.heap.size, m, none⟩ = some (.string (nameOf (m : Int))) :=
      (cell_of_row _ w.heap.size m _ _ _ (heap_alloc_new w _)).trans (by rw [nameR_eq]; simpa using nameR_at m hm)
    generalize nameOf (m : Int) = N at hc ⊢
    clear h
    go_enter Tryd.func12, Tryd.ntmps12
    go_wp2_with fail
    go_ret
    exact ⟨rfl, bnew (Below.refl _ _) _⟩
  · rw [nameOf_no (by omega)]
    by_cases h1 : op < 0
    · clear h
      go_enter Tryd.func12, Tryd.ntmps12
      go_wp2_with fail
      go_ret
      exact ⟨rfl, bnew (Below.refl _ _) _⟩
    · have h2 : 33 ≤ op := by omega
      clear h
      go_enter Tryd.func12, Tryd.ntmps12
      go_wp2_with fail
      go_ret
      exact ⟨rfl, bnew (Below.refl _ _) _⟩
end Go.Proofs.YtajblpopbipegaaDoor
