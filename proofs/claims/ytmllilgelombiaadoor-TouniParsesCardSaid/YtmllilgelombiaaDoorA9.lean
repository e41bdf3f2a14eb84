/-
  Part 9 of the proof: the second reading of the model, its laws, and the functions' contracts. Lemmas alone.
-/
import Derived.Test.YtmllilgelombiaaDoorA8
set_option linter.unusedSectionVars false
set_option linter.unusedVariables false
set_option linter.unusedSimpArgs false
namespace Go.Vx
open Go Go.Shelf Go.RowKit Go.Lib Go.Proofs
variable {P : Program}
set_option maxHeartbeats 8000000 in
set_option maxRecDepth 1000000 in
/-- one byte beyond ASCII -/
theorem calls64_oneU (L : Lay64 P) (b o cap : Nat) (x : UInt8) (chars : ByteArray) (w : World) (h2 : 2 ≤ chars.size) (_ : 1 ≤ cap) (_ : cap ≤ 9223372036854775807) (hx : 128 ≤ x.toNat)
    (hch : ∀ (j : Nat) b, chars.data.toList[j]? = some b → b.toNat < 128)
    (hlc : w.cell? ⟨b, o, none⟩ = some (.int .u8 x.toNat)) :
    Calls P 64 #[.slice (some ⟨b, o, none⟩) 1 cap, .string chars] w fun e w' => e = .returned (.int .i64 (Lib.indexAny [x] chars.data.toList)) ∧ Below w.heap.size w w' := by
  have hemp : chars.toList.isEmpty = false := by
    rw [Lib.toList_data]
    cases h : chars.data.toList with
    | nil => have := Lib.size_eq chars; rw [h, List.length_nil] at this; omega
    | cons _ _ => rfl
  have hin : chars.data.toList.contains x = false := contains_far hx hch
  have hres : Lib.indexAny [x] chars.data.toList = -1 := by rw [Lib.indexAny, hin]; rfl
  rw [hres]
  have HC : Aside (∀ (j : Nat) b, chars.data.toList[j]? = some b → b.toNat < 128) := hch
  clear hch hres hin
  have mixed := L.mixed
  have t0 := L.t0; have a0 := L.a0; have z0 := L.z0; have v0 := L.v0
  have t3 := L.t3; have a3 := L.a3; have z3 := L.z3; have v3 := L.v3
  have t4 := L.t4; have a4 := L.a4; have z4 := L.z4; have v4 := L.v4
  have t5 := L.t5; have a5 := L.a5; have z5 := L.z5; have v5 := L.v5
  have t9 := L.t9; have a9 := L.a9; have z9 := L.z9; have v9 := L.v9
  have t21 := L.t21; have a21 := L.a21; have z21 := L.z21; have v21 := L.v21
  have t30 := L.t30; have a30 := L.a30; have z30 := L.z30
  have u3 := run_underlying L.t3; have u4 := run_underlying L.t4; have u5 := run_underlying L.t5; have u30 := run_underlying L.t30
  have hxu := x.toNat_lt
  have hx128 : (128 : Int) ≤ (x.toNat : Int) := by omega
  have hwr : IntKind.i32.wrap (x.toNat : Int) = (x.toNat : Int) := by rw [wi32] <;> omega
  go_enter L.f64, (show Go.Proofs.Tryd.f64.ntmps = 129 from by kernel_rfl)
  go_wp2
  go_loopg [5] chars.size (fun g _ wx => ∃ pos : Nat, wx.heap[w.heap.size]? = some (.stringIter chars pos) ∧ Below w.heap.size w wx ∧ chars.size ≤ pos + g)
  case atStart => exact ⟨0, World.iter_heap w chars 0, (Below.refl _ _).alloc (Nat.le_refl _) _, by omega⟩
  case round =>
    obtain ⟨pos, hit, hbx, hfu⟩ := hrel
    have hszI : w.heap.size < wr.heap.size := (Array.getElem?_eq_some_iff.1 hit).1
    by_cases hp : pos < chars.size
    case pos =>
      obtain ⟨g2, rfl⟩ : ∃ g2, gk = g2 + 1 := ⟨gk - 1, by omega⟩
      have hxa : (chars[pos]'hp).toNat < 128 := HC.out pos (chars[pos]'hp) (get_of_lt chars pos hp)
      have hnx : ∀ ty, (Instr.next (.pointer (some ⟨w.heap.size, 0, none⟩)) true ty).run P wr = _ := fun ty => Lib.run_next_ascii_at wr w.heap.size chars pos ty hit hp hxa
      obtain ⟨y, hy⟩ : ∃ y, (chars[pos]'hp).toNat = y := ⟨_, rfl⟩
      rw [hy] at hnx hxa
      have hne : ((y : Int) == 65533) = false := beq_eq_false_iff_ne.2 (by omega)
      have hit2 := Lib.iterAt_heap wr w.heap.size chars pos (pos + 1) hit
      have hbw2 := Lib.below_iterAt hbx (k := w.heap.size) (Nat.le_refl _) chars (pos + 1)
      obtain ⟨W, hWd⟩ : ∃ W, wr.iterAt w.heap.size chars (pos + 1) = W := ⟨_, rfl⟩
      rw [hWd] at hnx hit2 hbw2
      go_wp2
      go_roundg g2
      case measure => omega
      case rel => exact ⟨pos + 1, hit2, hbw2, by omega⟩
    case neg =>
      have hnx : ∀ ty, (Instr.next (.pointer (some ⟨w.heap.size, 0, none⟩)) true ty).run P wr = _ := fun ty => Lib.run_next_end_at wr w.heap.size chars pos ty hit hp
      go_wp2
      go_ret
      exact ⟨rfl, hbx⟩
end Go.Vx
