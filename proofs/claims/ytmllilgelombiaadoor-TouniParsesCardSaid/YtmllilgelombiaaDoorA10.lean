/-
  Part 10 of the proof: the second reading of the model, its laws, and the functions' contracts. Lemmas alone.
-/
import Derived.Shelf.Lays7
import Derived.Test.YtmllilgelombiaaDoorA2
import Derived.Test.YtmllilgelombiaaDoorA9
set_option linter.unusedSectionVars false
set_option linter.unusedVariables false
set_option linter.unusedSimpArgs false
namespace Go.Proofs
open Go.Shelf
def Tryd.lays7n32_ren : Go.Shelf.Ren := ⟨fun | 32 => 78 | 49 => 89 | n => n, fun | 30 => 30 | 21 => 21 | 3 => 3 | 0 => 0 | 5 => 5 | 4 => 4 | 33 => 141 | 66 => 153 | 25 => 104 | 69 => 156 | 68 => 155 | n => n, fun | 2 => 2 | 3 => 3 | n => n⟩
theorem Tryd.lays7n32 : Go.Proofs.Lays7.n32 Tryd.prog Tryd.lays7n32_ren := {
  mixed := by kernel_rfl
  f32 := Tryd.func78.trans (congrArg some (by kernel_rfl))
  f49 := Tryd.func89.trans (congrArg some (by kernel_rfl))
  t0 := Tryd.underlying0
  a0 := Tryd.isAgg0
  z0 := Tryd.sizeOf0
  v0 := Tryd.zeroValue0
  i0 := by kernel_rfl
  t3 := Tryd.underlying3
  a3 := Tryd.isAgg3
  z3 := Tryd.sizeOf3
  v3 := Tryd.zeroValue3
  i3 := by kernel_rfl
  t4 := Tryd.underlying4
  a4 := Tryd.isAgg4
  z4 := Tryd.sizeOf4
  v4 := Tryd.zeroValue4
  i4 := by kernel_rfl
  t5 := Tryd.underlying5
  a5 := Tryd.isAgg5
  z5 := Tryd.sizeOf5
  v5 := Tryd.zeroValue5
  i5 := by kernel_rfl
  t21 := Tryd.underlying21
  a21 := Tryd.isAgg21
  z21 := Tryd.sizeOf21
  v21 := Tryd.zeroValue21
  i21 := by kernel_rfl
  t25 := Tryd.underlying104
  a25 := Tryd.isAgg104
  z25 := Tryd.sizeOf104
  v25 := Tryd.zeroValue104
  i25 := by kernel_rfl
  t30 := Tryd.underlying30
  a30 := Tryd.isAgg30
  z30 := Tryd.sizeOf30
  v30 := Tryd.zeroValue30
  i30 := by kernel_rfl
  t33 := Tryd.underlying141
  a33 := Tryd.isAgg141
  z33 := Tryd.sizeOf141
  v33 := Tryd.zeroValue141
  i33 := by kernel_rfl
  t66 := Tryd.underlying153
  a66 := Tryd.isAgg153
  z66 := Tryd.sizeOf153
  t68 := Tryd.underlying155
  a68 := Tryd.isAgg155
  z68 := Tryd.sizeOf155
  v68 := Tryd.zeroValue155
  i68 := by kernel_rfl
  t69 := Tryd.underlying156
  a69 := Tryd.isAgg156
  z69 := Tryd.sizeOf156
  v69 := Tryd.zeroValue156
  i69 := by kernel_rfl
  g2 := by kernel_rfl
  g3 := by kernel_rfl }
end Go.Proofs
namespace Go.Vx
open Go Go.Shelf Go.RowKit Go.Lib Go.Proofs
theorem calls78 (s : ByteArray) (b off cap : Nat) (w : World) (hT : Utf8Tabs 2 3 w) (hp : ∀ j, j < s.size → w.cell? ⟨b, off + j, none⟩ = some (.int .u8 (s.get! j).toNat)) :
    Calls Go.Proofs.Tryd.prog 78 #[.slice (some ⟨b, off, none⟩) s.size cap] w fun e w' => e = .returned (.tuple #[.int .i32 (decodeGo s).1, .int .i64 (decodeGo s).2]) ∧ Below w.heap.size w w' :=
  Any7.utf8_DecodeRune Tryd.lays7n32 s b off cap w hT hp
theorem run79 (x y : ByteArray) (m : Int) (w : World) (hm : w.cell? ⟨0, 0, none⟩ = some (.int .i64 m)) (h2 : 2 ≤ y.size) (hy : (y.size : Int) ≤ m) (hx : x.size < 4294967281) :
    (callFunc 79 #[.string x, .string y]).run Go.Proofs.Tryd.prog w = .ok (.value (.int .i64 (Lib.index x.data.toList y.data.toList))) w :=
  extern_run (e := Extern.BytealgIndex.index) (show Go.Proofs.Tryd.prog.funcs[79]? = some Go.Proofs.Tryd.f79 from by kernel_rfl) (by kernel_rfl) (by kernel_rfl) (by kernel_rfl) (by kernel_rfl) (Lib.run_indexString x y w 0 m (by kernel_rfl) hm h2 hy hx)
theorem tabs_of_glob {G : Gh} {w : World} (h2 : Glob E G w ((List.range 256).map fun c => .int .u8 (Go.Lib.firstT c : Int)) 2)
    (h3 : Glob E G w ((List.range 32).map fun c => .int .u8 (if c % 2 = 0 then (Go.Lib.accLo (c / 2) : Int) else (Go.Lib.accHi (c / 2) : Int))) 3) : Utf8Tabs 2 3 w := by
  have key : ∀ (n g : Nat) (f : Nat → Int) (i : Nat), Rep E G w (.pp ((List.range n).map fun c => .int .u8 (f c))) (.pointer (some ⟨g, 0, none⟩)) → i < n → w.cell? ⟨g, i, none⟩ = some (.int .u8 (f i)) := fun n g f i h hi => by
    cases h with
    | pp _ b off vals hp hcell hrep =>
      have hl : ((List.range n).map fun c => (Leaf.int (A := E.A) .u8 (f c)))[i]? = some (.int .u8 (f i)) := by simp [hi]
      have e1 := (hcell i (by simpa using hi)).1
      have e2 := (RRep.lf (hrep i _ hl)).int_inv.1
      rw [Nat.zero_add] at e1
      rw [e1, e2]
  refine ⟨fun c hc => key 256 2 (fun c => (Go.Lib.firstT c : Int)) c h2.1 hc, fun i hi => ⟨?_, ?_⟩⟩
  · have := key 32 3 (fun c => if c % 2 = 0 then (Go.Lib.accLo (c / 2) : Int) else (Go.Lib.accHi (c / 2) : Int)) (2 * i) h3.1 (by omega)
    rw [if_pos (by omega), show 2 * i / 2 = i by omega] at this
    exact this
  · have := key 32 3 (fun c => if c % 2 = 0 then (Go.Lib.accLo (c / 2) : Int) else (Go.Lib.accHi (c / 2) : Int)) (2 * i + 1) h3.1 (by omega)
    rw [if_neg (by omega), show (2 * i + 1) / 2 = i by omega] at this
    exact this
end Go.Vx
