/-
  Part 6 of the proof: the second reading of the model, its laws, and the functions' contracts. Lemmas alone.
-/
import Derived.Shelf.Strings.IndexAnyAll
import Derived.Lib.BytesEntry
import Derived.Test.YtmllilgelombiaaDoorA3
set_option linter.unusedSectionVars false
set_option linter.unusedVariables false
set_option linter.unusedSimpArgs false
namespace Go.Vx
open Go Go.Shelf Go.RowKit Go.Lib Go.Proofs
/-- what the walk asks of a program -/
structure Lay64 (P : Program) : Prop where
  mixed : P.follows .mixedOrders = true
  f64 : P.funcs[64]? = some Go.Proofs.Tryd.f64
  f75 : P.funcs[75]? = some Go.Proofs.Tryd.f75
  f76 : P.funcs[76]? = some Go.Proofs.Tryd.f76
  f77 : P.funcs[77]? = some Go.Proofs.Tryd.f77
  f73 : P.funcs[73]? = some Go.Proofs.Tryd.f73
  t0 : P.underlying 0 = some (TypeDesc.tuple #[])
  a0 : ∀ w, (isAgg 0).run P w = .ok false w
  z0 : ∀ w, (Go.sizeOf 0).run P w = .ok 1 w
  v0 : ∀ w, (zeroValue 0).run P w = .ok (Value.tuple #[]) w
  t3 : P.underlying 3 = some (TypeDesc.int IntKind.i64)
  a3 : ∀ w, (isAgg 3).run P w = .ok false w
  z3 : ∀ w, (Go.sizeOf 3).run P w = .ok 1 w
  v3 : ∀ w, (zeroValue 3).run P w = .ok (Value.int IntKind.i64 0) w
  t4 : P.underlying 4 = some (TypeDesc.bool)
  a4 : ∀ w, (isAgg 4).run P w = .ok false w
  z4 : ∀ w, (Go.sizeOf 4).run P w = .ok 1 w
  v4 : ∀ w, (zeroValue 4).run P w = .ok (Value.bool false) w
  t5 : P.underlying 5 = some (TypeDesc.int IntKind.u8)
  a5 : ∀ w, (isAgg 5).run P w = .ok false w
  z5 : ∀ w, (Go.sizeOf 5).run P w = .ok 1 w
  v5 : ∀ w, (zeroValue 5).run P w = .ok (Value.int IntKind.u8 0) w
  t9 : P.underlying 9 = some (TypeDesc.string)
  a9 : ∀ w, (isAgg 9).run P w = .ok false w
  z9 : ∀ w, (Go.sizeOf 9).run P w = .ok 1 w
  v9 : ∀ w, (zeroValue 9).run P w = .ok (Value.string { data := #[] }) w
  t21 : P.underlying 21 = some (TypeDesc.int IntKind.i32)
  a21 : ∀ w, (isAgg 21).run P w = .ok false w
  z21 : ∀ w, (Go.sizeOf 21).run P w = .ok 1 w
  v21 : ∀ w, (zeroValue 21).run P w = .ok (Value.int IntKind.i32 0) w
  t30 : P.underlying 30 = some (TypeDesc.slice 5)
  a30 : ∀ w, (isAgg 30).run P w = .ok false w
  z30 : ∀ w, (Go.sizeOf 30).run P w = .ok 1 w
  t138 : P.underlying 138 = some (TypeDesc.array 256 4)
  a138 : ∀ w, (isAgg 138).run P w = .ok true w
  z138 : ∀ w, (Go.sizeOf 138).run P w = .ok 256 w
  hv138 : ∀ w, (zeroValue 138).run P w = .ok (.agg (Array.replicate 256 (.bool false))) w
  hi138 : (P.info? 138).map (·.size) = some 256
variable {P : Program}
set_option maxHeartbeats 4000000 in
set_option maxRecDepth 1000000 in
theorem calls76 (L : Lay64 P) (chars : ByteArray) (w : World) (hs : chars.size < 4294967281)
    (hascii : ∀ (j : Nat) b, chars.data.toList[j]? = some b → b.toNat < 128) :
    Calls P 76 #[.string chars] w fun e w' => e = .returned (.tuple #[.agg (Lib.setCells chars.data.toList), .bool true]) ∧ w' = w.alloc (.cells (Lib.setCells chars.data.toList) 138) := by
  have HA : Aside (∀ (j : Nat) b, chars.data.toList[j]? = some b → b.toNat < 128) := hascii
  clear hascii
  have mixed := L.mixed
  have t3 := L.t3; have a3 := L.a3; have z3 := L.z3; have v3 := L.v3
  have t4 := L.t4; have a4 := L.a4; have z4 := L.z4; have v4 := L.v4
  have t5 := L.t5; have a5 := L.a5; have z5 := L.z5; have v5 := L.v5
  have t9 := L.t9; have a9 := L.a9; have z9 := L.z9; have v9 := L.v9
  have t138 := L.t138
  have hv138 := L.hv138
  go_enter L.f76, (show Go.Proofs.Tryd.f76.ntmps = 21 from by kernel_rfl)
  go_wp2
  rw [← Lib.setCells_nil]
  go_loopg [4] chars.size (fun g s4 wx => ∃ i : Nat, i + g = chars.size ∧ s4 = .int .i64 i ∧ wx = w.alloc (.cells (Lib.setCells (chars.data.toList.take i)) 138))
  case atStart => exact ⟨0, by omega, rfl, rfl⟩
  case round =>
    obtain ⟨i, hig, rfl, rfl⟩ := hrel
    cases gk with
    | zero =>
      obtain rfl : i = chars.size := by omega
      have hiz : ¬ ((chars.size : Int) < (chars.size : Int)) := by omega
      rw [show chars.data.toList.take chars.size = chars.data.toList from List.take_of_length_le (by rw [← Lib.size_eq]; exact Nat.le_refl _)]
      have hld := run_loadVar_new (P := P) w 138 (Lib.setCells chars.data.toList) 256 4 L.t138 (by rw [Lib.setCells_size]; exact L.hi138)
      have hsz := Lib.setCells_size chars.data.toList
      have hlc := run_loadCellsFrom_new (P := P) w 138 (Lib.setCells chars.data.toList) 256 hsz
      have hsc := run_storeCells_new (P := P) w 138 (Lib.setCells chars.data.toList) (Lib.setCells chars.data.toList) (by rw [hsz]; exact L.hi138) rfl (Lib.setCells_one _)
      go_wp2
      simp only [L.a138, L.z138, Result.andThen, ↓reduceIte, hlc]
      rw [Oper.upon_value]
      go_wp2
      simp only [L.z138, Result.andThen, ↓reduceIte, hsc]
      rw [Oper.upon_skip]
      go_wp2
      (try simp only [Exit.inBlock, Exit.then])
      refine bodyPost_ret (v := .tuple #[.agg (Lib.setCells chars.data.toList), .bool true]) ?_ rfl ⟨rfl, rfl⟩
      rw [results_cell_tmp rfl]
      simp [asAddr, Result.andThen, hld]
    | succ g =>
      have hi : i < chars.size := by omega
      have hiz : (i : Int) < (chars.size : Int) := by omega
      obtain ⟨x, hx⟩ : ∃ x : UInt8, chars[i]'hi = x := ⟨_, rfl⟩
      have hxl : chars.data.toList[i]? = some x := by rw [← hx]; exact Lib.data_getElem? chars i hi
      have hx128 : ¬ ((128 : Int) ≤ (x.toNat : Int)) := by have := HA.out i x hxl; omega
      have hx256 : (x.toNat : Int) < 256 := by have := HA.out i x hxl; omega
      have hcell := Lib.setCells_at (chars.data.toList.take i) x
      have Hx : Aside (chars.data.toList[i]? = some x) := hxl
      clear hxl
      go_wp2
      go_roundg g
      case measure => omega
      case rel => exact ⟨i + 1, by omega, by first | rfl | simp, by rw [List.take_add_one, Hx.out]; simp only [Option.toList]; rw [Lib.setCells_snoc]⟩
set_option maxHeartbeats 2000000 in
set_option maxRecDepth 1000000 in
theorem calls77 (L : Lay64 P) (b : Nat) (x : UInt8) (v : Bool) (w : World) (hc : w.cell? ⟨b, x.toNat, none⟩ = some (.bool v)) :
    Calls P 77 #[.pointer (some ⟨b, 0, none⟩), .int .u8 x.toNat] w fun e w' => e = .returned (.bool v) ∧ w' = w := by
  have hx256 : (x.toNat : Int) < 256 := by have := UInt8.toNat_lt x; omega
  have mixed := L.mixed
  have t4 := L.t4; have a4 := L.a4; have z4 := L.z4; have v4 := L.v4
  have t5 := L.t5; have a5 := L.a5; have z5 := L.z5; have v5 := L.v5
  have t138 := L.t138
  go_enter L.f77, (show Go.Proofs.Tryd.f77.ntmps = 10 from by kernel_rfl)
  go_wp2
  go_ret
  exact ⟨rfl, rfl⟩
theorem calls75 (L : Lay64 P) (n : Int) (w : World) :
    Calls P 75 #[.int .i64 n] w fun e w' => e = .returned (.bool (decide (8 < n))) ∧ w' = w := by
  have mixed := L.mixed
  have t3 := L.t3; have a3 := L.a3; have z3 := L.z3; have v3 := L.v3
  have t4 := L.t4; have a4 := L.a4; have z4 := L.z4; have v4 := L.v4
  go_enter L.f75, (show Go.Proofs.Tryd.f75.ntmps = 5 from by kernel_rfl)
  go_wp2
  go_ret
  exact ⟨rfl, rfl⟩
theorem run73 (L : Lay64 P) (s : ByteArray) (c : Int) (w : World) : (callFunc 73 #[.string s, .int .u8 c]).run P w = .ok (.value (.int .i64 (Lib.indexByte s.data.toList c.toNat.toUInt8))) w :=
  extern_run (e := Extern.BytealgIndexByte.indexByte) L.f73 (by kernel_rfl) (by kernel_rfl) (by kernel_rfl) (by kernel_rfl) (Lib.run_indexByteString s c w)
set_option maxHeartbeats 8000000 in
set_option maxRecDepth 1000000 in
/-- more than eight bytes -/
theorem calls64_long (L : Lay64 P) (b o cap : Nat) (s : List UInt8) (chars : ByteArray) (w : World) (h2 : 2 ≤ chars.size) (h8 : 8 < s.length) (hsc : s.length ≤ cap) (hbig : cap ≤ 9223372036854775807) (hcs : chars.size < 4294967281)
    (hascii : ∀ (j : Nat) b, chars.data.toList[j]? = some b → b.toNat < 128)
    (hcell : ∀ i, i < s.length → w.cell? ⟨b, o + i, none⟩ = some (.int .u8 (s.getD i 0).toNat)) :
    Calls P 64 #[.slice (some ⟨b, o, none⟩) s.length cap, .string chars] w fun e w' => e = .returned (.int .i64 (Lib.indexAny s chars.data.toList)) ∧ w' = ((w.alloc (.cells (Lib.setCells chars.data.toList) 138)).alloc (.cells (Lib.setCells chars.data.toList) 138)) := by
  have hM := calls76 L chars w hcs hascii
  clear hascii
  have hemp : chars.toList.isEmpty = false := by
    rw [Lib.toList_data]
    cases h : chars.data.toList with
    | nil => have := Lib.size_eq chars; rw [h, List.length_nil] at this; omega
    | cons _ _ => rfl
  have hn1 : ((chars.size : Int) == 1) = false := beq_eq_false_iff_ne.2 (by omega)
  have hs1 : ((s.length : Int) == 1) = false := beq_eq_false_iff_ne.2 (by omega)
  have h8z : decide ((8 : Int) < (s.length : Int)) = true := decide_eq_true (by omega)
  have hst : (storeCells ⟨w.heap.size + 1, 0, none⟩ (Lib.setCells chars.data.toList).toList 0).run P ((w.alloc (.cells (Lib.setCells chars.data.toList) 138)).alloc (.cells (Array.replicate 256 (.bool false)) 138)) = .ok () ((w.alloc (.cells (Lib.setCells chars.data.toList) 138)).alloc (.cells (Lib.setCells chars.data.toList) 138)) := by
    have := run_storeCells_new (P := P) (w.alloc (.cells (Lib.setCells chars.data.toList) 138)) 138 (Array.replicate 256 (.bool false)) (Lib.setCells chars.data.toList) (by rw [Lib.setCells_size]; exact L.hi138) (by rw [Lib.setCells_size, Array.size_replicate]) (Lib.setCells_one _)
    simpa using this
  have hsz := Lib.setCells_size chars.data.toList
  have hcellAt : ∀ x : UInt8, ((w.alloc (.cells (Lib.setCells chars.data.toList) 138)).alloc (.cells (Lib.setCells chars.data.toList) 138)).cell? ⟨w.heap.size + 1, x.toNat, none⟩ = some (.bool (chars.data.toList.contains x)) := fun x => by
    rw [World.cell?_alloc_at _ _ _ _ (by simp), Lib.setCells_at]
  have HC : Aside (∀ x : UInt8, ((w.alloc (.cells (Lib.setCells chars.data.toList) 138)).alloc (.cells (Lib.setCells chars.data.toList) 138)).cell? ⟨w.heap.size + 1, x.toNat, none⟩ = some (.bool (chars.data.toList.contains x))) := hcellAt
  clear hcellAt
  have HL : Aside (∀ i, i < s.length → ((w.alloc (.cells (Lib.setCells chars.data.toList) 138)).alloc (.cells (Lib.setCells chars.data.toList) 138)).cell? ⟨b, o + i, none⟩ = some (.int .u8 (s.getD i 0).toNat)) := fun i hi => by
    have hc := hcell i hi
    have hlt : b < w.heap.size := World.block_lt_of_cell? w _ hc
    rw [World.cell?_alloc_lt _ _ ⟨b, o + i, none⟩ (by rw [World.size_alloc]; exact Nat.lt_succ_of_lt hlt), World.cell?_alloc_lt _ _ ⟨b, o + i, none⟩ hlt]
    exact hc
  clear hcell
  have mixed := L.mixed
  have t3 := L.t3; have a3 := L.a3; have z3 := L.z3; have v3 := L.v3
  have t4 := L.t4; have a4 := L.a4; have z4 := L.z4; have v4 := L.v4
  have t5 := L.t5; have a5 := L.a5; have z5 := L.z5; have v5 := L.v5
  have t9 := L.t9; have a9 := L.a9; have z9 := L.z9; have v9 := L.v9
  have t21 := L.t21; have a21 := L.a21; have z21 := L.z21; have v21 := L.v21
  have t30 := L.t30; have a30 := L.a30; have z30 := L.z30
  have t138 := L.t138
  have hv138 := L.hv138
  have u3 := run_underlying L.t3; have u4 := run_underlying L.t4; have u5 := run_underlying L.t5; have u30 := run_underlying L.t30
  have e75 : ∀ args w, (callFunc 75 args).run P w = .ok (.enter 75 args) w := enters_of L.f75 (by kernel_rfl) rfl
  have e76 : ∀ args w, (callFunc 76 args).run P w = .ok (.enter 76 args) w := enters_of L.f76 (by kernel_rfl) rfl
  have e77 : ∀ args w, (callFunc 77 args).run P w = .ok (.enter 77 args) w := enters_of L.f77 (by kernel_rfl) rfl
  go_enter L.f64, (show Go.Proofs.Tryd.f64.ntmps = 129 from by kernel_rfl)
  go_wp2_with (first
    | (go_at_fn 75; refine (calls75 L _ _).mono ?_; rintro e w' ⟨rfl, hw⟩; rw [hw, h8z])
    | (go_at_fn 76; refine hM.mono ?_; rintro e w' ⟨rfl, hw⟩; rw [hw]))
  simp only [L.z138, Result.andThen, ↓reduceIte, hst]
  rw [Oper.upon_skip]
  go_wp2
  clear hM hst
  go_loopg [9, 10, 62] s.length (fun g _ _ s62 wx => ∃ i : Nat, i + g = s.length ∧ s62 = .int .i64 i ∧ wx = ((w.alloc (.cells (Lib.setCells chars.data.toList) 138)).alloc (.cells (Lib.setCells chars.data.toList) 138)) ∧ Lib.NoAny s chars.data.toList i)
  case atStart => exact ⟨0, by omega, rfl, rfl, Lib.NoAny.zero _ _⟩
  case round =>
    obtain ⟨i, hig, rfl, rfl, hno⟩ := hrel
    have HN : Aside (Lib.NoAny s chars.data.toList i) := hno
    clear hno
    cases gk with
    | zero =>
      obtain rfl : i = s.length := by omega
      have hiz : ¬ ((s.length : Int) < (s.length : Int)) := by omega
      go_wp2
      go_ret
      exact ⟨by rw [Lib.indexAny_none HN.out]; rfl, rfl⟩
    | succ g =>
      have hi : i < s.length := by omega
      have hiz : (i : Int) < (s.length : Int) := by omega
      have hlc := HL.out i hi
      obtain ⟨x, hx⟩ : ∃ x : UInt8, s.getD i 0 = x := ⟨_, rfl⟩
      rw [hx] at hlc
      have hxl : s[i]? = some x := by rw [← hx, List.getD_eq_getElem?_getD]; simp [hi]
      have Hx : Aside (s[i]? = some x) := hxl
      clear hxl hx
      have hcx := HC.out x
      cases hin : chars.data.toList.contains x <;> rw [hin] at hcx
      · go_wp2_with (go_at_fn 77; refine (calls77 L _ x _ _ hcx).mono ?_; rintro e w' ⟨rfl, hw⟩; rw [hw])
        go_roundg g
        case measure => omega
        case rel => exact ⟨i + 1, by omega, by first | rfl | simp, rfl, HN.out.succ Hx.out hin⟩
      · go_wp2_with (go_at_fn 77; refine (calls77 L _ x _ _ hcx).mono ?_; rintro e w' ⟨rfl, hw⟩; rw [hw])
        go_ret
        exact ⟨by rw [Lib.indexAny_hit HN.out Hx.out hin]; rfl, rfl⟩
set_option maxHeartbeats 8000000 in
set_option maxRecDepth 1000000 in
/-- at most eight bytes -/
theorem calls64_short (L : Lay64 P) (b o cap : Nat) (s : List UInt8) (chars : ByteArray) (w : World) (h2 : 2 ≤ chars.size) (h1 : 2 ≤ s.length) (h8 : s.length ≤ 8) (hsc : s.length ≤ cap) (hbig : cap ≤ 9223372036854775807)
    (has : ∀ (j : Nat) b, s[j]? = some b → b.toNat < 128)
    (hcell : ∀ i, i < s.length → w.cell? ⟨b, o + i, none⟩ = some (.int .u8 (s.getD i 0).toNat)) :
    Calls P 64 #[.slice (some ⟨b, o, none⟩) s.length cap, .string chars] w fun e w' => e = .returned (.int .i64 (Lib.indexAny s chars.data.toList)) ∧ w' = w := by
  have hemp : chars.toList.isEmpty = false := by
    rw [Lib.toList_data]
    cases h : chars.data.toList with
    | nil => have := Lib.size_eq chars; rw [h, List.length_nil] at this; omega
    | cons _ _ => rfl
  have hn1 : ((chars.size : Int) == 1) = false := beq_eq_false_iff_ne.2 (by omega)
  have hs1 : ((s.length : Int) == 1) = false := beq_eq_false_iff_ne.2 (by omega)
  have h8z : decide ((8 : Int) < (s.length : Int)) = false := decide_eq_false (by omega)
  have HA : Aside (∀ (j : Nat) b, s[j]? = some b → b.toNat < 128) := has
  clear has
  have HL : Aside (∀ i, i < s.length → w.cell? ⟨b, o + i, none⟩ = some (.int .u8 (s.getD i 0).toNat)) := hcell
  clear hcell
  have mixed := L.mixed
  have t3 := L.t3; have a3 := L.a3; have z3 := L.z3; have v3 := L.v3
  have t4 := L.t4; have a4 := L.a4; have z4 := L.z4; have v4 := L.v4
  have t5 := L.t5; have a5 := L.a5; have z5 := L.z5; have v5 := L.v5
  have t9 := L.t9; have a9 := L.a9; have z9 := L.z9; have v9 := L.v9
  have t21 := L.t21; have a21 := L.a21; have z21 := L.z21; have v21 := L.v21
  have t30 := L.t30; have a30 := L.a30; have z30 := L.z30
  have u3 := run_underlying L.t3; have u4 := run_underlying L.t4; have u5 := run_underlying L.t5; have u30 := run_underlying L.t30
  have e73 := run73 L
  have e75 : ∀ args w, (callFunc 75 args).run P w = .ok (.enter 75 args) w := enters_of L.f75 (by kernel_rfl) rfl
  go_enter L.f64, (show Go.Proofs.Tryd.f64.ntmps = 129 from by kernel_rfl)
  go_wp2_with (go_at_fn 75; refine (calls75 L _ _).mono ?_; rintro e w' ⟨rfl, hw⟩; rw [hw, h8z])
  go_loopg [11, 12, 13] s.length (fun g _ s12 _ wx => ∃ i : Nat, i + g = s.length ∧ s12 = .int .i64 i ∧ wx = w ∧ Lib.NoAny s chars.data.toList i)
  case atStart => exact ⟨0, by omega, rfl, rfl, Lib.NoAny.zero _ _⟩
  case round =>
    obtain ⟨i, hig, rfl, rfl, hno⟩ := hrel
    have HN : Aside (Lib.NoAny s chars.data.toList i) := hno
    clear hno
    cases gk with
    | zero =>
      obtain rfl : i = s.length := by omega
      have hiz : ¬ ((s.length : Int) < (s.length : Int)) := by omega
      go_wp2
      go_ret
      exact ⟨by rw [Lib.indexAny_none HN.out]; rfl, rfl⟩
    | succ g =>
      have hi : i < s.length := by omega
      have hiz : (i : Int) < (s.length : Int) := by omega
      have hlc := HL.out i hi
      obtain ⟨x, hx⟩ : ∃ x : UInt8, s.getD i 0 = x := ⟨_, rfl⟩
      rw [hx] at hlc
      have hxl : s[i]? = some x := by rw [← hx, List.getD_eq_getElem?_getD]; simp [hi]
      have hx128 : (x.toNat : Int) < 128 := by have := HA.out i x hxl; omega
      have hwr : IntKind.i32.wrap (x.toNat : Int) = (x.toNat : Int) := by rw [wi32] <;> omega
      have Hx : Aside (s[i]? = some x) := hxl
      clear hxl hx
      have hcon := Lib.contains_iff_indexByte chars.data.toList x
      have hback : ((x.toNat : Int)).toNat.toUInt8 = x := by simp
      cases hin : chars.data.toList.contains x
      · rw [hin] at hcon
        have hlt : ¬ ((0 : Int) ≤ Lib.indexByte chars.data.toList x) := of_decide_eq_false hcon.symm
        clear hcon
        go_wp2
        go_roundg g
        case measure => omega
        case rel => exact ⟨i + 1, by omega, by first | rfl | simp, rfl, HN.out.succ Hx.out hin⟩
      · rw [hin] at hcon
        have hge : (0 : Int) ≤ Lib.indexByte chars.data.toList x := of_decide_eq_true hcon.symm
        clear hcon
        go_wp2
        go_ret
        exact ⟨by rw [Lib.indexAny_hit HN.out Hx.out hin]; rfl, rfl⟩
set_option maxHeartbeats 8000000 in
set_option maxRecDepth 1000000 in
/-- one byte -/
theorem calls64_one (L : Lay64 P) (b o cap : Nat) (x : UInt8) (chars : ByteArray) (w : World) (h2 : 2 ≤ chars.size) (hsc : 1 ≤ cap) (hbig : cap ≤ 9223372036854775807) (hx : x.toNat < 128)
    (hlc : w.cell? ⟨b, o, none⟩ = some (.int .u8 x.toNat)) :
    Calls P 64 #[.slice (some ⟨b, o, none⟩) 1 cap, .string chars] w fun e w' => e = .returned (.int .i64 (Lib.indexAny [x] chars.data.toList)) ∧ w' = w := by
  have hemp : chars.toList.isEmpty = false := by
    rw [Lib.toList_data]
    cases h : chars.data.toList with
    | nil => have := Lib.size_eq chars; rw [h, List.length_nil] at this; omega
    | cons _ _ => rfl
  have hn1 : ((chars.size : Int) == 1) = false := beq_eq_false_iff_ne.2 (by omega)
  have mixed := L.mixed
  have t3 := L.t3; have a3 := L.a3; have z3 := L.z3; have v3 := L.v3
  have t4 := L.t4; have a4 := L.a4; have z4 := L.z4; have v4 := L.v4
  have t5 := L.t5; have a5 := L.a5; have z5 := L.z5; have v5 := L.v5
  have t9 := L.t9; have a9 := L.a9; have z9 := L.z9; have v9 := L.v9
  have t21 := L.t21; have a21 := L.a21; have z21 := L.z21; have v21 := L.v21
  have t30 := L.t30; have a30 := L.a30; have z30 := L.z30
  have u3 := run_underlying L.t3; have u4 := run_underlying L.t4; have u5 := run_underlying L.t5; have u30 := run_underlying L.t30
  have e73 := run73 L
  have e75 : ∀ args w, (callFunc 75 args).run P w = .ok (.enter 75 args) w := enters_of L.f75 (by kernel_rfl) rfl
  have hx128 : ¬ (128 : Int) ≤ (x.toNat : Int) := by omega
  have hwr : IntKind.i32.wrap (x.toNat : Int) = (x.toNat : Int) := by rw [wi32] <;> omega
  have hcon := Lib.contains_iff_indexByte chars.data.toList x
  have hback : ((x.toNat : Int)).toNat.toUInt8 = x := by simp
  cases hin : chars.data.toList.contains x
  · rw [hin] at hcon
    have hlt : ¬ ((0 : Int) ≤ Lib.indexByte chars.data.toList x) := of_decide_eq_false hcon.symm
    clear hcon
    go_enter L.f64, (show Go.Proofs.Tryd.f64.ntmps = 129 from by kernel_rfl)
    go_wp2
    go_ret
    exact ⟨by rw [Lib.indexAny, hin]; rfl, rfl⟩
  · rw [hin] at hcon
    have hge : (0 : Int) ≤ Lib.indexByte chars.data.toList x := of_decide_eq_true hcon.symm
    clear hcon
    go_enter L.f64, (show Go.Proofs.Tryd.f64.ntmps = 129 from by kernel_rfl)
    go_wp2
    go_ret
    exact ⟨by rw [Lib.indexAny, hin]; rfl, rfl⟩
end Go.Vx
