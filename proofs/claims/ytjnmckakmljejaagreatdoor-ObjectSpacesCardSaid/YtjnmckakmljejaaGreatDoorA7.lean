/-
  Part 7 of the proof: the second reading of the model, its laws, and the functions' contracts. Lemmas alone.
-/
import Derived.Shelf.LaysM
import Derived.Shelf.RegionOpenPlain
import Derived.Shelf.Bytes.Len
import Derived.Shelf.Bytes.TryGrow
import Derived.Shelf.Bytes.GrowSlice
import Derived.Lib.ByteType
import Derived.Lib.BufferOwn
import Derived.Lib.Walk
import Derived.Lib.Buffer
import Derived.Lib.BufferMore
import Derived.Lib.BufferGrow
import Derived.Lib.Hide
import Derived.Laws.MakeOwn
import Derived.WalkKit
import Derived.RegionTactic
import Derived.Deep.RegionWith
import Derived.Deep.Draws
import Derived.BigCall
import Derived.BigGuard
import Derived.Lib.BufferKept
import Derived.Lib.BufferWrite
import Derived.Shelf.Bytes.Bytes
import Derived.Test.YtjnmckakmljejaaGreatDoorA1
import Derived.Test.YtjnmckakmljejaaGreatDoorA2
set_option linter.unusedSectionVars false
set_option linter.unusedVariables false
set_option linter.unusedSimpArgs false
noncomputable section
namespace Go.Proofs
open Go.Shelf Go.RowKit
variable {P : Program} {ρ : Ren}
def BufGrown (T e : TypeId) (b l n : Nat) (lr : Int) (bs : List Value) (w w' : World) : Prop :=
 ∃ N cap cells, w.heap.size ≤ N ∧ N ≠ b ∧ w'.heap[b]? = some (.cells #[.slice (some ⟨N, 0, none⟩) (l + n) cap, .int .i64 0, .int .i8 lr] T (0, 0)) ∧ w'.heap[N]? = some (.cells cells e (0, 0)) ∧
  cells.size = cap ∧ cells.toList.take l = bs ∧ l + n ≤ cap ∧ cap ≤ maxLen ∧ w.grownBy w' (some b)
theorem bufGrown_end {T e : TypeId} {b N l n cap2 : Nat} {lr : Int} {w w2 : World} {v0 : Value} {cells : Array Value} {bs : List Value}
  (hbk2 : w2.heap[b]? = some (.cells #[v0, .int .i64 0, .int .i8 lr] T (0, 0))) (hN : w2.heap[N]? = some (.cells cells e (0, 0))) (hlt : w.heap.size ≤ N) (hNb : N ≠ b)
  (hcsz : cells.size = cap2) (htk : cells.toList.take l = bs) (hcap2 : l + n ≤ cap2) (hcm2 : cap2 ≤ maxLen) (hg : w.grownBy w2 (some b)) (v1 : Value) :
  BufGrown T e b l n lr bs w (((w2.setCell ⟨b, 0, none⟩ v1).setCell ⟨b, 1, none⟩ (.int .i64 0)).setCell ⟨b, 0, none⟩ (.slice (some ⟨N, 0, none⟩) (l + n) cap2)) := by
 refine ⟨N, cap2, cells, hlt, hNb, ?_, ?_, hcsz, htk, hcap2, hcm2, Lib.grownBy_setB (Lib.grownBy_setB (Lib.grownBy_setB hg 0 _) 1 _) 0 _⟩
 ·exact Lib.heap_setCell_same (i := 0) (Lib.heap_setCell_same (i := 1) (Lib.heap_setCell_same (i := 0) hbk2 v1) (.int .i64 0)) (.slice (some ⟨N, 0, none⟩) (l + n) cap2)
 ·rw [Below.heap_setCell _ _ _ _ hNb, Below.heap_setCell _ _ _ _ hNb, Below.heap_setCell _ _ _ _ hNb]
  exact hN
theorem bufGrown_small {T e : TypeId} {b n cap : Nat} {lr : Int} {w W : World} {v0 : Value} {M : Array Value}
  (hbkW : W.heap[b]? = some (.cells #[v0, .int .i64 0, .int .i8 lr] T (0, 0))) (hlt : w.heap.size ≤ W.heap.size) (hMs : M.size = cap) (hn : n ≤ cap) (hcm : cap ≤ maxLen) (hg : w.grownBy W (some b)) :
  BufGrown T e b 0 n lr [] w ((W.setCell ⟨b, 0, none⟩ (.slice (some ⟨W.heap.size, 0, none⟩) n cap)).alloc (.cells M e)) := by
 have hbW := Lib.lt_of_heap hbkW
 have hsz : (W.setCell ⟨b, 0, none⟩ (.slice (some ⟨W.heap.size, 0, none⟩) n cap)).heap.size = W.heap.size := by simp [World.setCell]
 refine ⟨W.heap.size, cap, M, hlt, by omega, ?_, ?_, hMs, rfl, by omega, hcm, Lib.grownBy_allocR (Lib.grownBy_setB hg 0 _) _⟩
 ·rw [Below.heap_alloc _ _ b (by rw [hsz]; exact hbW), Nat.zero_add]
  exact Lib.heap_setCell_same (i := 0) hbkW _
 ·have h := heap_alloc_new (W.setCell ⟨b, 0, none⟩ (.slice (some ⟨W.heap.size, 0, none⟩) n cap)) (.cells M e)
  rw [hsz] at h
  exact h
set_option maxHeartbeats 12800000 in
set_option maxRecDepth 100000 in
theorem Any.Buffer_grow_row0_x (L : LaysM.n252 P ρ) (B b g cap n : Nat) (lr : Int) (cur : Array Value) (bs : List Value) (w : World) (hB : B ≤ b) (hBw : B ≤ w.heap.size)
  (hbk : w.heap[b]? = some (.cells #[.slice (some ⟨g, 0, none⟩) 0 cap, .int .i64 0, .int .i8 lr] (ρ.t 93) (0, 0)))
  (hl : bs.length = 0) (hBg : B ≤ g) (hg : w.heap[g]? = some (.cells cur (ρ.t 5) (0, 0))) (hlc : 0 ≤ cap) (hcm : cap ≤ maxLen) (hcs : cur.size = cap) (htake : cur.toList.take 0 = bs) (hgb : g ≠ b)
  (h1 : ∀ v ∈ bs, v.oneCell' = true) (hn : 1 ≤ n) (hroom : cap - 0 < n) (hlim : 0 + n ≤ 140737488355328) :
  Calls P (ρ.f 252) #[.pointer (some ⟨b, 0, none⟩), .int .i64 n] w fun e w' => e = .returned (.int .i64 0) ∧ BufGrown (ρ.t 93) (ρ.t 5) b 0 n lr bs w w' := by
 have mixed := L.mixed
 have t5 := L.t5; have a5 := L.a5; have z5 := L.z5; have v5 := L.v5
 have t130 := L.t130; have a130 := L.a130; have z130 := L.z130; have v130 := L.v130
 have t3 := L.t3; have a3 := L.a3; have z3 := L.z3; have v3 := L.v3
 have t4 := L.t4; have a4 := L.a4; have z4 := L.z4; have v4 := L.v4
 have t0 := L.t0; have a0 := L.a0; have z0 := L.z0; have v0 := L.v0
 have t93 := L.t93; have u93 := run_underlying L.t93; have a93 := L.a93; have z93 := L.z93; have v93 := L.v93
 have t131 := L.t131; have a131 := L.a131; have z131 := L.z131; have v131 := L.v131
 have t37 := L.t37; have a37 := L.a37; have z37 := L.z37; have v37 := L.v37
 have t75 := L.t75; have a75 := L.a75; have z75 := L.z75; have v75 := L.v75
 have e181 : ∀ args w, (callFunc (ρ.f 181) args).run P w = .ok (.enter (ρ.f 181) args) w := enters_of L.f181 (by kernel_rfl) rfl
 have e251 : ∀ args w, (callFunc (ρ.f 251) args).run P w = .ok (.enter (ρ.f 251) args) w := enters_of L.f251 (by kernel_rfl) rfl
 have e290 : ∀ args w, (callFunc (ρ.f 290) args).run P w = .ok (.enter (ρ.f 290) args) w := enters_of L.f290 (by kernel_rfl) rfl
 have hIs : Lib.IsBuffer (ρ.t 93) (ρ.t 5) B b bs w := ⟨hB, _, _, hbk, ⟨by rw [hl, Nat.mul_one], .inr ⟨g, cap, cur, by rw [hl], hBg, hg, by omega, hcm, by omega, by rw [hl, Nat.mul_one]; exact htake⟩⟩, by simp [Value.ownBlock]; exact hgb⟩
 have hnil : ∀ W, (binOp .eql (ρ.t 37) (.slice (some ⟨g, 0, none⟩) 0 cap) (.slice none 0 0)).run P W = .ok (.bool false) W := fun W => Lib.run_eql_slice_some_nil W _ _ _ L.t37
 go_enter L.f252, Body.n252_ntmps ρ
 go_wp2_with (go_at_fn (ρ.f 181); refine (Any.Buffer_Len { L with } B b bs _ hIs).mono ?_)
 rintro e W0 ⟨rfl, k, hW0⟩
 rw [hl]
 have hbk0 : W0.heap[b]? = some (.cells #[.slice (some ⟨g, 0, none⟩) 0 cap, .int .i64 0, .int .i8 lr] (ρ.t 93) (0, 0)) := by rw [hW0]; exact hbk
 have hg0 : W0.heap[g]? = some (.cells cur (ρ.t 5) (0, 0)) := by rw [hW0]; exact hg
 have c0 : W0.cell? ⟨b, 0, none⟩ = some (.slice (some ⟨g, 0, none⟩) 0 cap) := by rw [Lib.cell_of_heap hbk0]; rfl
 have c1 : W0.cell? ⟨b, 1, none⟩ = some (.int .i64 0) := by rw [Lib.cell_of_heap hbk0]; rfl
 have f0 : W0.frozen? ⟨b, 0, none⟩ = false := Lib.frozen_of_heap hbk0 0
 have f1 : W0.frozen? ⟨b, 1, none⟩ = false := Lib.frozen_of_heap hbk0 1
 have HW0 := Lib.hid hW0
 clear hW0 hIs
 have hcm' := hcm
 unfold maxLen at hcm'
 go_wp2_with (go_at_fn (ρ.f 251); refine (Any.Buffer_tryGrow_none { L with } b _ 0 cap n _ c0 hlc hcm hroom).mono ?_; rintro e w' ⟨rfl, rfl⟩)
 have hc2 : cap ≤ 140737488355328 := by omega
 have h1' : ∀ v ∈ cur.toList.take 0, v.oneCell' = true := by rw [htake]; exact h1
 have hbW := Lib.lt_of_heap hbk0
 have hwn : IntKind.i64.wrap (n : Int) = n := by rw [IntKind.wrap_i64]; omega
 go_region_with_o (
   go_at_fn (ρ.f 290)
   refine (Any.bytes_growSlice_row { L with } g 0 cap n cur _ ?_ hcs hlc hn hlim hc2 h1').mono ?_
   exact hg0
   rintro e w2 ⟨cap2, cells, rfl, hN, hcsz, htk, hcap2, hcm2, hbel⟩
   have hbk2 : w2.heap[b]? = some (.cells #[.slice (some ⟨g, 0, none⟩) 0 cap, .int .i64 0, .int .i8 lr] (ρ.t 93) (0, 0)) := (hbel.block b hbW).trans hbk0
   have d0 : w2.cell? ⟨b, 0, none⟩ = some (.slice (some ⟨g, 0, none⟩) 0 cap) := by rw [Lib.cell_of_heap hbk2]; rfl
   have d1 : w2.cell? ⟨b, 1, none⟩ = some (.int .i64 0) := by rw [Lib.cell_of_heap hbk2]; rfl
   have e0 : w2.frozen? ⟨b, 0, none⟩ = false := Lib.frozen_of_heap hbk2 0
   have e1 : w2.frozen? ⟨b, 1, none⟩ = false := Lib.frozen_of_heap hbk2 1)
 all_goals (
  go_wp2
  go_ret
  have hsz0 : w'.heap.size = w.heap.size := by rw [HW0.out]; rfl
  have hb0 : Below B w w'.drew := by rw [HW0.out]; exact ⟨rfl, rfl, rfl, Nat.le_refl _, fun _ _ => rfl⟩
  have hk2 : Lib.OthersKept (ρ.t 5) (some b) w w2 := Lib.OthersKept.below (w := w'.drew) (by rw [HW0.out]; exact fun _ _ h _ _ => h) hbel
  have hg2 : w.grownBy w2 (some b) := Lib.grownBy_below (w := w'.drew) (by rw [HW0.out]; exact ⟨rfl, rfl, rfl, Nat.le_refl _, fun _ _ _ => rfl⟩) hbel
  have hfin := bufGrown_end (l := 0) (n := n) hbk2 hN (w := w) (by show w.heap.size ≤ w'.heap.size; omega) (by show w'.heap.size ≠ b; omega) hcsz (htk.trans htake) hcap2 hcm2 hg2 (.slice (some ⟨w'.heap.size, 0, none⟩) 0 cap2)
  exact ⟨rfl, by simpa using hfin⟩)
set_option maxHeartbeats 12800000 in
set_option maxRecDepth 100000 in
theorem Any.Buffer_grow_row_x (L : LaysM.n252 P ρ) (B b g l cap n : Nat) (lr : Int) (cur : Array Value) (bs : List Value) (w : World) (hB : B ≤ b) (hBw : B ≤ w.heap.size)
  (hbk : w.heap[b]? = some (.cells #[.slice (some ⟨g, 0, none⟩) l cap, .int .i64 0, .int .i8 lr] (ρ.t 93) (0, 0)))
  (hl : bs.length = l) (hBg : B ≤ g) (hg : w.heap[g]? = some (.cells cur (ρ.t 5) (0, 0))) (hlc : l ≤ cap) (hcm : cap ≤ maxLen) (hcs : cur.size = cap) (htake : cur.toList.take l = bs) (hgb : g ≠ b)
  (h1 : ∀ v ∈ bs, v.oneCell' = true) (hn : 1 ≤ n) (hroom : cap - l < n) (hlim : l + n ≤ 140737488355328) :
  Calls P (ρ.f 252) #[.pointer (some ⟨b, 0, none⟩), .int .i64 n] w fun e w' => e = .returned (.int .i64 l) ∧ BufGrown (ρ.t 93) (ρ.t 5) b l n lr bs w w' := by
 have mixed := L.mixed
 have t5 := L.t5; have a5 := L.a5; have z5 := L.z5; have v5 := L.v5
 have t130 := L.t130; have a130 := L.a130; have z130 := L.z130; have v130 := L.v130
 have t3 := L.t3; have a3 := L.a3; have z3 := L.z3; have v3 := L.v3
 have t4 := L.t4; have a4 := L.a4; have z4 := L.z4; have v4 := L.v4
 have t0 := L.t0; have a0 := L.a0; have z0 := L.z0; have v0 := L.v0
 have t93 := L.t93; have u93 := run_underlying L.t93; have a93 := L.a93; have z93 := L.z93; have v93 := L.v93
 have t131 := L.t131; have a131 := L.a131; have z131 := L.z131; have v131 := L.v131
 have t37 := L.t37; have a37 := L.a37; have z37 := L.z37; have v37 := L.v37
 have t75 := L.t75; have a75 := L.a75; have z75 := L.z75; have v75 := L.v75
 have e181 : ∀ args w, (callFunc (ρ.f 181) args).run P w = .ok (.enter (ρ.f 181) args) w := enters_of L.f181 (by kernel_rfl) rfl
 have e251 : ∀ args w, (callFunc (ρ.f 251) args).run P w = .ok (.enter (ρ.f 251) args) w := enters_of L.f251 (by kernel_rfl) rfl
 have e290 : ∀ args w, (callFunc (ρ.f 290) args).run P w = .ok (.enter (ρ.f 290) args) w := enters_of L.f290 (by kernel_rfl) rfl
 by_cases hl0 : l = 0
 ·subst hl0
  exact Any.Buffer_grow_row0_x { L with } B b g cap n lr cur bs w hB hBw hbk hl hBg hg hlc hcm hcs htake hgb h1 hn hroom hlim
 have hIs : Lib.IsBuffer (ρ.t 93) (ρ.t 5) B b bs w := ⟨hB, _, _, hbk, ⟨by rw [hl, Nat.mul_one], .inr ⟨g, cap, cur, by rw [hl], hBg, hg, by omega, hcm, by omega, by rw [hl, Nat.mul_one]; exact htake⟩⟩, by simp [Value.ownBlock]; exact hgb⟩
 have hnil : ∀ W, (binOp .eql (ρ.t 37) (.slice (some ⟨g, 0, none⟩) l cap) (.slice none 0 0)).run P W = .ok (.bool false) W := fun W => Lib.run_eql_slice_some_nil W _ _ _ L.t37
 go_enter L.f252, Body.n252_ntmps ρ
 go_wp2_with (go_at_fn (ρ.f 181); refine (Any.Buffer_Len { L with } B b bs _ hIs).mono ?_)
 rintro e W0 ⟨rfl, k, hW0⟩
 rw [hl]
 have hbk0 : W0.heap[b]? = some (.cells #[.slice (some ⟨g, 0, none⟩) l cap, .int .i64 0, .int .i8 lr] (ρ.t 93) (0, 0)) := by rw [hW0]; exact hbk
 have hg0 : W0.heap[g]? = some (.cells cur (ρ.t 5) (0, 0)) := by rw [hW0]; exact hg
 have c0 : W0.cell? ⟨b, 0, none⟩ = some (.slice (some ⟨g, 0, none⟩) l cap) := by rw [Lib.cell_of_heap hbk0]; rfl
 have c1 : W0.cell? ⟨b, 1, none⟩ = some (.int .i64 0) := by rw [Lib.cell_of_heap hbk0]; rfl
 have f0 : W0.frozen? ⟨b, 0, none⟩ = false := Lib.frozen_of_heap hbk0 0
 have f1 : W0.frozen? ⟨b, 1, none⟩ = false := Lib.frozen_of_heap hbk0 1
 have HW0 := Lib.hid hW0
 clear hW0 hIs
 have hcm' := hcm
 unfold maxLen at hcm'
 go_wp2_with (go_at_fn (ρ.f 251); refine (Any.Buffer_tryGrow_none { L with } b _ l cap n _ c0 hlc hcm hroom).mono ?_; rintro e w' ⟨rfl, rfl⟩)
 have hc2 : cap ≤ 140737488355328 := by omega
 have h1' : ∀ v ∈ cur.toList.take l, v.oneCell' = true := by rw [htake]; exact h1
 have hbW := Lib.lt_of_heap hbk0
 have hwn : IntKind.i64.wrap (n : Int) = n := by rw [IntKind.wrap_i64]; omega
 go_region_with_o (
   go_at_fn (ρ.f 290)
   refine (Any.bytes_growSlice_row { L with } g l cap n cur _ ?_ hcs hlc hn hlim hc2 h1').mono ?_
   exact hg0
   rintro e w2 ⟨cap2, cells, rfl, hN, hcsz, htk, hcap2, hcm2, hbel⟩
   have hbk2 : w2.heap[b]? = some (.cells #[.slice (some ⟨g, 0, none⟩) l cap, .int .i64 0, .int .i8 lr] (ρ.t 93) (0, 0)) := (hbel.block b hbW).trans hbk0
   have d0 : w2.cell? ⟨b, 0, none⟩ = some (.slice (some ⟨g, 0, none⟩) l cap) := by rw [Lib.cell_of_heap hbk2]; rfl
   have d1 : w2.cell? ⟨b, 1, none⟩ = some (.int .i64 0) := by rw [Lib.cell_of_heap hbk2]; rfl
   have e0 : w2.frozen? ⟨b, 0, none⟩ = false := Lib.frozen_of_heap hbk2 0
   have e1 : w2.frozen? ⟨b, 1, none⟩ = false := Lib.frozen_of_heap hbk2 1)
 all_goals (
  go_wp2
  go_ret
  have hsz0 : w'.heap.size = w.heap.size := by rw [HW0.out]; rfl
  have hb0 : Below B w w'.drew := by rw [HW0.out]; exact ⟨rfl, rfl, rfl, Nat.le_refl _, fun _ _ => rfl⟩
  have hk2 : Lib.OthersKept (ρ.t 5) (some b) w w2 := Lib.OthersKept.below (w := w'.drew) (by rw [HW0.out]; exact fun _ _ h _ _ => h) hbel
  have hg2 : w.grownBy w2 (some b) := Lib.grownBy_below (w := w'.drew) (by rw [HW0.out]; exact ⟨rfl, rfl, rfl, Nat.le_refl _, fun _ _ _ => rfl⟩) hbel
  exact ⟨rfl, bufGrown_end hbk2 hN (by show w.heap.size ≤ w'.heap.size; omega) (by show w'.heap.size ≠ b; omega) hcsz (htk.trans htake) hcap2 hcm2 hg2 _⟩)
set_option maxHeartbeats 6400000 in
set_option maxRecDepth 100000 in
theorem Any.Buffer_grow_nil_small_x (L : LaysM.n252 P ρ) (B b n : Nat) (lr : Int) (w : World) (hB : B ≤ b) (hBw : B ≤ w.heap.size)
  (hbk : w.heap[b]? = some (.cells #[.slice none 0 0, .int .i64 0, .int .i8 lr] (ρ.t 93) (0, 0))) (hn : 1 ≤ n) (h64 : n ≤ 64) :
  Calls P (ρ.f 252) #[.pointer (some ⟨b, 0, none⟩), .int .i64 n] w fun e w' => e = .returned (.int .i64 0) ∧ BufGrown (ρ.t 93) (ρ.t 5) b 0 n lr [] w w' := by
 have mixed := L.mixed
 have t5 := L.t5; have a5 := L.a5; have z5 := L.z5; have v5 := L.v5
 have t130 := L.t130; have a130 := L.a130; have z130 := L.z130; have v130 := L.v130
 have t3 := L.t3; have a3 := L.a3; have z3 := L.z3; have v3 := L.v3
 have t4 := L.t4; have a4 := L.a4; have z4 := L.z4; have v4 := L.v4
 have t0 := L.t0; have a0 := L.a0; have z0 := L.z0; have v0 := L.v0
 have t93 := L.t93; have u93 := run_underlying L.t93; have a93 := L.a93; have z93 := L.z93; have v93 := L.v93
 have t131 := L.t131; have a131 := L.a131; have z131 := L.z131; have v131 := L.v131
 have t37 := L.t37; have a37 := L.a37; have z37 := L.z37; have v37 := L.v37
 have t75 := L.t75; have a75 := L.a75; have z75 := L.z75; have v75 := L.v75
 have e181 : ∀ args w, (callFunc (ρ.f 181) args).run P w = .ok (.enter (ρ.f 181) args) w := enters_of L.f181 (by kernel_rfl) rfl
 have e251 : ∀ args w, (callFunc (ρ.f 251) args).run P w = .ok (.enter (ρ.f 251) args) w := enters_of L.f251 (by kernel_rfl) rfl
 obtain ⟨i0, hi, hz0, hz1, hz2⟩ := info_parts L.i5
 obtain ⟨M, hM⟩ : ∃ M, M = madeCells (Value.int .u8 0).cells ((64 : Int).toNat * i0.size) := ⟨_, rfl⟩
 have hMs : M.size = 64 := by rw [hM, size_madeCells, hz1]; rfl
 have hmk : ∀ W : World, (Instr.makeSlice (ρ.t 37) (.int .i64 (n : Int)) (.int .i64 64)).run P W = .ok (.slice (some ⟨W.heap.size, 0, none⟩) n 64) (W.alloc (.cells M (ρ.t 5))) := fun W => by
  have h := run_makeSlice (P := P) W (ρ.t 37) (ρ.t 5) i0 (.int .u8 0) L.t37 hi hz0 .i64 .i64 (n : Int) 64 (by omega) (by omega) (by rw [hz1]; decide) (by rw [hz2]; decide) (by decide)
  rw [← hM] at h
  simpa using h
 clear hM
 have hIs : Lib.IsBuffer (ρ.t 93) (ρ.t 5) B b [] w := ⟨hB, _, _, hbk, World.ownsRow_nil _ _ _ _, by simp [Value.ownBlock]⟩
 have hnil : ∀ W, (binOp .eql (ρ.t 37) (.slice none 0 0) (.slice none 0 0)).run P W = .ok (.bool true) W := fun W => Lib.run_eql_slice_nil_nil W _ _ L.t37
 go_enter L.f252, Body.n252_ntmps ρ
 go_wp2_with (go_at_fn (ρ.f 181); refine (Any.Buffer_Len { L with } B b [] _ hIs).mono ?_)
 rintro e W0 ⟨rfl, k, hW0⟩
 have hbk0 : W0.heap[b]? = some (.cells #[.slice none 0 0, .int .i64 0, .int .i8 lr] (ρ.t 93) (0, 0)) := by rw [hW0]; exact hbk
 have c0 : W0.cell? ⟨b, 0, none⟩ = some (.slice none 0 0) := by rw [Lib.cell_of_heap hbk0]; rfl
 have c1 : W0.cell? ⟨b, 1, none⟩ = some (.int .i64 0) := by rw [Lib.cell_of_heap hbk0]; rfl
 have f0 : W0.frozen? ⟨b, 0, none⟩ = false := Lib.frozen_of_heap hbk0 0
 have f1 : W0.frozen? ⟨b, 1, none⟩ = false := Lib.frozen_of_heap hbk0 1
 have hbW0 := Lib.lt_of_heap hbk0
 have c0a : ∀ o, (W0.alloc o).cell? ⟨b, 0, none⟩ = some (.slice none 0 0) := fun o => (World.cell?_of_block (a := ⟨b, 0, none⟩) (Below.heap_alloc W0 o b hbW0)).trans c0
 have f0a : ∀ o, (W0.alloc o).frozen? ⟨b, 0, none⟩ = false := fun o => (World.frozen?_of_block (a := ⟨b, 0, none⟩) (Below.heap_alloc W0 o b hbW0)).trans f0
 have HW0 := Lib.hid hW0
 clear hW0 hIs
 go_wp2_with (go_at_fn (ρ.f 251); refine (Any.Buffer_tryGrow_none { L with } b _ 0 0 n _ c0 (Nat.le_refl _) (Nat.zero_le _) (by omega)).mono ?_; rintro e w' ⟨rfl, rfl⟩)
 go_ret
 have hsz0 : w'.heap.size = w.heap.size := by rw [HW0.out]; rfl
 have hb0 : Below B w w' := by rw [HW0.out]; exact ⟨rfl, rfl, rfl, Nat.le_refl _, fun _ _ => rfl⟩
 have hk0 : Lib.OthersKept (ρ.t 5) (some b) w w' := by rw [HW0.out]; exact fun _ _ h _ _ => h
 have hg0 : w.grownBy w' (some b) := by rw [HW0.out]; exact ⟨rfl, rfl, rfl, Nat.le_refl _, fun _ _ _ => rfl⟩
 exact ⟨rfl, bufGrown_small hbk0 (by omega) hMs h64 (by unfold maxLen; omega) hg0⟩
set_option maxHeartbeats 12800000 in
set_option maxRecDepth 100000 in
theorem Any.Buffer_grow_nil_big_x (L : LaysM.n252 P ρ) (B b n : Nat) (lr : Int) (w : World) (hB : B ≤ b) (hBw : B ≤ w.heap.size)
  (hbk : w.heap[b]? = some (.cells #[.slice none 0 0, .int .i64 0, .int .i8 lr] (ρ.t 93) (0, 0))) (h64 : 64 < n) (hlim : n ≤ 140737488355328) :
  Calls P (ρ.f 252) #[.pointer (some ⟨b, 0, none⟩), .int .i64 n] w fun e w' => e = .returned (.int .i64 0) ∧ BufGrown (ρ.t 93) (ρ.t 5) b 0 n lr [] w w' := by
 have mixed := L.mixed
 have t5 := L.t5; have a5 := L.a5; have z5 := L.z5; have v5 := L.v5
 have t130 := L.t130; have a130 := L.a130; have z130 := L.z130; have v130 := L.v130
 have t3 := L.t3; have a3 := L.a3; have z3 := L.z3; have v3 := L.v3
 have t4 := L.t4; have a4 := L.a4; have z4 := L.z4; have v4 := L.v4
 have t0 := L.t0; have a0 := L.a0; have z0 := L.z0; have v0 := L.v0
 have t93 := L.t93; have u93 := run_underlying L.t93; have a93 := L.a93; have z93 := L.z93; have v93 := L.v93
 have t131 := L.t131; have a131 := L.a131; have z131 := L.z131; have v131 := L.v131
 have t37 := L.t37; have a37 := L.a37; have z37 := L.z37; have v37 := L.v37
 have t75 := L.t75; have a75 := L.a75; have z75 := L.z75; have v75 := L.v75
 have e181 : ∀ args w, (callFunc (ρ.f 181) args).run P w = .ok (.enter (ρ.f 181) args) w := enters_of L.f181 (by kernel_rfl) rfl
 have e251 : ∀ args w, (callFunc (ρ.f 251) args).run P w = .ok (.enter (ρ.f 251) args) w := enters_of L.f251 (by kernel_rfl) rfl
 have e290 : ∀ args w, (callFunc (ρ.f 290) args).run P w = .ok (.enter (ρ.f 290) args) w := enters_of L.f290 (by kernel_rfl) rfl
 have hn : 1 ≤ n := by omega
 have hIs : Lib.IsBuffer (ρ.t 93) (ρ.t 5) B b [] w := ⟨hB, _, _, hbk, World.ownsRow_nil _ _ _ _, by simp [Value.ownBlock]⟩
 have hnil : ∀ W, (binOp .eql (ρ.t 37) (.slice none 0 0) (.slice none 0 0)).run P W = .ok (.bool true) W := fun W => Lib.run_eql_slice_nil_nil W _ _ L.t37
 go_enter L.f252, Body.n252_ntmps ρ
 go_wp2_with (go_at_fn (ρ.f 181); refine (Any.Buffer_Len { L with } B b [] _ hIs).mono ?_)
 rintro e W0 ⟨rfl, k, hW0⟩
 have hbk0 : W0.heap[b]? = some (.cells #[.slice none 0 0, .int .i64 0, .int .i8 lr] (ρ.t 93) (0, 0)) := by rw [hW0]; exact hbk
 have c0 : W0.cell? ⟨b, 0, none⟩ = some (.slice none 0 0) := by rw [Lib.cell_of_heap hbk0]; rfl
 have c1 : W0.cell? ⟨b, 1, none⟩ = some (.int .i64 0) := by rw [Lib.cell_of_heap hbk0]; rfl
 have f0 : W0.frozen? ⟨b, 0, none⟩ = false := Lib.frozen_of_heap hbk0 0
 have f1 : W0.frozen? ⟨b, 1, none⟩ = false := Lib.frozen_of_heap hbk0 1
 have HW0 := Lib.hid hW0
 clear hW0 hIs
 go_wp2_with (go_at_fn (ρ.f 251); refine (Any.Buffer_tryGrow_none { L with } b _ 0 0 n _ c0 (Nat.le_refl _) (Nat.zero_le _) (by omega)).mono ?_; rintro e w' ⟨rfl, rfl⟩)
 have hbW := Lib.lt_of_heap hbk0
 have hwn : IntKind.i64.wrap (n : Int) = n := by rw [IntKind.wrap_i64]; omega
 go_region_with_o (
   go_at_fn (ρ.f 290)
   refine (Any.bytes_growSlice_nil { L with } n _ hn hlim).mono ?_
   rintro e w2 ⟨cap2, cells, rfl, hN, hcsz, hcap2, hcm2, hbel⟩
   have hbk2 : w2.heap[b]? = some (.cells #[.slice none 0 0, .int .i64 0, .int .i8 lr] (ρ.t 93) (0, 0)) := (hbel.block b hbW).trans hbk0
   have d0 : w2.cell? ⟨b, 0, none⟩ = some (.slice none 0 0) := by rw [Lib.cell_of_heap hbk2]; rfl
   have d1 : w2.cell? ⟨b, 1, none⟩ = some (.int .i64 0) := by rw [Lib.cell_of_heap hbk2]; rfl
   have e0 : w2.frozen? ⟨b, 0, none⟩ = false := Lib.frozen_of_heap hbk2 0
   have e1 : w2.frozen? ⟨b, 1, none⟩ = false := Lib.frozen_of_heap hbk2 1)
 all_goals (
  go_wp2
  go_ret
  have hsz0 : w'.heap.size = w.heap.size := by rw [HW0.out]; rfl
  have hb0 : Below B w w'.drew := by rw [HW0.out]; exact ⟨rfl, rfl, rfl, Nat.le_refl _, fun _ _ => rfl⟩
  have hk2 : Lib.OthersKept (ρ.t 5) (some b) w w2 := Lib.OthersKept.below (w := w'.drew) (by rw [HW0.out]; exact fun _ _ h _ _ => h) hbel
  have hg2 : w.grownBy w2 (some b) := Lib.grownBy_below (w := w'.drew) (by rw [HW0.out]; exact ⟨rfl, rfl, rfl, Nat.le_refl _, fun _ _ _ => rfl⟩) hbel
  have hfin := bufGrown_end (l := 0) (n := n) (bs := []) hbk2 hN (w := w) (by show w.heap.size ≤ w'.heap.size; omega) (by show w'.heap.size ≠ b; omega) hcsz (by simp) (by omega) hcm2 hg2 (.slice (some ⟨w'.heap.size, 0, none⟩) 0 cap2)
  exact ⟨rfl, by simpa using hfin⟩)
end Go.Proofs
namespace Go.Proofs
open Go.Shelf Go.RowKit
variable {P : Program} {ρ : Ren}
def BufRow (e : TypeId) (b : Nat) (v : Value) (bs : List Value) (w : World) : Prop :=
 (v = .slice none 0 0 ∧ bs = []) ∨ ∃ g cap cur, v = .slice (some ⟨g, 0, none⟩) bs.length cap ∧ w.heap[g]? = some (.cells cur e (0, 0)) ∧ bs.length ≤ cap ∧ cap ≤ maxLen ∧ cur.size = cap ∧ cur.toList.take bs.length = bs ∧ g ≠ b
def BufWrote (T e : TypeId) (b : Nat) (v : Value) (bs news : List Value) (w w' : World) : Prop :=
 w'.os = w.os ∧ w'.tape = w.tape ∧ w'.output = w.output ∧ w.heap.size ≤ w'.heap.size ∧ ∃ v' lr, w'.heap[b]? = some (.cells #[v', .int .i64 0, .int .i8 lr] T (0, 0)) ∧
  ((v' = v ∧ news = [] ∧ ∀ c, c < w.heap.size → c ≠ b → w'.heap[c]? = w.heap[c]?) ∨
   ∃ g cap cells, v' = .slice (some ⟨g, 0, none⟩) (bs ++ news).length cap ∧ g ≠ b ∧ w'.heap[g]? = some (.cells cells e (0, 0)) ∧ cells.size = cap ∧ (bs ++ news).length ≤ cap ∧ cap ≤ maxLen ∧
    cells.toList.take (bs ++ news).length = bs ++ news ∧ (w.heap.size ≤ g ∨ v = .slice (some ⟨g, 0, none⟩) bs.length cap) ∧ ∀ c, c < w.heap.size → c ≠ b → c ≠ g → w'.heap[c]? = w.heap[c]?)
theorem heap_setCell_size (w : World) (a : Addr) (x : Value) : (w.setCell a x).heap.size = w.heap.size := by simp [World.setCell]
theorem bufWrote_same {T e : TypeId} {b : Nat} {lr : Int} {v : Value} {bs : List Value} {w W1 : World} (hbk : w.heap[b]? = some (.cells #[v, .int .i64 0, .int .i8 lr] T (0, 0)))
  (hW : W1 = (w.setCell ⟨b, 2, none⟩ (.int .i8 0)).setCell ⟨b, 0, none⟩ v) : BufWrote T e b v bs [] w W1 := by
 subst hW
 refine ⟨rfl, rfl, rfl, by simp [World.setCell], v, 0, Lib.heap_setCell_same (i := 0) (Lib.heap_setCell_same (i := 2) hbk (.int .i8 0)) v, .inl ⟨rfl, rfl, fun c _ hc => ?_⟩⟩
 rw [Below.heap_setCell _ _ _ _ hc, Below.heap_setCell _ _ _ _ hc]
theorem take_written {cur : Array Value} {bs news : List Value} {l n cap : Nat} (hl : bs.length = l) (hn : news.length = n) (hcs : cur.size = cap) (hcap : l + n ≤ cap) (htk : cur.toList.take l = bs) :
  (cur.toList.take l ++ news ++ cur.toList.drop (l + n)).toArray.size = cap ∧ (cur.toList.take l ++ news ++ cur.toList.drop (l + n)).toArray.toList.take (bs ++ news).length = bs ++ news := by
 constructor
 ·simp only [List.size_toArray, List.length_append, List.length_take, List.length_drop, Array.length_toList]; omega
 ·rw [htk, List.toList_toArray, List.take_append_of_le_length (Nat.le_refl _), List.take_of_length_le (Nat.le_refl _)]
theorem bufWrote_row {T e : TypeId} {b g l n cap : Nat} {lr : Int} {v : Value} {cur : Array Value} {bs news : List Value} {w W1 : World}
  (ho : W1.os = w.os) (ht : W1.tape = w.tape) (hu : W1.output = w.output) (hsz : w.heap.size ≤ W1.heap.size)
  (hbk2 : W1.heap[b]? = some (.cells #[.slice (some ⟨g, 0, none⟩) (l + n) cap, .int .i64 0, .int .i8 lr] T (0, 0)))
  (hg : W1.heap[g]? = some (.cells cur e (0, 0))) (hl : bs.length = l) (hn : news.length = n) (hcs : cur.size = cap) (hcap : l + n ≤ cap) (hcm : cap ≤ maxLen) (htk : cur.toList.take l = bs) (hgb : g ≠ b)
  (hor : w.heap.size ≤ g ∨ v = .slice (some ⟨g, 0, none⟩) bs.length cap) (hoth : ∀ c, c < w.heap.size → c ≠ b → c ≠ g → W1.heap[c]? = w.heap[c]?) :
  BufWrote T e b v bs news w (W1.setRow g (bs ++ (news ++ cur.toList.drop (l + n))).toArray) := by
 obtain ⟨r1, r2⟩ := take_written hl hn hcs hcap htk
 rw [htk, List.append_assoc] at r1 r2
 refine ⟨ho, ht, hu, by simpa using hsz, .slice (some ⟨g, 0, none⟩) (l + n) cap, lr, ?_, .inr ⟨g, cap, _, ?_, hgb, setRow_heap W1 g cur _ e (0, 0) hg, r1, by rw [List.length_append]; omega, hcm, r2, hor, fun c h1 h2 h3 => ?_⟩⟩
 ·rw [setRow_other _ _ _ _ (Ne.symm hgb)]; exact hbk2
 ·rw [List.length_append, hl, hn]
 ·rw [setRow_other _ _ _ _ h3]; exact hoth c h1 h2 h3
theorem Any.Buffer_grow_x (L : LaysM.n252 P ρ) (b n : Nat) (lr : Int) (v : Value) (bs : List Value) (w : World)
  (hbk : w.heap[b]? = some (.cells #[v, .int .i64 0, .int .i8 lr] (ρ.t 93) (0, 0))) (hv : BufRow (ρ.t 5) b v bs w) (hn : 1 ≤ n)
  (hroom : ∀ g cap, v = .slice (some ⟨g, 0, none⟩) bs.length cap → cap - bs.length < n) (h1 : ∀ v ∈ bs, v.oneCell' = true) (hlim : bs.length + n ≤ 140737488355328) :
  Calls P (ρ.f 252) #[.pointer (some ⟨b, 0, none⟩), .int .i64 n] w fun e w' => e = .returned (.int .i64 bs.length) ∧ BufGrown (ρ.t 93) (ρ.t 5) b bs.length n lr bs w w' := by
 rcases hv with ⟨rfl, rfl⟩ | ⟨g, cap, cur, rfl, hg, hlc, hcm, hcs, htk, hgb⟩
 ·by_cases h64 : n ≤ 64
  ·exact Any.Buffer_grow_nil_small_x L 0 b n lr w (Nat.zero_le _) (Nat.zero_le _) hbk hn h64
  ·exact Any.Buffer_grow_nil_big_x L 0 b n lr w (Nat.zero_le _) (Nat.zero_le _) hbk (by omega) (by simpa using hlim)
 ·exact Any.Buffer_grow_row_x L 0 b g bs.length cap n lr cur bs w (Nat.zero_le _) (Nat.zero_le _) hbk rfl (Nat.zero_le _) hg hlc hcm hcs htk hgb h1 hn (hroom g cap rfl) hlim
set_option maxHeartbeats 6400000 in
set_option maxRecDepth 100000 in
theorem Any.Buffer_WriteString_x (L : LaysM.n178 P ρ) (b : Nat) (lr : Int) (v : Value) (bs : List Value) (s : ByteArray) (w : World)
  (hbk : w.heap[b]? = some (.cells #[v, .int .i64 0, .int .i8 lr] (ρ.t 93) (0, 0))) (hv : BufRow (ρ.t 5) b v bs w) (h1 : ∀ v ∈ bs, v.oneCell' = true) (hlim : bs.length + s.size ≤ 140737488355328) :
  Calls P (ρ.f 178) #[.pointer (some ⟨b, 0, none⟩), .string s] w fun e w' => e = .returned (.tuple #[.int .i64 s.size, .nilIface]) ∧ BufWrote (ρ.t 93) (ρ.t 5) b v bs (Lib.byteCells s.data.toList) w w' := by
 have mixed := L.mixed
 have t5 := L.t5; have a5 := L.a5; have z5 := L.z5; have v5 := L.v5
 have t130 := L.t130; have a130 := L.a130; have z130 := L.z130; have v130 := L.v130
 have t9 := L.t9; have a9 := L.a9; have z9 := L.z9; have v9 := L.v9
 have t3 := L.t3; have a3 := L.a3; have z3 := L.z3; have v3 := L.v3
 have t75 := L.t75; have a75 := L.a75; have z75 := L.z75; have v75 := L.v75
 have t0 := L.t0; have a0 := L.a0; have z0 := L.z0; have v0 := L.v0
 have t93 := L.t93; have u93 := run_underlying L.t93; have a93 := L.a93; have z93 := L.z93; have v93 := L.v93
 have t91 := L.t91; have a91 := L.a91; have z91 := L.z91; have v91 := L.v91
 have t131 := L.t131; have a131 := L.a131; have z131 := L.z131; have v131 := L.v131
 have t4 := L.t4; have a4 := L.a4; have z4 := L.z4; have v4 := L.v4
 have t37 := L.t37; have a37 := L.a37; have z37 := L.z37; have v37 := L.v37
 have e251 : ∀ args w, (callFunc (ρ.f 251) args).run P w = .ok (.enter (ρ.f 251) args) w := enters_of L.f251 (by kernel_rfl) rfl
 have e252 : ∀ args w, (callFunc (ρ.f 252) args).run P w = .ok (.enter (ρ.f 252) args) w := enters_of L.f252 (by kernel_rfl) rfl
 have c2 : w.cell? ⟨b, 2, none⟩ = some (.int .i8 lr) := by rw [Lib.cell_of_heap hbk]; rfl
 have f2 : w.frozen? ⟨b, 2, none⟩ = false := Lib.frozen_of_heap hbk 2
 have hbk1 : (w.setCell ⟨b, 2, none⟩ (.int .i8 0)).heap[b]? = some (.cells #[v, .int .i64 0, .int .i8 0] (ρ.t 93) (0, 0)) := Lib.heap_setCell_same (i := 2) hbk (.int .i8 0)
 have hv1 : BufRow (ρ.t 5) b v bs (w.setCell ⟨b, 2, none⟩ (.int .i8 0)) := by
  rcases hv with h | ⟨g, cap, cur, h0, hg, h2⟩
  ·exact .inl h
  ·exact .inr ⟨g, cap, cur, h0, by rw [Below.heap_setCell _ _ _ _ h2.2.2.2.2]; exact hg, h2⟩
 have c0 : (w.setCell ⟨b, 2, none⟩ (.int .i8 0)).cell? ⟨b, 0, none⟩ = some v := by rw [Lib.cell_of_heap hbk1]; rfl
 have f0 : (w.setCell ⟨b, 2, none⟩ (.int .i8 0)).frozen? ⟨b, 0, none⟩ = false := Lib.frozen_of_heap hbk1 0
 have hinfo : (P.info? (ρ.t 5)).map (·.size) = some 1 := by
  obtain ⟨i0, hi, -, hz1, -⟩ := info_parts L.i5
  rw [hi]; simp [hz1]
 have hbl : (Lib.byteCells s.data.toList).length = s.size := by rw [Lib.byteCells_length, ← Lib.size_eq]
 by_cases hs0 : s.size = 0
 ·
  have hce : ∀ d dLen dCap W, (Builtin.copy_ #[(ρ.t 37), (ρ.t 9)] (ρ.t 3) #[.slice d dLen dCap, .string s]).run P W = .ok (goInt 0) W := fun d dLen dCap W => Lib.run_copy_empty_string W (ρ.t 37) (ρ.t 9) (ρ.t 3) (ρ.t 5) d dLen dCap s L.t37 (by rw [hinfo]; rfl) hs0
  have hbc : Lib.byteCells s.data.toList = [] := List.eq_nil_of_length_eq_zero (by rw [hbl]; exact hs0)
  rw [hbc]
  rcases hv with ⟨rfl, rfl⟩ | ⟨g, cap, cur, rfl, hg, hlc, hcm, hcs, htk, hgb⟩
  ·clear hv1
   go_enter L.f178, Body.n178_ntmps ρ
   go_wp2_with (go_at_fn (ρ.f 251); refine (Any.Buffer_tryGrow_room { L with } b none 0 0 0 _ c0 f0 (Nat.le_refl _) (Nat.zero_le _) (Nat.zero_le _)).mono ?_)
   rintro e W1 ⟨rfl, hW1⟩
   have d0 : W1.cell? ⟨b, 0, none⟩ = some (.slice none 0 0) := by rw [hW1, Lib.cell_of_heap (Lib.heap_setCell_same (i := 0) hbk1 _)]; rfl
   have HW1 := Lib.hid hW1
   clear hW1 c0 f0 c2 f2 hbk1
   go_wp2
   all_goals (go_ret2; first | exact ⟨rfl, bufWrote_same hbk HW1.out⟩ | exact ⟨by simp [hs0], bufWrote_same hbk HW1.out⟩)
  ·have go : (cap = bs.length ∨ cap ≠ bs.length) := Decidable.em _
   rcases go with rfl | hcl
   ·clear hv1
    go_enter L.f178, Body.n178_ntmps ρ
    go_wp2_with (go_at_fn (ρ.f 251); refine (Any.Buffer_tryGrow_room { L with } b (some ⟨g, 0, none⟩) bs.length bs.length 0 _ c0 f0 hlc hcm (Nat.zero_le _)).mono ?_)
    rintro e W1 ⟨rfl, hW1⟩
    have d0 : W1.cell? ⟨b, 0, none⟩ = some (.slice (some ⟨g, 0, none⟩) bs.length bs.length) := by rw [hW1, Lib.cell_of_heap (Lib.heap_setCell_same (i := 0) hbk1 _)]; rfl
    have HW1 := Lib.hid hW1
    have hcm' := hcm
    unfold maxLen at hcm'
    clear hW1 c0 f0 c2 f2 hbk1
    go_wp2
    all_goals (go_ret2; first | exact ⟨rfl, bufWrote_same hbk HW1.out⟩ | exact ⟨by simp [hs0], bufWrote_same hbk HW1.out⟩)
   ·clear hv1
    go_enter L.f178, Body.n178_ntmps ρ
    go_wp2_with (go_at_fn (ρ.f 251); refine (Any.Buffer_tryGrow_room { L with } b (some ⟨g, 0, none⟩) bs.length cap 0 _ c0 f0 hlc hcm (Nat.zero_le _)).mono ?_)
    rintro e W1 ⟨rfl, hW1⟩
    have d0 : W1.cell? ⟨b, 0, none⟩ = some (.slice (some ⟨g, 0, none⟩) bs.length cap) := by rw [hW1, Lib.cell_of_heap (Lib.heap_setCell_same (i := 0) hbk1 _)]; rfl
    have HW1 := Lib.hid hW1
    have hcm' := hcm
    unfold maxLen at hcm'
    clear hW1 c0 f0 c2 f2 hbk1
    go_wp2
    all_goals (go_ret2; first | exact ⟨rfl, bufWrote_same hbk HW1.out⟩ | exact ⟨by simp [hs0], bufWrote_same hbk HW1.out⟩)
 ·by_cases hroom : ∃ g cap cur, v = .slice (some ⟨g, 0, none⟩) bs.length cap ∧ w.heap[g]? = some (.cells cur (ρ.t 5) (0, 0)) ∧ bs.length ≤ cap ∧ cap ≤ maxLen ∧ cur.size = cap ∧ cur.toList.take bs.length = bs ∧ g ≠ b ∧ s.size ≤ cap - bs.length
  ·
   obtain ⟨g, cap, cur, rfl, hg, hlc, hcm, hcs, htk, hgb, hr⟩ := hroom
   clear hv1 hv
   go_enter L.f178, Body.n178_ntmps ρ
   go_wp2_with (go_at_fn (ρ.f 251); refine (Any.Buffer_tryGrow_room { L with } b (some ⟨g, 0, none⟩) bs.length cap s.size _ c0 f0 hlc hcm hr).mono ?_)
   rintro e W1 ⟨rfl, hW1⟩
   have hbk2 : W1.heap[b]? = some (.cells #[.slice (some ⟨g, 0, none⟩) (bs.length + s.size) cap, .int .i64 0, .int .i8 0] (ρ.t 93) (0, 0)) := by rw [hW1]; exact Lib.heap_setCell_same (i := 0) hbk1 _
   have d0 : W1.cell? ⟨b, 0, none⟩ = some (.slice (some ⟨g, 0, none⟩) (bs.length + s.size) cap) := by rw [Lib.cell_of_heap hbk2]; rfl
   have hg2 : W1.heap[g]? = some (.cells cur (ρ.t 5) (0, 0)) := by rw [hW1, Below.heap_setCell _ _ _ _ hgb, Below.heap_setCell _ _ _ _ hgb]; exact hg
   have HW1 := Lib.hid hW1
   have hne : ¬ cap = bs.length := by omega
   have hcp := Lib.run_copy_row_string (P := P) W1 (ρ.t 37) (ρ.t 9) (ρ.t 3) (ρ.t 5) g bs.length s.size (cap - bs.length) s cur (ρ.t 5) L.t37 hinfo hg2 (Nat.le_refl _) (by omega)
   have hcm' := hcm
   unfold maxLen at hcm'
   clear hW1 c0 f0 c2 f2 hbk1
   go_wp2
   go_ret2
   refine ⟨rfl, bufWrote_row (w := w) (by rw [HW1.out]; rfl) (by rw [HW1.out]; rfl) (by rw [HW1.out]; rfl) (by rw [HW1.out, heap_setCell_size, heap_setCell_size]; exact Nat.le_refl _) hbk2 hg2 rfl hbl hcs (by omega) hcm htk hgb (.inr rfl) (fun c _ hc _ => ?_)⟩
   rw [HW1.out, Below.heap_setCell _ _ _ _ hc, Below.heap_setCell _ _ _ _ hc]
  ·
   obtain ⟨ao, cap0, hv0, hlc0, hcm0, hr0, hr1⟩ : ∃ ao cap0, v = .slice ao bs.length cap0 ∧ bs.length ≤ cap0 ∧ cap0 ≤ maxLen ∧ cap0 - bs.length < s.size ∧ ∀ g cap, v = .slice (some ⟨g, 0, none⟩) bs.length cap → cap - bs.length < s.size := by
    rcases hv with ⟨rfl, rfl⟩ | ⟨g, cap, cur, rfl, hg, hlc, hcm, hcs, htk, hgb⟩
    ·exact ⟨none, 0, rfl, Nat.le_refl _, Nat.zero_le _, by simp; omega, fun g cap h => by cases h⟩
    ·have hlt : cap - bs.length < s.size := Nat.lt_of_not_le fun h => hroom ⟨g, cap, cur, rfl, hg, hlc, hcm, hcs, htk, hgb, h⟩
     exact ⟨_, cap, rfl, hlc, hcm, hlt, fun g' cap' h => by injection h with _ _ h3; rw [← h3]; exact hlt⟩
   rw [hv0] at c0
   clear hroom
   go_enter L.f178, Body.n178_ntmps ρ
   go_wp2_with (go_at_fn (ρ.f 251); refine (Any.Buffer_tryGrow_none { L with } b ao bs.length cap0 s.size _ c0 hlc0 hcm0 hr0).mono ?_; rintro e W0 ⟨rfl, rfl⟩)
   go_wp2_with (go_at_fn (ρ.f 252); refine (Any.Buffer_grow_x { L with } b s.size 0 v bs _ hbk1 hv1 (by omega) hr1 h1 hlim).mono ?_)
   rintro e W1 ⟨rfl, g, cap, cur, hlt, hgb, hbk2, hg2, hcs, htk, hlc, hcm, hgr⟩
   have d0 : W1.cell? ⟨b, 0, none⟩ = some (.slice (some ⟨g, 0, none⟩) (bs.length + s.size) cap) := by rw [Lib.cell_of_heap hbk2]; rfl
   have hne : ¬ cap = bs.length := by omega
   have hcp := Lib.run_copy_row_string (P := P) W1 (ρ.t 37) (ρ.t 9) (ρ.t 3) (ρ.t 5) g bs.length s.size (cap - bs.length) s cur (ρ.t 5) L.t37 hinfo hg2 (Nat.le_refl _) (by omega)
   have hcm' := hcm
   unfold maxLen at hcm'
   have Hgr := Lib.hid hgr
   clear c0 f0 c2 f2 hbk1 hgr hv1 hv
   go_wp2
   go_ret2
   rw [heap_setCell_size] at hlt
   have hgr' := Hgr.out
   refine ⟨rfl, bufWrote_row (w := w) hgr'.os hgr'.tape hgr'.output (by have h := hgr'.size; rw [heap_setCell_size] at h; exact h) hbk2 hg2 rfl hbl hcs hlc hcm htk hgb (.inl hlt) (fun c h1 hc _ => ?_)⟩
   rw [hgr'.block c (by rw [heap_setCell_size]; exact h1) (by simpa using hc), Below.heap_setCell _ _ _ _ hc]
set_option maxHeartbeats 4000000 in
set_option maxRecDepth 100000 in
theorem Any.Buffer_Bytes_x (L : LaysM.n183 P ρ) (b : Nat) (lr : Int) (v : Value) (bs : List Value) (w : World)
  (hbk : w.heap[b]? = some (.cells #[v, .int .i64 0, .int .i8 lr] (ρ.t 93) (0, 0))) (hv : BufRow (ρ.t 5) b v bs w) :
  Calls P (ρ.f 183) #[.pointer (some ⟨b, 0, none⟩)] w fun e w' => e = .returned v ∧ ∃ n, w' = w.drewN n := by
 have mixed := L.mixed
 have t5 := L.t5; have a5 := L.a5; have z5 := L.z5; have v5 := L.v5
 have t130 := L.t130; have a130 := L.a130; have z130 := L.z130; have v130 := L.v130
 have t37 := L.t37; have a37 := L.a37; have z37 := L.z37; have v37 := L.v37
 have t0 := L.t0; have a0 := L.a0; have z0 := L.z0; have v0 := L.v0
 have t93 := L.t93; have u93 := run_underlying L.t93; have a93 := L.a93; have z93 := L.z93; have v93 := L.v93
 have t3 := L.t3; have a3 := L.a3; have z3 := L.z3; have v3 := L.v3
 have c1 : w.cell? ⟨b, 1, none⟩ = some (.int .i64 0) := by rw [Lib.cell_of_heap hbk]; rfl
 have c0 : w.cell? ⟨b, 0, none⟩ = some v := by rw [Lib.cell_of_heap hbk]; rfl
 rcases hv with ⟨rfl, rfl⟩ | ⟨g, cap, cur, rfl, hg, hlc, hcm, hcs, htk, hgb⟩
 ·go_enter L.f183, Body.n183_ntmps ρ
  go_wp2
  go_region_o
  all_goals (go_wp2; go_ret; exact ⟨rfl, 1, rfl⟩)
 ·have hcm' := hcm
  unfold maxLen at hcm'
  go_enter L.f183, Body.n183_ntmps ρ
  go_wp2
  go_region_o
  all_goals (go_wp2; go_ret; exact ⟨by simp, 1, rfl⟩)
end Go.Proofs
namespace Go.Vx
open Go Go.Proofs
theorem byteCells_get (xs : List UInt8) (i : Nat) : (Lib.byteCells xs)[i]? = xs[i]?.map fun b => Value.int .u8 b.toNat := by
 unfold Lib.byteCells; rw [List.getElem?_map]
theorem byteCells_one (xs : List UInt8) : ∀ v ∈ Lib.byteCells xs, v.oneCell' = true := by
 intro v hv
 unfold Lib.byteCells at hv
 obtain ⟨b, _, rfl⟩ := List.mem_map.1 hv
 rfl
theorem byteCells_app (xs ys : List UInt8) : Lib.byteCells (xs ++ ys) = Lib.byteCells xs ++ Lib.byteCells ys := by unfold Lib.byteCells; rw [List.map_append]
def wbl : Leaf E.A → Option (List UInt8)
 | .nil => some []
 | .own 0 0 .u8 (xs : List UInt8) => some xs
 | _ => none
theorem key_five {ty : TypeId} (h : E.key ty = some K.u8) : ty = 5 := by
 have h : tyKey ty = some .u8 := h
 unfold tyKey at h
 split at h <;> first | rfl | cases h
theorem cells_u8 {G : Gh} {w : World} {xs : List UInt8} {g cap : Nat} {cur : Array Value} {e : TypeId} (h : Rep E G w (.sl (A := E.A) K.u8 xs) (.slice (some ⟨g, 0, none⟩) xs.length cap)) (hg : w.heap[g]? = some (.cells cur e (0, 0))) :
  cur.toList.take xs.length = Lib.byteCells xs := by
 generalize hv : Value.slice (some ⟨g, 0, none⟩) xs.length cap = v at h
 generalize hl : (Leaf.sl (A := E.A) K.u8 xs) = l at h
 cases h with
 | sl0 k a cap h => injection hl with h1 h2; subst h1; have h2 := eq_of_heq h2; subst h2; rfl
 | sl k ys b off cap vals h1 h2 hc hr =>
  injection hl with h3 h4; subst h3; have h4 := eq_of_heq h4; subst h4
  injection hv with h5 h6 h7; injection h5 with h5; injection h5 with h5 h8; subst h5; subst h8
  apply List.ext_getElem?
  intro i
  rw [byteCells_get, List.getElem?_take]
  by_cases hi : i < xs.length
  ·rw [if_pos hi, List.getElem?_eq_getElem hi]
   have c := (hc i 0 hi (by show 0 < 1; omega)).1
   rw [Lib.cell_of_heap hg] at c
   have r := hr i xs[i] (List.getElem?_eq_getElem hi) 0 _ rfl
   have e1 : 0 + i * E.sz K.u8 + 0 = i := by show 0 + i * 1 + 0 = i; omega
   rw [e1] at c
   rw [Array.getElem?_toList, c]
   have r' : Rep E G w (.int .u8 (xs[i].toNat : Int)) (vals i 0) := r
   rw [(RRep.lf r').int_inv.1]
   rfl
  ·rw [if_neg hi, List.getElem?_eq_none (by omega)]; rfl
 | _ => cases hl
theorem sl_oth {G : Gh} {w : World} {xs : List UInt8} {g n cap : Nat} (h : Rep E G w (.sl (A := E.A) K.u8 xs) (.slice (some ⟨g, 0, none⟩) n cap)) : ∀ o, o < xs.length → ¬ G.oth g o := by
 generalize hv : Value.slice (some ⟨g, 0, none⟩) n cap = v at h
 generalize hl : (Leaf.sl (A := E.A) K.u8 xs) = l at h
 cases h with
 | sl0 k a cap h => injection hl with h1 h2; subst h1; have h2 := eq_of_heq h2; subst h2; intro o ho; exact absurd ho (Nat.not_lt_zero _)
 | sl k ys b off cap vals h1 h2 hc hr =>
  injection hl with h3 h4; subst h3; have h4 := eq_of_heq h4; subst h4
  injection hv with h5 h6 h7; injection h5 with h5; injection h5 with h5 h8; subst h5; subst h8
  intro o ho
  have c := (hc o 0 ho (by show 0 < 1; omega)).2.2
  have e1 : 0 + o * E.sz K.u8 + 0 = o := by show 0 + o * 1 + 0 = o; omega
  rw [e1] at c
  exact c
 | _ => cases hl
theorem wb_row {ob : Nat → Option (Obj E.A)} {G : Gh} {w : World} (hh : HRel E ob G w) {b : Nat} (hb : G.blk 0 = some b) (hcur : G.cur = zero0) {l : Leaf E.A} {v : Value} {xs : List UInt8} (hl : wbl l = some xs) (hr : Rep E G w l v) (hw : WRow E G w l v) :
  BufRow 5 b v (Lib.byteCells xs) w ∧ ((v = .slice none 0 0 ∧ xs = []) ∨ ∃ g cap, v = .slice (some ⟨g, 0, none⟩) xs.length cap ∧ G.tok 0 = some (g, 0 + xs.length * E.sz K.u8, 0 + cap * E.sz K.u8) ∧ ∀ o, o < xs.length → ¬ G.oth g o) := by
 unfold wbl at hl
 split at hl
 ·injection hl with hl; subst hl
  cases hr with
  | nil => exact ⟨.inl ⟨rfl, rfl⟩, .inl ⟨rfl, rfl⟩⟩
 ·rename_i xs'
  injection hl with hl; subst hl
  have h0 : (0 : Nat) = G.cur 0 := by rw [hcur]; rfl
  cases hr with
  | @own _ _ _ _ a n cap hsl _ hown =>
   have hlen : n = xs'.length ∧ n ≤ cap := by
    cases hsl with
    | sl0 => exact ⟨rfl, Nat.zero_le _⟩
    | sl _ _ _ _ _ _ h1 => exact ⟨rfl, h1⟩
   obtain ⟨rfl, hle⟩ := hlen
   rcases hown h0 with ⟨rfl, rfl⟩ | ⟨g, off, ty, m, rfl, ht, _⟩
   ·have : xs' = [] := List.eq_nil_of_length_eq_zero (by omega)
    subst this
    exact ⟨.inl ⟨rfl, rfl⟩, .inl ⟨rfl, rfl⟩⟩
   ·rcases hw h0 with ⟨n', hn⟩ | ⟨g', n', cap', cur, ty', hv, hg, hk, hcm, hcs⟩
    ·cases hn
    ·injection hv with h3 h4 h5
     injection h3 with h3; injection h3 with h3 h6
     subst h3; subst h5; subst h6
     obtain rfl := key_five hk
     have hne : g ≠ b := fun e => (hh.tokb 0 _ _ _ ht).2.1 0 (by rw [hb, e])
     refine ⟨.inr ⟨g, cap, cur, by rw [Lib.byteCells_length], hg, by rw [Lib.byteCells_length]; exact hle, hcm, hcs, ?_, hne⟩, .inr ⟨g, cap, rfl, ht, sl_oth hsl⟩⟩
     rw [Lib.byteCells_length]
     exact cells_u8 hsl hg
 ·cases hl
def Gh.row (G : Gh) (T : Option (Nat × Nat × Nat)) : Gh := { G with tok := upd G.tok 0 T }
theorem row_free {G : Gh} {T : Option (Nat × Nat × Nat)} {c o : Nat} (h : G.free c o) (hT : ∀ lo hi, T = some (c, lo, hi) → o < lo ∨ hi ≤ o) : (G.row T).free c o := by
 refine ⟨h.1, fun t lo hi ht => ?_⟩
 unfold Gh.row upd at ht
 simp only at ht
 split at ht
 ·exact hT lo hi ht
 ·exact h.2 t lo hi ht
theorem row_clear {G : Gh} {T : Option (Nat × Nat × Nat)} {c : Nat} (h : G.clear c) (hT : ∀ lo hi, T ≠ some (c, lo, hi)) : (G.row T).clear c := by
 refine ⟨h.1, fun t lo hi ht => ?_⟩
 unfold Gh.row upd at ht
 simp only at ht
 split at ht
 ·exact hT lo hi ht
 ·exact h.2 t lo hi ht
theorem wrote_back {l : Leaf E.A} {G : Gh} {w w' : World} (hh : HRel E (fun i => [Obj.wb (A := E.A) 80 l][i]?) G w) (hv : G.ver = zero0) (hc : G.cur = zero0) {b : Nat} (hb : G.blk 0 = some b)
  {lr : Int} {v : Value} (hbk : w.heap[b]? = some (.cells #[v, .int .i64 0, .int .i8 lr] 80 (0, 0))) {xs s : List UInt8} (hr : Rep E G w l v) (hwr : WRow E G w l v) (hl : wbl l = some xs)
  (hW : BufWrote 80 5 b v (Lib.byteCells xs) (Lib.byteCells s) w w') :
  ∃ G', HRel E (fun i => [Obj.wb (A := E.A) 80 (.own 0 0 K.u8 (xs ++ s))][i]?) G' w' ∧ G'.ver = zero0 ∧ G'.cur = zero0 ∧ (∀ i, G'.blk i = G.blk i) ∧ Fr G w G' w' := by
 obtain ⟨hrow, htok⟩ := wb_row hh hb hc hl hr hwr
 obtain ⟨ho, htp, hou, hsz, v', lr', hbk', hcase⟩ := hW
 have hblt := lt_of_heap hbk
 have shb : ∀ s, w.shape? b = some s → w'.shape? b = some s := by
  intro s hs
  unfold World.shape? at *
  rw [hbk] at hs; rw [hbk']; exact hs
 rcases hcase with ⟨rfl, hn, hoth⟩ | ⟨g, cap, cells, rfl, hgb, hg', hcs', hle, hcm, htk, hor, hoth⟩
 ·
  have hs0 : s = [] := List.eq_nil_of_length_eq_zero (by have := congrArg List.length hn; rwa [Lib.byteCells_length] at this)
  subst hs0
  rw [List.append_nil]
  have hcell : ∀ c o x, w.cell? ⟨c, o, none⟩ = some x → G.free c o → w'.cell? ⟨c, o, none⟩ = some x ∧ G.free c o := by
   intro c o x hx hf
   refine ⟨?_, hf⟩
   rw [World.cell?_of_block (w := w) (hoth c (lt_of_cell hx) (fun e => hf.1 0 (by rw [e]; exact hb)))]; exact hx
  have hpur : ∀ c o x, w.cell? ⟨c, o, none⟩ = some x → G.pur c o → w'.cell? ⟨c, o, none⟩ = some x ∧ G.pur c o := fun c o x hx hp => ⟨(hcell c o x hx hp.1).1, hp⟩
  have hshape : ∀ c s, w.shape? c = some s → w'.shape? c = some s := by
   intro c s hs
   by_cases e : c = b
   ·subst e; exact shb s hs
   ·unfold World.shape? at *
    rw [hoth c (shape_lt hs) e]; exact hs
  refine ⟨G, ⟨fun i o hi => ?_, fun i c hi => Nat.lt_of_lt_of_le (hh.lt i c hi) hsz, hh.inj, fun t c lo hi ht => ?_, hh.tokj, fun g cs hg => ?_, fun c o h => ⟨Nat.lt_of_lt_of_le (hh.othf c o h).1 hsz, (hh.othf c o h).2⟩⟩, hv, hc, fun _ => rfl,
   ⟨ho, htp, hou, hsz, hcell, fun c h1 h2 => ⟨hoth c h1 (fun e => h2.1 0 (by rw [e]; exact hb)), h2, rfl⟩, hshape, rfl⟩⟩
  ·match i, hi with
   | 0, hi =>
    injection hi with hi; subst hi
    refine .inl ⟨b, hb, .wb hbk' ?_ ?_⟩
    ·rcases htok with ⟨rfl, rfl⟩ | ⟨g, cap, rfl, ht, _⟩
     ·exact .own (.sl0 K.u8 none 0 (Nat.zero_le _)) (Nat.zero_le _) (fun _ => .inl ⟨rfl, rfl⟩)
     ·have hr' : Rep E G w (.own 0 0 K.u8 xs) (.slice (some ⟨g, 0, none⟩) xs.length cap) := by
       unfold wbl at hl
       split at hl
       ·cases hr
       ·injection hl with hl; subst hl; exact hr
       ·cases hl
      cases hr' with
      | own hsl h1 h2 =>
       refine .own (hsl.plain laws hpur rfl) h1 (fun e => ?_)
       rcases h2 e with h | ⟨b0, off, ty, m, h3, h4, h5, h6⟩
       ·exact .inl h
       ·exact .inr ⟨b0, off, ty, m, h3, h4, hshape _ _ h5, h6⟩
    ·intro _
     rcases hrow with ⟨rfl, _⟩ | ⟨g, cap, cur, rfl, hg, hlc, hcm, hcs, _, hne⟩
     ·exact .inl ⟨0, rfl⟩
     ·exact .inr ⟨g, _, cap, cur, 5, rfl, by rw [hoth g (lt_of_heap hg) hne]; exact hg, rfl, hcm, hcs⟩
   | i + 1, hi => cases hi
  ·obtain ⟨h1, h2, h3⟩ := hh.tokb t c lo hi ht
   have hcb : c ≠ b := fun e => h2 0 (by rw [e]; exact hb)
   refine ⟨Nat.lt_of_lt_of_le h1 hsz, h2, fun o h4 h5 => ?_⟩
   rw [World.cell?_of_block (w := w) (hoth c h1 hcb), World.frozen?_of_block (w := w) (hoth c h1 hcb)]
   exact h3 o h4 h5
  ·obtain ⟨this, ⟨t, hs⟩, ha⟩ := hh.gl g cs hg
   refine ⟨?_, ⟨t, hshape _ _ hs⟩, fun k hk => (ha k hk).imp fun _ hn => ⟨hn.1, hpur _ _ _ hn.2.1 hn.2.2⟩⟩
   cases this with
   | pp _ b off vals hp hcell hrep =>
    exact .pp cs _ _ vals hp (fun j hj => hpur _ _ _ (hcell j hj).1 (hcell j hj).2) (fun j l hl => (hrep j l hl).plain laws hpur (List.all_eq_true.1 hp l (List.mem_of_getElem? hl)))
 ·
  have hz : (xs ++ s).length = (Lib.byteCells xs ++ Lib.byteCells s).length := by rw [← byteCells_app, Lib.byteCells_length]
  rw [← hz] at hle htk hbk'
  rw [← byteCells_app] at htk
  have hglt := lt_of_heap hg'
  have hold : w.heap.size ≤ g ∨ (G.tok 0 = some (g, 0 + xs.length * E.sz K.u8, 0 + cap * E.sz K.u8) ∧ ∃ cur, w.heap[g]? = some (.cells cur 5 (0, 0)) ∧ cur.size = cap ∧ ∀ o, o < xs.length → cells[o]? = cur[o]? ∧ ¬ G.oth g o) := by
   rcases hor with h | h
   ·exact .inl h
   ·right
    rcases htok with ⟨h1, _⟩ | ⟨g0, cap0, h1, ht, hpo⟩
    ·rw [h1] at h; cases h
    ·rcases hrow with ⟨h2, _⟩ | ⟨g1, cap1, cur, h2, hg1, _, _, hcs1, htk1, _⟩
     ·rw [h1] at h2; cases h2
     ·have h3 := h1.symm.trans h
      injection h3 with h4 _ h5; injection h4 with h4; injection h4 with h4; subst h4; subst h5
      have h6 := h1.symm.trans h2
      injection h6 with h7 _ h8; injection h7 with h7; injection h7 with h7; subst h7; subst h8
      refine ⟨ht, cur, hg1, hcs1, fun o hlt => ?_⟩
      rw [Lib.byteCells_length] at htk1
      refine ⟨?_, hpo o hlt⟩
      have e1 : cells.toList[o]? = (Lib.byteCells (xs ++ s))[o]? := by rw [← htk, List.getElem?_take, if_pos (by rw [List.length_append]; omega)]
      have e2 : cur.toList[o]? = (Lib.byteCells xs)[o]? := by rw [← htk1, List.getElem?_take, if_pos hlt]
      rw [Array.getElem?_toList] at e1 e2
      rw [e1, e2, byteCells_get, byteCells_get, List.getElem?_append_left hlt]
  have hmul : ∀ n : Nat, 0 + n * E.sz K.u8 = n := fun n => by show 0 + n * 1 = n; omega
  have hTu : ∀ c lo hi, some (g, 0 + (xs ++ s).length * E.sz K.u8, 0 + cap * E.sz K.u8) = some (c, lo, hi) → c = g ∧ lo = (xs ++ s).length ∧ hi = cap := by
   intro c lo hi h
   injection h with h; injection h with h1 h2; injection h2 with h2 h3
   rw [hmul] at h2 h3
   exact ⟨h1.symm, h2.symm, h3.symm⟩
  have hgn : ∀ i, G.blk i ≠ some g := by
   intro i hi
   rcases hold with h | ⟨h, _⟩
   ·have := hh.lt i g hi; omega
   ·exact (hh.tokb 0 _ _ _ h).2.1 i hi
  have hcell : ∀ c o x, w.cell? ⟨c, o, none⟩ = some x → G.free c o → w'.cell? ⟨c, o, none⟩ = some x ∧ (G.row (some (g, 0 + (xs ++ s).length * E.sz K.u8, 0 + cap * E.sz K.u8))).free c o := by
   intro c o x hx hf
   have hcb : c ≠ b := fun e => hf.1 0 (by rw [e]; exact hb)
   have hlt := lt_of_cell hx
   by_cases e : c = g
   ·subst e
    rcases hold with h | ⟨ht, cur, hg0, hcs0, hsame⟩
    ·omega
    ·have h2 := hf.2 0 _ _ ht
     rw [hmul, hmul] at h2
     rw [Lib.cell_of_heap hg0] at hx
     have hos : o < cap := by
      rw [← hcs0]
      rcases Nat.lt_or_ge o cur.size with h | h
      ·exact h
      ·rw [Array.getElem?_eq_none h] at hx; cases hx
     have hox : o < xs.length := by omega
     refine ⟨by rw [Lib.cell_of_heap hg', (hsame o hox).1]; exact hx, row_free hf (fun lo hi h => ?_)⟩
     obtain ⟨_, rfl, rfl⟩ := hTu _ _ _ h
     rw [List.length_append]; omega
   ·refine ⟨?_, row_free hf (fun lo hi h => absurd (hTu _ _ _ h).1 e)⟩
    rw [World.cell?_of_block (w := w) (hoth c hlt hcb e)]; exact hx
  have hpur : ∀ c o x, w.cell? ⟨c, o, none⟩ = some x → G.pur c o → w'.cell? ⟨c, o, none⟩ = some x ∧ (G.row (some (g, 0 + (xs ++ s).length * E.sz K.u8, 0 + cap * E.sz K.u8))).pur c o := fun c o x hx hp => ⟨(hcell c o x hx hp.1).1, (hcell c o x hx hp.1).2, hp.2⟩
  have hshape : ∀ c s, w.shape? c = some s → w'.shape? c = some s := by
   intro c s hs
   by_cases e : c = b
   ·subst e; exact shb s hs
   ·by_cases e2 : c = g
    ·subst e2
     rcases hold with h | ⟨ht, cur, hg0, hcs0, hsame⟩
     ·have := shape_lt hs; omega
     ·unfold World.shape? at *
      rw [hg0] at hs; rw [hg', ← hs]; simp only [hcs', hcs0]
    ·unfold World.shape? at *
     rw [hoth c (shape_lt hs) e e2]; exact hs
  have hfr : Fr G w (G.row (some (g, 0 + (xs ++ s).length * E.sz K.u8, 0 + cap * E.sz K.u8))) w' := by
   refine ⟨ho, htp, hou, hsz, hcell, fun c h1 h2 => ?_, hshape, rfl⟩
   have hcb : c ≠ b := fun e => h2.1 0 (by rw [e]; exact hb)
   have hcg : c ≠ g := fun e => by
    rcases hold with h | ⟨h, _⟩
    ·omega
    ·exact h2.2 0 _ _ (by rw [e]; exact h)
   exact ⟨hoth c h1 hcb hcg, row_clear h2 (fun lo hi h => hcg (hTu _ _ _ h).1), rfl⟩
  refine ⟨G.row (some (g, 0 + (xs ++ s).length * E.sz K.u8, 0 + cap * E.sz K.u8)), ⟨fun i o hi => ?_, fun i c hi => Nat.lt_of_lt_of_le (hh.lt i c hi) hsz, hh.inj, fun t c lo hi ht => ?_, fun t u c d lo hi lo' hi' h1 h2 hne => ?_, fun q cs hq => ?_, fun c o h => ?_⟩, hv, hc, fun _ => rfl, hfr⟩
  ·match i, hi with
   | 0, hi =>
    injection hi with hi; subst hi
    have hlen : (xs ++ s).length ≤ cap := hle
    refine .inl ⟨b, hb, .wb hbk' ?_ (fun _ => .inr ⟨g, _, cap, cells, 5, rfl, hg', rfl, hcm, hcs'⟩)⟩
    have hmx : cap ≤ big := by unfold maxLen at hcm; unfold big; omega
    refine .own (Rep.sl (E := E) (G := G.row (some (g, 0 + (xs ++ s).length * E.sz K.u8, 0 + cap * E.sz K.u8))) (w := w') K.u8 ((xs ++ s : List UInt8) : List (E.A K.u8)) g 0 cap (fun i _ => cells.getD i undef) hlen hmx (fun i j h1 h2 => ?_) (fun i x hx j l hl => ?_)) (Nat.zero_le _) (fun _ => .inr ⟨g, 0, 5, cap, rfl, rfl, ?_, rfl, by rw [hmul]; exact Nat.le_refl _⟩)
    ·have hj : j = 0 := by have : j < 1 := h2; omega
     subst hj
     have h1 : i < (List.append xs s : List UInt8).length := h1
     have h1 : i < (xs ++ s : List UInt8).length := h1
     have e1 : 0 + i * E.sz K.u8 + 0 = i := by rw [Nat.add_zero, hmul]
     rw [e1]
     refine ⟨?_, ⟨hgn, fun t lo hi ht => ?_⟩, fun ho => ?_⟩
     ·rw [Lib.cell_of_heap hg']
      have : i < cells.size := by omega
      simp [Array.getD, this]
     ·unfold Gh.row upd at ht
      simp only at ht
      split at ht
      ·obtain ⟨_, rfl, rfl⟩ := hTu _ _ _ ht; exact .inl h1
      ·rename_i hne
       rcases hold with h | ⟨h, _⟩
       ·have := (hh.tokb t _ _ _ ht).1; omega
       ·exact absurd rfl (hh.tokj 0 t _ _ _ _ _ _ h ht (Ne.symm hne))
     ·have := hh.othf g i ho
      rcases hold with h | ⟨h, cur, hg0, hcs0, hsame⟩
      ·omega
      ·have h2 := this.2.2 0 _ _ h
       rw [hmul, hmul] at h2
       exact (hsame i (by omega)).2 ho
    ·have hi : i < (xs ++ s : List UInt8).length := lt_of_get hx
     have hj : j = 0 := by
      cases j with
      | zero => rfl
      | succ j => cases hl
     subst hj
     injection hl with hl; subst hl
     have e1 : cells.toList[i]? = (Lib.byteCells (xs ++ s))[i]? := by rw [← htk, List.getElem?_take, if_pos hi]
     have hx' : (xs ++ s)[i]? = some (x : UInt8) := hx
     rw [Array.getElem?_toList, byteCells_get, hx'] at e1
     have hsi : i < cells.size := by omega
     have e2 : cells.getD i undef = .int .u8 (x : UInt8).toNat := by
      rw [Array.getElem?_eq_getElem hsi] at e1
      injection e1 with e1
      simp only [Array.getD, hsi, dite_true]; exact e1
     show Rep E _ w' (.int .u8 _) (cells.getD i undef)
     rw [e2]
     exact .int (by have := (x : UInt8).toNat_lt; simp [inRb, IntKind.min, IntKind.max, IntKind.signed, IntKind.bits]; omega)
    ·unfold World.shape?; rw [hg']; simp only [hcs']
   | i + 1, hi => cases hi
  ·unfold Gh.row upd at ht
   simp only at ht
   split at ht
   ·obtain ⟨rfl, rfl, rfl⟩ := hTu _ _ _ ht
    refine ⟨hglt, hgn, fun o h4 h5 => ⟨?_, Lib.frozen_of_heap hg' o⟩⟩
    rw [Lib.cell_of_heap hg']
    exact ⟨_, Array.getElem?_eq_getElem (by omega)⟩
   ·rename_i hne
    obtain ⟨h1, h2, h3⟩ := hh.tokb t c lo hi ht
    have hcb : c ≠ b := fun e => h2 0 (by rw [e]; exact hb)
    have hcg : c ≠ g := fun e => by
     rcases hold with h | ⟨h, _⟩
     ·omega
     ·exact hh.tokj t 0 _ _ _ _ _ _ ht h hne e
    refine ⟨Nat.lt_of_lt_of_le h1 hsz, h2, fun o h4 h5 => ?_⟩
    rw [World.cell?_of_block (w := w) (hoth c h1 hcb hcg), World.frozen?_of_block (w := w) (hoth c h1 hcb hcg)]
    exact h3 o h4 h5
  ·have key : ∀ t c lo hi, t ≠ 0 → G.tok t = some (c, lo, hi) → c ≠ g := by
    intro t c lo hi hne ht e
    rcases hold with h | ⟨h, _⟩
    ·have := (hh.tokb t _ _ _ ht).1; omega
    ·exact hh.tokj t 0 _ _ _ _ _ _ ht h hne e
   unfold Gh.row upd at h1 h2
   simp only at h1 h2
   split at h1
   ·rename_i e1
    obtain ⟨rfl, _, _⟩ := hTu _ _ _ h1
    split at h2
    ·rename_i e2; exact absurd (e1.trans e2.symm) hne
    ·rename_i e2; exact Ne.symm (key u d lo' hi' e2 h2)
   ·rename_i e1
    split at h2
    ·obtain ⟨rfl, _, _⟩ := hTu _ _ _ h2
     exact key t c lo hi e1 h1
    ·exact hh.tokj t u c d lo hi lo' hi' h1 h2 hne
  ·obtain ⟨this, ⟨t, hs⟩, ha⟩ := hh.gl q cs hq
   refine ⟨?_, ⟨t, hshape _ _ hs⟩, fun k hk => (ha k hk).imp fun _ hn => ⟨hn.1, hpur _ _ _ hn.2.1 hn.2.2⟩⟩
   cases this with
   | pp _ b off vals hp hcell hrep =>
    exact .pp cs _ _ vals hp (fun j hj => hpur _ _ _ (hcell j hj).1 (hcell j hj).2) (fun j l hl => (hrep j l hl).plain laws hpur (List.all_eq_true.1 hp l (List.mem_of_getElem? hl)))
  ·have := hh.othf c o h
   refine ⟨Nat.lt_of_lt_of_le this.1 hsz, row_free this.2 (fun lo hi hT => ?_)⟩
   obtain ⟨rfl, rfl, rfl⟩ := hTu _ _ _ hT
   rcases hold with h | ⟨ht, cur, hg0, hcs0, hsame⟩
   ·omega
   ·have h2 := this.2.2 0 _ _ ht
    rw [hmul, hmul] at h2
    rw [List.length_append]; omega
end Go.Vx
end
