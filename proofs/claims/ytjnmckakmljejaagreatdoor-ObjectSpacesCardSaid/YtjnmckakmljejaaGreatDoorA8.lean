/-
  Part 8 of the proof: the second reading of the model, its laws, and the functions' contracts. Lemmas alone.
-/
import Derived.Shelf.LaysM
import Derived.Shelf.Strconv.Itoa3
import Derived.Shelf.Strconv.Itoa4
import Derived.Shelf.Small.Wraps
import Derived.Test.YtjnmckakmljejaaGreatDoorA4
import Derived.Test.YtjnmckakmljejaaGreatDoorA7
set_option linter.unusedSectionVars false
set_option linter.unusedVariables false
set_option linter.unusedSimpArgs false
noncomputable section
namespace Go.Proofs
open Go.Shelf
def Tryz.laysM178_ren : Go.Shelf.Ren := ⟨fun | 178 => 68 | 251 => 85 | 252 => 86 | 181 => 99 | 184 => 100 | 290 => 101 | 324 => 122 | n => n, fun | 130 => 82 | 9 => 9 | 3 => 3 | 75 => 103 | 0 => 0 | 93 => 80 | 91 => 78 | 131 => 119 | 4 => 4 | 37 => 22 | 20 => 20 | 80 => 147 | 5 => 5 | n => n, fun | 14 => 0 | n => n⟩
theorem Tryz.laysM178 : Go.Proofs.LaysM.n178 Tryz.prog Tryz.laysM178_ren := {
 mixed := by kernel_rfl
 f178 := Tryz.func68.trans (congrArg some (by kernel_rfl))
 f181 := Tryz.func99.trans (congrArg some (by kernel_rfl))
 f184 := Tryz.func100.trans (congrArg some (by kernel_rfl))
 f251 := Tryz.func85.trans (congrArg some (by kernel_rfl))
 f252 := Tryz.func86.trans (congrArg some (by kernel_rfl))
 f290 := Tryz.func101.trans (congrArg some (by kernel_rfl))
 f324 := Tryz.func122.trans (congrArg some (by kernel_rfl))
 t0 := Tryz.underlying0
 a0 := Tryz.isAgg0
 z0 := Tryz.sizeOf0
 v0 := Tryz.zeroValue0
 t3 := Tryz.underlying3
 a3 := Tryz.isAgg3
 z3 := Tryz.sizeOf3
 v3 := Tryz.zeroValue3
 t4 := Tryz.underlying4
 a4 := Tryz.isAgg4
 z4 := Tryz.sizeOf4
 v4 := Tryz.zeroValue4
 t9 := Tryz.underlying9
 a9 := Tryz.isAgg9
 z9 := Tryz.sizeOf9
 v9 := Tryz.zeroValue9
 t20 := Tryz.underlying20
 a20 := Tryz.isAgg20
 z20 := Tryz.sizeOf20
 v20 := Tryz.zeroValue20
 t37 := Tryz.underlying22
 a37 := Tryz.isAgg22
 z37 := Tryz.sizeOf22
 v37 := Tryz.zeroValue22
 t75 := Tryz.underlying103
 a75 := Tryz.isAgg103
 z75 := Tryz.sizeOf103
 v75 := Tryz.zeroValue103
 t91 := Tryz.underlying78
 a91 := Tryz.isAgg78
 z91 := Tryz.sizeOf78
 v91 := Tryz.zeroValue78
 t93 := Tryz.underlying80
 a93 := Tryz.isAgg80
 z93 := Tryz.sizeOf80
 v93 := Tryz.zeroValue80
 t130 := Tryz.underlying82
 a130 := Tryz.isAgg82
 z130 := Tryz.sizeOf82
 v130 := Tryz.zeroValue82
 t131 := Tryz.underlying119
 a131 := Tryz.isAgg119
 z131 := Tryz.sizeOf119
 v131 := Tryz.zeroValue119
 g14 := by kernel_rfl
 t5 := Tryz.underlying5
 a5 := Tryz.isAgg5
 z5 := Tryz.sizeOf5
 v5 := Tryz.zeroValue5
 t80 := Tryz.underlying147
 a80 := Tryz.isAgg147
 z80 := Tryz.sizeOf147
 v80 := Tryz.zeroValue147
 i0 := by kernel_rfl
 i3 := by kernel_rfl
 i4 := by kernel_rfl
 i5 := by kernel_rfl
 i9 := by kernel_rfl
 i20 := by kernel_rfl
 i37 := by kernel_rfl
 i75 := by kernel_rfl
 i80 := by kernel_rfl
 i91 := by kernel_rfl
 i93 := by kernel_rfl
 i130 := by kernel_rfl
 i131 := by kernel_rfl
 m14 := by kernel_rfl }
def Tryz.laysM183_ren : Go.Shelf.Ren := ⟨fun | 183 => 45 | n => n, fun | 130 => 82 | 37 => 22 | 0 => 0 | 93 => 80 | 3 => 3 | 5 => 5 | 91 => 78 | n => n, fun | n => n⟩
theorem Tryz.laysM183 : Go.Proofs.LaysM.n183 Tryz.prog Tryz.laysM183_ren := {
 mixed := by kernel_rfl
 f183 := Tryz.func45.trans (congrArg some (by kernel_rfl))
 t0 := Tryz.underlying0
 a0 := Tryz.isAgg0
 z0 := Tryz.sizeOf0
 v0 := Tryz.zeroValue0
 t3 := Tryz.underlying3
 a3 := Tryz.isAgg3
 z3 := Tryz.sizeOf3
 v3 := Tryz.zeroValue3
 t37 := Tryz.underlying22
 a37 := Tryz.isAgg22
 z37 := Tryz.sizeOf22
 v37 := Tryz.zeroValue22
 t93 := Tryz.underlying80
 a93 := Tryz.isAgg80
 z93 := Tryz.sizeOf80
 v93 := Tryz.zeroValue80
 t130 := Tryz.underlying82
 a130 := Tryz.isAgg82
 z130 := Tryz.sizeOf82
 v130 := Tryz.zeroValue82
 t5 := Tryz.underlying5
 a5 := Tryz.isAgg5
 z5 := Tryz.sizeOf5
 v5 := Tryz.zeroValue5
 t91 := Tryz.underlying78
 a91 := Tryz.isAgg78
 z91 := Tryz.sizeOf78
 v91 := Tryz.zeroValue78
 i0 := by kernel_rfl
 i3 := by kernel_rfl
 i5 := by kernel_rfl
 i37 := by kernel_rfl
 i91 := by kernel_rfl
 i93 := by kernel_rfl
 i130 := by kernel_rfl }
def Tryz.laysM173_ren : Go.Shelf.Ren := ⟨fun | 173 => 70 | 246 => 88 | 283 => 102 | 284 => 103 | 285 => 104 | 286 => 105 | 129 => 124 | 317 => 123 | 318 => 125 | 319 => 126 | 320 => 127 | 337 => 146 | 338 => 147 | n => n, fun | 2 => 2 | 3 => 3 | 9 => 9 | 4 => 4 | 171 => 129 | 0 => 0 | 53 => 54 | 37 => 22 | 5 => 5 | 173 => 132 | 212 => 150 | 51 => 151 | 20 => 20 | 213 => 152 | 46 => 122 | 232 => 179 | 233 => 180 | n => n, fun | 17 => 2 | 18 => 7 | 19 => 8 | n => n⟩
theorem Tryz.laysM173 : Go.Proofs.LaysM.n173 Tryz.prog Tryz.laysM173_ren := {
 mixed := by kernel_rfl
 f129 := Tryz.func124.trans (congrArg some (by kernel_rfl))
 f173 := Tryz.func70.trans (congrArg some (by kernel_rfl))
 f246 := Tryz.func88.trans (congrArg some (by kernel_rfl))
 f283 := Tryz.func102.trans (congrArg some (by kernel_rfl))
 f284 := Tryz.func103.trans (congrArg some (by kernel_rfl))
 f285 := Tryz.func104.trans (congrArg some (by kernel_rfl))
 f286 := Tryz.func105.trans (congrArg some (by kernel_rfl))
 f317 := Tryz.func123.trans (congrArg some (by kernel_rfl))
 f318 := Tryz.func125.trans (congrArg some (by kernel_rfl))
 f319 := Tryz.func126.trans (congrArg some (by kernel_rfl))
 f320 := Tryz.func127.trans (congrArg some (by kernel_rfl))
 f337 := Tryz.func146.trans (congrArg some (by kernel_rfl))
 f338 := Tryz.func147.trans (congrArg some (by kernel_rfl))
 t0 := Tryz.underlying0
 a0 := Tryz.isAgg0
 z0 := Tryz.sizeOf0
 v0 := Tryz.zeroValue0
 t2 := Tryz.underlying2
 a2 := Tryz.isAgg2
 z2 := Tryz.sizeOf2
 v2 := Tryz.zeroValue2
 t3 := Tryz.underlying3
 a3 := Tryz.isAgg3
 z3 := Tryz.sizeOf3
 v3 := Tryz.zeroValue3
 t4 := Tryz.underlying4
 a4 := Tryz.isAgg4
 z4 := Tryz.sizeOf4
 v4 := Tryz.zeroValue4
 t5 := Tryz.underlying5
 a5 := Tryz.isAgg5
 z5 := Tryz.sizeOf5
 v5 := Tryz.zeroValue5
 t9 := Tryz.underlying9
 a9 := Tryz.isAgg9
 z9 := Tryz.sizeOf9
 v9 := Tryz.zeroValue9
 t20 := Tryz.underlying20
 a20 := Tryz.isAgg20
 z20 := Tryz.sizeOf20
 v20 := Tryz.zeroValue20
 t37 := Tryz.underlying22
 a37 := Tryz.isAgg22
 z37 := Tryz.sizeOf22
 v37 := Tryz.zeroValue22
 t46 := Tryz.underlying122
 a46 := Tryz.isAgg122
 z46 := Tryz.sizeOf122
 v46 := Tryz.zeroValue122
 t51 := Tryz.underlying151
 a51 := Tryz.isAgg151
 z51 := Tryz.sizeOf151
 v51 := Tryz.zeroValue151
 t53 := Tryz.underlying54
 a53 := Tryz.isAgg54
 z53 := Tryz.sizeOf54
 v53 := Tryz.zeroValue54
 t171 := Tryz.underlying129
 a171 := Tryz.isAgg129
 z171 := Tryz.sizeOf129
 v171 := Tryz.zeroValue129
 t173 := Tryz.underlying132
 a173 := Tryz.isAgg132
 z173 := Tryz.sizeOf132
 v173 := Tryz.zeroValue132
 t212 := Tryz.underlying150
 a212 := Tryz.isAgg150
 z212 := Tryz.sizeOf150
 v212 := Tryz.zeroValue150
 t213 := Tryz.underlying152
 a213 := Tryz.isAgg152
 z213 := Tryz.sizeOf152
 t232 := Tryz.underlying179
 a232 := Tryz.isAgg179
 z232 := Tryz.sizeOf179
 v232 := Tryz.zeroValue179
 t233 := Tryz.underlying180
 a233 := Tryz.isAgg180
 z233 := Tryz.sizeOf180
 v233 := Tryz.zeroValue180
 g17 := by kernel_rfl
 g18 := by kernel_rfl
 g19 := by kernel_rfl
 i0 := by kernel_rfl
 i2 := by kernel_rfl
 i3 := by kernel_rfl
 i4 := by kernel_rfl
 i5 := by kernel_rfl
 i9 := by kernel_rfl
 i20 := by kernel_rfl
 i37 := by kernel_rfl
 i46 := by kernel_rfl
 i51 := by kernel_rfl
 i53 := by kernel_rfl
 i171 := by kernel_rfl
 i173 := by kernel_rfl
 i212 := by kernel_rfl
 i232 := by kernel_rfl
 i233 := by kernel_rfl
 m17 := by kernel_rfl
 m18 := by kernel_rfl
 m19 := by kernel_rfl }
def Tryz.laysM171_ren : Go.Shelf.Ren := ⟨fun | 171 => 72 | 243 => 89 | 246 => 88 | 283 => 102 | 284 => 103 | 285 => 104 | 286 => 105 | 129 => 124 | 317 => 123 | 318 => 125 | 319 => 126 | 320 => 127 | 337 => 146 | 338 => 147 | n => n, fun | 3 => 3 | 9 => 9 | 2 => 2 | 4 => 4 | 171 => 129 | 0 => 0 | 53 => 54 | 37 => 22 | 5 => 5 | 173 => 132 | 212 => 150 | 51 => 151 | 20 => 20 | 213 => 152 | 46 => 122 | 232 => 179 | 233 => 180 | n => n, fun | 17 => 2 | 18 => 7 | 19 => 8 | n => n⟩
theorem Tryz.laysM171 : Go.Proofs.LaysM.n171 Tryz.prog Tryz.laysM171_ren := {
 mixed := by kernel_rfl
 f129 := Tryz.func124.trans (congrArg some (by kernel_rfl))
 f171 := Tryz.func72.trans (congrArg some (by kernel_rfl))
 f243 := Tryz.func89.trans (congrArg some (by kernel_rfl))
 f246 := Tryz.func88.trans (congrArg some (by kernel_rfl))
 f283 := Tryz.func102.trans (congrArg some (by kernel_rfl))
 f284 := Tryz.func103.trans (congrArg some (by kernel_rfl))
 f285 := Tryz.func104.trans (congrArg some (by kernel_rfl))
 f286 := Tryz.func105.trans (congrArg some (by kernel_rfl))
 f317 := Tryz.func123.trans (congrArg some (by kernel_rfl))
 f318 := Tryz.func125.trans (congrArg some (by kernel_rfl))
 f319 := Tryz.func126.trans (congrArg some (by kernel_rfl))
 f320 := Tryz.func127.trans (congrArg some (by kernel_rfl))
 f337 := Tryz.func146.trans (congrArg some (by kernel_rfl))
 f338 := Tryz.func147.trans (congrArg some (by kernel_rfl))
 t0 := Tryz.underlying0
 a0 := Tryz.isAgg0
 z0 := Tryz.sizeOf0
 v0 := Tryz.zeroValue0
 t2 := Tryz.underlying2
 a2 := Tryz.isAgg2
 z2 := Tryz.sizeOf2
 v2 := Tryz.zeroValue2
 t3 := Tryz.underlying3
 a3 := Tryz.isAgg3
 z3 := Tryz.sizeOf3
 v3 := Tryz.zeroValue3
 t4 := Tryz.underlying4
 a4 := Tryz.isAgg4
 z4 := Tryz.sizeOf4
 v4 := Tryz.zeroValue4
 t5 := Tryz.underlying5
 a5 := Tryz.isAgg5
 z5 := Tryz.sizeOf5
 v5 := Tryz.zeroValue5
 t9 := Tryz.underlying9
 a9 := Tryz.isAgg9
 z9 := Tryz.sizeOf9
 v9 := Tryz.zeroValue9
 t20 := Tryz.underlying20
 a20 := Tryz.isAgg20
 z20 := Tryz.sizeOf20
 v20 := Tryz.zeroValue20
 t37 := Tryz.underlying22
 a37 := Tryz.isAgg22
 z37 := Tryz.sizeOf22
 v37 := Tryz.zeroValue22
 t46 := Tryz.underlying122
 a46 := Tryz.isAgg122
 z46 := Tryz.sizeOf122
 v46 := Tryz.zeroValue122
 t51 := Tryz.underlying151
 a51 := Tryz.isAgg151
 z51 := Tryz.sizeOf151
 v51 := Tryz.zeroValue151
 t53 := Tryz.underlying54
 a53 := Tryz.isAgg54
 z53 := Tryz.sizeOf54
 v53 := Tryz.zeroValue54
 t171 := Tryz.underlying129
 a171 := Tryz.isAgg129
 z171 := Tryz.sizeOf129
 v171 := Tryz.zeroValue129
 t173 := Tryz.underlying132
 a173 := Tryz.isAgg132
 z173 := Tryz.sizeOf132
 v173 := Tryz.zeroValue132
 t212 := Tryz.underlying150
 a212 := Tryz.isAgg150
 z212 := Tryz.sizeOf150
 v212 := Tryz.zeroValue150
 t213 := Tryz.underlying152
 a213 := Tryz.isAgg152
 z213 := Tryz.sizeOf152
 t232 := Tryz.underlying179
 a232 := Tryz.isAgg179
 z232 := Tryz.sizeOf179
 v232 := Tryz.zeroValue179
 t233 := Tryz.underlying180
 a233 := Tryz.isAgg180
 z233 := Tryz.sizeOf180
 v233 := Tryz.zeroValue180
 g17 := by kernel_rfl
 g18 := by kernel_rfl
 g19 := by kernel_rfl
 i0 := by kernel_rfl
 i2 := by kernel_rfl
 i3 := by kernel_rfl
 i4 := by kernel_rfl
 i5 := by kernel_rfl
 i9 := by kernel_rfl
 i20 := by kernel_rfl
 i37 := by kernel_rfl
 i46 := by kernel_rfl
 i51 := by kernel_rfl
 i53 := by kernel_rfl
 i171 := by kernel_rfl
 i173 := by kernel_rfl
 i212 := by kernel_rfl
 i232 := by kernel_rfl
 i233 := by kernel_rfl
 m17 := by kernel_rfl
 m18 := by kernel_rfl
 m19 := by kernel_rfl }
def Tryz.lays121_ren : Go.Shelf.Ren := ⟨fun | 121 => 69 | 214 => 87 | n => n, fun | 4 => 4 | 9 => 9 | n => n, fun | n => n⟩
theorem Tryz.lays121 : Go.Proofs.Lays.n121 Tryz.prog Tryz.lays121_ren := {
 mixed := by kernel_rfl
 f121 := Tryz.func69.trans (congrArg some (by kernel_rfl))
 f214 := Tryz.func87.trans (congrArg some (by kernel_rfl))
 t4 := Tryz.underlying4
 a4 := Tryz.isAgg4
 z4 := Tryz.sizeOf4
 v4 := Tryz.zeroValue4
 t9 := Tryz.underlying9
 a9 := Tryz.isAgg9
 z9 := Tryz.sizeOf9
 v9 := Tryz.zeroValue9 }
end Go.Proofs
namespace Go.Vx
open Go Go.RowKit Go.Proofs
theorem tab_of_glob {G : Gh} {w : World} (h : Glob E G w ((Go.Lib.pow10Tab).map fun z => .int .u64 z) 2) : Lib.TabIs E.P w "internal/strconv.uint64pow10" .u64 Lib.pow10Tab := by
 obtain ⟨h1, ⟨t, hs⟩, _⟩ := h
 unfold Lib.TabIs World.var?
 have hg : E.P.globalNamed "internal/strconv.uint64pow10" = some 2 := by kernel_rfl
 rw [hg]
 simp only [Option.bind_some]
 unfold World.shape? at hs
 split at hs
 ·rename_i c e fz hc
  rw [hc]
  simp only [Option.some.injEq, Prod.mk.injEq] at hs ⊢
  have hsz : c.size = Lib.pow10Tab.length := by rw [hs.2]; simp
  cases h1 with
  | pp _ b off vals hp hcell hrep =>
   apply Array.ext
   ·simp [hsz]
   ·intro i h1 h2
    have hi : i < Lib.pow10Tab.length := by rw [← hsz]; exact h1
    have hl : ((Lib.pow10Tab).map fun z => (Leaf.int (A := E.A) .u64 z))[i]? = some (.int .u64 Lib.pow10Tab[i]) := by simp [hi]
    have e1 := (hcell i (by simpa using hi)).1
    have e2 := (RRep.lf (hrep i _ hl)).int_inv.1
    simp only [World.cell?, hc, Nat.zero_add] at e1
    rw [Array.getElem?_eq_getElem h1] at e1
    simp only [List.getElem_toArray, List.getElem_map]
    rw [← e2]
    simpa using e1
 ·cases hs
theorem grow_below (k : Nat) (w : World) (l : Array Go.Obj) : Below w.heap.size w (Sort.grow (w.drewN k) l) :=
 ⟨rfl, rfl, rfl, by show w.heap.size ≤ (w.heap ++ l).size; simp, fun j hj => by show (w.heap ++ l)[j]? = w.heap[j]?; rw [Array.getElem?_append_left hj]⟩
theorem decDigits_len : ∀ (k m : Nat), m < 10 ^ (k + 1) → (Lib.decDigits m).length ≤ k + 1
 | 0, m, h => by
  unfold Lib.decDigits
  rw [dif_pos (by simpa using h)]; simp
 | k + 1, m, h => by
  unfold Lib.decDigits
  split
  ·simp
  ·have := decDigits_len k (m / 10) (by rw [Nat.pow_succ] at h; omega)
   simp; omega
theorem itoa_len {n : Int} (h : inRb .i64 n = true) : (Lib.itoa n).length ≤ 21 := by
 have h1 : -9223372036854775808 ≤ n ∧ n ≤ 9223372036854775807 := by rw [inRb_iff] at h; exact h
 unfold Lib.itoa
 split
 ·have := decDigits_len 19 n.natAbs (by omega)
  rw [List.length_cons]; omega
 ·have := decDigits_len 19 n.toNat (by omega)
  omega
theorem itoa_rep {n : Int} (h : inRb .i64 n = true) {G : Gh} {w : World} : RRep E G w (.lf (.str (Lib.itoa n))) (.string ⟨(Lib.itoa n).toArray⟩) := by
 have h2 := itoa_len h
 exact .lf (.str ⟨(Lib.itoa n).toArray⟩ (by show (List.toArray _).toList.length ≤ _; rw [List.toList_toArray]; unfold big; omega))
def spec70 : Spec E := fun args os => match args with | [.lf (.int .i64 n), .lf (.int .i64 10)] => .leaf (.lf (.str (Lib.itoa n)), os) | _ => .fail
theorem valid70 (_ : Laws E) : Valid E 70 spec70 := valid_calls' (Go.Proofs.enters_of (fn := Go.Proofs.Tryz.f70) (by kernel_rfl) (by kernel_rfl) rfl) (fun args os r os' h => by
 unfold spec70 at h
 split at h
 ·rename_i n
  injection h with h; injection h with h2 h3
  subst h2; subst h3
  refine ⟨rfl, fun G w vals ha hh => ?_⟩
  obtain ⟨v, u, rfl, hv, hu⟩ := arel_two ha
  obtain ⟨rfl, hn⟩ := hv.int_inv
  obtain ⟨rfl, _⟩ := hu.int_inv
  have h1 : -9223372036854775808 ≤ n ∧ n ≤ 9223372036854775807 := by rw [inRb_iff] at hn; exact hn
  refine (Any.strconv_FormatInt_10 Tryz.laysM173 n h1.1 h1.2 w (tab_of_glob (hh.gl 2 _ rfl))).mono (fun e w' hw => ?_)
  obtain ⟨he, k, l, rfl⟩ := hw
  exact ⟨_, he, grow_below k w l, itoa_rep hn⟩
 ·cases h)
def spec72 : Spec E := fun args os => match args with | [.lf (.int .i64 n)] => .leaf (.lf (.str (Lib.itoa n)), os) | _ => .fail
theorem valid72 (_ : Laws E) : Valid E 72 spec72 := valid_calls' (Go.Proofs.enters_of (fn := Go.Proofs.Tryz.f72) (by kernel_rfl) (by kernel_rfl) rfl) (fun args os r os' h => by
 unfold spec72 at h
 split at h
 ·rename_i n
  injection h with h; injection h with h2 h3
  subst h2; subst h3
  refine ⟨rfl, fun G w vals ha hh => ?_⟩
  obtain ⟨v, rfl, hv⟩ := arel_one ha
  obtain ⟨rfl, hn⟩ := hv.int_inv
  have h1 : -9223372036854775808 ≤ n ∧ n ≤ 9223372036854775807 := by rw [inRb_iff] at hn; exact hn
  refine (Any.strconv_Itoa Tryz.laysM171 n h1.1 h1.2 w (tab_of_glob (hh.gl 2 _ rfl))).mono (fun e w' hw => ?_)
  obtain ⟨he, k, l, rfl⟩ := hw
  exact ⟨_, he, grow_below k w l, itoa_rep hn⟩
 ·cases h)
def spec69 : Spec E := fun args os => match args with | [.lf (.bool b)] => .leaf (.lf (.str (cond b [116, 114, 117, 101] [102, 97, 108, 115, 101])), os) | _ => .fail
theorem valid69 (_ : Laws E) : Valid E 69 spec69 := valid_calls' (Go.Proofs.enters_of (fn := Go.Proofs.Tryz.f69) (by kernel_rfl) (by kernel_rfl) rfl) (fun args os r os' h => by
 unfold spec69 at h
 split at h
 ·rename_i b
  injection h with h; injection h with h2 h3
  subst h2; subst h3
  refine ⟨rfl, fun G w vals ha hh => ?_⟩
  obtain ⟨v, rfl, hv⟩ := arel_one ha
  obtain rfl := hv.bool_inv
  refine (Any.strconv_FormatBool Tryz.lays121 b w).mono (fun e w' hw => ?_)
  obtain ⟨he, rfl⟩ := hw
  refine ⟨_, he, Below.refl _ _, ?_⟩
  have hf : Lib.formatBool b = cond b [116, 114, 117, 101] [102, 97, 108, 115, 101] := by cases b <;> rfl
  rw [hf]
  exact .lf (.str ⟨(cond b [116, 114, 117, 101] [102, 97, 108, 115, 101]).toArray⟩ (by cases b <;> exact of_decide_eq_true rfl))
 ·cases h)
theorem valid_back {Key : Type} [DecidableEq Key] {E : Env Key} {f : FuncId} {spec : Spec E} (he : ∀ args w, (callFunc f args).run E.P w = .ok (.enter f args) w)
  (h : ∀ args os r os', (spec args os).get = some (r, os') → ∀ (G : Gh) (w : World) (vals : Array Value), ARel E G w args vals → HRel E (fun i => os[i]?) G w → G.ver = zero0 → G.cur = zero0 →
   Calls E.P f vals w (fun e w' => ∃ v G', e = .returned v ∧ Back E G w os.length r os' G' v w')) : Valid E f spec := by
 unfold Valid
 intro args os r os' hs G w vals ha hh hv hc
 rw [he]
 exact h args os r os' hs G w vals ha hh hv hc
def spec68 : Spec E := fun args os => match args, os with | [.lf (.ptr 0 0 0), .lf (.str s)], [.wb 80 .nil] => .ite (decide (s.length ≤ 1000000000)) (.leaf (.tup [(false, [.int .i64 s.length]), (false, [.lit .nilIface])], [.wb 80 (.own 0 0 K.u8 s)])) .fail | [.lf (.ptr 0 0 0), .lf (.str s)], [.wb 80 (.own 0 0 .u8 (xs : List UInt8))] => .ite (decide ((xs ++ s).length ≤ 1000000000)) (.leaf (.tup [(false, [.int .i64 s.length]), (false, [.lit .nilIface])], [.wb 80 (.own 0 0 K.u8 (xs ++ s))])) .fail | _, _ => .fail
theorem wrote68 {l : Leaf E.A} {xs s : List UInt8} (hl : wbl l = some xs) (hlen : (xs ++ s).length ≤ 1000000000) {G : Gh} {w : World} {vals : Array Value} (ha : ARel E G w [.lf (.ptr 0 0 0), .lf (.str s)] vals)
  (hh : HRel E (fun i => [Obj.wb (A := E.A) 80 l][i]?) G w) (hv : G.ver = zero0) (hc : G.cur = zero0) :
  Calls E.P 68 vals w (fun e w' => ∃ v G', e = .returned v ∧ Back E G w 1 (.tup [(false, [.int .i64 s.length]), (false, [.lit .nilIface])]) [.wb 80 (.own 0 0 K.u8 (xs ++ s))] G' v w') := by
 obtain ⟨pv, sv, rfl, hp, hs⟩ := arel_two ha
 obtain ⟨ba, rfl, rfl, hsz⟩ := hs.str_inv
 have hob := hh.ob 0 (.wb 80 l) rfl
 rcases hob with ⟨b, hb, hor⟩ | ⟨⟨k, h⟩, _⟩
 ·cases hor with
  | @wb _ v _ _ lr hbk hr hwr =>
   cases hp with
   | lf hp =>
    obtain ⟨b1, rfl, _, hb1⟩ := hp.ptr_inv
    have hb1 := hb1 (by rw [hv]; rfl)
    rw [hb] at hb1; injection hb1 with hb1; subst hb1
    have hrow := (wb_row hh hb hc hl hr hwr).1
    have hls : ba.size = ba.data.toList.length := Lib.size_eq ba
    rw [List.length_append] at hlen
    refine (Any.Buffer_WriteString_x Tryz.laysM178 b lr v (Lib.byteCells xs) ba w hbk hrow (byteCells_one xs) (by rw [Lib.byteCells_length, hls]; omega)).mono (fun e w' hw => ?_)
    obtain ⟨he, hwr'⟩ := hw
    obtain ⟨G', h1, h2, h3, h4, h5⟩ := wrote_back hh hv hc hb hbk hr hwr hl hwr'
    refine ⟨_, G', he, ⟨?_, h1, h2, h3, fun i _ => h4 i, h5⟩⟩
    rw [hls]
    refine tup97 (.int ?_) (.lit rfl)
    rw [inRb_iff]
    exact ⟨show (-9223372036854775808 : Int) ≤ _ by omega, show _ ≤ (9223372036854775807 : Int) by omega⟩
 ·cases h
theorem valid68 (_ : Laws E) : Valid E 68 spec68 := valid_back (Go.Proofs.enters_of (fn := Go.Proofs.Tryz.f68) (by kernel_rfl) (by kernel_rfl) rfl) (fun args os r os' h G w vals ha hh hv hc => by
 unfold spec68 at h
 split at h
 ·rename_i s
  rcases Tree.get_ite_some h with ⟨h1, h⟩ | ⟨_, h⟩
  ·injection h with h; injection h with h2 h3
   subst h2; subst h3
   exact wrote68 (xs := []) rfl (of_decide_eq_true h1) ha hh hv hc
  ·cases h
 ·rename_i s xs
  rcases Tree.get_ite_some h with ⟨h1, h⟩ | ⟨_, h⟩
  ·injection h with h; injection h with h2 h3
   subst h2; subst h3
   exact wrote68 (xs := xs) rfl (of_decide_eq_true h1) ha hh hv hc
  ·cases h
 ·cases h)
def spec45 : Spec E := fun args os => match args, os with | [.lf (.ptr 0 0 0)], [.wb 80 .nil] => .leaf (.lf .nil, os) | [.lf (.ptr 0 0 0)], [.wb 80 (.own 0 0 .u8 (xs : List UInt8))] => .leaf (.lf (.sl K.u8 xs), os) | _, _ => .fail
theorem bytes45 {l l' : Leaf E.A} {xs : List UInt8} (hl : wbl l = some xs) (hval : ∀ {G : Gh} {w : World} {v : Value}, Rep E G w l v → Rep E G w l' v) :
  ∀ (G : Gh) (w : World) (vals : Array Value), ARel E G w [.lf (.ptr 0 0 0)] vals → HRel E (fun i => [Obj.wb (A := E.A) 80 l][i]?) G w → G.ver = zero0 → G.cur = zero0 →
  Calls E.P 45 vals w (fun e w' => ∃ v G', e = .returned v ∧ Back E G w 1 (.lf l') [.wb 80 l] G' v w') := by
 intro G w vals ha hh hv hc
 obtain ⟨pv, rfl, hp⟩ := arel_one ha
 have hob := hh.ob 0 (.wb 80 l) rfl
 rcases hob with ⟨b, hb, hor⟩ | ⟨⟨k, h⟩, _⟩
 ·cases hor with
  | @wb _ v _ _ lr hbk hr hwr =>
   cases hp with
   | lf hp =>
    obtain ⟨b1, rfl, _, hb1⟩ := hp.ptr_inv
    have hb1 := hb1 (by rw [hv]; rfl)
    rw [hb] at hb1; injection hb1 with hb1; subst hb1
    have hrow := (wb_row hh hb hc hl hr hwr).1
    refine (Any.Buffer_Bytes_x Tryz.laysM183 b lr v (Lib.byteCells xs) w hbk hrow).mono (fun e w' hw => ?_)
    obtain ⟨he, n, rfl⟩ := hw
    have hs : SameHeap w (w.drewN n) := ⟨rfl, rfl, rfl, rfl⟩
    exact ⟨_, G, he, ⟨.lf ((hval hr).mono (hs.ext G)), hh.same hs, hv, hc, fun _ _ => rfl, hs.fr G⟩⟩
 ·cases h
theorem valid45 (_ : Laws E) : Valid E 45 spec45 := valid_back (Go.Proofs.enters_of (fn := Go.Proofs.Tryz.f45) (by kernel_rfl) (by kernel_rfl) rfl) (fun args os r os' h G w vals ha hh hv hc => by
 unfold spec45 at h
 split at h
 ·injection h with h; injection h with h2 h3
  subst h2; subst h3
  exact bytes45 (l := .nil) (l' := .nil) (xs := []) rfl id G w vals ha hh hv hc
 ·rename_i xs
  injection h with h; injection h with h2 h3
  subst h2; subst h3
  exact bytes45 (l := .own 0 0 K.u8 xs) (l' := .sl K.u8 xs) (xs := xs) rfl (fun h => by cases h with | own hsl => exact hsl) G w vals ha hh hv hc
 ·cases h)
end Go.Vx
end
