/-
  Part 5 of the proof: the second reading of the model, its laws, and the functions' contracts. Lemmas alone.
-/
import Derived.Shelf.LaysM
import Derived.Shelf.Strconv.Itoa3
import Derived.Test.YtmllilgelombiaaDoorA3
set_option linter.unusedSectionVars false
set_option linter.unusedVariables false
set_option linter.unusedSimpArgs false
namespace Go.Proofs
open Go.Shelf
def Tryd.laysM171_ren : Go.Shelf.Ren := ⟨fun | 171 => 30 | 243 => 48 | 246 => 58 | 283 => 67 | 284 => 68 | 285 => 69 | 286 => 70 | 129 => 81 | 317 => 80 | 318 => 82 | 319 => 83 | 320 => 84 | 337 => 90 | 338 => 91 | n => n, fun | 3 => 3 | 9 => 9 | 2 => 2 | 4 => 4 | 171 => 131 | 0 => 0 | 53 => 67 | 37 => 30 | 5 => 5 | 173 => 134 | 212 => 146 | 51 => 70 | 20 => 20 | 213 => 147 | 46 => 104 | 232 => 157 | 233 => 158 | n => n, fun | 17 => 1 | 18 => 4 | 19 => 5 | n => n⟩
theorem Tryd.laysM171 : Go.Proofs.LaysM.n171 Tryd.prog Tryd.laysM171_ren := {
  mixed := by kernel_rfl
  f129 := Tryd.func81.trans (congrArg some (by kernel_rfl))
  f171 := Tryd.func30.trans (congrArg some (by kernel_rfl))
  f243 := Tryd.func48.trans (congrArg some (by kernel_rfl))
  f246 := Tryd.func58.trans (congrArg some (by kernel_rfl))
  f283 := Tryd.func67.trans (congrArg some (by kernel_rfl))
  f284 := Tryd.func68.trans (congrArg some (by kernel_rfl))
  f285 := Tryd.func69.trans (congrArg some (by kernel_rfl))
  f286 := Tryd.func70.trans (congrArg some (by kernel_rfl))
  f317 := Tryd.func80.trans (congrArg some (by kernel_rfl))
  f318 := Tryd.func82.trans (congrArg some (by kernel_rfl))
  f319 := Tryd.func83.trans (congrArg some (by kernel_rfl))
  f320 := Tryd.func84.trans (congrArg some (by kernel_rfl))
  f337 := Tryd.func90.trans (congrArg some (by kernel_rfl))
  f338 := Tryd.func91.trans (congrArg some (by kernel_rfl))
  t0 := Tryd.underlying0
  a0 := Tryd.isAgg0
  z0 := Tryd.sizeOf0
  v0 := Tryd.zeroValue0
  t2 := Tryd.underlying2
  a2 := Tryd.isAgg2
  z2 := Tryd.sizeOf2
  v2 := Tryd.zeroValue2
  t3 := Tryd.underlying3
  a3 := Tryd.isAgg3
  z3 := Tryd.sizeOf3
  v3 := Tryd.zeroValue3
  t4 := Tryd.underlying4
  a4 := Tryd.isAgg4
  z4 := Tryd.sizeOf4
  v4 := Tryd.zeroValue4
  t5 := Tryd.underlying5
  a5 := Tryd.isAgg5
  z5 := Tryd.sizeOf5
  v5 := Tryd.zeroValue5
  t9 := Tryd.underlying9
  a9 := Tryd.isAgg9
  z9 := Tryd.sizeOf9
  v9 := Tryd.zeroValue9
  t20 := Tryd.underlying20
  a20 := Tryd.isAgg20
  z20 := Tryd.sizeOf20
  v20 := Tryd.zeroValue20
  t37 := Tryd.underlying30
  a37 := Tryd.isAgg30
  z37 := Tryd.sizeOf30
  v37 := Tryd.zeroValue30
  t46 := Tryd.underlying104
  a46 := Tryd.isAgg104
  z46 := Tryd.sizeOf104
  v46 := Tryd.zeroValue104
  t51 := Tryd.underlying70
  a51 := Tryd.isAgg70
  z51 := Tryd.sizeOf70
  v51 := Tryd.zeroValue70
  t53 := Tryd.underlying67
  a53 := Tryd.isAgg67
  z53 := Tryd.sizeOf67
  v53 := Tryd.zeroValue67
  t171 := Tryd.underlying131
  a171 := Tryd.isAgg131
  z171 := Tryd.sizeOf131
  v171 := Tryd.zeroValue131
  t173 := Tryd.underlying134
  a173 := Tryd.isAgg134
  z173 := Tryd.sizeOf134
  v173 := Tryd.zeroValue134
  t212 := Tryd.underlying146
  a212 := Tryd.isAgg146
  z212 := Tryd.sizeOf146
  v212 := Tryd.zeroValue146
  t213 := Tryd.underlying147
  a213 := Tryd.isAgg147
  z213 := Tryd.sizeOf147
  t232 := Tryd.underlying157
  a232 := Tryd.isAgg157
  z232 := Tryd.sizeOf157
  v232 := Tryd.zeroValue157
  t233 := Tryd.underlying158
  a233 := Tryd.isAgg158
  z233 := Tryd.sizeOf158
  v233 := Tryd.zeroValue158
  g17 := by kernel_rfl
  g18 := by kernel_rfl
  g19 := by kernel_rfl
  i0 := by kernel_rfl
  i2 := by kernel_rfl
  i3 := by kernel_rfl
  i4 := by kernel_rfl
  i5 := by kernel_rfl
  i9 := by kernel_rfl
  i20 := by kernel_rfl
  i37 := by kernel_rfl
  i46 := by kernel_rfl
  i51 := by kernel_rfl
  i53 := by kernel_rfl
  i171 := by kernel_rfl
  i173 := by kernel_rfl
  i212 := by kernel_rfl
  i232 := by kernel_rfl
  i233 := by kernel_rfl
  m17 := by kernel_rfl
  m18 := by kernel_rfl
  m19 := by kernel_rfl }
open Go.RowKit Go.Sort Go.Lib in
/-- strconv.Itoa: "Itoa is equivalent to FormatInt(int64(i), 10).": i's DECIMAL NUMERAL ('Lib.itoa': a '-' where i is negative, then the digits), FOR EVERY int. The world behind the call: the world before it, new blocks behind the heap (the library's 'var a [24]byte'), draws. (LAID: no walk: one application.) -/
theorem Tryd.strconv_Itoa (n : Int) (h0 : -9223372036854775808 ≤ n) (h1 : n ≤ 9223372036854775807) (w : World) (htab : Lib.TabIs Tryd.prog w "internal/strconv.uint64pow10" .u64 Lib.pow10Tab) :
    Calls Tryd.prog 30 #[.int .i64 n] w fun e w' => e = .returned (.string ⟨(Lib.itoa n).toArray⟩) ∧ ∃ k os, w' = grow (w.drewN k) os := Any.strconv_Itoa Tryd.laysM171 n h0 h1 w htab
end Go.Proofs
namespace Go.Vx
open Go Go.RowKit
theorem tab_of_glob {G : Gh} {w : World} (h : Glob E G w ((Go.Lib.pow10Tab).map fun z => .int .u64 z) 1) : Lib.TabIs E.P w "internal/strconv.uint64pow10" .u64 Lib.pow10Tab := by
  obtain ⟨h1, ⟨t, hs⟩, _⟩ := h
  unfold Lib.TabIs World.var?
  have hg : E.P.globalNamed "internal/strconv.uint64pow10" = some 1 := by kernel_rfl
  rw [hg]
  simp only [Option.bind_some]
  unfold World.shape? at hs
  split at hs
  · rename_i c e fz hc
    rw [hc]
    simp only [Option.some.injEq, Prod.mk.injEq] at hs ⊢
    have hsz : c.size = Lib.pow10Tab.length := by rw [hs.2]; simp
    cases h1 with
    | pp _ b off vals hp hcell hrep =>
      apply Array.ext
      · simp [hsz]
      · intro i h1 h2
        have hi : i < Lib.pow10Tab.length := by rw [← hsz]; exact h1
        have hl : ((Lib.pow10Tab).map fun z => (Leaf.int (A := E.A) .u64 z))[i]? = some (.int .u64 Lib.pow10Tab[i]) := by simp [hi]
        have e1 := (hcell i (by simpa using hi)).1
        have e2 := (RRep.lf (hrep i _ hl)).int_inv.1
        simp only [World.cell?, hc, Nat.zero_add] at e1
        rw [Array.getElem?_eq_getElem h1] at e1
        simp only [List.getElem_toArray, List.getElem_map]
        rw [← e2]
        simpa using e1
  · cases hs
theorem itoa_len : ∀ n : Nat, (Lib.decDigits n).length ≤ n + 1 := by
  intro n
  induction n using Nat.strongRecOn with
  | ind n ih =>
    unfold Lib.decDigits
    split
    · simp
    · have := ih (n / 10) (by omega)
      simp only [List.length_append, List.length_cons, List.length_nil]; omega
/-- strconv.Itoa -/
def spec30 : Spec E := fun args os => match args with
  | [.lf (.int .i64 n)] => .ite (leI 0 n && leI n 1000000) (.leaf (.lf (.str (Lib.decDigits n.toNat)), os)) .fail
  | _ => .fail
theorem grow_below (k : Nat) (w : World) (l : Array Go.Obj) : Below w.heap.size w (Sort.grow (w.drewN k) l) :=
  ⟨rfl, rfl, rfl, by show w.heap.size ≤ (w.heap ++ l).size; simp, fun j hj => by show (w.heap ++ l)[j]? = w.heap[j]?; rw [Array.getElem?_append_left hj]⟩
theorem valid30 (_ : Laws E) : Valid E 30 spec30 := valid_calls (fun args w => rfl) (fun args os r os' h => by
  unfold spec30 at h
  split at h
  · rename_i n
    rcases Tree.get_ite_some h with ⟨h1, h⟩ | ⟨_, h⟩
    · injection h with h; injection h with h2 h3
      subst h2; subst h3
      simp only [leI_eq, Bool.and_eq_true, decide_eq_true_eq] at h1
      refine ⟨rfl, fun G w vals ha hh => ?_⟩
      obtain ⟨v, rfl, hv⟩ := arel_one ha
      obtain ⟨rfl, _⟩ := hv.int_inv
      have hlt : ¬ n < 0 := by omega
      have hi : Lib.itoa n = Lib.decDigits n.toNat := by unfold Lib.itoa; rw [if_neg hlt]
      refine ⟨.string ⟨(Lib.decDigits n.toNat).toArray⟩, (Go.Proofs.Tryd.strconv_Itoa n (by omega) (by omega) w (tab_of_glob (hh.gl 1 _ rfl))).mono (fun e w' hw => ?_), fun w' _ => ?_⟩
      · obtain ⟨he, k, l, rfl⟩ := hw
        rw [hi] at he
        exact ⟨he, grow_below k w l⟩
      · have := Rep.str (E := E) (G := G) (w := w') ⟨(Lib.decDigits n.toNat).toArray⟩ (by have := itoa_len n.toNat; unfold big; simp; omega)
        exact .lf this
    · cases h
  · cases h)
end Go.Vx
