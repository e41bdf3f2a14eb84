/-
  Part 7 of the proof: the second reading of the model, its laws, and the functions' contracts. Lemmas alone.
-/
import Derived.Shelf.LaysM
import Derived.Shelf.RegionOpenPlain
import Derived.Shelf.Bytes.Len
import Derived.Shelf.Bytes.TryGrow
import Derived.Shelf.Bytes.GrowSlice
import Derived.Lib.ByteType
import Derived.Lib.BufferOwn
import Derived.Lib.Walk
import Derived.Lib.Buffer
import Derived.Lib.BufferMore
import Derived.Lib.BufferGrow
import Derived.Lib.Hide
import Derived.Laws.MakeOwn
import Derived.WalkKit
import Derived.RegionTactic
import Derived.Deep.RegionWith
import Derived.Deep.Draws
import Derived.BigCall
import Derived.BigGuard
import Derived.Lib.BufferKept
import Derived.Lib.BufferWrite
import Derived.Shelf.Bytes.Bytes
import Derived.Test.YtjnmckakmljejaaGreatDoorA2
import Derived.Test.YtjnmckakmljejaaGreatDoorA3
import Derived.Test.YtjnmckakmljejaaGreatDoorA4
import Derived.Test.YtjnmckakmljejaaGreatDoorA6
set_option linter.unusedSectionVars false
set_option linter.unusedVariables false
set_option linter.unusedSimpArgs false
namespace Go.Vx
open Go
noncomputable def G36 (n : Nat) : FuncId → Option (Spec E)
  | 23 => some spec23
  | 50 => some spec50
  | 52 => some spec52
  | 53 => some spec53
  | 54 => some spec54
  | 55 => some spec55
  | 51 => some (spec51N n)
  | _ => none
theorem hG36 (hL : Laws E) (n : Nat) (hN : Valid E 51 (spec51N n)) : ∀ f spec, (G36 n) f = some spec → Valid E f spec := by
  intro f spec h
  unfold G36 at h
  split at h
  · injection h with h; subst h; exact valid23 hL
  · injection h with h; subst h; exact valid50 hL
  · injection h with h; subst h; exact valid52 hL
  · injection h with h; subst h; exact valid53 hL
  · injection h with h; subst h; exact valid54 hL
  · injection h with h; subst h; exact valid55 hL
  · injection h with h; subst h; exact hN
  · cases h
noncomputable def w36 (n : Nat) (p : List UInt8) (at_ : Int) (d : Int) : Tree (RV E.A × List (Obj E.A)) :=
 .ite (ltI 32 d)
 (.leaf (.tup [(true, [.int .u8 ((0 : Int)), .int .i64 ((0 : Int)), .int .i64 ((0 : Int)), .str [], .sl .val [], .sl .str []]), (false, [.int .i64 ((2 : Int))])], [.cells 66 [.sl .u8 p, .int .i64 at_]]))
 (.ite (Px.okAt p at_ && [(60 : UInt8), (60 : UInt8)].length.ble (1000 : Nat))
  (.ite (Px.preAt p (Px.skipI p at_) [(60 : UInt8), (60 : UInt8)])
   (.ite (Px.okAt p (Px.skipI p at_ + (↑[(60 : UInt8), (60 : UInt8)].length : Int)) && leI 0 d && ltI d 33 && leI 33 (d + (↑n : Int)) && Nat.ble (1 : Nat) [(62 : UInt8), (62 : UInt8)].length && [(62 : UInt8), (62 : UInt8)].length.ble (1000 : Nat))
    (.leaf (.tup [(true, [.int .u8 (Px.vk (Px.oList p d (6 : Int) [(62 : UInt8), (62 : UInt8)] (Px.skipI p at_ + (↑[(60 : UInt8), (60 : UInt8)].length : Int))).1), .int .i64 (Px.vn (Px.oList p d (6 : Int) [(62 : UInt8), (62 : UInt8)] (Px.skipI p at_ + (↑[(60 : UInt8), (60 : UInt8)].length : Int))).1), .int .i64 (Px.vg (Px.oList p d (6 : Int) [(62 : UInt8), (62 : UInt8)] (Px.skipI p at_ + (↑[(60 : UInt8), (60 : UInt8)].length : Int))).1), .str (Px.vt (Px.oList p d (6 : Int) [(62 : UInt8), (62 : UInt8)] (Px.skipI p at_ + (↑[(60 : UInt8), (60 : UInt8)].length : Int))).1), .sl .val (Px.vl (Px.oList p d (6 : Int) [(62 : UInt8), (62 : UInt8)] (Px.skipI p at_ + (↑[(60 : UInt8), (60 : UInt8)].length : Int))).1), .sl .str (Px.vs (Px.oList p d (6 : Int) [(62 : UInt8), (62 : UInt8)] (Px.skipI p at_ + (↑[(60 : UInt8), (60 : UInt8)].length : Int))).1)]), (false, [.int .i64 ((Px.oList p d (6 : Int) [(62 : UInt8), (62 : UInt8)] (Px.skipI p at_ + (↑[(60 : UInt8), (60 : UInt8)].length : Int))).2.1)])], [.cells 66 [.sl .u8 p, .int .i64 ((Px.oList p d (6 : Int) [(62 : UInt8), (62 : UInt8)] (Px.skipI p at_ + (↑[(60 : UInt8), (60 : UInt8)].length : Int))).2.2)]]))
    (.fail))
   (.ite (Px.okAt p (Px.skipI p at_) && [(91 : UInt8)].length.ble (1000 : Nat))
    (.ite (Px.preAt p (Px.skipI p (Px.skipI p at_)) [(91 : UInt8)])
     (.ite (Px.okAt p (Px.skipI p (Px.skipI p at_) + (↑[(91 : UInt8)].length : Int)) && leI 0 d && ltI d 33 && leI 33 (d + (↑n : Int)) && Nat.ble (1 : Nat) [(93 : UInt8)].length && [(93 : UInt8)].length.ble (1000 : Nat))
      (.leaf (.tup [(true, [.int .u8 (Px.vk (Px.oList p d (5 : Int) [(93 : UInt8)] (Px.skipI p (Px.skipI p at_) + (↑[(91 : UInt8)].length : Int))).1), .int .i64 (Px.vn (Px.oList p d (5 : Int) [(93 : UInt8)] (Px.skipI p (Px.skipI p at_) + (↑[(91 : UInt8)].length : Int))).1), .int .i64 (Px.vg (Px.oList p d (5 : Int) [(93 : UInt8)] (Px.skipI p (Px.skipI p at_) + (↑[(91 : UInt8)].length : Int))).1), .str (Px.vt (Px.oList p d (5 : Int) [(93 : UInt8)] (Px.skipI p (Px.skipI p at_) + (↑[(91 : UInt8)].length : Int))).1), .sl .val (Px.vl (Px.oList p d (5 : Int) [(93 : UInt8)] (Px.skipI p (Px.skipI p at_) + (↑[(91 : UInt8)].length : Int))).1), .sl .str (Px.vs (Px.oList p d (5 : Int) [(93 : UInt8)] (Px.skipI p (Px.skipI p at_) + (↑[(91 : UInt8)].length : Int))).1)]), (false, [.int .i64 ((Px.oList p d (5 : Int) [(93 : UInt8)] (Px.skipI p (Px.skipI p at_) + (↑[(91 : UInt8)].length : Int))).2.1)])], [.cells 66 [.sl .u8 p, .int .i64 ((Px.oList p d (5 : Int) [(93 : UInt8)] (Px.skipI p (Px.skipI p at_) + (↑[(91 : UInt8)].length : Int))).2.2)]]))
      (.fail))
     (.ite (Px.okAt p (Px.skipI p (Px.skipI p at_)) && [(60 : UInt8)].length.ble (1000 : Nat))
      (.ite (Px.preAt p (Px.skipI p (Px.skipI p (Px.skipI p at_))) [(60 : UInt8)])
       (.ite (Px.okAt p (Px.skipI p (Px.skipI p (Px.skipI p at_)) + (↑[(60 : UInt8)].length : Int)))
        (.leaf (.tup [(true, [.int .u8 (Px.vk (Px.oText p (Px.skipI p (Px.skipI p (Px.skipI p at_)) + (↑[(60 : UInt8)].length : Int))).1), .int .i64 (Px.vn (Px.oText p (Px.skipI p (Px.skipI p (Px.skipI p at_)) + (↑[(60 : UInt8)].length : Int))).1), .int .i64 (Px.vg (Px.oText p (Px.skipI p (Px.skipI p (Px.skipI p at_)) + (↑[(60 : UInt8)].length : Int))).1), .str (Px.vt (Px.oText p (Px.skipI p (Px.skipI p (Px.skipI p at_)) + (↑[(60 : UInt8)].length : Int))).1), .sl .val (Px.vl (Px.oText p (Px.skipI p (Px.skipI p (Px.skipI p at_)) + (↑[(60 : UInt8)].length : Int))).1), .sl .str (Px.vs (Px.oText p (Px.skipI p (Px.skipI p (Px.skipI p at_)) + (↑[(60 : UInt8)].length : Int))).1)]), (false, [.int .i64 ((Px.oText p (Px.skipI p (Px.skipI p (Px.skipI p at_)) + (↑[(60 : UInt8)].length : Int))).2.1)])], [.cells 66 [.sl .u8 p, .int .i64 ((Px.oText p (Px.skipI p (Px.skipI p (Px.skipI p at_)) + (↑[(60 : UInt8)].length : Int))).2.2)]]))
        (.fail))
       (.ite (Px.okAt p (Px.skipI p (Px.skipI p (Px.skipI p at_))))
        (.ite (Px.preAt p (Px.skipI p (Px.skipI p (Px.skipI p (Px.skipI p at_)))) [(40 : UInt8)])
         (.leaf (.tup [(true, [.int .u8 ((0 : Int)), .int .i64 ((0 : Int)), .int .i64 ((0 : Int)), .str [], .sl .val [], .sl .str []]), (false, [.int .i64 ((14 : Int))])], [.cells 66 [.sl .u8 p, .int .i64 (Px.skipI p (Px.skipI p (Px.skipI p (Px.skipI p at_))))]]))
         (.ite (Px.okAt p (Px.skipI p (Px.skipI p (Px.skipI p (Px.skipI p at_)))) && [(47 : UInt8)].length.ble (1000 : Nat))
          (.ite (Px.preAt p (Px.skipI p (Px.skipI p (Px.skipI p (Px.skipI p (Px.skipI p at_))))) [(47 : UInt8)])
           (.ite (Px.okAt p (Px.skipI p (Px.skipI p (Px.skipI p (Px.skipI p (Px.skipI p at_)))) + (↑[(47 : UInt8)].length : Int)))
            (.ite (!eqI (Px.oName p (Px.skipI p (Px.skipI p (Px.skipI p (Px.skipI p (Px.skipI p at_)))) + (↑[(47 : UInt8)].length : Int))).2.1 (0 : Int))
             (.leaf (.tup [(true, [.int .u8 ((0 : Int)), .int .i64 ((0 : Int)), .int .i64 ((0 : Int)), .str [], .sl .val [], .sl .str []]), (false, [.int .i64 ((Px.oName p (Px.skipI p (Px.skipI p (Px.skipI p (Px.skipI p (Px.skipI p at_)))) + (↑[(47 : UInt8)].length : Int))).2.1)])], [.cells 66 [.sl .u8 p, .int .i64 ((Px.oName p (Px.skipI p (Px.skipI p (Px.skipI p (Px.skipI p (Px.skipI p at_)))) + (↑[(47 : UInt8)].length : Int))).2.2)]]))
             (.leaf (.tup [(true, [.int .u8 ((3 : Int)), .int .i64 ((0 : Int)), .int .i64 ((0 : Int)), .str ((Px.oName p (Px.skipI p (Px.skipI p (Px.skipI p (Px.skipI p (Px.skipI p at_)))) + (↑[(47 : UInt8)].length : Int))).1), .sl .val [], .sl .str []]), (false, [.int .i64 ((0 : Int))])], [.cells 66 [.sl .u8 p, .int .i64 ((Px.oName p (Px.skipI p (Px.skipI p (Px.skipI p (Px.skipI p (Px.skipI p at_)))) + (↑[(47 : UInt8)].length : Int))).2.2)]])))
            (.fail))
           (.ite (Px.okAt p (Px.skipI p (Px.skipI p (Px.skipI p (Px.skipI p (Px.skipI p at_))))))
            (.leaf (.tup [(true, [.int .u8 (Px.vk (Px.oWord p (Px.skipI p (Px.skipI p (Px.skipI p (Px.skipI p (Px.skipI p at_)))))).1), .int .i64 (Px.vn (Px.oWord p (Px.skipI p (Px.skipI p (Px.skipI p (Px.skipI p (Px.skipI p at_)))))).1), .int .i64 (Px.vg (Px.oWord p (Px.skipI p (Px.skipI p (Px.skipI p (Px.skipI p (Px.skipI p at_)))))).1), .str (Px.vt (Px.oWord p (Px.skipI p (Px.skipI p (Px.skipI p (Px.skipI p (Px.skipI p at_)))))).1), .sl .val (Px.vl (Px.oWord p (Px.skipI p (Px.skipI p (Px.skipI p (Px.skipI p (Px.skipI p at_)))))).1), .sl .str (Px.vs (Px.oWord p (Px.skipI p (Px.skipI p (Px.skipI p (Px.skipI p (Px.skipI p at_)))))).1)]), (false, [.int .i64 ((Px.oWord p (Px.skipI p (Px.skipI p (Px.skipI p (Px.skipI p (Px.skipI p at_)))))).2.1)])], [.cells 66 [.sl .u8 p, .int .i64 ((Px.oWord p (Px.skipI p (Px.skipI p (Px.skipI p (Px.skipI p (Px.skipI p at_)))))).2.2)]]))
            (.fail)))
          (.fail)))
        (.fail)))
      (.fail)))
    (.fail)))
  (.fail))
theorem e36 (n : Nat) (p : List UInt8) (at_ : Int) (d : Int) : execFun E (G36 n) (fun _ _ => .fail) false Go.Proofs.Tryz.f36 [.lf (.ptr 0 0 0), .lf (.int .i64 d)] [.cells 66 [.sl .u8 p, .int .i64 at_]] some = (w36 n p at_ d).get := by kernel_rfl
noncomputable def raw36 (n : Nat) : Spec E := fun args os => match args, os with
  | [.lf (.ptr 0 0 0), .lf (.int .i64 d)], [.cells 66 [.sl .u8 p, .int .i64 at_]] => w36 n p at_ d
  | _, _ => .fail
theorem validraw36 (hL : Laws E) (n : Nat) (hN : Valid E 51 (spec51N n)) : Valid E 36 (raw36 n) :=
  valid_of_body hL (hG36 hL n hN) (Λ := fun _ _ => .fail) (fn := Go.Proofs.Tryz.f36) (keep := false) (by kernel_rfl) (by kernel_rfl) (by kernel_rfl) (LamOK.none (by kernel_rfl)) (fun args os r os' h => by
    unfold raw36 at h
    split at h
    · exact (e36 _ _ _ _).trans h
    · cases h)
theorem ite_get {α : Type} {b : Bool} {t e : Tree α} (h : b = true) : (Tree.ite b t e).get = t.get := by rw [h]; rfl
theorem eq36 {n : Nat} {p : List UInt8} {i d : Int} (h : Px.okAt p i = true) (d0 : 0 ≤ d) (d1 : d < 34) (d2 : 34 ≤ d + ((n + 1 : Nat) : Int)) :
    (w36 n p i d).get = some (.tup [(true, [.int .u8 (Px.vk (Px.oValue p d i).1), .int .i64 (Px.vn (Px.oValue p d i).1), .int .i64 (Px.vg (Px.oValue p d i).1), .str (Px.vt (Px.oValue p d i).1), .sl .val (Px.vl (Px.oValue p d i).1), .sl .str (Px.vs (Px.oValue p d i).1)]), (false, [.int .i64 (Px.oValue p d i).2.1])], [.cells 66 [.sl .u8 p, .int .i64 (Px.oValue p d i).2.2]]) := by
  have h1 := Px.ok_skip h
  have h2 := Px.ok_skip h1
  have h3 := Px.ok_skip h2
  have h4 := Px.ok_skip h3
  have h5 := Px.ok_skip h4
  by_cases hd : d = 33
  · subst hd
    have e : Px.oValue p 33 i = (Px.v0, 2, i) := rfl
    rw [e]
    rfl
  · obtain ⟨m, rfl⟩ : ∃ m : Nat, d = 32 - (m : Int) := ⟨(32 - d).toNat, by omega⟩
    have e0 : ltI 32 (32 - (m : Int)) = false := by rw [ltI_eq]; exact decide_eq_false (by omega)
    have e1 : Px.oValue p (32 - (m : Int)) i = Px.oValueF (m + 1) p i := by
      unfold Px.oValue
      rw [show (33 - (32 - (m : Int))).toNat = m + 1 by omega]
    have e2 : Px.oValue p (32 - (m : Int) + 1) = Px.oValueF m p := by
      funext j
      unfold Px.oValue
      rw [show (33 - (32 - (m : Int) + 1)).toNat = m by omega]
    have el : ∀ kind e j, Px.oList p (32 - (m : Int)) kind e j = Px.oListGo (Px.oValueF m p) p kind e (p.length + 2) j [] [] := by
      intro kind e j
      unfold Px.oList
      rw [e2]
    have l1 : (([(60 : UInt8), (60 : UInt8)].length : Nat) : Int) = 2 := rfl
    have l2 : ∀ b : UInt8, (([b].length : Nat) : Int) = 1 := fun _ => rfl
    have b1 : ([(60 : UInt8), (60 : UInt8)].length.ble (1000 : Nat)) = true := rfl
    have b2 : ∀ b : UInt8, ([b].length.ble (1000 : Nat)) = true := fun _ => rfl
    have gd : (leI 0 (32 - (m : Int)) && ltI (32 - (m : Int)) 33 && leI 33 (32 - (m : Int) + (n : Int))) = true := by
      simp only [leI_eq, ltI_eq, Bool.and_eq_true, decide_eq_true_eq]; omega
    have gl : ∀ (j : Int), Px.okAt p j = true → (Px.okAt p j && leI 0 (32 - (m : Int)) && ltI (32 - (m : Int)) 33 && leI 33 (32 - (m : Int) + (n : Int)) && Nat.ble 1 [(62 : UInt8), (62 : UInt8)].length && [(62 : UInt8), (62 : UInt8)].length.ble (1000 : Nat)) = true := by
      intro j hj
      rw [hj, Bool.true_and, gd]; rfl
    have gl2 : ∀ (j : Int), Px.okAt p j = true → (Px.okAt p j && leI 0 (32 - (m : Int)) && ltI (32 - (m : Int)) 33 && leI 33 (32 - (m : Int) + (n : Int)) && Nat.ble 1 [(93 : UInt8)].length && true) = true := by
      intro j hj
      rw [hj, Bool.true_and, gd]; rfl
    rw [e1, Px.oValueF]
    unfold w36
    simp only [Tree.get_ite, Tree.get_leaf, e0, cond_false, h, h1, h2, h3, h4, h5, b1, b2, Bool.and_self, cond_true, l1, l2, el]
    cases q1 : Px.preAt p (Px.skipI p i) [60, 60] with
    | true =>
      have g := gl _ (Px.ok_pre h1 q1)
      rw [l1] at g
      simp only [cond_true, g]
    | false =>
      simp only [cond_false]
      cases q2 : Px.preAt p (Px.skipI p (Px.skipI p i)) [91] with
      | true =>
        have g := gl2 _ (Px.ok_pre h2 q2)
        rw [l2] at g
        simp only [cond_true, g]
      | false =>
        simp only [cond_false]
        cases q3 : Px.preAt p (Px.skipI p (Px.skipI p (Px.skipI p i))) [60] with
        | true =>
          have g := Px.ok_pre h3 q3
          rw [l2] at g
          simp only [cond_true, g]
        | false =>
          simp only [cond_false]
          cases q4 : Px.preAt p (Px.skipI p (Px.skipI p (Px.skipI p (Px.skipI p i)))) [40] with
          | true => rfl
          | false =>
            simp only [cond_false]
            cases q5 : Px.preAt p (Px.skipI p (Px.skipI p (Px.skipI p (Px.skipI p (Px.skipI p i))))) [47] with
            | true =>
              have g := Px.ok_pre h5 q5
              rw [l2] at g
              simp only [cond_true, g]
              cases q6 : eqI (Px.oName p (Px.skipI p (Px.skipI p (Px.skipI p (Px.skipI p (Px.skipI p i)))) + 1)).2.1 0 <;> rfl
            | false => rfl
theorem valid36N (hL : Laws E) : ∀ n, Valid E 36 (spec36N n)
  | 0 => Valid.never (fun args os => by
      unfold spec36N
      split
      · rename_i d p i
        have key : ∀ b : Bool, (b && leI 0 d && ltI d 34 && leI 34 (d + ((0 : Nat) : Int))) = false := by
          intro b
          rw [Bool.eq_false_iff]
          simp only [leI_eq, ltI_eq, Bool.and_eq_true, decide_eq_true_eq, ne_eq]
          omega
        rw [Tree.get_ite, key]; rfl
      · rfl)
  | n + 1 => (validraw36 hL n (valid51N hL n (valid36N hL n))).less (fun args os x u1 u2 h => by
      clear u1 u2
      unfold spec36N at h
      split at h
      · rename_i d p i
        rcases Tree.get_ite_some h with ⟨h1, h'⟩ | ⟨_, h'⟩
        · simp only [leI_eq, ltI_eq, Bool.and_eq_true, decide_eq_true_eq] at h1
          exact (eq36 h1.1.1.1 h1.1.1.2 h1.1.2 h1.2).trans h'
        · cases h'
      · cases h)
noncomputable def spec36 : Spec E := fun args os => match args, os with
  | [.lf (.ptr 0 0 0), .lf (.int .i64 d)], [.cells 66 [.sl .u8 p, .int .i64 i]] =>
    .ite (Px.okAt p i && leI 0 d && ltI d 34) (.leaf (.tup [(true, [.int .u8 (Px.vk (Px.oValue p d i).1), .int .i64 (Px.vn (Px.oValue p d i).1), .int .i64 (Px.vg (Px.oValue p d i).1), .str (Px.vt (Px.oValue p d i).1), .sl .val (Px.vl (Px.oValue p d i).1), .sl .str (Px.vs (Px.oValue p d i).1)]), (false, [.int .i64 (Px.oValue p d i).2.1])], [.cells 66 [.sl .u8 p, .int .i64 (Px.oValue p d i).2.2]])) .fail
  | _, _ => .fail
theorem valid36 (hL : Laws E) : Valid E 36 spec36 := (valid36N hL 34).less (fun args os x u1 u2 h => by
  clear u1 u2
  unfold spec36 at h
  split at h
  · rename_i d p i
    rcases Tree.get_ite_some h with ⟨h1, h'⟩ | ⟨_, h'⟩
    · have key : ∀ b : Bool, (b && leI 0 d && ltI d 34) = true → (b && leI 0 d && ltI d 34 && leI 34 (d + ((34 : Nat) : Int))) = true := by
        intro b hb
        simp only [leI_eq, ltI_eq, Bool.and_eq_true, decide_eq_true_eq] at hb ⊢
        exact ⟨hb, by omega⟩
      exact (ite_get (key _ h1)).trans h'
    · cases h'
  · cases h)
end Go.Vx
namespace Go.Vx
open Go
noncomputable def G14 : FuncId → Option (Spec E)
  | 19 => some spec19
  | 36 => some spec36
  | _ => none
theorem hG14 (hL : Laws E) : ∀ f spec, G14 f = some spec → Valid E f spec := by
  intro f spec h
  unfold G14 at h
  split at h
  · injection h with h; subst h; exact valid19 hL
  · injection h with h; subst h; exact valid36 hL
  · cases h
noncomputable def w14 (a0 : List UInt8) : Tree (RV E.A × List (Obj E.A)) :=
 .ite (Px.okAt a0 (0 : Int) && leI 0 0 && ltI 0 34)
 (.ite (eqI (Px.oValue a0 (0 : Int) (0 : Int)).2.1 (0 : Int))
  (.ite (!Px.okV (0 : Int) (Val.mk (Px.vk (Px.oValue a0 (0 : Int) (0 : Int)).1) (Px.vn (Px.oValue a0 (0 : Int) (0 : Int)).1) (Px.vg (Px.oValue a0 (0 : Int) (0 : Int)).1) (Px.vt (Px.oValue a0 (0 : Int) (0 : Int)).1) (Px.vl (Px.oValue a0 (0 : Int) (0 : Int)).1) (Px.vs (Px.oValue a0 (0 : Int) (0 : Int)).1)))
   (.leaf (.tup [(true, [.int .u8 ((0 : Int)), .int .i64 ((0 : Int)), .int .i64 ((0 : Int)), .str [], .sl .val [], .sl .str []]), (false, [.int .i64 ((0 : Int))]), (false, [.int .i64 ((2 : Int))])], []))
   (.ite (!eqI (Px.oValue a0 (0 : Int) (0 : Int)).2.1 (0 : Int))
    (.leaf (.tup [(true, [.int .u8 ((0 : Int)), .int .i64 ((0 : Int)), .int .i64 ((0 : Int)), .str [], .sl .val [], .sl .str []]), (false, [.int .i64 ((0 : Int))]), (false, [.int .i64 ((Px.oValue a0 (0 : Int) (0 : Int)).2.1)])], []))
    (.leaf (.tup [(true, [.int .u8 (Px.vk (Px.oValue a0 (0 : Int) (0 : Int)).1), .int .i64 (Px.vn (Px.oValue a0 (0 : Int) (0 : Int)).1), .int .i64 (Px.vg (Px.oValue a0 (0 : Int) (0 : Int)).1), .str (Px.vt (Px.oValue a0 (0 : Int) (0 : Int)).1), .sl .val (Px.vl (Px.oValue a0 (0 : Int) (0 : Int)).1), .sl .str (Px.vs (Px.oValue a0 (0 : Int) (0 : Int)).1)]), (false, [.int .i64 ((Px.oValue a0 (0 : Int) (0 : Int)).2.2)]), (false, [.int .i64 ((0 : Int))])], []))))
  (.ite (!eqI (Px.oValue a0 (0 : Int) (0 : Int)).2.1 (0 : Int))
   (.leaf (.tup [(true, [.int .u8 ((0 : Int)), .int .i64 ((0 : Int)), .int .i64 ((0 : Int)), .str [], .sl .val [], .sl .str []]), (false, [.int .i64 ((0 : Int))]), (false, [.int .i64 ((Px.oValue a0 (0 : Int) (0 : Int)).2.1)])], []))
   (.leaf (.tup [(true, [.int .u8 (Px.vk (Px.oValue a0 (0 : Int) (0 : Int)).1), .int .i64 (Px.vn (Px.oValue a0 (0 : Int) (0 : Int)).1), .int .i64 (Px.vg (Px.oValue a0 (0 : Int) (0 : Int)).1), .str (Px.vt (Px.oValue a0 (0 : Int) (0 : Int)).1), .sl .val (Px.vl (Px.oValue a0 (0 : Int) (0 : Int)).1), .sl .str (Px.vs (Px.oValue a0 (0 : Int) (0 : Int)).1)]), (false, [.int .i64 ((Px.oValue a0 (0 : Int) (0 : Int)).2.2)]), (false, [.int .i64 ((0 : Int))])], []))))
 (.fail)
theorem e14 (a0 : List UInt8) : execFun E G14 (fun _ _ => .fail) false Go.Proofs.Tryz.f14 [.lf (.sl .u8 a0)] [] some = (w14 a0).get := by kernel_rfl
noncomputable def raw14 : Spec E := fun args os => match args, os with
  | [.lf (.sl .u8 a0)], [] => w14 a0
  | _, _ => .fail
theorem validraw14 (hL : Laws E) : Valid E 14 raw14 :=
  valid_of_body hL (hG14 hL) (Λ := fun _ _ => .fail) (fn := Go.Proofs.Tryz.f14) (keep := false) (by kernel_rfl) (by kernel_rfl) (by kernel_rfl) (LamOK.none (by kernel_rfl)) (fun args os r os' h => by
    unfold raw14 at h
    split at h
    · exact (e14 _).trans h
    · cases h)
theorem eq14 (p : List UInt8) (h : Px.okAt p 0 = true) : (w14 p).get = some (.tup [(true, [.int .u8 (Px.vk (Px.oParse p).1), .int .i64 (Px.vn (Px.oParse p).1), .int .i64 (Px.vg (Px.oParse p).1), .str (Px.vt (Px.oParse p).1), .sl .val (Px.vl (Px.oParse p).1), .sl .str (Px.vs (Px.oParse p).1)]), (false, [.int .i64 (Px.oParse p).2.1]), (false, [.int .i64 (Px.oParse p).2.2])], []) := by
  have g : (Px.okAt p 0 && leI 0 0 && ltI 0 34) = true := by rw [h]; rfl
  unfold w14 Px.oParse
  simp only [Tree.get_ite, Tree.get_leaf, g, cond_true, Px.v_eta]
  cases q : eqI (Px.oValue p 0 0).2.1 0 with
  | true =>
    have hz := Px.eqI_of q
    cases Px.okV 0 (Px.oValue p 0 0).1
    · rfl
    · simp only [cond_true, Bool.not_true, cond_false]
  | false => rfl
noncomputable def spec14 : Spec E := fun args os => match args, os with
  | [.lf (.sl .u8 p)], [] => .ite (Px.okAt p 0) (.leaf (.tup [(true, [.int .u8 (Px.vk (Px.oParse p).1), .int .i64 (Px.vn (Px.oParse p).1), .int .i64 (Px.vg (Px.oParse p).1), .str (Px.vt (Px.oParse p).1), .sl .val (Px.vl (Px.oParse p).1), .sl .str (Px.vs (Px.oParse p).1)]), (false, [.int .i64 (Px.oParse p).2.1]), (false, [.int .i64 (Px.oParse p).2.2])], [])) .fail
  | _, _ => .fail
theorem valid14 (hL : Laws E) : Valid E 14 spec14 := (validraw14 hL).less (fun args os x u1 u2 h => by
  clear u1 u2
  unfold spec14 at h
  split at h
  · rename_i p
    rcases Tree.get_ite_some h with ⟨h1, h'⟩ | ⟨_, h'⟩
    · exact (eq14 p h1).trans h'
    · cases h'
  · cases h)
end Go.Vx
namespace Go.Vx
open Go
noncomputable def spec16N (n : Nat) : Spec E := fun args os => match args, os with
  | [.agg [.int .u8 a0, .int .i64 a1, .int .i64 a2, .str a3, .sl .val a4, .sl .str a5], .agg [.int .u8 b0, .int .i64 b1, .int .i64 b2, .str b3, .sl .val b4, .sl .str b5]], [] =>
    .ite (Nat.blt (Px.depthL a4) n) (.leaf (.lf (.bool (Px.alike (Val.mk a0 a1 a2 a3 a4 a5) (Val.mk b0 b1 b2 b3 b4 b5))), [])) .fail
  | _, _ => .fail
noncomputable def G39 (n : Nat) : FuncId → Option (Spec E)
  | 16 => some (spec16N n)
  | _ => none
theorem hG39 (hL : Laws E) (n : Nat) (hN : Valid E 16 (spec16N n)) : ∀ f spec, (G39 n) f = some spec → Valid E f spec := by
  intro f spec h
  unfold G39 at h
  split at h
  · injection h with h; subst h; exact hN
  · cases h
def L39_0 : Ex → Live
  | .normal => ⟨[1, 2, 15, 16, 17], []⟩
  | .exit 0 => ⟨[], []⟩
  | .ret => ⟨[6], []⟩
  | _ => ⟨[], []⟩
noncomputable def S39_0 (p1 : List Val) (p15 : List Val) (p16 : Int) (x : Int) : St E.A := at' E 32 [(1, .lf (.sl .val p1)), (2, .lf (.fn 16 [])), (15, .lf (.sl .val p15)), (16, .lf (.int .i64 p16)), (17, .lf (.int .i64 x))] []
noncomputable def t39_0 (n : Nat) (p1 : List Val) (p15 : List Val) (p16 : Int) (x : Int) : Tree ((Int) ⊕ Out' E) :=
 .ite (ltI x p16)
 (.ite (inB x p15.length)
  (.ite (inB x p1.length)
   (.ite ((Px.depthL (Px.vl (p15.getD x.toNat (Val.mk 0 0 0 [] [] [])))).blt n)
    (.ite (!Px.alike (Val.mk (Px.vk (p15.getD x.toNat (Val.mk 0 0 0 [] [] []))) (Px.vn (p15.getD x.toNat (Val.mk 0 0 0 [] [] []))) (Px.vg (p15.getD x.toNat (Val.mk 0 0 0 [] [] []))) (Px.vt (p15.getD x.toNat (Val.mk 0 0 0 [] [] []))) (Px.vl (p15.getD x.toNat (Val.mk 0 0 0 [] [] []))) (Px.vs (p15.getD x.toNat (Val.mk 0 0 0 [] [] [])))) (Val.mk (Px.vk (p1.getD x.toNat (Val.mk 0 0 0 [] [] []))) (Px.vn (p1.getD x.toNat (Val.mk 0 0 0 [] [] []))) (Px.vg (p1.getD x.toNat (Val.mk 0 0 0 [] [] []))) (Px.vt (p1.getD x.toNat (Val.mk 0 0 0 [] [] []))) (Px.vl (p1.getD x.toNat (Val.mk 0 0 0 [] [] []))) (Px.vs (p1.getD x.toNat (Val.mk 0 0 0 [] [] [])))))
     (.leaf (.inr (.ret, at' E 32 [(6, .lf (.bool false))] [])))
     (.leaf (.inl ((IntKind.i64.wrap (x + (1 : Int)))))))
    (.fail))
   (.fail))
  (.fail))
 (.leaf (.inr (.exit 0, at' E 32 [] [])))
theorem h39_0 (n : Nat) (p1 : List Val) (p15 : List Val) (p16 : Int) (x : Int) (k : Ex → St E.A → Option Unit) :
    exec E (G39 n) (fun _ _ => .fail) 1 (lb Go.Proofs.Tryz.f39 0) (S39_0 p1 p15 p16 x) (fun e σ1 => k e (clean E (L39_0 e) σ1)) = (t39_0 n p1 p15 p16 x).run (Sum.elim (fun x' => k .normal (S39_0 p1 p15 p16 x')) (fun o => k o.1 o.2)) := by kernel_rfl
noncomputable def lam39_0 (n : Nat) (p1 : List Val) (p15 : List Val) (p16 : Int) (x : Int) : Tree (Out' E) :=
  .ite (eqI p16 p15.length && eqI p1.length p15.length && leI 0 x && leI x p16 && Nat.ble (Px.depthL p15) n)
   (.ite (Px.alikes' (p15.drop x.toNat) (p1.drop x.toNat)) (.leaf (.exit 0, at' E 32 [] [])) (.leaf (.ret, at' E 32 [(6, .lf (.bool false))] []))) .fail
theorem m39_0 {n : Nat} {p1 : List Val} {p15 : List Val} {p16 : Int} {x : Int} {e : Ex} {σ : St E.A} (_ : okLenR (E := E) (.lf (.sl .val p1)) = true) (g : okLenR (E := E) (.lf (.sl .val p15)) = true)
    (h : (lam39_0 n p1 p15 p16 x).get = some (e, σ)) : ∃ fuel, iter (t39_0 n p1 p15 p16) fuel x = some (e, σ) ∧ e ≠ .normal := by
  have hb : p15.length ≤ big := of_decide_eq_true g
  unfold lam39_0 at h
  have h' := Tree.get_ite_some h
  clear h
  rcases h' with ⟨h1, h⟩ | ⟨_, h⟩
  · simp only [eqI_eq, leI_eq, Bool.and_eq_true, decide_eq_true_eq, Nat.ble_eq] at h1
    obtain ⟨⟨⟨⟨rfl, hl⟩, k1⟩, k2⟩, k3⟩ := h1
    have hl : p1.length = p15.length := by omega
    obtain ⟨i, rfl⟩ : ∃ j : Nat, x = (j : Int) := ⟨x.toNat, by omega⟩
    have key := scan_iter (t := t39_0 n p1 p15 p15.length) (l := p15) Px.v0 (fun i b => cond (!Px.alike b (p1.getD i Px.v0)) (some (Ex.ret, at' E 32 [(6, .lf (.bool false))] [])) none) (Ex.exit 0, at' E 32 [] [])
      (fun i hi => by
        have hi1 : i < p1.length := by omega
        have hd : (Px.depthL (Px.vl (p15.getD i Px.v0))).blt n = true := by
          have h1 := Px.depth_get hi
          rw [Px.depth_vl] at h1
          exact Nat.ble_eq ▸ Nat.le_trans h1 k3
        have hz : (Val.mk 0 0 0 [] [] []) = Px.v0 := rfl
        unfold t39_0
        simp only [Tree.get_ite, Tree.get_leaf, ltI_nat hi, inB_nat hi, inB_nat hi1, cond_true, i64_succ hi hb, Int.toNat_natCast, hz, hd, Px.v_eta]
        cases Px.alike (p15.getD i Px.v0) (p1.getD i Px.v0) <;> rfl)
      (by unfold t39_0; simp only [Tree.get_ite, Tree.get_leaf, ltI_self, cond_false])
      (p15.length - i) i (by omega)
    rw [Px.scan_alike _ _ _ _ _ (by rw [List.length_drop]; omega)] at key
    rw [Tree.get_ite, Tree.get_leaf, Tree.get_leaf, Int.toNat_natCast, Px.alikes'_eq] at h
    refine ⟨_, key.trans ?_, ?_⟩
    · rw [← h]; exact some_cond _ _ _
    · intro hh; subst hh
      cases q : Px.alikes (p15.drop i) (p1.drop i) <;> rw [q] at h <;> cases h
  · cases h
noncomputable def rd39_0 (n : Nat) (σ : St E.A) : Tree (Out' E) :=
  let c := clean E (L39_0 .normal) σ
  if c.sl.length = 32 then
  match c.sl.getD 1 .undef, c.sl.getD 2 .undef, c.sl.getD 15 .undef, c.sl.getD 16 .undef, c.sl.getD 17 .undef with
  | .lf (.sl .val p1), .lf (.fn 16 []), .lf (.sl .val p15), .lf (.int .i64 p16), .lf (.int .i64 x17) => lam39_0 n p1 p15 p16 (x17)
  | _, _, _, _, _ => .fail
  else .fail
theorem ll39_0 (hL : Laws E) (n : Nat) (hN : Valid E 16 (spec16N n)) (σ : St E.A) (e : Ex) (σ' : St E.A) (h : (rd39_0 n σ).get = some (e, σ')) : LoopOK E (lb Go.Proofs.Tryz.f39 0) σ e σ' := by
  refine LoopOK.of_clean hL (L39_0 .normal) ?_
  unfold rd39_0 at h
  simp only at h
  split at h
  · rename_i hlen
    split at h
    · rename_i p1 p15 p16 x17 h0 h1 h2 h3 h4
      refine LoopOK.lens 1 (fun g0 => ?_)
      rw [h0] at g0
      refine LoopOK.lens 15 (fun g1 => ?_)
      rw [h2] at g1
      obtain ⟨fuel, hi, ho⟩ := m39_0 g0 g1 h
      have hl := loop_at (Γ := (G39 n)) (Λ := fun _ _ => .fail) (n := 1) (body := lb Go.Proofs.Tryz.f39 0) hL (hG39 hL n hN) (S := S39_0 p1 p15 p16) (t := t39_0 n p1 p15 p16) (Lv := L39_0) (LamOK.none (by kernel_rfl)) (h39_0 n p1 p15 p16) hi ho
      refine LoopOK.fit hlen ?_ ?_ rfl rfl hl
      · exact ⟨h0, h1, h2, h3, h4, trivial⟩
      · exact trivial
    · cases h
  · cases h
noncomputable def Lam39 (n : Nat) : Lam E
  | 0, σ => rd39_0 n σ
  | _, _ => .fail
noncomputable def w39 (n : Nat) (a : List Val) (b : List Val) : Tree (RV E.A × List (Obj E.A)) :=
 .ite (!eqI (↑a.length : Int) (↑b.length : Int))
 (.leaf (.lf (.bool false), []))
 (.ite (eqI (↑a.length : Int) (↑a.length : Int) && eqI (↑b.length : Int) (↑a.length : Int) && leI 0 0 && leI 0 (↑a.length : Int) && (Px.depthL a).ble n)
  (.ite (Px.alikes' (List.drop (Int.toNat (0 : Int)) a) (List.drop (Int.toNat (0 : Int)) b))
   (.leaf (.lf (.bool true), []))
   (.leaf (.lf (.bool false), [])))
  (.fail))
theorem e39 (n : Nat) (a : List Val) (b : List Val) : execFun E (G39 n) ((Lam39 n)) false Go.Proofs.Tryz.f39 [.lf (.sl .val a), .lf (.sl .val b), .lf (.fn 16 [])] [] some = (w39 n a b).get := by kernel_rfl
noncomputable def raw39 (n : Nat) : Spec E := fun args os => match args, os with
  | [.lf (.sl .val a), .lf (.sl .val b), .lf (.fn 16 [])], [] => w39 n a b
  | _, _ => .fail
theorem validraw39 (hL : Laws E) (n : Nat) (hN : Valid E 16 (spec16N n)) : Valid E 39 (raw39 n) :=
  valid_of_body hL (hG39 hL n hN) (Λ := (Lam39 n)) (fn := Go.Proofs.Tryz.f39) (keep := false) (by kernel_rfl) (by kernel_rfl) (by kernel_rfl) ((LamOK.of (m := 1) (by kernel_rfl) (fun j hj σ e σ' hg => by
      match j, hj with
      | 0, _ => exact ll39_0 hL n hN σ e σ' hg
      ))) (fun args os r os' h => by
    unfold raw39 at h
    split at h
    · exact (e39 _ _ _).trans h
    · cases h)
noncomputable def spec39N (n : Nat) : Spec E := fun args os => match args, os with
  | [.lf (.sl .val a), .lf (.sl .val b), .lf (.fn 16 [])], [] => .ite (Nat.ble (Px.depthL a) n) (.leaf (.lf (.bool (Px.alikes a b)), [])) .fail
  | _, _ => .fail
theorem eq39 {n : Nat} {a b : List Val} (h : Px.depthL a ≤ n) : (w39 n a b).get = some (.lf (.bool (Px.alikes a b)), []) := by
  have hz : (Val.mk 0 0 0 [] [] []) = Px.v0 := rfl
  have hn : Nat.ble (Px.depthL a) n = true := Nat.ble_eq ▸ h
  unfold w39
  simp only [Tree.get_ite, Tree.get_leaf, Px.alikes'_eq, hn]
  by_cases hl : a.length = b.length
  · have e1 : eqI (a.length : Int) (b.length : Int) = true := by rw [eqI_eq]; exact decide_eq_true (by omega)
    have e2 : (eqI (a.length : Int) (a.length : Int) && eqI (b.length : Int) (a.length : Int) && leI 0 0 && leI 0 (a.length : Int) && true) = true := by
      rw [hl]; simp [eqI_eq, leI_eq]
    rw [e1, e2]
    show cond (Px.alikes a b) _ _ = _
    cases Px.alikes a b <;> rfl
  · have e1 : eqI (a.length : Int) (b.length : Int) = false := by rw [eqI_eq]; exact decide_eq_false (by omega)
    have e2 : Px.alikes a b = false := by
      rw [Bool.eq_false_iff]; intro h; exact hl (congrArg List.length ((Px.alikes_iff a b).1 h))
    rw [e1, e2]; rfl
theorem valid39N (hL : Laws E) (n : Nat) (hN : Valid E 16 (spec16N n)) : Valid E 39 (spec39N n) := (validraw39 hL n hN).less (fun args os x u1 u2 h => by
  clear u1 u2
  unfold spec39N at h
  split at h
  · rename_i a b
    rcases Tree.get_ite_some h with ⟨h1, h⟩ | ⟨_, h⟩
    · exact (eq39 (Nat.le_of_ble_eq_true h1)).trans h
    · cases h
  · cases h)
end Go.Vx
namespace Go.Vx
open Go
noncomputable def G38 : FuncId → Option (Spec E) := fun _ => none
theorem hG38 (hL : Laws E) : ∀ f spec, G38 f = some spec → Valid E f spec := by
  intro f spec h
  cases h
def L38_0 : Ex → Live
  | .normal => ⟨[0, 1, 12, 13], []⟩
  | .exit 0 => ⟨[], []⟩
  | .ret => ⟨[4], []⟩
  | _ => ⟨[], []⟩
noncomputable def S38_0 (p0 : List (List UInt8)) (p1 : List (List UInt8)) (p12 : Int) (x : Int) : St E.A := at' E 26 [(0, .lf (.sl .str p0)), (1, .lf (.sl .str p1)), (12, .lf (.int .i64 p12)), (13, .lf (.int .i64 x))] []
noncomputable def t38_0 (p0 : List (List UInt8)) (p1 : List (List UInt8)) (p12 : Int) (x : Int) : Tree ((Int) ⊕ Out' E) :=
 .ite (ltI x p12)
 (.ite (inB x p0.length)
  (.ite (inB x p1.length)
   (.ite (!decide (p0.getD x.toNat [] = p1.getD x.toNat []))
    (.leaf (.inr (.ret, at' E 26 [(4, .lf (.bool false))] [])))
    (.leaf (.inl ((IntKind.i64.wrap (x + (1 : Int)))))))
   (.fail))
  (.fail))
 (.leaf (.inr (.exit 0, at' E 26 [] [])))
theorem h38_0 (p0 : List (List UInt8)) (p1 : List (List UInt8)) (p12 : Int) (x : Int) (k : Ex → St E.A → Option Unit) :
    exec E G38 (fun _ _ => .fail) 1 (lb Go.Proofs.Tryz.f38 0) (S38_0 p0 p1 p12 x) (fun e σ1 => k e (clean E (L38_0 e) σ1)) = (t38_0 p0 p1 p12 x).run (Sum.elim (fun x' => k .normal (S38_0 p0 p1 p12 x')) (fun o => k o.1 o.2)) := by kernel_rfl
end Go.Vx
namespace Px
open Go.Vx Go
def likeR : List (List UInt8) → List (List UInt8) → Bool
  | [], _ => true
  | a :: r, s => decide (a = s.getD 0 []) && likeR r (s.drop 1)
end Px
namespace Go.Vx
open Go
noncomputable def lam38_0 (p0 p1 : List (List UInt8)) (p12 : Int) (x : Int) : Tree (Out' E) :=
  .ite (eqI p12 p0.length && leI 0 x && leI x p12 && eqI p0.length p1.length)
   (.ite (Px.likeR (p0.drop x.toNat) (p1.drop x.toNat)) (.leaf (.exit 0, at' E 26 [] [])) (.leaf (.ret, at' E 26 [(4, .lf (.bool false))] []))) .fail
theorem scan38 {O : Type} (p1 : List (List UInt8)) (o fin : O) : ∀ (l : List (List UInt8)) (i : Nat), scan (fun i b => cond (!decide (b = p1.getD i [])) (some o) none) fin i l = cond (Px.likeR l (p1.drop i)) fin o
  | [], i => rfl
  | a :: r, i => by
    rw [scan, Px.likeR]
    have e1 : (p1.drop i).getD 0 [] = p1.getD i [] := by simp [List.getD, List.getElem?_drop]
    have e2 : (p1.drop i).drop 1 = p1.drop (i + 1) := by rw [List.drop_drop]
    rw [e1, e2]
    cases decide (a = p1.getD i []) with
    | true => exact scan38 p1 o fin r (i + 1)
    | false => rfl
theorem m38_0 {p0 p1 : List (List UInt8)} {p12 x : Int} {e : Ex} {σ : St E.A} (g : okLenR (E := E) (.lf (.sl .str p0)) = true) (_ : okLenR (E := E) (.lf (.sl .str p1)) = true)
    (h : (lam38_0 p0 p1 p12 x).get = some (e, σ)) : ∃ fuel, iter (t38_0 p0 p1 p12) fuel x = some (e, σ) ∧ e ≠ .normal := by
  have hb : p0.length ≤ big := of_decide_eq_true g
  unfold lam38_0 at h
  have h' := Tree.get_ite_some h
  clear h
  rcases h' with ⟨h1, h⟩ | ⟨_, h⟩
  · simp only [eqI_eq, leI_eq, Bool.and_eq_true, decide_eq_true_eq] at h1
    obtain ⟨⟨⟨rfl, k1⟩, k2⟩, k3⟩ := h1
    obtain ⟨i, rfl⟩ : ∃ j : Nat, x = (j : Int) := ⟨x.toNat, by omega⟩
    have key := scan_iter (t := t38_0 p0 p1 p0.length) (l := p0) [] (fun i b => cond (!decide (b = p1.getD i [])) (some (Ex.ret, at' E 26 [(4, .lf (.bool false))] [])) none) (Ex.exit 0, at' E 26 [] [])
      (fun i hi => by
        have hi1 : i < p1.length := by omega
        unfold t38_0
        simp only [Tree.get_ite, Tree.get_leaf, ltI_nat hi, inB_nat hi, inB_nat hi1, cond_true, i64_succ hi hb, Int.toNat_natCast]
        cases decide (p0.getD i [] = p1.getD i []) <;> rfl)
      (by unfold t38_0; simp only [Tree.get_ite, Tree.get_leaf, ltI_self, cond_false])
      (p0.length - i) i (by omega)
    rw [scan38] at key
    rw [Tree.get_ite, Tree.get_leaf, Tree.get_leaf, Int.toNat_natCast] at h
    refine ⟨_, key.trans ?_, ?_⟩
    · rw [← h]; cases Px.likeR (p0.drop i) (p1.drop i) <;> rfl
    · intro hh; subst hh
      cases q : Px.likeR (p0.drop i) (p1.drop i) <;> rw [q] at h <;> cases h
  · cases h
noncomputable def rd38_0 (σ : St E.A) : Tree (Out' E) :=
  let c := clean E (L38_0 .normal) σ
  if c.sl.length = 26 then
  match c.sl.getD 0 .undef, c.sl.getD 1 .undef, c.sl.getD 12 .undef, c.sl.getD 13 .undef with
  | .lf (.sl .str p0), .lf (.sl .str p1), .lf (.int .i64 p12), .lf (.int .i64 x13) => lam38_0 p0 p1 p12 (x13)
  | _, _, _, _ => .fail
  else .fail
theorem ll38_0 (hL : Laws E) (σ : St E.A) (e : Ex) (σ' : St E.A) (h : (rd38_0 σ).get = some (e, σ')) : LoopOK E (lb Go.Proofs.Tryz.f38 0) σ e σ' := by
  refine LoopOK.of_clean hL (L38_0 .normal) ?_
  unfold rd38_0 at h
  simp only at h
  split at h
  · rename_i hlen
    split at h
    · rename_i p0 p1 p12 x13 h0 h1 h2 h3
      refine LoopOK.lens 0 (fun g0 => ?_)
      rw [h0] at g0
      refine LoopOK.lens 1 (fun g1 => ?_)
      rw [h1] at g1
      obtain ⟨fuel, hi, ho⟩ := m38_0 g0 g1 h
      have hl := loop_at (Γ := G38) (Λ := fun _ _ => .fail) (n := 1) (body := lb Go.Proofs.Tryz.f38 0) hL (hG38 hL) (S := S38_0 p0 p1 p12) (t := t38_0 p0 p1 p12) (Lv := L38_0) (LamOK.none (by kernel_rfl)) (h38_0 p0 p1 p12) hi ho
      refine LoopOK.fit hlen ?_ ?_ rfl rfl hl
      · exact ⟨h0, h1, h2, h3, trivial⟩
      · exact trivial
    · cases h
  · cases h
noncomputable def Lam38 : Lam E
  | 0, σ => rd38_0 σ
  | _, _ => .fail
noncomputable def w38 (a0 : List (List UInt8)) (a1 : List (List UInt8)) : Tree (RV E.A × List (Obj E.A)) :=
 .ite (!eqI (↑a0.length : Int) (↑a1.length : Int))
 (.leaf (.lf (.bool false), []))
 (.ite (eqI (↑a0.length : Int) (↑a0.length : Int) && leI 0 0 && leI 0 (↑a0.length : Int) && eqI (↑a0.length : Int) (↑a1.length : Int))
  (.ite (Px.likeR (List.drop (Int.toNat (0 : Int)) a0) (List.drop (Int.toNat (0 : Int)) a1))
   (.leaf (.lf (.bool true), []))
   (.leaf (.lf (.bool false), [])))
  (.fail))
theorem e38 (a0 : List (List UInt8)) (a1 : List (List UInt8)) : execFun E G38 ((Lam38)) false Go.Proofs.Tryz.f38 [.lf (.sl .str a0), .lf (.sl .str a1)] [] some = (w38 a0 a1).get := by kernel_rfl
noncomputable def raw38 : Spec E := fun args os => match args, os with
  | [.lf (.sl .str a0), .lf (.sl .str a1)], [] => w38 a0 a1
  | _, _ => .fail
theorem validraw38 (hL : Laws E) : Valid E 38 raw38 :=
  valid_of_body hL (hG38 hL) (Λ := (Lam38)) (fn := Go.Proofs.Tryz.f38) (keep := false) (by kernel_rfl) (by kernel_rfl) (by kernel_rfl) ((LamOK.of (m := 1) (by kernel_rfl) (fun j hj σ e σ' hg => by
      match j, hj with
      | 0, _ => exact ll38_0 hL σ e σ' hg
      ))) (fun args os r os' h => by
    unfold raw38 at h
    split at h
    · exact (e38 _ _).trans h
    · cases h)
theorem likeR_iff : ∀ (a b : List (List UInt8)), a.length = b.length → (Px.likeR a b = true ↔ a = b)
  | [], [], _ => ⟨fun _ => rfl, fun _ => rfl⟩
  | x :: a, y :: b, h => by
    have ih := likeR_iff a b (by simpa using h)
    simp only [Px.likeR, List.getD_cons_zero, List.drop_succ_cons, List.drop_zero, Bool.and_eq_true, decide_eq_true_eq, ih, List.cons.injEq]
theorem eq38 (a b : List (List UInt8)) : (w38 a b).get = some (.lf (.bool (Px.likeS a b)), []) := by
  unfold Px.likeS
  unfold w38
  by_cases hl : a.length = b.length
  · have c0 : eqI (a.length : Int) (b.length : Int) = true := by rw [eqI_eq]; exact decide_eq_true (by omega)
    have g : (eqI (a.length : Int) (a.length : Int) && leI 0 0 && leI 0 (a.length : Int) && eqI (a.length : Int) (b.length : Int)) = true := by
      simp only [eqI_eq, leI_eq, Bool.and_eq_true, decide_eq_true_eq]
      exact ⟨⟨⟨trivial, by omega⟩, by omega⟩, by omega⟩
    rw [Tree.get_ite, c0, Bool.not_true, cond_false, Tree.get_ite]
    rw [c0] at g
    rw [g, cond_true, Tree.get_ite]
    have hd := likeR_iff a b hl
    show cond (Px.likeR a b) _ _ = _
    cases q : Px.likeR a b with
    | true => rw [decide_eq_true (hd.1 q)]; rfl
    | false => rw [decide_eq_false (fun h => by rw [hd.2 h] at q; cases q)]; rfl
  · have c0 : eqI (a.length : Int) (b.length : Int) = false := by rw [eqI_eq]; exact decide_eq_false (by omega)
    rw [Tree.get_ite, c0, decide_eq_false (fun h => hl (by rw [h]))]; rfl
noncomputable def spec38 : Spec E := fun args os => match args, os with
  | [.lf (.sl .str a), .lf (.sl .str b)], [] => .leaf (.lf (.bool (Px.likeS a b)), [])
  | _, _ => .fail
theorem valid38 (hL : Laws E) : Valid E 38 spec38 := (validraw38 hL).less (fun args os x _ _ h => by
  unfold spec38 at h
  split at h
  · exact (eq38 _ _).trans h
  · cases h)
end Go.Vx
namespace Go.Vx
open Go
noncomputable def G16 (n : Nat) : FuncId → Option (Spec E)
  | 38 => some spec38
  | 39 => some (spec39N n)
  | _ => none
theorem hG16 (hL : Laws E) (n : Nat) (hN : Valid E 39 (spec39N n)) : ∀ f spec, (G16 n) f = some spec → Valid E f spec := by
  intro f spec h
  unfold G16 at h
  split at h
  · injection h with h; subst h; exact valid38 hL
  · injection h with h; subst h; exact hN
  · cases h
noncomputable def w16 (n : Nat) (a0Kind : Int) (a0Num : Int) (a0Gen : Int) (a0Text : List UInt8) (a0List : List Val) (a0Keys : List (List UInt8)) (a1Kind : Int) (a1Num : Int) (a1Gen : Int) (a1Text : List UInt8) (a1List : List Val) (a1Keys : List (List UInt8)) : Tree (RV E.A × List (Obj E.A)) :=
 .ite (eqI a0Kind a1Kind)
 (.ite (eqI a0Num a1Num)
  (.ite (eqI a0Gen a1Gen)
   (.ite (decide (a0Text = a1Text))
    (.ite (Px.likeS a0Keys a1Keys)
     (.ite ((Px.depthL a0List).ble n)
      (.leaf (.lf (.bool (Px.alikes a0List a1List)), []))
      (.fail))
     (.leaf (.lf (.bool false), [])))
    (.leaf (.lf (.bool false), [])))
   (.leaf (.lf (.bool false), [])))
  (.leaf (.lf (.bool false), [])))
 (.leaf (.lf (.bool false), []))
theorem e16 (n : Nat) (a0Kind : Int) (a0Num : Int) (a0Gen : Int) (a0Text : List UInt8) (a0List : List Val) (a0Keys : List (List UInt8)) (a1Kind : Int) (a1Num : Int) (a1Gen : Int) (a1Text : List UInt8) (a1List : List Val) (a1Keys : List (List UInt8)) : execFun E (G16 n) (fun _ _ => .fail) false Go.Proofs.Tryz.f16 [.agg [.int .u8 a0Kind, .int .i64 a0Num, .int .i64 a0Gen, .str a0Text, .sl .val a0List, .sl .str a0Keys], .agg [.int .u8 a1Kind, .int .i64 a1Num, .int .i64 a1Gen, .str a1Text, .sl .val a1List, .sl .str a1Keys]] [] some = (w16 n a0Kind a0Num a0Gen a0Text a0List a0Keys a1Kind a1Num a1Gen a1Text a1List a1Keys).get := by kernel_rfl
noncomputable def raw16 (n : Nat) : Spec E := fun args os => match args, os with
  | [.agg [.int .u8 a0Kind, .int .i64 a0Num, .int .i64 a0Gen, .str a0Text, .sl .val a0List, .sl .str a0Keys], .agg [.int .u8 a1Kind, .int .i64 a1Num, .int .i64 a1Gen, .str a1Text, .sl .val a1List, .sl .str a1Keys]], [] => w16 n a0Kind a0Num a0Gen a0Text a0List a0Keys a1Kind a1Num a1Gen a1Text a1List a1Keys
  | _, _ => .fail
theorem validraw16 (hL : Laws E) (n : Nat) (hN : Valid E 39 (spec39N n)) : Valid E 16 (raw16 n) :=
  valid_of_body hL (hG16 hL n hN) (Λ := fun _ _ => .fail) (fn := Go.Proofs.Tryz.f16) (keep := false) (by kernel_rfl) (by kernel_rfl) (by kernel_rfl) (LamOK.none (by kernel_rfl)) (fun args os r os' h => by
    unfold raw16 at h
    split at h
    · exact (e16 _ _ _ _ _ _ _ _ _ _ _ _ _).trans h
    · cases h)
theorem eq16 {n : Nat} (a0 a1 a2 : Int) (a3 : List UInt8) {a4 : List Val} (a5 : List (List UInt8)) (b0 b1 b2 : Int) (b3 : List UInt8) (b4 : List Val) (b5 : List (List UInt8)) (h : Nat.ble (Px.depthL a4) n = true) :
    (w16 n a0 a1 a2 a3 a4 a5 b0 b1 b2 b3 b4 b5).get = some (.lf (.bool (Px.alike (Val.mk a0 a1 a2 a3 a4 a5) (Val.mk b0 b1 b2 b3 b4 b5))), []) := by
  have e : Px.alike (Val.mk a0 a1 a2 a3 a4 a5) (Val.mk b0 b1 b2 b3 b4 b5) = (eqI a0 b0 && (eqI a1 b1 && (eqI a2 b2 && (decide (a3 = b3) && (Px.likeS a5 b5 && Px.alikes a4 b4))))) := by
    rw [Bool.eq_iff_iff, Px.alike_iff]
    unfold Px.likeS
    simp only [Val.mk.injEq, eqI_eq, Bool.and_eq_true, decide_eq_true_eq, Px.alikes_iff]
    constructor
    · rintro ⟨h0, h1, h2, h3, h4, h5⟩; exact ⟨h0, h1, h2, h3, h5, h4⟩
    · rintro ⟨h0, h1, h2, h3, h5, h4⟩; exact ⟨h0, h1, h2, h3, h4, h5⟩
  rw [e]
  unfold w16
  simp only [Tree.get_ite, Tree.get_leaf, h, cond_true]
  cases eqI a0 b0 <;> cases eqI a1 b1 <;> cases eqI a2 b2 <;> cases decide (a3 = b3) <;> cases Px.likeS a5 b5 <;> cases Px.alikes a4 b4 <;> rfl
theorem valid16N (hL : Laws E) : ∀ n, Valid E 16 (spec16N n)
  | 0 => Valid.never (fun args os => by
      unfold spec16N
      split
      · rfl
      · rfl)
  | n + 1 => (validraw16 hL n (valid39N hL n (valid16N hL n))).less (fun args os x u1 u2 h => by
      clear u1 u2
      unfold spec16N at h
      split at h
      · rcases Tree.get_ite_some h with ⟨h1, h⟩ | ⟨_, h⟩
        · exact (eq16 _ _ _ _ _ _ _ _ _ _ _ h1).trans h
        · cases h
      · cases h)
noncomputable def spec16 : Spec E := fun args os => match args, os with
  | [.agg [.int .u8 a0, .int .i64 a1, .int .i64 a2, .str a3, .sl .val a4, .sl .str a5], .agg [.int .u8 b0, .int .i64 b1, .int .i64 b2, .str b3, .sl .val b4, .sl .str b5]], [] =>
    .leaf (.lf (.bool (Px.alike (Val.mk a0 a1 a2 a3 a4 a5) (Val.mk b0 b1 b2 b3 b4 b5))), [])
  | _, _ => .fail
theorem valid16 (hL : Laws E) : Valid E 16 spec16 := Valid.forN (valid16N hL) (fun args os x h => by
  unfold spec16 at h
  split at h
  · rename_i a0 a1 a2 a3 a4 a5 b0 b1 b2 b3 b4 b5
    refine ⟨Px.depthL a4 + 1, ?_⟩
    unfold spec16N
    have : Nat.blt (Px.depthL a4) (Px.depthL a4 + 1) = true := Nat.ble_eq ▸ Nat.le_refl _
    rw [Tree.get_ite, this]
    exact h
  · cases h)
end Go.Vx
namespace Go.Vx
open Go
noncomputable def spec18N (n : Nat) : Spec E := fun args os => match args, os with
  | [.agg [.int .u8 a0, .int .i64 a1, .int .i64 a2, .str a3, .sl .val a4, .sl .str a5]], [] =>
    .ite (Nat.blt (Px.depthL a4) n && Px.smallV (Val.mk a0 a1 a2 a3 a4 a5)) (.leaf (.agg [.int .u8 a0, .int .i64 a1, .int .i64 a2, .str a3, .sl .val a4, .sl .str a5], [])) .fail
  | _, _ => .fail
noncomputable def G18 (n : Nat) : FuncId → Option (Spec E)
  | 18 => some (spec18N n)
  | _ => none
theorem hG18 (hL : Laws E) (n : Nat) (hN : Valid E 18 (spec18N n)) : ∀ f spec, (G18 n) f = some spec → Valid E f spec := by
  intro f spec h
  unfold G18 at h
  split at h
  · injection h with h; subst h; exact hN
  · cases h
def L18_0 : Ex → Live
  | .normal => ⟨[2, 3, 18, 19, 20], [192, 256]⟩
  | .exit 0 => ⟨[2, 3], [192, 256]⟩
  | .ret => ⟨[2], [192, 256]⟩
  | _ => ⟨[], []⟩
noncomputable def S18_0 (p18 : List Val) (p19 : Int) (x : Int × Int × Int × Int × (List UInt8) × (List Val) × (List (List UInt8)) × Int × Int × Int × (List UInt8) × (List Val) × (List (List UInt8))) : St E.A := at' E 33 [(2, .lf (.ptr 192 0 0)), (3, .lf (.ptr 256 0 0)), (18, .lf (.sl .val p18)), (19, .lf (.int .i64 p19)), (20, .lf (.int .i64 x.1))] [(192, some (.cells 36 [.int .u8 x.2.1, .int .i64 x.2.2.1, .int .i64 x.2.2.2.1, .str x.2.2.2.2.1, .own 0 0 .val x.2.2.2.2.2.1, .own 1 0 .str x.2.2.2.2.2.2.1])), (256, some (.cells 36 [.int .u8 x.2.2.2.2.2.2.2.1, .int .i64 x.2.2.2.2.2.2.2.2.1, .int .i64 x.2.2.2.2.2.2.2.2.2.1, .str x.2.2.2.2.2.2.2.2.2.2.1, .own 2 0 .val x.2.2.2.2.2.2.2.2.2.2.2.1, .sl .str x.2.2.2.2.2.2.2.2.2.2.2.2]))]
noncomputable def t18_0 (n : Nat) (p18 : List Val) (p19 : Int) (x : Int × Int × Int × Int × (List UInt8) × (List Val) × (List (List UInt8)) × Int × Int × Int × (List UInt8) × (List Val) × (List (List UInt8))) : Tree (Int × Int × Int × Int × (List UInt8) × (List Val) × (List (List UInt8)) × Int × Int × Int × (List UInt8) × (List Val) × (List (List UInt8)) ⊕ Out' E) :=
 .ite (ltI x.1 p19)
 (.ite (inB x.1 p18.length)
  (.ite ((Px.depthL (Px.vl (p18.getD x.1.toNat (Val.mk 0 0 0 [] [] [])))).blt n && Px.smallV (Val.mk (Px.vk (p18.getD x.1.toNat (Val.mk 0 0 0 [] [] []))) (Px.vn (p18.getD x.1.toNat (Val.mk 0 0 0 [] [] []))) (Px.vg (p18.getD x.1.toNat (Val.mk 0 0 0 [] [] []))) (Px.vt (p18.getD x.1.toNat (Val.mk 0 0 0 [] [] []))) (Px.vl (p18.getD x.1.toNat (Val.mk 0 0 0 [] [] []))) (Px.vs (p18.getD x.1.toNat (Val.mk 0 0 0 [] [] [])))))
   (.ite (decide ((x.2.2.2.2.2.2.2.2.2.2.2.1.length + [Val.mk (Px.vk (p18.getD x.1.toNat (Val.mk 0 0 0 [] [] []))) (Px.vn (p18.getD x.1.toNat (Val.mk 0 0 0 [] [] []))) (Px.vg (p18.getD x.1.toNat (Val.mk 0 0 0 [] [] []))) (Px.vt (p18.getD x.1.toNat (Val.mk 0 0 0 [] [] []))) (Px.vl (p18.getD x.1.toNat (Val.mk 0 0 0 [] [] []))) (Px.vs (p18.getD x.1.toNat (Val.mk 0 0 0 [] [] [])))].length) * (88 : Nat) ≤ 140737488355328))
    (.leaf (.inl ((IntKind.i64.wrap (x.1 + (1 : Int))), x.2.1, x.2.2.1, x.2.2.2.1, x.2.2.2.2.1, x.2.2.2.2.2.1, x.2.2.2.2.2.2.1, x.2.2.2.2.2.2.2.1, x.2.2.2.2.2.2.2.2.1, x.2.2.2.2.2.2.2.2.2.1, x.2.2.2.2.2.2.2.2.2.2.1, (x.2.2.2.2.2.2.2.2.2.2.2.1 ++ [Val.mk (Px.vk (p18.getD x.1.toNat (Val.mk 0 0 0 [] [] []))) (Px.vn (p18.getD x.1.toNat (Val.mk 0 0 0 [] [] []))) (Px.vg (p18.getD x.1.toNat (Val.mk 0 0 0 [] [] []))) (Px.vt (p18.getD x.1.toNat (Val.mk 0 0 0 [] [] []))) (Px.vl (p18.getD x.1.toNat (Val.mk 0 0 0 [] [] []))) (Px.vs (p18.getD x.1.toNat (Val.mk 0 0 0 [] [] [])))]), x.2.2.2.2.2.2.2.2.2.2.2.2)))
    (.fail))
   (.fail))
  (.fail))
 (.leaf (.inr (.exit 0, at' E 33 [(2, .lf (.ptr 192 0 0)), (3, .lf (.ptr 256 0 0))] [(192, some (.cells 36 [.int .u8 x.2.1, .int .i64 x.2.2.1, .int .i64 x.2.2.2.1, .str x.2.2.2.2.1, .own 0 0 .val x.2.2.2.2.2.1, .own 1 0 .str x.2.2.2.2.2.2.1])), (256, some (.cells 36 [.int .u8 x.2.2.2.2.2.2.2.1, .int .i64 x.2.2.2.2.2.2.2.2.1, .int .i64 x.2.2.2.2.2.2.2.2.2.1, .str x.2.2.2.2.2.2.2.2.2.2.1, .own 2 0 .val x.2.2.2.2.2.2.2.2.2.2.2.1, .sl .str x.2.2.2.2.2.2.2.2.2.2.2.2]))])))
theorem h18_0 (n : Nat) (p18 : List Val) (p19 : Int) (x : Int × Int × Int × Int × (List UInt8) × (List Val) × (List (List UInt8)) × Int × Int × Int × (List UInt8) × (List Val) × (List (List UInt8))) (k : Ex → St E.A → Option Unit) :
    exec E (G18 n) (fun _ _ => .fail) 1 (lb Go.Proofs.Tryz.f18 0) (S18_0 p18 p19 x) (fun e σ1 => k e (clean E (L18_0 e) σ1)) = (t18_0 n p18 p19 x).run (Sum.elim (fun x' => k .normal (S18_0 p18 p19 x')) (fun o => k o.1 o.2)) := by kernel_rfl
noncomputable def lam18_0 (n : Nat) (p18 : List Val) (p19 : Int) (x : Int × Int × Int × Int × (List UInt8) × (List Val) × (List (List UInt8)) × Int × Int × Int × (List UInt8) × (List Val) × (List (List UInt8))) : Tree (Out' E) :=
  .ite (eqI p19 p18.length && leI 0 x.1 && leI x.1 p19 && Nat.ble (Px.depthL p18) n && Px.smallL p18 && leI p19 1000000 && leI x.2.2.2.2.2.2.2.2.2.2.2.1.length x.1)
   (.leaf (.exit 0, at' E 33 [(2, .lf (.ptr 192 0 0)), (3, .lf (.ptr 256 0 0))] [(192, some (.cells 36 [.int .u8 x.2.1, .int .i64 x.2.2.1, .int .i64 x.2.2.2.1, .str x.2.2.2.2.1, .own 0 0 .val (x.2.2.2.2.2.1), .own 1 0 .str (x.2.2.2.2.2.2.1)])), (256, some (.cells 36 [.int .u8 x.2.2.2.2.2.2.2.1, .int .i64 x.2.2.2.2.2.2.2.2.1, .int .i64 x.2.2.2.2.2.2.2.2.2.1, .str x.2.2.2.2.2.2.2.2.2.2.1, .own 2 0 .val (x.2.2.2.2.2.2.2.2.2.2.2.1 ++ p18.drop x.1.toNat), .sl .str (x.2.2.2.2.2.2.2.2.2.2.2.2)]))])) .fail
theorem m18_0 {n : Nat} {p18 : List Val} {p19 : Int} {x : Int × Int × Int × Int × (List UInt8) × (List Val) × (List (List UInt8)) × Int × Int × Int × (List UInt8) × (List Val) × (List (List UInt8))} {e : Ex} {σ : St E.A} (g : okLenR (E := E) (.lf (.sl .val p18)) = true) (_ : okLenO (E := E) (.cells 36 [.int .u8 x.2.1, .int .i64 x.2.2.1, .int .i64 x.2.2.2.1, .str x.2.2.2.2.1, .own 0 0 .val (x.2.2.2.2.2.1), .own 1 0 .str (x.2.2.2.2.2.2.1)]) = true) (_ : okLenO (E := E) (.cells 36 [.int .u8 x.2.2.2.2.2.2.2.1, .int .i64 x.2.2.2.2.2.2.2.2.1, .int .i64 x.2.2.2.2.2.2.2.2.2.1, .str x.2.2.2.2.2.2.2.2.2.2.1, .own 2 0 .val (x.2.2.2.2.2.2.2.2.2.2.2.1), .sl .str (x.2.2.2.2.2.2.2.2.2.2.2.2)]) = true)
    (h : (lam18_0 n p18 p19 x).get = some (e, σ)) : ∃ fuel, iter (t18_0 n p18 p19) fuel x = some (e, σ) ∧ e ≠ .normal := by
  have hb : p18.length ≤ big := of_decide_eq_true g
  obtain ⟨z, a0, a1, a2, a3, a4, a5, b0, b1, b2, b3, b4, b5⟩ := x
  unfold lam18_0 at h
  have h' := Tree.get_ite_some h
  clear h
  rcases h' with ⟨h1, h⟩ | ⟨_, h⟩
  · simp only [eqI_eq, leI_eq, Bool.and_eq_true, decide_eq_true_eq, Nat.ble_eq] at h1
    obtain ⟨⟨⟨⟨⟨⟨rfl, k1⟩, k2⟩, k3⟩, k4⟩, k5⟩, k6⟩ := h1
    obtain ⟨i, rfl⟩ : ∃ j : Nat, z = (j : Int) := ⟨z.toNat, by omega⟩
    have key := range_iter (O := Out' E) (t := t18_0 n p18 p18.length) (l := p18) Px.v0 (fun (a : List Val) (i : Int) => (i, a0, a1, a2, a3, a4, a5, b0, b1, b2, b3, a, b5))
      (fun _ a v => (.inl (a ++ [v]) : List Val ⊕ Out' E)) (fun a => (Ex.exit 0, at' E 33 [(2, .lf (.ptr 192 0 0)), (3, .lf (.ptr 256 0 0))] [(192, some (.cells 36 [.int .u8 a0, .int .i64 a1, .int .i64 a2, .str a3, .own 0 0 .val (a4), .own 1 0 .str (a5)])), (256, some (.cells 36 [.int .u8 b0, .int .i64 b1, .int .i64 b2, .str b3, .own 2 0 .val (a), .sl .str (b5)]))])) (fun i a => a.length ≤ i)
      (fun i a hi ho => by
        have hd : (Px.depthL (Px.vl (p18.getD i Px.v0))).blt n = true := by
          have h1 := Px.depth_get hi
          rw [Px.depth_vl] at h1
          exact Nat.ble_eq ▸ Nat.le_trans h1 k3
        have hz : (Val.mk 0 0 0 [] [] []) = Px.v0 := rfl
        have e4 : ∀ v : Val, decide ((a.length + [v].length) * (88 : Nat) ≤ 140737488355328) = true := fun v => decide_eq_true (by simp only [List.length_cons, List.length_nil]; omega)
        refine ⟨?_, fun a' ha => ?_⟩
        · unfold t18_0
          simp only [Tree.get_ite, Tree.get_leaf, ltI_nat hi, inB_nat hi, cond_true, i64_succ hi hb, Int.toNat_natCast, hz, hd, Px.v_eta, Px.small_get k4 hi, Bool.and_self, e4]
        · injection ha with ha
          subst ha
          rw [List.length_append]
          exact Nat.succ_le_succ ho)
      (fun a ho => by unfold t18_0; simp only [Tree.get_ite, Tree.get_leaf, ltI_self, cond_false])
      (p18.length - i) i b4 (by omega) (by omega)
    rw [Px.run_app] at key
    injection h with h
    injection h with h1 h2
    subst h1
    refine ⟨_, key.trans ?_, fun hh => by cases hh⟩
    rw [← h2, Int.toNat_natCast]
  · cases h
noncomputable def rd18_0 (n : Nat) (σ : St E.A) : Tree (Out' E) :=
  let c := clean E (L18_0 .normal) σ
  if c.sl.length = 33 then
  match c.sl.getD 2 .undef, c.sl.getD 3 .undef, c.sl.getD 18 .undef, c.sl.getD 19 .undef, c.sl.getD 20 .undef, c.ob 192, c.ob 256 with
  | .lf (.ptr 192 0 0), .lf (.ptr 256 0 0), .lf (.sl .val p18), .lf (.int .i64 p19), .lf (.int .i64 x20), some (.cells 36 [.int .u8 o192a, .int .i64 o192b, .int .i64 o192c, .str o192d, .own 0 0 .val o192e, .own 1 0 .str o192f]), some (.cells 36 [.int .u8 o256a, .int .i64 o256b, .int .i64 o256c, .str o256d, .own 2 0 .val o256e, .sl .str o256f]) => lam18_0 n p18 p19 (x20, o192a, o192b, o192c, o192d, o192e, o192f, o256a, o256b, o256c, o256d, o256e, o256f)
  | _, _, _, _, _, _, _ => .fail
  else .fail
theorem ll18_0 (hL : Laws E) (n : Nat) (hN : Valid E 18 (spec18N n)) (σ : St E.A) (e : Ex) (σ' : St E.A) (h : (rd18_0 n σ).get = some (e, σ')) : LoopOK E (lb Go.Proofs.Tryz.f18 0) σ e σ' := by
  refine LoopOK.of_clean hL (L18_0 .normal) ?_
  unfold rd18_0 at h
  simp only at h
  split at h
  · rename_i hlen
    split at h
    · rename_i p18 p19 x20 o192a o192b o192c o192d o192e o192f o256a o256b o256c o256d o256e o256f h0 h1 h2 h3 h4 h5 h6
      refine LoopOK.lens 18 (fun g0 => ?_)
      rw [h2] at g0
      refine LoopOK.lensO 192 (fun gg => ?_)
      have g1 := gg _ h5
      refine LoopOK.lensO 256 (fun gg => ?_)
      have g2 := gg _ h6
      obtain ⟨fuel, hi, ho⟩ := m18_0 g0 g1 g2 h
      have hl := loop_at (Γ := (G18 n)) (Λ := fun _ _ => .fail) (n := 1) (body := lb Go.Proofs.Tryz.f18 0) hL (hG18 hL n hN) (S := S18_0 p18 p19) (t := t18_0 n p18 p19) (Lv := L18_0) (LamOK.none (by kernel_rfl)) (h18_0 n p18 p19) hi ho
      refine LoopOK.fit hlen ?_ ?_ rfl rfl hl
      · exact ⟨h0, h1, h2, h3, h4, trivial⟩
      · exact ⟨h5, h6, trivial⟩
    · cases h
  · cases h
noncomputable def Lam18 (n : Nat) : Lam E
  | 0, σ => rd18_0 n σ
  | _, _ => .fail
noncomputable def w18 (n : Nat) (a0Kind : Int) (a0Num : Int) (a0Gen : Int) (a0Text : List UInt8) (a0List : List Val) (a0Keys : List (List UInt8)) : Tree (RV E.A × List (Obj E.A)) :=
 .ite (eqI (↑a0List.length : Int) (↑a0List.length : Int) && leI 0 0 && leI 0 (↑a0List.length : Int) && (Px.depthL a0List).ble n && Px.smallL a0List && leI (↑a0List.length : Int) 1000000 && leI (↑([] : List UInt8).length : Int) (0 : Int))
 (.leaf (.agg [.int .u8 a0Kind, .int .i64 a0Num, .int .i64 a0Gen, .str a0Text, .sl .val ([] ++ List.drop (Int.toNat (0 : Int)) a0List), .sl .str a0Keys], []))
 (.fail)
theorem e18 (n : Nat) (a0Kind : Int) (a0Num : Int) (a0Gen : Int) (a0Text : List UInt8) (a0List : List Val) (a0Keys : List (List UInt8)) : execFun E (G18 n) ((Lam18 n)) false Go.Proofs.Tryz.f18 [.agg [.int .u8 a0Kind, .int .i64 a0Num, .int .i64 a0Gen, .str a0Text, .sl .val a0List, .sl .str a0Keys]] [] some = (w18 n a0Kind a0Num a0Gen a0Text a0List a0Keys).get := by kernel_rfl
noncomputable def raw18 (n : Nat) : Spec E := fun args os => match args, os with
  | [.agg [.int .u8 a0Kind, .int .i64 a0Num, .int .i64 a0Gen, .str a0Text, .sl .val a0List, .sl .str a0Keys]], [] => w18 n a0Kind a0Num a0Gen a0Text a0List a0Keys
  | _, _ => .fail
theorem validraw18 (hL : Laws E) (n : Nat) (hN : Valid E 18 (spec18N n)) : Valid E 18 (raw18 n) :=
  valid_of_body hL (hG18 hL n hN) (Λ := (Lam18 n)) (fn := Go.Proofs.Tryz.f18) (keep := false) (by kernel_rfl) (by kernel_rfl) (by kernel_rfl) ((LamOK.of (m := 1) (by kernel_rfl) (fun j hj σ e σ' hg => by
      match j, hj with
      | 0, _ => exact ll18_0 hL n hN σ e σ' hg
      ))) (fun args os r os' h => by
    unfold raw18 at h
    split at h
    · exact (e18 _ _ _ _ _ _ _).trans h
    · cases h)
theorem eq18 {n : Nat} (k a1 a2 : Int) (a3 : List UInt8) {a4 : List Val} (a5 : List (List UInt8)) (hn : Nat.ble (Px.depthL a4) n = true) (hs : Px.smallV (Val.mk k a1 a2 a3 a4 a5) = true) :
    (w18 n k a1 a2 a3 a4 a5).get = some (.agg [.int .u8 k, .int .i64 a1, .int .i64 a2, .str a3, .sl .val a4, .sl .str a5], []) := by
  rw [Px.smallV, Bool.and_eq_true, Bool.and_eq_true] at hs
  obtain ⟨s1, s2, s3⟩ := hs
  have s1 := Nat.le_of_ble_eq_true s1
  have g : (eqI (a4.length : Int) (a4.length : Int) && leI 0 0 && leI 0 (a4.length : Int) && (Px.depthL a4).ble n && Px.smallL a4 && leI (a4.length : Int) 1000000 && leI (([] : List UInt8).length : Int) 0) = true := by
    rw [hn, s3]
    simp [eqI_eq, leI_eq]
    omega
  unfold w18
  rw [Tree.get_ite, g]
  rfl
theorem valid18N (hL : Laws E) : ∀ n, Valid E 18 (spec18N n)
  | 0 => Valid.never (fun args os => by
      unfold spec18N
      split
      · rfl
      · rfl)
  | n + 1 => (validraw18 hL n (valid18N hL n)).less (fun args os x u1 u2 h => by
      clear u1 u2
      unfold spec18N at h
      split at h
      · rename_i a0 a1 a2 a3 a4 a5
        rcases Tree.get_ite_some h with ⟨h1, h'⟩ | ⟨_, h'⟩
        · rw [Bool.and_eq_true] at h1
          exact (eq18 a0 a1 a2 a3 a5 h1.1 h1.2).trans h'
        · cases h'
      · cases h)
noncomputable def spec18 : Spec E := fun args os => match args, os with
  | [.agg [.int .u8 a0, .int .i64 a1, .int .i64 a2, .str a3, .sl .val a4, .sl .str a5]], [] =>
    .ite (Px.smallV (Val.mk a0 a1 a2 a3 a4 a5)) (.leaf (.agg [.int .u8 a0, .int .i64 a1, .int .i64 a2, .str a3, .sl .val a4, .sl .str a5], [])) .fail
  | _, _ => .fail
theorem valid18 (hL : Laws E) : Valid E 18 spec18 := Valid.forN (valid18N hL) (fun args os x h => by
  unfold spec18 at h
  split at h
  · rename_i a0 a1 a2 a3 a4 a5
    refine ⟨Px.depthL a4 + 1, ?_⟩
    rcases Tree.get_ite_some h with ⟨h1, h'⟩ | ⟨_, h'⟩
    · unfold spec18N
      have : Nat.blt (Px.depthL a4) (Px.depthL a4 + 1) = true := Nat.ble_eq ▸ Nat.le_refl _
      rw [Tree.get_ite, this, Bool.true_and, h1]
      exact h'
    · cases h'
  · cases h)
end Go.Vx
namespace Go.Vx
open Go
noncomputable def G74 : FuncId → Option (Spec E) := fun _ => none
theorem hG74 (hL : Laws E) : ∀ f spec, G74 f = some spec → Valid E f spec := by
  intro f spec h
  cases h
def L74_0 : Ex → Live
  | .normal => ⟨[0, 6, 7, 8], []⟩
  | .exit 0 => ⟨[], []⟩
  | .ret => ⟨[2], []⟩
  | _ => ⟨[], []⟩
noncomputable def S74_0 (p0 : Int) (p6 : List UInt8) (p7 : Int) (x : Int) : St E.A := at' E 16 [(0, .lf (.int .u8 p0)), (6, .lf (.sl .u8 p6)), (7, .lf (.int .i64 p7)), (8, .lf (.int .i64 x))] []
noncomputable def t74_0 (p0 : Int) (p6 : List UInt8) (p7 : Int) (x : Int) : Tree ((Int) ⊕ Out' E) :=
 .ite (ltI x p7)
 (.ite (inB x p6.length)
  (.ite (eqI p0 (↑(p6.getD x.toNat (0 : UInt8)).toNat : Int))
   (.leaf (.inr (.ret, at' E 16 [(2, .lf (.bool true))] [])))
   (.leaf (.inl ((IntKind.i64.wrap (x + (1 : Int)))))))
  (.fail))
 (.leaf (.inr (.exit 0, at' E 16 [] [])))
theorem h74_0 (p0 : Int) (p6 : List UInt8) (p7 : Int) (x : Int) (k : Ex → St E.A → Option Unit) :
    exec E G74 (fun _ _ => .fail) 1 (lb Go.Proofs.Tryz.f74 0) (S74_0 p0 p6 p7 x) (fun e σ1 => k e (clean E (L74_0 e) σ1)) = (t74_0 p0 p6 p7 x).run (Sum.elim (fun x' => k .normal (S74_0 p0 p6 p7 x')) (fun o => k o.1 o.2)) := by kernel_rfl
end Go.Vx
namespace Px
open Go.Vx Go
noncomputable def anyIs' : Int → List UInt8 → Bool := (Classical.choice (sealed anyIs)).1
theorem anyIs'_eq : anyIs' = anyIs := (Classical.choice (sealed anyIs)).2
end Px
namespace Go.Vx
open Go
noncomputable def lam74_0 (p0 : Int) (p6 : List UInt8) (p7 : Int) (x : Int) : Tree (Out' E) :=
  .ite (eqI p7 p6.length && leI 0 x && leI x p7)
   (.ite (Px.anyIs' p0 (p6.drop x.toNat)) (.leaf (.ret, at' E 16 [(2, .lf (.bool true))] [])) (.leaf (.exit 0, at' E 16 [] []))) .fail
theorem m74_0 {p0 : Int} {p6 : List UInt8} {p7 : Int} {x : Int} {e : Ex} {σ : St E.A} (g : okLenR (E := E) (.lf (.sl .u8 p6)) = true)
    (h : (lam74_0 p0 p6 p7 x).get = some (e, σ)) : ∃ fuel, iter (t74_0 p0 p6 p7) fuel x = some (e, σ) ∧ e ≠ .normal := by
  have hb : p6.length ≤ big := of_decide_eq_true g
  unfold lam74_0 at h
  have h' := Tree.get_ite_some h
  clear h
  rcases h' with ⟨h1, h⟩ | ⟨_, h⟩
  · simp only [eqI_eq, leI_eq, Bool.and_eq_true, decide_eq_true_eq] at h1
    obtain ⟨⟨rfl, k1⟩, k2⟩ := h1
    obtain ⟨i, rfl⟩ : ∃ j : Nat, x = (j : Int) := ⟨x.toNat, by omega⟩
    have key := scan_iter (t := t74_0 p0 p6 p6.length) (l := p6) 0 (fun i b => cond (eqI p0 (b.toNat : Int)) (some (Ex.ret, at' E 16 [(2, .lf (.bool true))] [])) none) (Ex.exit 0, at' E 16 [] [])
      (fun i hi => by
        unfold t74_0
        simp only [Tree.get_ite, Tree.get_leaf, ltI_nat hi, inB_nat hi, cond_true, i64_succ hi hb, Int.toNat_natCast]
        cases eqI p0 ((p6.getD i 0).toNat : Int) <;> rfl)
      (by unfold t74_0; simp only [Tree.get_ite, Tree.get_leaf, ltI_self, cond_false])
      (p6.length - i) i (by omega)
    rw [scan_any (fun (b : UInt8) => eqI p0 (b.toNat : Int))] at key
    rw [Tree.get_ite, Tree.get_leaf, Tree.get_leaf, Int.toNat_natCast, Px.anyIs'_eq] at h
    refine ⟨_, key.trans ?_, ?_⟩
    · rw [← h]; exact some_cond _ _ _
    · intro hh; subst hh
      cases q : Px.anyIs p0 (p6.drop i) <;> rw [q] at h <;> cases h
  · cases h
noncomputable def rd74_0 (σ : St E.A) : Tree (Out' E) :=
  let c := clean E (L74_0 .normal) σ
  if c.sl.length = 16 then
  match c.sl.getD 0 .undef, c.sl.getD 6 .undef, c.sl.getD 7 .undef, c.sl.getD 8 .undef with
  | .lf (.int .u8 p0), .lf (.sl .u8 p6), .lf (.int .i64 p7), .lf (.int .i64 x8) => lam74_0 p0 p6 p7 (x8)
  | _, _, _, _ => .fail
  else .fail
theorem ll74_0 (hL : Laws E) (σ : St E.A) (e : Ex) (σ' : St E.A) (h : (rd74_0 σ).get = some (e, σ')) : LoopOK E (lb Go.Proofs.Tryz.f74 0) σ e σ' := by
  refine LoopOK.of_clean hL (L74_0 .normal) ?_
  unfold rd74_0 at h
  simp only at h
  split at h
  · rename_i hlen
    split at h
    · rename_i p0 p6 p7 x8 h0 h1 h2 h3
      refine LoopOK.lens 6 (fun g0 => ?_)
      rw [h1] at g0
      obtain ⟨fuel, hi, ho⟩ := m74_0 g0 h
      have hl := loop_at (Γ := G74) (Λ := fun _ _ => .fail) (n := 1) (body := lb Go.Proofs.Tryz.f74 0) hL (hG74 hL) (S := S74_0 p0 p6 p7) (t := t74_0 p0 p6 p7) (Lv := L74_0) (LamOK.none (by kernel_rfl)) (h74_0 p0 p6 p7) hi ho
      refine LoopOK.fit hlen ?_ ?_ rfl rfl hl
      · exact ⟨h0, h1, h2, h3, trivial⟩
      · exact trivial
    · cases h
  · cases h
noncomputable def Lam74 : Lam E
  | 0, σ => rd74_0 σ
  | _, _ => .fail
noncomputable def w74 (a0 : Int) : Tree (RV E.A × List (Obj E.A)) :=
 .ite (Px.anyIs' a0 (List.drop (Int.toNat (0 : Int)) ([40, 41, 60, 62, 91, 93, 123, 125, 47, 37] : List UInt8)))
 (.leaf (.lf (.bool true), []))
 (.leaf (.lf (.bool false), []))
theorem e74 (a0 : Int) : execFun E G74 ((Lam74)) false Go.Proofs.Tryz.f74 [.lf (.int .u8 a0)] [] some = (w74 a0).get := by kernel_rfl
noncomputable def raw74 : Spec E := fun args os => match args, os with
  | [.lf (.int .u8 a0)], [] => w74 a0
  | _, _ => .fail
theorem validraw74 (hL : Laws E) : Valid E 74 raw74 :=
  valid_of_body hL (hG74 hL) (Λ := (Lam74)) (fn := Go.Proofs.Tryz.f74) (keep := false) (by kernel_rfl) (by kernel_rfl) (by kernel_rfl) ((LamOK.of (m := 1) (by kernel_rfl) (fun j hj σ e σ' hg => by
      match j, hj with
      | 0, _ => exact ll74_0 hL σ e σ' hg
      ))) (fun args os r os' h => by
    unfold raw74 at h
    split at h
    · exact (e74 _).trans h
    · cases h)
theorem eq74 (b : UInt8) : (w74 (b.toNat : Int)).get = some (.lf (.bool (Px.mark b)), []) := by
  unfold w74
  rw [Px.anyIs'_eq]
  have e : ∀ l : List UInt8, Px.anyIs (b.toNat : Int) l = leI 0 (Lib.indexByte l b) := Px.anyIs_index b
  simp only [e]
  show cond (Px.mark b) _ _ = _
  cases Px.mark b <;> rfl
noncomputable def spec74 : Spec E := fun args os => match args, os with
  | [.lf (.int .u8 c)], [] => .ite (inRb .u8 c) (.leaf (.lf (.bool (Px.mark (UInt8.ofNat c.toNat))), [])) .fail
  | _, _ => .fail
theorem valid74 (hL : Laws E) : Valid E 74 spec74 := (validraw74 hL).less (fun args os x u1 u2 h => by
  clear u1 u2
  unfold spec74 at h
  split at h
  · rename_i c
    rcases Tree.get_ite_some h with ⟨h1, h⟩ | ⟨_, h⟩
    · simp only [inRb, Bool.and_eq_true, decide_eq_true_eq] at h1
      have hc : ((UInt8.ofNat c.toNat).toNat : Int) = c := by
        have a0 : (0 : Int) ≤ c := h1.1
        have a1 : c ≤ 255 := h1.2
        rw [UInt8.toNat_ofNat']; omega
      have := eq74 (UInt8.ofNat c.toNat)
      rw [hc] at this
      exact this.trans h
    · cases h
  · cases h)
end Go.Vx
namespace Go.Vx
open Go
noncomputable def G48 : FuncId → Option (Spec E)
  | 74 => some spec74
  | _ => none
theorem hG48 (hL : Laws E) : ∀ f spec, G48 f = some spec → Valid E f spec := by
  intro f spec h
  unfold G48 at h
  split at h
  · injection h with h; subst h; exact valid74 hL
  · cases h
def L48_0 : Ex → Live
  | .normal => ⟨[0, 3], []⟩
  | .exit 0 => ⟨[0], []⟩
  | .ret => ⟨[2], []⟩
  | _ => ⟨[], []⟩
noncomputable def S48_0 (p0 : List UInt8) (x : Int) : St E.A := at' E 34 [(0, .lf (.str p0)), (3, .lf (.int .i64 x))] []
noncomputable def t48_0 (p0 : List UInt8) (x : Int) : Tree ((Int) ⊕ Out' E) :=
 .ite (ltI x (↑p0.length : Int))
 (.ite (inB x p0.length)
  (.ite (ltI (↑(p0.getD x.toNat (0 : UInt8)).toNat : Int) (33 : Int))
   (.leaf (.inr (.ret, at' E 34 [(2, .lf (.bool false))] [])))
   (.ite (inB x p0.length)
    (.ite (ltI 126 (↑(p0.getD x.toNat (0 : UInt8)).toNat : Int))
     (.leaf (.inr (.ret, at' E 34 [(2, .lf (.bool false))] [])))
     (.ite (inB x p0.length)
      (.ite (eqI (↑(p0.getD x.toNat (0 : UInt8)).toNat : Int) (35 : Int))
       (.leaf (.inr (.ret, at' E 34 [(2, .lf (.bool false))] [])))
       (.ite (inB x p0.length)
        (.ite (inRb IntKind.u8 (↑(p0.getD x.toNat (0 : UInt8)).toNat : Int))
         (.ite (Px.mark (UInt8.ofNat (↑(p0.getD x.toNat (0 : UInt8)).toNat : Int).toNat))
          (.leaf (.inr (.ret, at' E 34 [(2, .lf (.bool false))] [])))
          (.leaf (.inl ((IntKind.i64.wrap (x + (1 : Int)))))))
         (.fail))
        (.fail)))
      (.fail)))
    (.fail)))
  (.fail))
 (.leaf (.inr (.exit 0, at' E 34 [(0, .lf (.str p0))] [])))
theorem h48_0 (p0 : List UInt8) (x : Int) (k : Ex → St E.A → Option Unit) :
    exec E G48 (fun _ _ => .fail) 1 (lb Go.Proofs.Tryz.f48 0) (S48_0 p0 x) (fun e σ1 => k e (clean E (L48_0 e) σ1)) = (t48_0 p0 x).run (Sum.elim (fun x' => k .normal (S48_0 p0 x')) (fun o => k o.1 o.2)) := by kernel_rfl
noncomputable def lam48_0 (p0 : List UInt8) (x : Int) : Tree (Out' E) :=
  .ite (leI 0 x && leI x p0.length)
   (.ite (Px.anyBad' (p0.drop x.toNat)) (.leaf (.ret, at' E 34 [(2, .lf (.bool false))] [])) (.leaf (.exit 0, at' E 34 [(0, .lf (.str p0))] []))) .fail
theorem m48_0 {p0 : List UInt8} {x : Int} {e : Ex} {σ : St E.A} (g : okLenR (E := E) (.lf (.str p0)) = true)
    (h : (lam48_0 p0 x).get = some (e, σ)) : ∃ fuel, iter (t48_0 p0) fuel x = some (e, σ) ∧ e ≠ .normal := by
  have hb : p0.length ≤ big := of_decide_eq_true g
  unfold lam48_0 at h
  have h' := Tree.get_ite_some h
  clear h
  rcases h' with ⟨h1, h⟩ | ⟨_, h⟩
  · simp only [eqI_eq, leI_eq, Bool.and_eq_true, decide_eq_true_eq] at h1
    obtain ⟨k1, k2⟩ := h1
    obtain ⟨i, rfl⟩ : ∃ j : Nat, x = (j : Int) := ⟨x.toNat, by omega⟩
    have key := scan_iter (t := t48_0 p0) (l := p0) 0 (fun i b => cond (Px.badB b) (some (Ex.ret, at' E 34 [(2, .lf (.bool false))] [])) none) (Ex.exit 0, at' E 34 [(0, .lf (.str p0))] [])
      (fun i hi => by
        unfold t48_0
        simp only [Tree.get_ite, Tree.get_leaf, ltI_nat hi, inB_nat hi, cond_true, i64_succ hi hb, Int.toNat_natCast, inRb_u8, ltI_33]
        rw [UInt8.ofNat_toNat]
        unfold Px.badB
        cases leI ((p0.getD i 0).toNat : Int) 32 <;> cases ltI 126 ((p0.getD i 0).toNat : Int) <;> cases eqI ((p0.getD i 0).toNat : Int) 35 <;> cases Px.mark (p0.getD i 0) <;> rfl)
      (by unfold t48_0; simp only [Tree.get_ite, Tree.get_leaf, ltI_self, cond_false])
      (p0.length - i) i (by omega)
    rw [scan_any (fun (b : UInt8) => Px.badB b)] at key
    have hany : ∀ l : List UInt8, (l.any fun (b : UInt8) => Px.badB b) = Px.anyBad l := fun _ => rfl
    rw [hany] at key
    rw [Tree.get_ite, Tree.get_leaf, Tree.get_leaf, Int.toNat_natCast, Px.anyBad'_eq] at h
    refine ⟨_, key.trans ?_, ?_⟩
    · rw [← h]; exact some_cond _ _ _
    · intro hh; subst hh
      cases q : Px.anyBad (p0.drop i) <;> rw [q] at h <;> cases h
  · cases h
noncomputable def rd48_0 (σ : St E.A) : Tree (Out' E) :=
  let c := clean E (L48_0 .normal) σ
  if c.sl.length = 34 then
  match c.sl.getD 0 .undef, c.sl.getD 3 .undef with
  | .lf (.str p0), .lf (.int .i64 x3) => lam48_0 p0 (x3)
  | _, _ => .fail
  else .fail
theorem ll48_0 (hL : Laws E) (σ : St E.A) (e : Ex) (σ' : St E.A) (h : (rd48_0 σ).get = some (e, σ')) : LoopOK E (lb Go.Proofs.Tryz.f48 0) σ e σ' := by
  refine LoopOK.of_clean hL (L48_0 .normal) ?_
  unfold rd48_0 at h
  simp only at h
  split at h
  · rename_i hlen
    split at h
    · rename_i p0 x3 h0 h1
      refine LoopOK.lens 0 (fun g0 => ?_)
      rw [h0] at g0
      obtain ⟨fuel, hi, ho⟩ := m48_0 g0 h
      have hl := loop_at (Γ := G48) (Λ := fun _ _ => .fail) (n := 1) (body := lb Go.Proofs.Tryz.f48 0) hL (hG48 hL) (S := S48_0 p0) (t := t48_0 p0) (Lv := L48_0) (LamOK.none (by kernel_rfl)) (h48_0 p0) hi ho
      refine LoopOK.fit hlen ?_ ?_ rfl rfl hl
      · exact ⟨h0, h1, trivial⟩
      · exact trivial
    · cases h
  · cases h
noncomputable def Lam48 : Lam E
  | 0, σ => rd48_0 σ
  | _, _ => .fail
noncomputable def w48 (a0 : List UInt8) : Tree (RV E.A × List (Obj E.A)) :=
 .ite (Px.anyBad' (List.drop (Int.toNat (0 : Int)) a0))
 (.leaf (.lf (.bool false), []))
 (.leaf (.lf (.bool (!decide (a0 = []))), []))
theorem e48 (a0 : List UInt8) : execFun E G48 ((Lam48)) false Go.Proofs.Tryz.f48 [.lf (.str a0)] [] some = (w48 a0).get := by kernel_rfl
noncomputable def raw48 : Spec E := fun args os => match args, os with
  | [.lf (.str a0)], [] => w48 a0
  | _, _ => .fail
theorem validraw48 (hL : Laws E) : Valid E 48 raw48 :=
  valid_of_body hL (hG48 hL) (Λ := (Lam48)) (fn := Go.Proofs.Tryz.f48) (keep := false) (by kernel_rfl) (by kernel_rfl) (by kernel_rfl) ((LamOK.of (m := 1) (by kernel_rfl) (fun j hj σ e σ' hg => by
      match j, hj with
      | 0, _ => exact ll48_0 hL σ e σ' hg
      ))) (fun args os r os' h => by
    unfold raw48 at h
    split at h
    · exact (e48 _).trans h
    · cases h)
theorem eq48 (s : List UInt8) : (w48 s).get = some (.lf (.bool (Px.plain s)), []) := by
  have g : (leI 0 0 && leI 0 (s.length : Int)) = true := by
    simp [eqI_eq, leI_eq]
  unfold w48
  simp only [Tree.get_ite, Tree.get_leaf, Px.anyBad'_eq]
  first | rw [g] | skip
  unfold Px.plain
  cases s with
  | nil => rfl
  | cons a r =>
    show cond (Px.anyBad (a :: r)) _ _ = _
    cases Px.anyBad (a :: r) <;> rfl
noncomputable def spec48 : Spec E := fun args os => match args, os with
  | [.lf (.str s)], [] => .leaf (.lf (.bool (Px.plain s)), [])
  | _, _ => .fail
theorem valid48 (hL : Laws E) : Valid E 48 spec48 := (validraw48 hL).less (fun args os x u1 u2 h => by
  clear u1 u2
  unfold spec48 at h
  split at h
  · rename_i s
    exact (eq48 s).trans h
  · cases h)
end Go.Vx
namespace Go.Vx
open Go
noncomputable def G66 : FuncId → Option (Spec E)
  | 48 => some spec48
  | _ => none
theorem hG66 (hL : Laws E) : ∀ f spec, G66 f = some spec → Valid E f spec := by
  intro f spec h
  unfold G66 at h
  split at h
  · injection h with h; subst h; exact valid48 hL
  · cases h
def L66_0 : Ex → Live
  | .normal => ⟨[0, 3, 6, 7], []⟩
  | .exit 0 => ⟨[3], []⟩
  | .ret => ⟨[2], []⟩
  | _ => ⟨[], []⟩
noncomputable def S66_0 (p0 : List UInt8) (p6 : Int) (x : (List UInt8) × Int) : St E.A := at' E 29 [(0, .lf (.str p0)), (3, .lf (.str x.1)), (6, .lf (.int .i64 p6)), (7, .lf (.int .i64 x.2))] []
noncomputable def t66_0 (p0 : List UInt8) (p6 : Int) (x : (List UInt8) × Int) : Tree ((List UInt8) × Int ⊕ Out' E) :=
 .ite (ltI x.2 p6)
 (.ite (ltI x.2 8)
  (.ite (leI 0 x.2 && leI x.2 (IntKind.i64.wrap (x.2 + (1 : Int))) && leI (IntKind.i64.wrap (x.2 + (1 : Int))) (↑p0.length : Int))
   (.ite (Px.plain (List.drop x.2.toNat (List.take (IntKind.i64.wrap (x.2 + (1 : Int))).toNat p0)))
    (.ite (leI 0 x.2 && leI x.2 (IntKind.i64.wrap (x.2 + (1 : Int))) && leI (IntKind.i64.wrap (x.2 + (1 : Int))) (↑p0.length : Int))
     (.ite (decide (x.1.length + (List.drop x.2.toNat (List.take (IntKind.i64.wrap (x.2 + (1 : Int))).toNat p0)).length ≤ 2 ^ (60 : Nat)))
      (.leaf (.inl ((x.1 ++ List.drop x.2.toNat (List.take (IntKind.i64.wrap (x.2 + (1 : Int))).toNat p0)), (IntKind.i64.wrap (x.2 + (1 : Int))))))
      (.fail))
     (.fail))
    (.leaf (.inl (x.1, (IntKind.i64.wrap (x.2 + (1 : Int)))))))
   (.fail))
  (.leaf (.inl (x.1, (IntKind.i64.wrap (x.2 + (1 : Int)))))))
 (.leaf (.inr (.exit 0, at' E 29 [(3, .lf (.str x.1))] [])))
theorem h66_0 (p0 : List UInt8) (p6 : Int) (x : (List UInt8) × Int) (k : Ex → St E.A → Option Unit) :
    exec E G66 (fun _ _ => .fail) 1 (lb Go.Proofs.Tryz.f66 0) (S66_0 p0 p6 x) (fun e σ1 => k e (clean E (L66_0 e) σ1)) = (t66_0 p0 p6 x).run (Sum.elim (fun x' => k .normal (S66_0 p0 p6 x')) (fun o => k o.1 o.2)) := by kernel_rfl
noncomputable def lam66_0 (p0 : List UInt8) (p6 : Int) (x : List UInt8 × Int) : Tree (Out' E) :=
  .ite (eqI p6 p0.length && leI 0 x.2 && leI x.2 p6 && leI x.1.length x.2 && leI x.1.length 8)
   (.leaf (.exit 0, at' E 29 [(3, .lf (.str (Px.nameGo' x.1 x.2.toNat (p0.drop x.2.toNat))))] [])) .fail
theorem m66_0 {p0 : List UInt8} {p6 : Int} {x : List UInt8 × Int} {e : Ex} {σ : St E.A} (g : okLenR (E := E) (.lf (.str p0)) = true) (_ : okLenR (E := E) (.lf (.str x.1)) = true)
    (h : (lam66_0 p0 p6 x).get = some (e, σ)) : ∃ fuel, iter (t66_0 p0 p6) fuel x = some (e, σ) ∧ e ≠ .normal := by
  have hb : p0.length ≤ big := of_decide_eq_true g
  obtain ⟨a, z⟩ := x
  unfold lam66_0 at h
  have h' := Tree.get_ite_some h
  clear h
  rcases h' with ⟨h1, h⟩ | ⟨_, h⟩
  · simp only [eqI_eq, leI_eq, Bool.and_eq_true, decide_eq_true_eq] at h1
    obtain ⟨⟨⟨⟨rfl, k1⟩, k2⟩, k3⟩, k4⟩ := h1
    obtain ⟨i, rfl⟩ : ∃ j : Nat, z = (j : Int) := ⟨z.toNat, by omega⟩
    have key := range_iter (O := Out' E) (t := t66_0 p0 p0.length) (l := p0) 0 (fun (a : List UInt8) (i : Int) => (a, i))
      (fun i a b => (.inl (cond (ltI (i : Int) 8 && !Px.badB b) (a ++ [b]) a) : List UInt8 ⊕ Out' E)) (fun a => (Ex.exit 0, at' E 29 [(3, .lf (.str a))] [])) (fun i a => a.length ≤ i ∧ a.length ≤ 8)
      (fun i a hi ho => by
        refine ⟨?_, fun a' ha => ?_⟩
        · have e1 : leI 0 (i : Int) = true := by rw [leI_eq]; exact decide_eq_true (by omega)
          have e2 : leI (i : Int) ((i + 1 : Nat) : Int) = true := by rw [leI_eq]; exact decide_eq_true (by omega)
          have e3 : leI ((i + 1 : Nat) : Int) (p0.length : Int) = true := by rw [leI_eq]; exact decide_eq_true (by omega)
          have e4 : decide (a.length + [p0.getD i 0].length ≤ 2 ^ (60 : Nat)) = true := decide_eq_true (by
            have := ho.2
            simp only [List.length_cons, List.length_nil]
            omega)
          unfold t66_0
          simp only [Tree.get_ite, Tree.get_leaf, ltI_nat hi, cond_true, i64_succ hi hb, Int.toNat_natCast, Px.slice1 p0 hi, Px.plain_one, e1, e2, e3, e4, Bool.and_true]
          cases ltI (i : Int) 8 <;> cases Px.badB (p0.getD i 0) <;> rfl
        · injection ha with ha
          subst ha
          cases q : ltI (i : Int) 8 && !Px.badB (p0.getD i 0)
          · exact ⟨Nat.le_succ_of_le ho.1, ho.2⟩
          · rw [Bool.and_eq_true, ltI_eq, decide_eq_true_eq] at q
            have := ho.1
            show (a ++ [_]).length ≤ i + 1 ∧ (a ++ [_]).length ≤ 8
            rw [List.length_append]
            simp only [List.length_cons, List.length_nil]
            omega)
      (fun a ho => by unfold t66_0; simp only [Tree.get_ite, Tree.get_leaf, ltI_self, cond_false])
      (p0.length - i) i a (by omega) ⟨by omega, by omega⟩
    rw [Px.nameGo_run] at key
    rw [Int.toNat_natCast, Px.nameGo'_eq] at h
    injection h with h
    injection h with h1 h2
    subst h1
    refine ⟨_, key.trans ?_, fun hh => by cases hh⟩
    rw [← h2]
  · cases h
noncomputable def rd66_0 (σ : St E.A) : Tree (Out' E) :=
  let c := clean E (L66_0 .normal) σ
  if c.sl.length = 29 then
  match c.sl.getD 0 .undef, c.sl.getD 3 .undef, c.sl.getD 6 .undef, c.sl.getD 7 .undef with
  | .lf (.str p0), .lf (.str x3), .lf (.int .i64 p6), .lf (.int .i64 x7) => lam66_0 p0 p6 (x3, x7)
  | _, _, _, _ => .fail
  else .fail
theorem ll66_0 (hL : Laws E) (σ : St E.A) (e : Ex) (σ' : St E.A) (h : (rd66_0 σ).get = some (e, σ')) : LoopOK E (lb Go.Proofs.Tryz.f66 0) σ e σ' := by
  refine LoopOK.of_clean hL (L66_0 .normal) ?_
  unfold rd66_0 at h
  simp only at h
  split at h
  · rename_i hlen
    split at h
    · rename_i p0 x3 p6 x7 h0 h1 h2 h3
      refine LoopOK.lens 0 (fun g0 => ?_)
      rw [h0] at g0
      refine LoopOK.lens 3 (fun g1 => ?_)
      rw [h1] at g1
      obtain ⟨fuel, hi, ho⟩ := m66_0 g0 g1 h
      have hl := loop_at (Γ := G66) (Λ := fun _ _ => .fail) (n := 1) (body := lb Go.Proofs.Tryz.f66 0) hL (hG66 hL) (S := S66_0 p0 p6) (t := t66_0 p0 p6) (Lv := L66_0) (LamOK.none (by kernel_rfl)) (h66_0 p0 p6) hi ho
      refine LoopOK.fit hlen ?_ ?_ rfl rfl hl
      · exact ⟨h0, h1, h2, h3, trivial⟩
      · exact trivial
    · cases h
  · cases h
noncomputable def Lam66 : Lam E
  | 0, σ => rd66_0 σ
  | _, _ => .fail
noncomputable def w66 (a0 : List UInt8) : Tree (RV E.A × List (Obj E.A)) :=
 .ite (eqI (↑a0.length : Int) (↑a0.length : Int) && leI 0 0 && leI 0 (↑a0.length : Int) && leI (↑([] : List UInt8).length : Int) (0 : Int) && leI (↑([] : List UInt8).length : Int) (8 : Int))
 (.leaf (.lf (.str (Px.nameGo' [] (Int.toNat (0 : Int)) (List.drop (Int.toNat (0 : Int)) a0))), []))
 (.fail)
theorem e66 (a0 : List UInt8) : execFun E G66 ((Lam66)) false Go.Proofs.Tryz.f66 [.lf (.str a0)] [] some = (w66 a0).get := by kernel_rfl
noncomputable def raw66 : Spec E := fun args os => match args, os with
  | [.lf (.str a0)], [] => w66 a0
  | _, _ => .fail
theorem validraw66 (hL : Laws E) : Valid E 66 raw66 :=
  valid_of_body hL (hG66 hL) (Λ := (Lam66)) (fn := Go.Proofs.Tryz.f66) (keep := false) (by kernel_rfl) (by kernel_rfl) (by kernel_rfl) ((LamOK.of (m := 1) (by kernel_rfl) (fun j hj σ e σ' hg => by
      match j, hj with
      | 0, _ => exact ll66_0 hL σ e σ' hg
      ))) (fun args os r os' h => by
    unfold raw66 at h
    split at h
    · exact (e66 _).trans h
    · cases h)
theorem eq66 (s : List UInt8) : (w66 s).get = some (.lf (.str (Px.nameOf s)), []) := by
  have g : (eqI (s.length : Int) (s.length : Int) && leI 0 0 && leI 0 (s.length : Int) && leI (([] : List UInt8).length : Int) 0 && leI (([] : List UInt8).length : Int) 8) = true := by
    simp [eqI_eq, leI_eq]
  unfold w66
  simp only [Tree.get_ite, Tree.get_leaf, Px.nameGo'_eq]
  rw [g, ← Px.nameOf_eq]
  rfl
noncomputable def spec66 : Spec E := fun args os => match args, os with
  | [.lf (.str s)], [] => .leaf (.lf (.str (Px.nameOf s)), [])
  | _, _ => .fail
theorem valid66 (hL : Laws E) : Valid E 66 spec66 := (validraw66 hL).less (fun args os x u1 u2 h => by
  clear u1 u2
  unfold spec66 at h
  split at h
  · rename_i s
    exact (eq66 s).trans h
  · cases h)
end Go.Vx
namespace Go.Vx
open Go
noncomputable def G67 : FuncId → Option (Spec E) := fun _ => none
theorem hG67 (hL : Laws E) : ∀ f spec, G67 f = some spec → Valid E f spec := by
  intro f spec h
  cases h
noncomputable def w67 (a0 : List UInt8) (a1 : Int) : Tree (RV E.A × List (Obj E.A)) :=
 .ite (leI 0 (↑(0 : Nat) : Int) && leI (↑(0 : Nat) : Int) (if false = true then Max.max (↑a0.length : Int) a1 else Min.min (↑a0.length : Int) a1) && leI (if false = true then Max.max (↑a0.length : Int) a1 else Min.min (↑a0.length : Int) a1) (↑a0.length : Int))
 (.leaf (.lf (.str (List.drop (↑(0 : Nat) : Int).toNat (List.take (if false = true then Max.max (↑a0.length : Int) a1 else Min.min (↑a0.length : Int) a1).toNat a0))), []))
 (.fail)
theorem e67 (a0 : List UInt8) (a1 : Int) : execFun E G67 (fun _ _ => .fail) false Go.Proofs.Tryz.f67 [.lf (.str a0), .lf (.int .i64 a1)] [] some = (w67 a0 a1).get := by kernel_rfl
noncomputable def raw67 : Spec E := fun args os => match args, os with
  | [.lf (.str a0), .lf (.int .i64 a1)], [] => w67 a0 a1
  | _, _ => .fail
theorem validraw67 (hL : Laws E) : Valid E 67 raw67 :=
  valid_of_body hL (hG67 hL) (Λ := fun _ _ => .fail) (fn := Go.Proofs.Tryz.f67) (keep := false) (by kernel_rfl) (by kernel_rfl) (by kernel_rfl) (LamOK.none (by kernel_rfl)) (fun args os r os' h => by
    unfold raw67 at h
    split at h
    · exact (e67 _ _).trans h
    · cases h)
noncomputable def spec67 : Spec E := fun args os => match args, os with
  | [.lf (.str a0), .lf (.int .i64 a1)], [] => .ite (leI 0 a1) (.leaf (.lf (.str (List.take a1.toNat a0)), [])) .fail
  | _, _ => .fail
theorem valid67 (hL : Laws E) : Valid E 67 spec67 := (validraw67 hL).less (fun args os x u1 u2 h => by
  clear u1 u2
  unfold spec67 at h
  split at h
  · rename_i s c
    rcases Tree.get_ite_some h with ⟨h1, h⟩ | ⟨_, h⟩
    · rw [leI_eq, decide_eq_true_eq] at h1
      rw [← h]
      show (w67 s c).get = _
      have e0 : (if false = true then Max.max (s.length : Int) c else Min.min (s.length : Int) c) = Min.min (s.length : Int) c := rfl
      have e : (leI 0 ((0 : Nat) : Int) && leI ((0 : Nat) : Int) (Min.min (s.length : Int) c) && leI (Min.min (s.length : Int) c) (s.length : Int)) = true := by
        simp only [leI_eq, Bool.and_eq_true, decide_eq_true_eq]
        omega
      unfold w67
      rw [Tree.get_ite, Tree.get_leaf, e0, e, cond_true, Int.toNat_natCast, List.drop_zero]
      have : List.take (Min.min (s.length : Int) c).toNat s = List.take c.toNat s := by
        by_cases hc : c ≤ s.length
        · rw [Int.min_eq_right hc]
        · rw [Int.min_eq_left (by omega), Int.toNat_natCast, List.take_of_length_le (Nat.le_refl _), List.take_of_length_le (by omega)]
      rw [this]
      rfl
    · cases h
  · cases h)
end Go.Vx
namespace Go.Vx
open Go
noncomputable def spec41N (n : Nat) : Spec E := fun args os => match args, os with
  | [.lf (.sl .bit l), .lf (.int .i64 d)], [] => .ite (leI 0 d && ltI d 22 && leI 22 (d + n) && !l.isEmpty)
     (.leaf (.tup [(true, [.int .u8 (Px.vk (Px.growV d l)), .int .i64 (Px.vn (Px.growV d l)), .int .i64 (Px.vg (Px.growV d l)), .str (Px.vt (Px.growV d l)), .sl .val (Px.vl (Px.growV d l)), .sl .str (Px.vs (Px.growV d l))]), (false, [.sl .bit (Px.growL d l)])], [])) .fail
  | _, _ => .fail
noncomputable def G41 (n : Nat) : FuncId → Option (Spec E)
  | 66 => some spec66
  | 67 => some spec67
  | 41 => some (spec41N n)
  | _ => none
theorem hG41 (hL : Laws E) (n : Nat) (hN : Valid E 41 (spec41N n)) : ∀ f spec, (G41 n) f = some spec → Valid E f spec := by
  intro f spec h
  unfold G41 at h
  split at h
  · injection h with h; subst h; exact valid66 hL
  · injection h with h; subst h; exact valid67 hL
  · injection h with h; subst h; exact hN
  · cases h
def L41_0 : Ex → Live
  | .normal => ⟨[0, 1, 4, 6, 7, 61, 62], [320, 448, 512]⟩
  | .exit 1 => ⟨[0, 4, 6, 7], [320, 448, 512]⟩
  | .ret => ⟨[4, 5], [320, 448, 512]⟩
  | _ => ⟨[], []⟩
noncomputable def S41_0 (p1 : Int) (p61 : Int) (x : (List (Int × Int × Int × List UInt8 × Int × Bool)) × Int × Int × Int × Int × (List UInt8) × (List Val) × (List (List UInt8)) × Int × Int × Int × (List UInt8) × Int × Bool × Int × Int × Int × (List UInt8) × (List Val) × (List (List UInt8))) : St E.A := at' E 110 [(0, .lf (.sl .bit x.1)), (1, .lf (.int .i64 p1)), (4, .lf (.ptr 320 0 0)), (6, .lf (.ptr 448 0 0)), (7, .lf (.ptr 512 0 0)), (61, .lf (.int .u8 p61)), (62, .lf (.int .u8 x.2.1))] [(320, some (.cells 30 [.int .u8 x.2.2.1, .int .i64 x.2.2.2.1, .int .i64 x.2.2.2.2.1, .str x.2.2.2.2.2.1, .own 0 0 .val x.2.2.2.2.2.2.1, .own 1 0 .str x.2.2.2.2.2.2.2.1])), (448, some (.cells 99 [.int .u8 x.2.2.2.2.2.2.2.2.1, .int .i64 x.2.2.2.2.2.2.2.2.2.1, .int .u8 x.2.2.2.2.2.2.2.2.2.2.1, .str x.2.2.2.2.2.2.2.2.2.2.2.1, .int .u8 x.2.2.2.2.2.2.2.2.2.2.2.2.1, .bool x.2.2.2.2.2.2.2.2.2.2.2.2.2.1])), (512, some (.cells 30 [.int .u8 x.2.2.2.2.2.2.2.2.2.2.2.2.2.2.1, .int .i64 x.2.2.2.2.2.2.2.2.2.2.2.2.2.2.2.1, .int .i64 x.2.2.2.2.2.2.2.2.2.2.2.2.2.2.2.2.1, .str x.2.2.2.2.2.2.2.2.2.2.2.2.2.2.2.2.2.1, .own 2 0 .val x.2.2.2.2.2.2.2.2.2.2.2.2.2.2.2.2.2.2.1, .own 3 0 .str x.2.2.2.2.2.2.2.2.2.2.2.2.2.2.2.2.2.2.2]))]
noncomputable def t41_0 (n : Nat) (p1 : Int) (p61 : Int) (x : (List (Int × Int × Int × List UInt8 × Int × Bool)) × Int × Int × Int × Int × (List UInt8) × (List Val) × (List (List UInt8)) × Int × Int × Int × (List UInt8) × Int × Bool × Int × Int × Int × (List UInt8) × (List Val) × (List (List UInt8))) : Tree ((List (Int × Int × Int × List UInt8 × Int × Bool)) × Int × Int × Int × Int × (List UInt8) × (List Val) × (List (List UInt8)) × Int × Int × Int × (List UInt8) × Int × Bool × Int × Int × Int × (List UInt8) × (List Val) × (List (List UInt8)) ⊕ Out' E) :=
 .ite (ltI x.2.1 p61)
 (.ite (eqI (↑x.1.length : Int) 0)
  (.leaf (.inr (.exit 1, at' E 110 [(0, .lf (.sl .bit x.1)), (4, .lf (.ptr 320 0 0)), (6, .lf (.ptr 448 0 0)), (7, .lf (.ptr 512 0 0))] [(320, some (.cells 30 [.int .u8 x.2.2.1, .int .i64 x.2.2.2.1, .int .i64 x.2.2.2.2.1, .str x.2.2.2.2.2.1, .own 0 0 .val x.2.2.2.2.2.2.1, .own 1 0 .str x.2.2.2.2.2.2.2.1])), (448, some (.cells 99 [.int .u8 x.2.2.2.2.2.2.2.2.1, .int .i64 x.2.2.2.2.2.2.2.2.2.1, .int .u8 x.2.2.2.2.2.2.2.2.2.2.1, .str x.2.2.2.2.2.2.2.2.2.2.2.1, .int .u8 x.2.2.2.2.2.2.2.2.2.2.2.2.1, .bool x.2.2.2.2.2.2.2.2.2.2.2.2.2.1])), (512, some (.cells 30 [.int .u8 x.2.2.2.2.2.2.2.2.2.2.2.2.2.2.1, .int .i64 x.2.2.2.2.2.2.2.2.2.2.2.2.2.2.2.1, .int .i64 x.2.2.2.2.2.2.2.2.2.2.2.2.2.2.2.2.1, .str x.2.2.2.2.2.2.2.2.2.2.2.2.2.2.2.2.2.1, .own 2 0 .val x.2.2.2.2.2.2.2.2.2.2.2.2.2.2.2.2.2.2.1, .own 3 0 .str x.2.2.2.2.2.2.2.2.2.2.2.2.2.2.2.2.2.2.2]))])))
  (.ite (ltI 20 p1)
   (.leaf (.inr (.exit 1, at' E 110 [(0, .lf (.sl .bit x.1)), (4, .lf (.ptr 320 0 0)), (6, .lf (.ptr 448 0 0)), (7, .lf (.ptr 512 0 0))] [(320, some (.cells 30 [.int .u8 x.2.2.1, .int .i64 x.2.2.2.1, .int .i64 x.2.2.2.2.1, .str x.2.2.2.2.2.1, .own 0 0 .val x.2.2.2.2.2.2.1, .own 1 0 .str x.2.2.2.2.2.2.2.1])), (448, some (.cells 99 [.int .u8 x.2.2.2.2.2.2.2.2.1, .int .i64 x.2.2.2.2.2.2.2.2.2.1, .int .u8 x.2.2.2.2.2.2.2.2.2.2.1, .str x.2.2.2.2.2.2.2.2.2.2.2.1, .int .u8 x.2.2.2.2.2.2.2.2.2.2.2.2.1, .bool x.2.2.2.2.2.2.2.2.2.2.2.2.2.1])), (512, some (.cells 30 [.int .u8 x.2.2.2.2.2.2.2.2.2.2.2.2.2.2.1, .int .i64 x.2.2.2.2.2.2.2.2.2.2.2.2.2.2.2.1, .int .i64 x.2.2.2.2.2.2.2.2.2.2.2.2.2.2.2.2.1, .str x.2.2.2.2.2.2.2.2.2.2.2.2.2.2.2.2.2.1, .own 2 0 .val x.2.2.2.2.2.2.2.2.2.2.2.2.2.2.2.2.2.2.1, .own 3 0 .str x.2.2.2.2.2.2.2.2.2.2.2.2.2.2.2.2.2.2.2]))])))
   (.ite (leI 0 (IntKind.i64.wrap (p1 + (1 : Int))) && ltI (IntKind.i64.wrap (p1 + (1 : Int))) (22 : Int) && leI 22 (IntKind.i64.wrap (p1 + (1 : Int)) + (↑n : Int)) && !x.1.isEmpty)
    (.ite (decide ((x.2.2.2.2.2.2.2.2.2.2.2.2.2.2.2.2.2.2.1.length + [Val.mk (Px.vk (Px.growV (IntKind.i64.wrap (p1 + (1 : Int))) x.1)) (Px.vn (Px.growV (IntKind.i64.wrap (p1 + (1 : Int))) x.1)) (Px.vg (Px.growV (IntKind.i64.wrap (p1 + (1 : Int))) x.1)) (Px.vt (Px.growV (IntKind.i64.wrap (p1 + (1 : Int))) x.1)) (Px.vl (Px.growV (IntKind.i64.wrap (p1 + (1 : Int))) x.1)) (Px.vs (Px.growV (IntKind.i64.wrap (p1 + (1 : Int))) x.1))].length) * (88 : Nat) ≤ 140737488355328))
     (.ite (eqI x.2.2.2.2.2.2.2.2.2.2.2.2.2.2.1 6)
      (.ite (decide ([(75 : UInt8), UInt8.ofNat (IntKind.u8.wrap ((97 : Int) + x.2.1)).toNat].length + (Px.nameOf x.2.2.2.2.2.2.2.2.2.2.2.1).length ≤ 2 ^ (60 : Nat)))
       (.ite (decide ((x.2.2.2.2.2.2.2.2.2.2.2.2.2.2.2.2.2.2.2.length + [[(75 : UInt8), UInt8.ofNat (IntKind.u8.wrap ((97 : Int) + x.2.1)).toNat] ++ Px.nameOf x.2.2.2.2.2.2.2.2.2.2.2.1].length) * (16 : Nat) ≤ 140737488355328))
        (.leaf (.inl ((Px.growL (IntKind.i64.wrap (p1 + (1 : Int))) x.1), (IntKind.u8.wrap (x.2.1 + (1 : Int))), x.2.2.1, x.2.2.2.1, x.2.2.2.2.1, x.2.2.2.2.2.1, x.2.2.2.2.2.2.1, x.2.2.2.2.2.2.2.1, x.2.2.2.2.2.2.2.2.1, x.2.2.2.2.2.2.2.2.2.1, x.2.2.2.2.2.2.2.2.2.2.1, x.2.2.2.2.2.2.2.2.2.2.2.1, x.2.2.2.2.2.2.2.2.2.2.2.2.1, x.2.2.2.2.2.2.2.2.2.2.2.2.2.1, x.2.2.2.2.2.2.2.2.2.2.2.2.2.2.1, x.2.2.2.2.2.2.2.2.2.2.2.2.2.2.2.1, x.2.2.2.2.2.2.2.2.2.2.2.2.2.2.2.2.1, x.2.2.2.2.2.2.2.2.2.2.2.2.2.2.2.2.2.1, (x.2.2.2.2.2.2.2.2.2.2.2.2.2.2.2.2.2.2.1 ++ [Val.mk (Px.vk (Px.growV (IntKind.i64.wrap (p1 + (1 : Int))) x.1)) (Px.vn (Px.growV (IntKind.i64.wrap (p1 + (1 : Int))) x.1)) (Px.vg (Px.growV (IntKind.i64.wrap (p1 + (1 : Int))) x.1)) (Px.vt (Px.growV (IntKind.i64.wrap (p1 + (1 : Int))) x.1)) (Px.vl (Px.growV (IntKind.i64.wrap (p1 + (1 : Int))) x.1)) (Px.vs (Px.growV (IntKind.i64.wrap (p1 + (1 : Int))) x.1))]), (x.2.2.2.2.2.2.2.2.2.2.2.2.2.2.2.2.2.2.2 ++ [[(75 : UInt8), UInt8.ofNat (IntKind.u8.wrap ((97 : Int) + x.2.1)).toNat] ++ Px.nameOf x.2.2.2.2.2.2.2.2.2.2.2.1]))))
        (.fail))
       (.fail))
      (.leaf (.inl ((Px.growL (IntKind.i64.wrap (p1 + (1 : Int))) x.1), (IntKind.u8.wrap (x.2.1 + (1 : Int))), x.2.2.1, x.2.2.2.1, x.2.2.2.2.1, x.2.2.2.2.2.1, x.2.2.2.2.2.2.1, x.2.2.2.2.2.2.2.1, x.2.2.2.2.2.2.2.2.1, x.2.2.2.2.2.2.2.2.2.1, x.2.2.2.2.2.2.2.2.2.2.1, x.2.2.2.2.2.2.2.2.2.2.2.1, x.2.2.2.2.2.2.2.2.2.2.2.2.1, x.2.2.2.2.2.2.2.2.2.2.2.2.2.1, x.2.2.2.2.2.2.2.2.2.2.2.2.2.2.1, x.2.2.2.2.2.2.2.2.2.2.2.2.2.2.2.1, x.2.2.2.2.2.2.2.2.2.2.2.2.2.2.2.2.1, x.2.2.2.2.2.2.2.2.2.2.2.2.2.2.2.2.2.1, (x.2.2.2.2.2.2.2.2.2.2.2.2.2.2.2.2.2.2.1 ++ [Val.mk (Px.vk (Px.growV (IntKind.i64.wrap (p1 + (1 : Int))) x.1)) (Px.vn (Px.growV (IntKind.i64.wrap (p1 + (1 : Int))) x.1)) (Px.vg (Px.growV (IntKind.i64.wrap (p1 + (1 : Int))) x.1)) (Px.vt (Px.growV (IntKind.i64.wrap (p1 + (1 : Int))) x.1)) (Px.vl (Px.growV (IntKind.i64.wrap (p1 + (1 : Int))) x.1)) (Px.vs (Px.growV (IntKind.i64.wrap (p1 + (1 : Int))) x.1))]), x.2.2.2.2.2.2.2.2.2.2.2.2.2.2.2.2.2.2.2))))
     (.fail))
    (.fail))))
 (.leaf (.inr (.exit 1, at' E 110 [(0, .lf (.sl .bit x.1)), (4, .lf (.ptr 320 0 0)), (6, .lf (.ptr 448 0 0)), (7, .lf (.ptr 512 0 0))] [(320, some (.cells 30 [.int .u8 x.2.2.1, .int .i64 x.2.2.2.1, .int .i64 x.2.2.2.2.1, .str x.2.2.2.2.2.1, .own 0 0 .val x.2.2.2.2.2.2.1, .own 1 0 .str x.2.2.2.2.2.2.2.1])), (448, some (.cells 99 [.int .u8 x.2.2.2.2.2.2.2.2.1, .int .i64 x.2.2.2.2.2.2.2.2.2.1, .int .u8 x.2.2.2.2.2.2.2.2.2.2.1, .str x.2.2.2.2.2.2.2.2.2.2.2.1, .int .u8 x.2.2.2.2.2.2.2.2.2.2.2.2.1, .bool x.2.2.2.2.2.2.2.2.2.2.2.2.2.1])), (512, some (.cells 30 [.int .u8 x.2.2.2.2.2.2.2.2.2.2.2.2.2.2.1, .int .i64 x.2.2.2.2.2.2.2.2.2.2.2.2.2.2.2.1, .int .i64 x.2.2.2.2.2.2.2.2.2.2.2.2.2.2.2.2.1, .str x.2.2.2.2.2.2.2.2.2.2.2.2.2.2.2.2.2.1, .own 2 0 .val x.2.2.2.2.2.2.2.2.2.2.2.2.2.2.2.2.2.2.1, .own 3 0 .str x.2.2.2.2.2.2.2.2.2.2.2.2.2.2.2.2.2.2.2]))])))
theorem h41_0 (n : Nat) (p1 : Int) (p61 : Int) (x : (List (Int × Int × Int × List UInt8 × Int × Bool)) × Int × Int × Int × Int × (List UInt8) × (List Val) × (List (List UInt8)) × Int × Int × Int × (List UInt8) × Int × Bool × Int × Int × Int × (List UInt8) × (List Val) × (List (List UInt8))) (k : Ex → St E.A → Option Unit) :
    exec E (G41 n) (fun _ _ => .fail) 1 (lb Go.Proofs.Tryz.f41 0) (S41_0 p1 p61 x) (fun e σ1 => k e (clean E (L41_0 e) σ1)) = (t41_0 n p1 p61 x).run (Sum.elim (fun x' => k .normal (S41_0 p1 p61 x')) (fun o => k o.1 o.2)) := by kernel_rfl
noncomputable def lam41_0 (n : Nat) (p1 : Int) (p61 : Int) (x : (List (Int × Int × Int × List UInt8 × Int × Bool)) × Int × Int × Int × Int × (List UInt8) × (List Val) × (List (List UInt8)) × Int × Int × Int × (List UInt8) × Int × Bool × Int × Int × Int × (List UInt8) × (List Val) × (List (List UInt8))) : Tree (Out' E) :=
  .ite (leI 0 x.2.1 && leI p61 3 && leI x.2.2.2.2.2.2.2.2.2.2.2.2.2.2.2.2.2.2.1.length x.2.1 && leI x.2.2.2.2.2.2.2.2.2.2.2.2.2.2.2.2.2.2.2.length x.2.1 && leI 0 p1 && ltI p1 22 && leI 21 (p1 + n))
   (.leaf (.exit 1, at' E 110 [(0, .lf (.sl .bit ((Px.growR' p1 (eqI x.2.2.2.2.2.2.2.2.2.2.2.2.2.2.1 6) x.2.2.2.2.2.2.2.2.2.2.2.1 (p61 - x.2.1) x.2.1 x.1 x.2.2.2.2.2.2.2.2.2.2.2.2.2.2.2.2.2.2.1 x.2.2.2.2.2.2.2.2.2.2.2.2.2.2.2.2.2.2.2).2.2))), (4, .lf (.ptr 320 0 0)), (6, .lf (.ptr 448 0 0)), (7, .lf (.ptr 512 0 0))] [(320, some (.cells 30 [.int .u8 x.2.2.1, .int .i64 x.2.2.2.1, .int .i64 x.2.2.2.2.1, .str x.2.2.2.2.2.1, .own 0 0 .val x.2.2.2.2.2.2.1, .own 1 0 .str x.2.2.2.2.2.2.2.1])), (448, some (.cells 99 [.int .u8 x.2.2.2.2.2.2.2.2.1, .int .i64 x.2.2.2.2.2.2.2.2.2.1, .int .u8 x.2.2.2.2.2.2.2.2.2.2.1, .str x.2.2.2.2.2.2.2.2.2.2.2.1, .int .u8 x.2.2.2.2.2.2.2.2.2.2.2.2.1, .bool x.2.2.2.2.2.2.2.2.2.2.2.2.2.1])), (512, some (.cells 30 [.int .u8 x.2.2.2.2.2.2.2.2.2.2.2.2.2.2.1, .int .i64 x.2.2.2.2.2.2.2.2.2.2.2.2.2.2.2.1, .int .i64 x.2.2.2.2.2.2.2.2.2.2.2.2.2.2.2.2.1, .str x.2.2.2.2.2.2.2.2.2.2.2.2.2.2.2.2.2.1, .own 2 0 .val ((Px.growR' p1 (eqI x.2.2.2.2.2.2.2.2.2.2.2.2.2.2.1 6) x.2.2.2.2.2.2.2.2.2.2.2.1 (p61 - x.2.1) x.2.1 x.1 x.2.2.2.2.2.2.2.2.2.2.2.2.2.2.2.2.2.2.1 x.2.2.2.2.2.2.2.2.2.2.2.2.2.2.2.2.2.2.2).1), .own 3 0 .str ((Px.growR' p1 (eqI x.2.2.2.2.2.2.2.2.2.2.2.2.2.2.1 6) x.2.2.2.2.2.2.2.2.2.2.2.1 (p61 - x.2.1) x.2.1 x.1 x.2.2.2.2.2.2.2.2.2.2.2.2.2.2.2.2.2.2.1 x.2.2.2.2.2.2.2.2.2.2.2.2.2.2.2.2.2.2.2).2.1)]))])) .fail
theorem wrap_k {k : Nat} (h : k ≤ 3) : UInt8.ofNat (IntKind.u8.wrap ((97 : Int) + (k : Int))).toNat = UInt8.ofNat (97 + k) := by
  rw [wu8 _ (by omega) (by omega)]
  congr 1
theorem k41_0 {n : Nat} {p1 : Int} {p : Nat} (hp : p ≤ 3) (d0 : 0 ≤ p1) (d1 : p1 < 22) (d2 : 21 ≤ p1 + n) (a0 : Int) (a1 : Int) (a2 : Int) (a3 : List UInt8) (a4 : List Val) (a5 : List (List UInt8)) (b0 : Int) (b1 : Int) (b2 : Int) (b3 : List UInt8) (b4 : Int) (b5 : Bool) (c0 : Int) (c1 : Int) (c2 : Int) (c3 : List UInt8) :
    ∀ (m k : Nat) (l : List Bit) (ls : List Val) (ks : List (List UInt8)), m + k = p → ls.length ≤ k → ks.length ≤ k →
    iter (t41_0 n p1 (p : Int)) (m + 1) (l, (k : Int), a0, a1, a2, a3, a4, a5, b0, b1, b2, b3, b4, b5, c0, c1, c2, c3, ls, ks) = some (Ex.exit 1, at' E 110 [(0, .lf (.sl .bit ((Px.growLoop (Px.grow (p1 + 1)) (eqI c0 6) b3 (leI p1 20) m k l ls ks).2.2))), (4, .lf (.ptr 320 0 0)), (6, .lf (.ptr 448 0 0)), (7, .lf (.ptr 512 0 0))] [(320, some (.cells 30 [.int .u8 a0, .int .i64 a1, .int .i64 a2, .str a3, .own 0 0 .val a4, .own 1 0 .str a5])), (448, some (.cells 99 [.int .u8 b0, .int .i64 b1, .int .u8 b2, .str b3, .int .u8 b4, .bool b5])), (512, some (.cells 30 [.int .u8 c0, .int .i64 c1, .int .i64 c2, .str c3, .own 2 0 .val ((Px.growLoop (Px.grow (p1 + 1)) (eqI c0 6) b3 (leI p1 20) m k l ls ks).1), .own 3 0 .str ((Px.growLoop (Px.grow (p1 + 1)) (eqI c0 6) b3 (leI p1 20) m k l ls ks).2.1)]))])
  | 0, k, l, ls, ks, hm, h1, h2 => by
    have hk : k = p := by omega
    subst hk
    simp only [iter, t41_0, Tree.get_ite, Tree.get_leaf, ltI_self, cond_false, Px.growLoop]
  | m + 1, k, l, ls, ks, hm, h1, h2 => by
    have hk : k < p := by omega
    have ek := ltI_nat hk
    rw [iter]
    cases l with
    | nil =>
      have hs : (t41_0 n p1 (p : Int) (([] : List Bit), (k : Int), a0, a1, a2, a3, a4, a5, b0, b1, b2, b3, b4, b5, c0, c1, c2, c3, ls, ks)).get = some (.inr (Ex.exit 1, at' E 110 [(0, .lf (.sl .bit (([] : List Bit)))), (4, .lf (.ptr 320 0 0)), (6, .lf (.ptr 448 0 0)), (7, .lf (.ptr 512 0 0))] [(320, some (.cells 30 [.int .u8 a0, .int .i64 a1, .int .i64 a2, .str a3, .own 0 0 .val a4, .own 1 0 .str a5])), (448, some (.cells 99 [.int .u8 b0, .int .i64 b1, .int .u8 b2, .str b3, .int .u8 b4, .bool b5])), (512, some (.cells 30 [.int .u8 c0, .int .i64 c1, .int .i64 c2, .str c3, .own 2 0 .val (ls), .own 3 0 .str (ks)]))])) := by
        unfold t41_0
        have e0 : eqI (([] : List Bit).length : Int) 0 = true := rfl
        simp only [Tree.get_ite, Tree.get_leaf, ek, cond_true, e0]
      rw [hs]
      rfl
    | cons b r =>
      have e0 : eqI ((b :: r).length : Int) 0 = false := by rw [eqI_eq]; exact decide_eq_false (by simp only [List.length_cons]; omega)
      by_cases hd : 20 < p1
      · have e1 : ltI 20 p1 = true := by rw [ltI_eq]; exact decide_eq_true hd
        have e2 : leI p1 20 = false := by rw [leI_eq]; exact decide_eq_false (by omega)
        have hs : (t41_0 n p1 (p : Int) ((b :: r), (k : Int), a0, a1, a2, a3, a4, a5, b0, b1, b2, b3, b4, b5, c0, c1, c2, c3, ls, ks)).get = some (.inr (Ex.exit 1, at' E 110 [(0, .lf (.sl .bit ((b :: r)))), (4, .lf (.ptr 320 0 0)), (6, .lf (.ptr 448 0 0)), (7, .lf (.ptr 512 0 0))] [(320, some (.cells 30 [.int .u8 a0, .int .i64 a1, .int .i64 a2, .str a3, .own 0 0 .val a4, .own 1 0 .str a5])), (448, some (.cells 99 [.int .u8 b0, .int .i64 b1, .int .u8 b2, .str b3, .int .u8 b4, .bool b5])), (512, some (.cells 30 [.int .u8 c0, .int .i64 c1, .int .i64 c2, .str c3, .own 2 0 .val (ls), .own 3 0 .str (ks)]))])) := by
          unfold t41_0
          simp only [Tree.get_ite, Tree.get_leaf, ek, cond_true, cond_false, e0, e1]
          rfl
        rw [hs, Px.growLoop]
        simp only [e2, cond_true, Bool.not_false, Bool.or_true]
        rfl
      · have e1 : ltI 20 p1 = false := by rw [ltI_eq]; exact decide_eq_false hd
        have e2 : leI p1 20 = true := by rw [leI_eq]; exact decide_eq_true (by omega)
        have ew : IntKind.i64.wrap (p1 + 1) = p1 + 1 := wi64 _ (by omega) (by omega)
        have e3 : (leI 0 (p1 + 1) && ltI (p1 + 1) 22 && leI 22 (p1 + 1 + (n : Int)) && !(b :: r).isEmpty) = true := by
          simp only [leI_eq, ltI_eq, Bool.and_eq_true, decide_eq_true_eq, List.isEmpty_cons, Bool.not_false, and_true]; omega
        have e4 : ∀ v : Val, decide ((ls.length + [v].length) * (88 : Nat) ≤ 140737488355328) = true := fun v => decide_eq_true (by simp only [List.length_cons, List.length_nil]; omega)
        have ewk : IntKind.u8.wrap ((k : Int) + 1) = ((k + 1 : Nat) : Int) := by rw [wu8] <;> omega
        have e5 : ∀ v : List UInt8, decide ((ks.length + [v].length) * (16 : Nat) ≤ 140737488355328) = true := fun v => decide_eq_true (by simp only [List.length_cons, List.length_nil]; omega)
        have e6 : decide ([(75 : UInt8), UInt8.ofNat (97 + k)].length + (Px.nameOf b3).length ≤ 2 ^ (60 : Nat)) = true := decide_eq_true (by
          have := Px.nameOf_len b3
          simp only [List.length_cons, List.length_nil]; omega)
        have eg : Px.growLoop (Px.grow (p1 + 1)) (eqI c0 6) b3 (leI p1 20) (m + 1) k (b :: r) ls ks = Px.growLoop (Px.grow (p1 + 1)) (eqI c0 6) b3 (leI p1 20) m (k + 1) (Px.growL (p1 + 1) (b :: r)) (ls ++ [Px.growV (p1 + 1) (b :: r)]) (cond (eqI c0 6) (ks ++ [Px.bkey k b3]) ks) := by
          rw [Px.growLoop, e2]; rfl
        have hs : (t41_0 n p1 (p : Int) ((b :: r), (k : Int), a0, a1, a2, a3, a4, a5, b0, b1, b2, b3, b4, b5, c0, c1, c2, c3, ls, ks)).get = some (.inl ((Px.growL (p1 + 1) (b :: r)), ((k + 1 : Nat) : Int), a0, a1, a2, a3, a4, a5, b0, b1, b2, b3, b4, b5, c0, c1, c2, c3, (ls ++ [Px.growV (p1 + 1) (b :: r)]), (cond (eqI c0 6) (ks ++ [Px.bkey k b3]) ks))) := by
          unfold t41_0
          simp only [Tree.get_ite, Tree.get_leaf, ek, e0, e1, cond_false, ew, e3, cond_true, e4, ewk, Px.v_eta, wrap_k (show k ≤ 3 by omega), e5, e6]
          cases eqI c0 6 <;> rfl
        have hl : (cond (eqI c0 6) (ks ++ [Px.bkey k b3]) ks).length ≤ k + 1 := by
          cases eqI c0 6 <;> simp <;> omega
        rw [eg, hs]
        exact k41_0 hp d0 d1 d2 a0 a1 a2 a3 a4 a5 b0 b1 b2 b3 b4 b5 c0 c1 c2 c3 m (k + 1) (Px.growL (p1 + 1) (b :: r)) (ls ++ [Px.growV (p1 + 1) (b :: r)]) _ (by omega) (by simp; omega) hl
theorem m41_0 {n : Nat} {p1 p61 : Int} {x : (List (Int × Int × Int × List UInt8 × Int × Bool)) × Int × Int × Int × Int × (List UInt8) × (List Val) × (List (List UInt8)) × Int × Int × Int × (List UInt8) × Int × Bool × Int × Int × Int × (List UInt8) × (List Val) × (List (List UInt8))} {e : Ex} {σ : St E.A} (_ : okLenR (E := E) (.lf (.sl .bit x.1)) = true) (_ : okLenO (E := E) (.cells 30 [.int .u8 x.2.2.1, .int .i64 x.2.2.2.1, .int .i64 x.2.2.2.2.1, .str x.2.2.2.2.2.1, .own 0 0 .val x.2.2.2.2.2.2.1, .own 1 0 .str x.2.2.2.2.2.2.2.1]) = true) (_ : okLenO (E := E) (.cells 99 [.int .u8 x.2.2.2.2.2.2.2.2.1, .int .i64 x.2.2.2.2.2.2.2.2.2.1, .int .u8 x.2.2.2.2.2.2.2.2.2.2.1, .str x.2.2.2.2.2.2.2.2.2.2.2.1, .int .u8 x.2.2.2.2.2.2.2.2.2.2.2.2.1, .bool x.2.2.2.2.2.2.2.2.2.2.2.2.2.1]) = true) (_ : okLenO (E := E) (.cells 30 [.int .u8 x.2.2.2.2.2.2.2.2.2.2.2.2.2.2.1, .int .i64 x.2.2.2.2.2.2.2.2.2.2.2.2.2.2.2.1, .int .i64 x.2.2.2.2.2.2.2.2.2.2.2.2.2.2.2.2.1, .str x.2.2.2.2.2.2.2.2.2.2.2.2.2.2.2.2.2.1, .own 2 0 .val x.2.2.2.2.2.2.2.2.2.2.2.2.2.2.2.2.2.2.1, .own 3 0 .str x.2.2.2.2.2.2.2.2.2.2.2.2.2.2.2.2.2.2.2]) = true)
    (h : (lam41_0 n p1 p61 x).get = some (e, σ)) : ∃ fuel, iter (t41_0 n p1 p61) fuel x = some (e, σ) ∧ e ≠ .normal := by
  obtain ⟨l, k, a0, a1, a2, a3, a4, a5, b0, b1, b2, b3, b4, b5, c0, c1, c2, c3, ls, ks⟩ := x
  unfold lam41_0 at h
  have h' := Tree.get_ite_some h
  clear h
  rcases h' with ⟨h1, h⟩ | ⟨_, h⟩
  · simp only [eqI_eq, leI_eq, ltI_eq, Bool.and_eq_true, decide_eq_true_eq] at h1
    obtain ⟨⟨⟨⟨⟨⟨g1, g3⟩, g4⟩, g5⟩, g6⟩, g7⟩, g8⟩ := h1
    by_cases hlt : k < p61
    · obtain ⟨p, rfl⟩ : ∃ j : Nat, p61 = (j : Int) := ⟨p61.toNat, by omega⟩
      obtain ⟨q, rfl⟩ : ∃ j : Nat, k = (j : Int) := ⟨k.toNat, by omega⟩
      have key := k41_0 (n := n) (p1 := p1) (p := p) (by omega) g6 g7 g8 a0 a1 a2 a3 a4 a5 b0 b1 b2 b3 b4 b5 c0 c1 c2 c3 (p - q) q l ls ks (by omega) (by omega) (by omega)
      injection h with h
      injection h with h1 h2
      subst h1
      refine ⟨_, key.trans ?_, fun hh => by cases hh⟩
      rw [← h2, Px.growR'_eq]
      unfold Px.growR
      rw [show ((p : Int) - (q : Int)).toNat = p - q by omega, Int.toNat_natCast]
    · have e1 : ltI k p61 = false := by rw [ltI_eq]; exact decide_eq_false hlt
      injection h with h
      injection h with h1 h2
      subst h1
      refine ⟨1, ?_, fun hh => by cases hh⟩
      rw [← h2, Px.growR'_eq]
      unfold Px.growR
      rw [show (p61 - k).toNat = 0 by omega, iter]
      have hs : (t41_0 n p1 p61 (l, k, a0, a1, a2, a3, a4, a5, b0, b1, b2, b3, b4, b5, c0, c1, c2, c3, ls, ks)).get = some (.inr (Ex.exit 1, at' E 110 [(0, .lf (.sl .bit (l))), (4, .lf (.ptr 320 0 0)), (6, .lf (.ptr 448 0 0)), (7, .lf (.ptr 512 0 0))] [(320, some (.cells 30 [.int .u8 a0, .int .i64 a1, .int .i64 a2, .str a3, .own 0 0 .val a4, .own 1 0 .str a5])), (448, some (.cells 99 [.int .u8 b0, .int .i64 b1, .int .u8 b2, .str b3, .int .u8 b4, .bool b5])), (512, some (.cells 30 [.int .u8 c0, .int .i64 c1, .int .i64 c2, .str c3, .own 2 0 .val (ls), .own 3 0 .str (ks)]))])) := by
        unfold t41_0
        simp only [Tree.get_ite, Tree.get_leaf, e1, cond_false]
      rw [hs]
      rfl
  · cases h
noncomputable def rd41_0 (n : Nat) (σ : St E.A) : Tree (Out' E) :=
  let c := clean E (L41_0 .normal) σ
  if c.sl.length = 110 then
  match c.sl.getD 0 .undef, c.sl.getD 1 .undef, c.sl.getD 4 .undef, c.sl.getD 6 .undef, c.sl.getD 7 .undef, c.sl.getD 61 .undef, c.sl.getD 62 .undef, c.ob 320, c.ob 448, c.ob 512 with
  | .lf (.sl .bit x0), .lf (.int .i64 p1), .lf (.ptr 320 0 0), .lf (.ptr 448 0 0), .lf (.ptr 512 0 0), .lf (.int .u8 p61), .lf (.int .u8 x62), some (.cells 30 [.int .u8 o320a, .int .i64 o320b, .int .i64 o320c, .str o320d, .own 0 0 .val o320e, .own 1 0 .str o320f]), some (.cells 99 [.int .u8 o448a, .int .i64 o448b, .int .u8 o448c, .str o448d, .int .u8 o448e, .bool o448f]), some (.cells 30 [.int .u8 o512a, .int .i64 o512b, .int .i64 o512c, .str o512d, .own 2 0 .val o512e, .own 3 0 .str o512f]) => lam41_0 n p1 p61 (x0, x62, o320a, o320b, o320c, o320d, o320e, o320f, o448a, o448b, o448c, o448d, o448e, o448f, o512a, o512b, o512c, o512d, o512e, o512f)
  | _, _, _, _, _, _, _, _, _, _ => .fail
  else .fail
theorem ll41_0 (hL : Laws E) (n : Nat) (hN : Valid E 41 (spec41N n)) (σ : St E.A) (e : Ex) (σ' : St E.A) (h : (rd41_0 n σ).get = some (e, σ')) : LoopOK E (lb Go.Proofs.Tryz.f41 0) σ e σ' := by
  refine LoopOK.of_clean hL (L41_0 .normal) ?_
  unfold rd41_0 at h
  simp only at h
  split at h
  · rename_i hlen
    split at h
    · rename_i x0 p1 p61 x62 o320a o320b o320c o320d o320e o320f o448a o448b o448c o448d o448e o448f o512a o512b o512c o512d o512e o512f h0 h1 h2 h3 h4 h5 h6 h7 h8 h9
      refine LoopOK.lens 0 (fun g0 => ?_)
      rw [h0] at g0
      refine LoopOK.lensO 320 (fun gg => ?_)
      have g1 := gg _ h7
      refine LoopOK.lensO 448 (fun gg => ?_)
      have g2 := gg _ h8
      refine LoopOK.lensO 512 (fun gg => ?_)
      have g3 := gg _ h9
      obtain ⟨fuel, hi, ho⟩ := m41_0 g0 g1 g2 g3 h
      have hl := loop_at (Γ := (G41 n)) (Λ := fun _ _ => .fail) (n := 1) (body := lb Go.Proofs.Tryz.f41 0) hL (hG41 hL n hN) (S := S41_0 p1 p61) (t := t41_0 n p1 p61) (Lv := L41_0) (LamOK.none (by kernel_rfl)) (h41_0 n p1 p61) hi ho
      refine LoopOK.fit hlen ?_ ?_ rfl rfl hl
      · exact ⟨h0, h1, h2, h3, h4, h5, h6, trivial⟩
      · exact ⟨h7, h8, h9, trivial⟩
    · cases h
  · cases h
noncomputable def Lam41 (n : Nat) : Lam E
  | 0, σ => rd41_0 n σ
  | _, _ => .fail
noncomputable def w41 (n : Nat) (a0 : List (Int × Int × Int × List UInt8 × Int × Bool)) (a1 : Int) : Tree (RV E.A × List (Obj E.A)) :=
 .ite (inB (0 : Int) a0.length)
 (.ite (inB (1 : Int) (a0.length + (1 : Nat)))
  (.ite (eqI ((a0.getD (Int.toNat (0 : Int)) ((0 : Int), (0 : Int), (0 : Int), [], (0 : Int), false)).1.tmod (8 : Int)) (1 : Int))
   (.ite ((a0.getD (Int.toNat (0 : Int)) ((0 : Int), (0 : Int), (0 : Int), [], (0 : Int), false)).2.2.2.2.2)
    (.leaf (.tup [(true, [.int .u8 ((a0.getD (Int.toNat (0 : Int)) ((0 : Int), (0 : Int), (0 : Int), [], (0 : Int), false)).1.tmod (8 : Int)), .int .i64 (vbits Go.BinOp.and IntKind.i64 (a0.getD (Int.toNat (0 : Int)) ((0 : Int), (0 : Int), (0 : Int), [], (0 : Int), false)).2.1 (1 : Int)), .int .i64 (IntKind.i64.wrap (a0.getD (Int.toNat (0 : Int)) ((0 : Int), (0 : Int), (0 : Int), [], (0 : Int), false)).2.2.1), .str [], .sl .val [], .sl .str []]), (false, [.sl .bit (List.drop (Int.toNat (1 : Int)) a0)])], []))
    (.leaf (.tup [(true, [.int .u8 ((a0.getD (Int.toNat (0 : Int)) ((0 : Int), (0 : Int), (0 : Int), [], (0 : Int), false)).1.tmod (8 : Int)), .int .i64 (vbits Go.BinOp.and IntKind.i64 (a0.getD (Int.toNat (0 : Int)) ((0 : Int), (0 : Int), (0 : Int), [], (0 : Int), false)).2.1 (1 : Int)), .int .i64 ((0 : Int)), .str [], .sl .val [], .sl .str []]), (false, [.sl .bit (List.drop (Int.toNat (1 : Int)) a0)])], [])))
   (.ite (eqI ((a0.getD (Int.toNat (0 : Int)) ((0 : Int), (0 : Int), (0 : Int), [], (0 : Int), false)).1.tmod (8 : Int)) (2 : Int))
    (.ite ((a0.getD (Int.toNat (0 : Int)) ((0 : Int), (0 : Int), (0 : Int), [], (0 : Int), false)).2.2.2.2.2)
     (.leaf (.tup [(true, [.int .u8 ((a0.getD (Int.toNat (0 : Int)) ((0 : Int), (0 : Int), (0 : Int), [], (0 : Int), false)).1.tmod (8 : Int)), .int .i64 ((a0.getD (Int.toNat (0 : Int)) ((0 : Int), (0 : Int), (0 : Int), [], (0 : Int), false)).2.1), .int .i64 (IntKind.i64.wrap (a0.getD (Int.toNat (0 : Int)) ((0 : Int), (0 : Int), (0 : Int), [], (0 : Int), false)).2.2.1), .str [], .sl .val [], .sl .str []]), (false, [.sl .bit (List.drop (Int.toNat (1 : Int)) a0)])], []))
     (.leaf (.tup [(true, [.int .u8 ((a0.getD (Int.toNat (0 : Int)) ((0 : Int), (0 : Int), (0 : Int), [], (0 : Int), false)).1.tmod (8 : Int)), .int .i64 ((a0.getD (Int.toNat (0 : Int)) ((0 : Int), (0 : Int), (0 : Int), [], (0 : Int), false)).2.1), .int .i64 ((0 : Int)), .str [], .sl .val [], .sl .str []]), (false, [.sl .bit (List.drop (Int.toNat (1 : Int)) a0)])], [])))
    (.ite (eqI ((a0.getD (Int.toNat (0 : Int)) ((0 : Int), (0 : Int), (0 : Int), [], (0 : Int), false)).1.tmod (8 : Int)) (3 : Int))
     (.ite (decide ([(78 : UInt8)].length + (Px.nameOf (a0.getD (Int.toNat (0 : Int)) ((0 : Int), (0 : Int), (0 : Int), [], (0 : Int), false)).2.2.2.1).length ≤ 2 ^ (60 : Nat)))
      (.ite ((a0.getD (Int.toNat (0 : Int)) ((0 : Int), (0 : Int), (0 : Int), [], (0 : Int), false)).2.2.2.2.2)
       (.leaf (.tup [(true, [.int .u8 ((a0.getD (Int.toNat (0 : Int)) ((0 : Int), (0 : Int), (0 : Int), [], (0 : Int), false)).1.tmod (8 : Int)), .int .i64 ((0 : Int)), .int .i64 (IntKind.i64.wrap (a0.getD (Int.toNat (0 : Int)) ((0 : Int), (0 : Int), (0 : Int), [], (0 : Int), false)).2.2.1), .str ([(78 : UInt8)] ++ Px.nameOf (a0.getD (Int.toNat (0 : Int)) ((0 : Int), (0 : Int), (0 : Int), [], (0 : Int), false)).2.2.2.1), .sl .val [], .sl .str []]), (false, [.sl .bit (List.drop (Int.toNat (1 : Int)) a0)])], []))
       (.leaf (.tup [(true, [.int .u8 ((a0.getD (Int.toNat (0 : Int)) ((0 : Int), (0 : Int), (0 : Int), [], (0 : Int), false)).1.tmod (8 : Int)), .int .i64 ((0 : Int)), .int .i64 ((0 : Int)), .str ([(78 : UInt8)] ++ Px.nameOf (a0.getD (Int.toNat (0 : Int)) ((0 : Int), (0 : Int), (0 : Int), [], (0 : Int), false)).2.2.2.1), .sl .val [], .sl .str []]), (false, [.sl .bit (List.drop (Int.toNat (1 : Int)) a0)])], [])))
      (.fail))
     (.ite (eqI ((a0.getD (Int.toNat (0 : Int)) ((0 : Int), (0 : Int), (0 : Int), [], (0 : Int), false)).1.tmod (8 : Int)) (4 : Int))
      (.ite ((a0.getD (Int.toNat (0 : Int)) ((0 : Int), (0 : Int), (0 : Int), [], (0 : Int), false)).2.2.2.2.2)
       (.leaf (.tup [(true, [.int .u8 ((a0.getD (Int.toNat (0 : Int)) ((0 : Int), (0 : Int), (0 : Int), [], (0 : Int), false)).1.tmod (8 : Int)), .int .i64 ((0 : Int)), .int .i64 (IntKind.i64.wrap (a0.getD (Int.toNat (0 : Int)) ((0 : Int), (0 : Int), (0 : Int), [], (0 : Int), false)).2.2.1), .str (List.take (Int.toNat (20 : Int)) (a0.getD (Int.toNat (0 : Int)) ((0 : Int), (0 : Int), (0 : Int), [], (0 : Int), false)).2.2.2.1), .sl .val [], .sl .str []]), (false, [.sl .bit (List.drop (Int.toNat (1 : Int)) a0)])], []))
       (.leaf (.tup [(true, [.int .u8 ((a0.getD (Int.toNat (0 : Int)) ((0 : Int), (0 : Int), (0 : Int), [], (0 : Int), false)).1.tmod (8 : Int)), .int .i64 ((0 : Int)), .int .i64 ((0 : Int)), .str (List.take (Int.toNat (20 : Int)) (a0.getD (Int.toNat (0 : Int)) ((0 : Int), (0 : Int), (0 : Int), [], (0 : Int), false)).2.2.2.1), .sl .val [], .sl .str []]), (false, [.sl .bit (List.drop (Int.toNat (1 : Int)) a0)])], [])))
      (.ite (eqI ((a0.getD (Int.toNat (0 : Int)) ((0 : Int), (0 : Int), (0 : Int), [], (0 : Int), false)).1.tmod (8 : Int)) (7 : Int))
       (.ite ((a0.getD (Int.toNat (0 : Int)) ((0 : Int), (0 : Int), (0 : Int), [], (0 : Int), false)).2.2.2.2.2)
        (.leaf (.tup [(true, [.int .u8 ((a0.getD (Int.toNat (0 : Int)) ((0 : Int), (0 : Int), (0 : Int), [], (0 : Int), false)).1.tmod (8 : Int)), .int .i64 (IntKind.i64.wrap ((1 : Int) + vbits Go.BinOp.and IntKind.i64 (a0.getD (Int.toNat (0 : Int)) ((0 : Int), (0 : Int), (0 : Int), [], (0 : Int), false)).2.1 (65535 : Int))), .int .i64 (IntKind.i64.wrap (a0.getD (Int.toNat (0 : Int)) ((0 : Int), (0 : Int), (0 : Int), [], (0 : Int), false)).2.2.1), .str [], .sl .val [], .sl .str []]), (false, [.sl .bit (List.drop (Int.toNat (1 : Int)) a0)])], []))
        (.leaf (.tup [(true, [.int .u8 ((a0.getD (Int.toNat (0 : Int)) ((0 : Int), (0 : Int), (0 : Int), [], (0 : Int), false)).1.tmod (8 : Int)), .int .i64 (IntKind.i64.wrap ((1 : Int) + vbits Go.BinOp.and IntKind.i64 (a0.getD (Int.toNat (0 : Int)) ((0 : Int), (0 : Int), (0 : Int), [], (0 : Int), false)).2.1 (65535 : Int))), .int .i64 (IntKind.i64.wrap (a0.getD (Int.toNat (0 : Int)) ((0 : Int), (0 : Int), (0 : Int), [], (0 : Int), false)).2.2.1), .str [], .sl .val [], .sl .str []]), (false, [.sl .bit (List.drop (Int.toNat (1 : Int)) a0)])], [])))
       (.ite (eqI ((a0.getD (Int.toNat (0 : Int)) ((0 : Int), (0 : Int), (0 : Int), [], (0 : Int), false)).1.tmod (8 : Int)) (5 : Int))
        (.ite (eqI ((a0.getD (Int.toNat (0 : Int)) ((0 : Int), (0 : Int), (0 : Int), [], (0 : Int), false)).1.tmod (8 : Int)) (5 : Int))
         (.ite (leI 0 0 && leI ((a0.getD (Int.toNat (0 : Int)) ((0 : Int), (0 : Int), (0 : Int), [], (0 : Int), false)).2.2.2.2.1.tmod (4 : Int)) (3 : Int) && leI (↑([] : List UInt8).length : Int) (0 : Int) && leI (↑([] : List UInt8).length : Int) (0 : Int) && leI 0 a1 && ltI a1 22 && leI 21 (a1 + (↑n : Int)))
          (.ite ((a0.getD (Int.toNat (0 : Int)) ((0 : Int), (0 : Int), (0 : Int), [], (0 : Int), false)).2.2.2.2.2)
           (.leaf (.tup [(true, [.int .u8 ((a0.getD (Int.toNat (0 : Int)) ((0 : Int), (0 : Int), (0 : Int), [], (0 : Int), false)).1.tmod (8 : Int)), .int .i64 ((0 : Int)), .int .i64 (IntKind.i64.wrap (a0.getD (Int.toNat (0 : Int)) ((0 : Int), (0 : Int), (0 : Int), [], (0 : Int), false)).2.2.1), .str [], .sl .val ((Px.growR' a1 (eqI ((a0.getD (Int.toNat (0 : Int)) ((0 : Int), (0 : Int), (0 : Int), [], (0 : Int), false)).1.tmod (8 : Int)) (6 : Int)) (a0.getD (Int.toNat (0 : Int)) ((0 : Int), (0 : Int), (0 : Int), [], (0 : Int), false)).2.2.2.1 ((a0.getD (Int.toNat (0 : Int)) ((0 : Int), (0 : Int), (0 : Int), [], (0 : Int), false)).2.2.2.2.1.tmod (4 : Int) - (0 : Int)) (0 : Int) (List.drop (Int.toNat (1 : Int)) a0) [] []).1), .sl .str ((Px.growR' a1 (eqI ((a0.getD (Int.toNat (0 : Int)) ((0 : Int), (0 : Int), (0 : Int), [], (0 : Int), false)).1.tmod (8 : Int)) (6 : Int)) (a0.getD (Int.toNat (0 : Int)) ((0 : Int), (0 : Int), (0 : Int), [], (0 : Int), false)).2.2.2.1 ((a0.getD (Int.toNat (0 : Int)) ((0 : Int), (0 : Int), (0 : Int), [], (0 : Int), false)).2.2.2.2.1.tmod (4 : Int) - (0 : Int)) (0 : Int) (List.drop (Int.toNat (1 : Int)) a0) [] []).2.1)]), (false, [.sl .bit ((Px.growR' a1 (eqI ((a0.getD (Int.toNat (0 : Int)) ((0 : Int), (0 : Int), (0 : Int), [], (0 : Int), false)).1.tmod (8 : Int)) (6 : Int)) (a0.getD (Int.toNat (0 : Int)) ((0 : Int), (0 : Int), (0 : Int), [], (0 : Int), false)).2.2.2.1 ((a0.getD (Int.toNat (0 : Int)) ((0 : Int), (0 : Int), (0 : Int), [], (0 : Int), false)).2.2.2.2.1.tmod (4 : Int) - (0 : Int)) (0 : Int) (List.drop (Int.toNat (1 : Int)) a0) [] []).2.2)])], []))
           (.leaf (.tup [(true, [.int .u8 ((a0.getD (Int.toNat (0 : Int)) ((0 : Int), (0 : Int), (0 : Int), [], (0 : Int), false)).1.tmod (8 : Int)), .int .i64 ((0 : Int)), .int .i64 ((0 : Int)), .str [], .sl .val ((Px.growR' a1 (eqI ((a0.getD (Int.toNat (0 : Int)) ((0 : Int), (0 : Int), (0 : Int), [], (0 : Int), false)).1.tmod (8 : Int)) (6 : Int)) (a0.getD (Int.toNat (0 : Int)) ((0 : Int), (0 : Int), (0 : Int), [], (0 : Int), false)).2.2.2.1 ((a0.getD (Int.toNat (0 : Int)) ((0 : Int), (0 : Int), (0 : Int), [], (0 : Int), false)).2.2.2.2.1.tmod (4 : Int) - (0 : Int)) (0 : Int) (List.drop (Int.toNat (1 : Int)) a0) [] []).1), .sl .str ((Px.growR' a1 (eqI ((a0.getD (Int.toNat (0 : Int)) ((0 : Int), (0 : Int), (0 : Int), [], (0 : Int), false)).1.tmod (8 : Int)) (6 : Int)) (a0.getD (Int.toNat (0 : Int)) ((0 : Int), (0 : Int), (0 : Int), [], (0 : Int), false)).2.2.2.1 ((a0.getD (Int.toNat (0 : Int)) ((0 : Int), (0 : Int), (0 : Int), [], (0 : Int), false)).2.2.2.2.1.tmod (4 : Int) - (0 : Int)) (0 : Int) (List.drop (Int.toNat (1 : Int)) a0) [] []).2.1)]), (false, [.sl .bit ((Px.growR' a1 (eqI ((a0.getD (Int.toNat (0 : Int)) ((0 : Int), (0 : Int), (0 : Int), [], (0 : Int), false)).1.tmod (8 : Int)) (6 : Int)) (a0.getD (Int.toNat (0 : Int)) ((0 : Int), (0 : Int), (0 : Int), [], (0 : Int), false)).2.2.2.1 ((a0.getD (Int.toNat (0 : Int)) ((0 : Int), (0 : Int), (0 : Int), [], (0 : Int), false)).2.2.2.2.1.tmod (4 : Int) - (0 : Int)) (0 : Int) (List.drop (Int.toNat (1 : Int)) a0) [] []).2.2)])], [])))
          (.fail))
         (.ite ((a0.getD (Int.toNat (0 : Int)) ((0 : Int), (0 : Int), (0 : Int), [], (0 : Int), false)).2.2.2.2.2)
          (.leaf (.tup [(true, [.int .u8 ((a0.getD (Int.toNat (0 : Int)) ((0 : Int), (0 : Int), (0 : Int), [], (0 : Int), false)).1.tmod (8 : Int)), .int .i64 ((0 : Int)), .int .i64 (IntKind.i64.wrap (a0.getD (Int.toNat (0 : Int)) ((0 : Int), (0 : Int), (0 : Int), [], (0 : Int), false)).2.2.1), .str [], .sl .val [], .sl .str []]), (false, [.sl .bit (List.drop (Int.toNat (1 : Int)) a0)])], []))
          (.leaf (.tup [(true, [.int .u8 ((a0.getD (Int.toNat (0 : Int)) ((0 : Int), (0 : Int), (0 : Int), [], (0 : Int), false)).1.tmod (8 : Int)), .int .i64 ((0 : Int)), .int .i64 ((0 : Int)), .str [], .sl .val [], .sl .str []]), (false, [.sl .bit (List.drop (Int.toNat (1 : Int)) a0)])], []))))
        (.ite (eqI ((a0.getD (Int.toNat (0 : Int)) ((0 : Int), (0 : Int), (0 : Int), [], (0 : Int), false)).1.tmod (8 : Int)) (6 : Int))
         (.ite (leI 0 0 && leI ((a0.getD (Int.toNat (0 : Int)) ((0 : Int), (0 : Int), (0 : Int), [], (0 : Int), false)).2.2.2.2.1.tmod (4 : Int)) (3 : Int) && leI (↑([] : List UInt8).length : Int) (0 : Int) && leI (↑([] : List UInt8).length : Int) (0 : Int) && leI 0 a1 && ltI a1 22 && leI 21 (a1 + (↑n : Int)))
          (.ite ((a0.getD (Int.toNat (0 : Int)) ((0 : Int), (0 : Int), (0 : Int), [], (0 : Int), false)).2.2.2.2.2)
           (.leaf (.tup [(true, [.int .u8 ((a0.getD (Int.toNat (0 : Int)) ((0 : Int), (0 : Int), (0 : Int), [], (0 : Int), false)).1.tmod (8 : Int)), .int .i64 ((0 : Int)), .int .i64 (IntKind.i64.wrap (a0.getD (Int.toNat (0 : Int)) ((0 : Int), (0 : Int), (0 : Int), [], (0 : Int), false)).2.2.1), .str [], .sl .val ((Px.growR' a1 (eqI ((a0.getD (Int.toNat (0 : Int)) ((0 : Int), (0 : Int), (0 : Int), [], (0 : Int), false)).1.tmod (8 : Int)) (6 : Int)) (a0.getD (Int.toNat (0 : Int)) ((0 : Int), (0 : Int), (0 : Int), [], (0 : Int), false)).2.2.2.1 ((a0.getD (Int.toNat (0 : Int)) ((0 : Int), (0 : Int), (0 : Int), [], (0 : Int), false)).2.2.2.2.1.tmod (4 : Int) - (0 : Int)) (0 : Int) (List.drop (Int.toNat (1 : Int)) a0) [] []).1), .sl .str ((Px.growR' a1 (eqI ((a0.getD (Int.toNat (0 : Int)) ((0 : Int), (0 : Int), (0 : Int), [], (0 : Int), false)).1.tmod (8 : Int)) (6 : Int)) (a0.getD (Int.toNat (0 : Int)) ((0 : Int), (0 : Int), (0 : Int), [], (0 : Int), false)).2.2.2.1 ((a0.getD (Int.toNat (0 : Int)) ((0 : Int), (0 : Int), (0 : Int), [], (0 : Int), false)).2.2.2.2.1.tmod (4 : Int) - (0 : Int)) (0 : Int) (List.drop (Int.toNat (1 : Int)) a0) [] []).2.1)]), (false, [.sl .bit ((Px.growR' a1 (eqI ((a0.getD (Int.toNat (0 : Int)) ((0 : Int), (0 : Int), (0 : Int), [], (0 : Int), false)).1.tmod (8 : Int)) (6 : Int)) (a0.getD (Int.toNat (0 : Int)) ((0 : Int), (0 : Int), (0 : Int), [], (0 : Int), false)).2.2.2.1 ((a0.getD (Int.toNat (0 : Int)) ((0 : Int), (0 : Int), (0 : Int), [], (0 : Int), false)).2.2.2.2.1.tmod (4 : Int) - (0 : Int)) (0 : Int) (List.drop (Int.toNat (1 : Int)) a0) [] []).2.2)])], []))
           (.leaf (.tup [(true, [.int .u8 ((a0.getD (Int.toNat (0 : Int)) ((0 : Int), (0 : Int), (0 : Int), [], (0 : Int), false)).1.tmod (8 : Int)), .int .i64 ((0 : Int)), .int .i64 ((0 : Int)), .str [], .sl .val ((Px.growR' a1 (eqI ((a0.getD (Int.toNat (0 : Int)) ((0 : Int), (0 : Int), (0 : Int), [], (0 : Int), false)).1.tmod (8 : Int)) (6 : Int)) (a0.getD (Int.toNat (0 : Int)) ((0 : Int), (0 : Int), (0 : Int), [], (0 : Int), false)).2.2.2.1 ((a0.getD (Int.toNat (0 : Int)) ((0 : Int), (0 : Int), (0 : Int), [], (0 : Int), false)).2.2.2.2.1.tmod (4 : Int) - (0 : Int)) (0 : Int) (List.drop (Int.toNat (1 : Int)) a0) [] []).1), .sl .str ((Px.growR' a1 (eqI ((a0.getD (Int.toNat (0 : Int)) ((0 : Int), (0 : Int), (0 : Int), [], (0 : Int), false)).1.tmod (8 : Int)) (6 : Int)) (a0.getD (Int.toNat (0 : Int)) ((0 : Int), (0 : Int), (0 : Int), [], (0 : Int), false)).2.2.2.1 ((a0.getD (Int.toNat (0 : Int)) ((0 : Int), (0 : Int), (0 : Int), [], (0 : Int), false)).2.2.2.2.1.tmod (4 : Int) - (0 : Int)) (0 : Int) (List.drop (Int.toNat (1 : Int)) a0) [] []).2.1)]), (false, [.sl .bit ((Px.growR' a1 (eqI ((a0.getD (Int.toNat (0 : Int)) ((0 : Int), (0 : Int), (0 : Int), [], (0 : Int), false)).1.tmod (8 : Int)) (6 : Int)) (a0.getD (Int.toNat (0 : Int)) ((0 : Int), (0 : Int), (0 : Int), [], (0 : Int), false)).2.2.2.1 ((a0.getD (Int.toNat (0 : Int)) ((0 : Int), (0 : Int), (0 : Int), [], (0 : Int), false)).2.2.2.2.1.tmod (4 : Int) - (0 : Int)) (0 : Int) (List.drop (Int.toNat (1 : Int)) a0) [] []).2.2)])], [])))
          (.fail))
         (.ite ((a0.getD (Int.toNat (0 : Int)) ((0 : Int), (0 : Int), (0 : Int), [], (0 : Int), false)).2.2.2.2.2)
          (.leaf (.tup [(true, [.int .u8 ((a0.getD (Int.toNat (0 : Int)) ((0 : Int), (0 : Int), (0 : Int), [], (0 : Int), false)).1.tmod (8 : Int)), .int .i64 ((0 : Int)), .int .i64 (IntKind.i64.wrap (a0.getD (Int.toNat (0 : Int)) ((0 : Int), (0 : Int), (0 : Int), [], (0 : Int), false)).2.2.1), .str [], .sl .val [], .sl .str []]), (false, [.sl .bit (List.drop (Int.toNat (1 : Int)) a0)])], []))
          (.leaf (.tup [(true, [.int .u8 ((a0.getD (Int.toNat (0 : Int)) ((0 : Int), (0 : Int), (0 : Int), [], (0 : Int), false)).1.tmod (8 : Int)), .int .i64 ((0 : Int)), .int .i64 ((0 : Int)), .str [], .sl .val [], .sl .str []]), (false, [.sl .bit (List.drop (Int.toNat (1 : Int)) a0)])], []))))))))))
  (.fail))
 (.fail)
theorem e41 (n : Nat) (a0 : List (Int × Int × Int × List UInt8 × Int × Bool)) (a1 : Int) : execFun E (G41 n) ((Lam41 n)) false Go.Proofs.Tryz.f41 [.lf (.sl .bit a0), .lf (.int .i64 a1)] [] some = (w41 n a0 a1).get := by kernel_rfl
noncomputable def raw41 (n : Nat) : Spec E := fun args os => match args, os with
  | [.lf (.sl .bit a0), .lf (.int .i64 a1)], [] => w41 n a0 a1
  | _, _ => .fail
theorem validraw41 (hL : Laws E) (n : Nat) (hN : Valid E 41 (spec41N n)) : Valid E 41 (raw41 n) :=
  valid_of_body hL (hG41 hL n hN) (Λ := (Lam41 n)) (fn := Go.Proofs.Tryz.f41) (keep := false) (by kernel_rfl) (by kernel_rfl) (by kernel_rfl) ((LamOK.of (m := 1) (by kernel_rfl) (fun j hj σ e σ' hg => by
      match j, hj with
      | 0, _ => exact ll41_0 hL n hN σ e σ' hg
      ))) (fun args os r os' h => by
    unfold raw41 at h
    split at h
    · exact (e41 _ _ _).trans h
    · cases h)
theorem pick_kind (k c : Int) : (eqI k c = true ∧ k = c) ∨ (eqI k c = false) := by
  cases h : eqI k c
  · exact .inr rfl
  · rw [eqI_eq, decide_eq_true_eq] at h; exact .inl ⟨rfl, h⟩
theorem eq41 {n : Nat} {l : List Bit} {d : Int} (h0 : 0 ≤ d) (h1 : d < 22) (h2 : 22 ≤ d + (n + 1 : Nat)) (hl : l ≠ []) : (w41 n l d).get = some (.tup [(true, [.int .u8 (Px.vk (Px.growV d l)), .int .i64 (Px.vn (Px.growV d l)), .int .i64 (Px.vg (Px.growV d l)), .str (Px.vt (Px.growV d l)), .sl .val (Px.vl (Px.growV d l)), .sl .str (Px.vs (Px.growV d l))]), (false, [.sl .bit (Px.growL d l)])], []) := by
  obtain ⟨b, r, rfl⟩ : ∃ b r, l = b :: r := by cases l with | nil => exact absurd rfl hl | cons b r => exact ⟨b, r, rfl⟩
  have i1 : inB (0 : Int) (b :: r).length = true := inB_true.2 ⟨by omega, by simp only [List.length_cons]; omega⟩
  have i2 : inB (1 : Int) ((b :: r).length + (1 : Nat)) = true := inB_true.2 ⟨by omega, by simp only [List.length_cons]; omega⟩
  have i3 : (b :: r).getD (Int.toNat (0 : Int)) ((0 : Int), (0 : Int), (0 : Int), [], (0 : Int), false) = b := rfl
  have i4 : List.drop (Int.toNat (1 : Int)) (b :: r) = r := rfl
  have i5 : decide ([(78 : UInt8)].length + (Px.nameOf b.2.2.2.1).length ≤ 2 ^ (60 : Nat)) = true := decide_eq_true (by
    have := Px.nameOf_len b.2.2.2.1
    simp only [List.length_cons, List.length_nil]; omega)
  have i6 : b.2.2.2.2.1.tmod 4 ≤ 3 := by
    have := Int.tmod_lt_of_pos b.2.2.2.2.1 (show (0 : Int) < 4 by decide)
    omega
  have i7 : ∀ (x : List UInt8) (y : List UInt8), x = [] → y = [] → (leI 0 0 && leI (b.2.2.2.2.1.tmod 4) 3 && leI (x.length : Int) 0 && leI (y.length : Int) 0 && leI 0 d && ltI d 22 && leI 21 (d + (n : Int))) = true := by
    rintro _ _ rfl rfl
    simp only [leI_eq, ltI_eq, Bool.and_eq_true, decide_eq_true_eq, List.length_nil]; omega
  have i8 := i7 [] [] rfl rfl
  obtain ⟨m, hm⟩ : ∃ m : Nat, d = 21 - (m : Int) := ⟨(21 - d).toNat, by omega⟩
  have hm' : m ≤ 21 := by omega
  have e1 : Px.grow d (b :: r) = Px.growF (m + 1) (b :: r) := by
    unfold Px.grow; rw [show (22 - d).toNat = m + 1 by omega]
  have e2 : ∀ x, Px.grow (d + 1) x = Px.growF m x := by
    intro x; unfold Px.grow; rw [show (22 - (d + 1)).toNat = m by omega]
  have e3 : leI d 20 = Nat.ble 1 m := by
    rw [leI_eq, Bool.eq_iff_iff, decide_eq_true_eq, Nat.ble_eq]; omega
  have e4 : ∀ (dict : Bool) t c x, Px.growR d dict t c 0 x [] [] = Px.growLoop (Px.growF m) dict t (Nat.ble 1 m) c.toNat 0 x [] [] := by
    intro dict t c x
    unfold Px.growR
    rw [e3, show Px.grow (d + 1) = Px.growF m from funext e2]
    rfl
  have e5 : b.2.2.2.2.1.tmod 4 - 0 = b.2.2.2.2.1.tmod 4 := by omega
  unfold Px.growV Px.growL
  rw [e1, Px.growF]
  unfold w41
  simp only [i1, i2, i3, i4, i5, Tree.get_ite, Tree.get_leaf, cond_true, Px.growR'_eq, e4, e5]
  simp only [i8, cond_true]
  generalize b.1.tmod 8 = k
  cases b.2.2.2.2.2 <;> rcases pick_kind k 1 with ⟨q, rfl⟩ | q
  all_goals first | rfl | skip
  all_goals rcases pick_kind k 2 with ⟨q2, rfl⟩ | q2
  all_goals first | rfl | skip
  all_goals rcases pick_kind k 3 with ⟨q3, rfl⟩ | q3
  all_goals first | rfl | skip
  all_goals rcases pick_kind k 4 with ⟨q4, rfl⟩ | q4
  all_goals first | rfl | skip
  all_goals rcases pick_kind k 7 with ⟨q7, rfl⟩ | q7
  all_goals first | rfl | skip
  all_goals rcases pick_kind k 5 with ⟨q5, rfl⟩ | q5
  all_goals first | rfl | skip
  all_goals rcases pick_kind k 6 with ⟨q6, rfl⟩ | q6
  all_goals first | rfl | skip
  all_goals simp only [q, q2, q3, q4, q5, q6, q7, cond_false, cond_true, Bool.or_false, Bool.false_or, Bool.or_true, Px.vk, Px.vn, Px.vg, Px.vt, Px.vl, Px.vs]
  all_goals rfl
theorem valid41N (hL : Laws E) : ∀ n, Valid E 41 (spec41N n)
  | 0 => Valid.never (fun args os => by
      unfold spec41N
      split
      · rename_i l d
        have : (leI 0 d && ltI d 22 && leI 22 (d + ((0 : Nat) : Int)) && !l.isEmpty) = false := by
          rw [Bool.eq_false_iff]
          simp only [leI_eq, ltI_eq, Bool.and_eq_true, decide_eq_true_eq, ne_eq]
          omega
        rw [Tree.get_ite, this]; rfl
      · rfl)
  | n + 1 => (validraw41 hL n (valid41N hL n)).less (fun args os x u1 u2 h => by
      clear u1 u2
      unfold spec41N at h
      split at h
      · rename_i l d
        rcases Tree.get_ite_some h with ⟨h1, h⟩ | ⟨_, h⟩
        · simp only [leI_eq, ltI_eq, Bool.and_eq_true, decide_eq_true_eq, Bool.not_eq_true', List.isEmpty_eq_false_iff] at h1
          exact (eq41 h1.1.1.1 h1.1.1.2 h1.1.2 h1.2).trans h
        · cases h
      · cases h)
noncomputable def spec41 : Spec E := fun args os => match args, os with
  | [.lf (.sl .bit l), .lf (.int .i64 d)], [] => .ite (leI 0 d && ltI d 22 && !l.isEmpty)
     (.leaf (.tup [(true, [.int .u8 (Px.vk (Px.growV d l)), .int .i64 (Px.vn (Px.growV d l)), .int .i64 (Px.vg (Px.growV d l)), .str (Px.vt (Px.growV d l)), .sl .val (Px.vl (Px.growV d l)), .sl .str (Px.vs (Px.growV d l))]), (false, [.sl .bit (Px.growL d l)])], [])) .fail
  | _, _ => .fail
theorem valid41 (hL : Laws E) : Valid E 41 spec41 := (valid41N hL 22).less (fun args os x u1 u2 h => by
  clear u1 u2
  unfold spec41 at h
  split at h
  · rename_i l d
    rcases Tree.get_ite_some h with ⟨h1, h⟩ | ⟨_, h⟩
    · rw [← h]
      have : (leI 0 d && ltI d 22 && leI 22 (d + ((22 : Nat) : Int)) && !l.isEmpty) = true := by
        simp only [leI_eq, ltI_eq, Bool.and_eq_true, decide_eq_true_eq] at h1 ⊢
        exact ⟨⟨h1.1, by omega⟩, h1.2⟩
      unfold spec41N
      rw [Tree.get_ite, this]; rfl
    · cases h
  · cases h)
end Go.Vx
namespace Go.Vx
open Go
noncomputable def G20 : FuncId → Option (Spec E)
  | 41 => some spec41
  | _ => none
theorem hG20 (hL : Laws E) : ∀ f spec, G20 f = some spec → Valid E f spec := by
  intro f spec h
  unfold G20 at h
  split at h
  · injection h with h; subst h; exact valid41 hL
  · cases h
noncomputable def w20 (a0 : List (Int × Int × Int × List UInt8 × Int × Bool)) : Tree (RV E.A × List (Obj E.A)) :=
 .ite (eqI (↑a0.length : Int) 0)
 (.leaf (.agg [.int .u8 ((0 : Int)), .int .i64 ((0 : Int)), .int .i64 ((0 : Int)), .str [], .sl .val [], .sl .str []], []))
 (.ite (leI 0 (↑(0 : Nat) : Int) && leI (↑(0 : Nat) : Int) (if false = true then Max.max (↑a0.length : Int) (40 : Int) else Min.min (↑a0.length : Int) (40 : Int)) && leI (if false = true then Max.max (↑a0.length : Int) (40 : Int) else Min.min (↑a0.length : Int) (40 : Int)) (↑a0.length : Int))
  (.ite (leI 0 0 && ltI 0 22 && !(List.drop (↑(0 : Nat) : Int).toNat (List.take (if false = true then Max.max (↑a0.length : Int) (40 : Int) else Min.min (↑a0.length : Int) (40 : Int)).toNat a0)).isEmpty)
   (.leaf (.agg [.int .u8 (Px.vk (Px.growV (0 : Int) (List.drop (↑(0 : Nat) : Int).toNat (List.take (if false = true then Max.max (↑a0.length : Int) (40 : Int) else Min.min (↑a0.length : Int) (40 : Int)).toNat a0)))), .int .i64 (Px.vn (Px.growV (0 : Int) (List.drop (↑(0 : Nat) : Int).toNat (List.take (if false = true then Max.max (↑a0.length : Int) (40 : Int) else Min.min (↑a0.length : Int) (40 : Int)).toNat a0)))), .int .i64 (Px.vg (Px.growV (0 : Int) (List.drop (↑(0 : Nat) : Int).toNat (List.take (if false = true then Max.max (↑a0.length : Int) (40 : Int) else Min.min (↑a0.length : Int) (40 : Int)).toNat a0)))), .str (Px.vt (Px.growV (0 : Int) (List.drop (↑(0 : Nat) : Int).toNat (List.take (if false = true then Max.max (↑a0.length : Int) (40 : Int) else Min.min (↑a0.length : Int) (40 : Int)).toNat a0)))), .sl .val (Px.vl (Px.growV (0 : Int) (List.drop (↑(0 : Nat) : Int).toNat (List.take (if false = true then Max.max (↑a0.length : Int) (40 : Int) else Min.min (↑a0.length : Int) (40 : Int)).toNat a0)))), .sl .str (Px.vs (Px.growV (0 : Int) (List.drop (↑(0 : Nat) : Int).toNat (List.take (if false = true then Max.max (↑a0.length : Int) (40 : Int) else Min.min (↑a0.length : Int) (40 : Int)).toNat a0))))], []))
   (.fail))
  (.fail))
theorem e20 (a0 : List (Int × Int × Int × List UInt8 × Int × Bool)) : execFun E G20 (fun _ _ => .fail) false Go.Proofs.Tryz.f20 [.lf (.sl .bit a0)] [] some = (w20 a0).get := by kernel_rfl
noncomputable def raw20 : Spec E := fun args os => match args, os with
  | [.lf (.sl .bit a0)], [] => w20 a0
  | _, _ => .fail
theorem validraw20 (hL : Laws E) : Valid E 20 raw20 :=
  valid_of_body hL (hG20 hL) (Λ := fun _ _ => .fail) (fn := Go.Proofs.Tryz.f20) (keep := false) (by kernel_rfl) (by kernel_rfl) (by kernel_rfl) (LamOK.none (by kernel_rfl)) (fun args os r os' h => by
    unfold raw20 at h
    split at h
    · exact (e20 _).trans h
    · cases h)
theorem eq20 (l : List Bit) : (w20 l).get = some (.agg [.int .u8 (Px.vk (Px.made l)), .int .i64 (Px.vn (Px.made l)), .int .i64 (Px.vg (Px.made l)), .str (Px.vt (Px.made l)), .sl .val (Px.vl (Px.made l)), .sl .str (Px.vs (Px.made l))], []) := by
  unfold w20 Px.made
  by_cases h : l.length = 0
  · have e : eqI (l.length : Int) 0 = true := by rw [eqI_eq]; exact decide_eq_true (by omega)
    rw [Tree.get_ite, e, cond_true, if_pos h]
    rfl
  · have e : eqI (l.length : Int) 0 = false := by rw [eqI_eq]; exact decide_eq_false (by omega)
    have e0 : (if false = true then Max.max (l.length : Int) 40 else Min.min (l.length : Int) 40) = ((Min.min l.length 40 : Nat) : Int) := by
      rw [if_neg (by decide)]; omega
    have e1 : (leI 0 ((0 : Nat) : Int) && leI ((0 : Nat) : Int) ((Min.min l.length 40 : Nat) : Int) && leI ((Min.min l.length 40 : Nat) : Int) (l.length : Int)) = true := by
      simp only [leI_eq, Bool.and_eq_true, decide_eq_true_eq]
      omega
    have e2 : List.take (Min.min l.length 40) l = l.take 40 := by
      by_cases hc : 40 ≤ l.length
      · rw [Nat.min_eq_right hc]
      · rw [Nat.min_eq_left (by omega), List.take_of_length_le (Nat.le_refl _), List.take_of_length_le (by omega)]
    have e3 : (leI 0 0 && ltI 0 22 && !(l.take 40).isEmpty) = true := by
      rw [show (l.take 40).isEmpty = false from ?_]
      · rfl
      · rw [List.isEmpty_eq_false_iff]
        intro hh
        have := congrArg List.length hh
        rw [List.length_take, List.length_nil] at this
        omega
    rw [if_neg h]
    simp only [Tree.get_ite, Tree.get_leaf, e, cond_false, e0, e1, cond_true, Int.toNat_natCast, List.drop_zero, e2, e3]
noncomputable def spec20 : Spec E := fun args os => match args, os with
  | [.lf (.sl .bit l)], [] => .leaf (.agg [.int .u8 (Px.vk (Px.made l)), .int .i64 (Px.vn (Px.made l)), .int .i64 (Px.vg (Px.made l)), .str (Px.vt (Px.made l)), .sl .val (Px.vl (Px.made l)), .sl .str (Px.vs (Px.made l))], [])
  | _, _ => .fail
theorem valid20 (hL : Laws E) : Valid E 20 spec20 := (validraw20 hL).less (fun args os x u1 u2 h => by
  clear u1 u2
  unfold spec20 at h
  split at h
  · rename_i l
    exact (eq20 l).trans h
  · cases h)
end Go.Vx
namespace Go.Proofs
open Go.Shelf Go.RowKit
variable {P : Program} {ρ : Ren}
def BufGrown (T e : TypeId) (b l n : Nat) (lr : Int) (bs : List Value) (w w' : World) : Prop :=
  ∃ N cap cells, w.heap.size ≤ N ∧ N ≠ b ∧ w'.heap[b]? = some (.cells #[.slice (some ⟨N, 0, none⟩) (l + n) cap, .int .i64 0, .int .i8 lr] T (0, 0)) ∧ w'.heap[N]? = some (.cells cells e (0, 0)) ∧
    cells.size = cap ∧ cells.toList.take l = bs ∧ l + n ≤ cap ∧ cap ≤ maxLen ∧ w.grownBy w' (some b)
theorem bufGrown_end {T e : TypeId} {b N l n cap2 : Nat} {lr : Int} {w w2 : World} {v0 : Value} {cells : Array Value} {bs : List Value}
    (hbk2 : w2.heap[b]? = some (.cells #[v0, .int .i64 0, .int .i8 lr] T (0, 0))) (hN : w2.heap[N]? = some (.cells cells e (0, 0))) (hlt : w.heap.size ≤ N) (hNb : N ≠ b)
    (hcsz : cells.size = cap2) (htk : cells.toList.take l = bs) (hcap2 : l + n ≤ cap2) (hcm2 : cap2 ≤ maxLen) (hg : w.grownBy w2 (some b)) (v1 : Value) :
    BufGrown T e b l n lr bs w (((w2.setCell ⟨b, 0, none⟩ v1).setCell ⟨b, 1, none⟩ (.int .i64 0)).setCell ⟨b, 0, none⟩ (.slice (some ⟨N, 0, none⟩) (l + n) cap2)) := by
  refine ⟨N, cap2, cells, hlt, hNb, ?_, ?_, hcsz, htk, hcap2, hcm2, Lib.grownBy_setB (Lib.grownBy_setB (Lib.grownBy_setB hg 0 _) 1 _) 0 _⟩
  · exact Lib.heap_setCell_same (i := 0) (Lib.heap_setCell_same (i := 1) (Lib.heap_setCell_same (i := 0) hbk2 v1) (.int .i64 0)) (.slice (some ⟨N, 0, none⟩) (l + n) cap2)
  · rw [Below.heap_setCell _ _ _ _ hNb, Below.heap_setCell _ _ _ _ hNb, Below.heap_setCell _ _ _ _ hNb]
    exact hN
theorem bufGrown_small {T e : TypeId} {b n cap : Nat} {lr : Int} {w W : World} {v0 : Value} {M : Array Value}
    (hbkW : W.heap[b]? = some (.cells #[v0, .int .i64 0, .int .i8 lr] T (0, 0))) (hlt : w.heap.size ≤ W.heap.size) (hMs : M.size = cap) (hn : n ≤ cap) (hcm : cap ≤ maxLen) (hg : w.grownBy W (some b)) :
    BufGrown T e b 0 n lr [] w ((W.setCell ⟨b, 0, none⟩ (.slice (some ⟨W.heap.size, 0, none⟩) n cap)).alloc (.cells M e)) := by
  have hbW := Lib.lt_of_heap hbkW
  have hsz : (W.setCell ⟨b, 0, none⟩ (.slice (some ⟨W.heap.size, 0, none⟩) n cap)).heap.size = W.heap.size := by simp [World.setCell]
  refine ⟨W.heap.size, cap, M, hlt, by omega, ?_, ?_, hMs, rfl, by omega, hcm, Lib.grownBy_allocR (Lib.grownBy_setB hg 0 _) _⟩
  · rw [Below.heap_alloc _ _ b (by rw [hsz]; exact hbW), Nat.zero_add]
    exact Lib.heap_setCell_same (i := 0) hbkW _
  · have h := heap_alloc_new (W.setCell ⟨b, 0, none⟩ (.slice (some ⟨W.heap.size, 0, none⟩) n cap)) (.cells M e)
    rw [hsz] at h
    exact h
set_option maxHeartbeats 12800000 in
set_option maxRecDepth 100000 in
theorem Any.Buffer_grow_row0_x (L : LaysM.n252 P ρ) (B b g cap n : Nat) (lr : Int) (cur : Array Value) (bs : List Value) (w : World) (hB : B ≤ b) (hBw : B ≤ w.heap.size)
    (hbk : w.heap[b]? = some (.cells #[.slice (some ⟨g, 0, none⟩) 0 cap, .int .i64 0, .int .i8 lr] (ρ.t 93) (0, 0)))
    (hl : bs.length = 0) (hBg : B ≤ g) (hg : w.heap[g]? = some (.cells cur (ρ.t 5) (0, 0))) (hlc : 0 ≤ cap) (hcm : cap ≤ maxLen) (hcs : cur.size = cap) (htake : cur.toList.take 0 = bs) (hgb : g ≠ b)
    (h1 : ∀ v ∈ bs, v.oneCell' = true) (hn : 1 ≤ n) (hroom : cap - 0 < n) (hlim : 0 + n ≤ 140737488355328) :
    Calls P (ρ.f 252) #[.pointer (some ⟨b, 0, none⟩), .int .i64 n] w fun e w' => e = .returned (.int .i64 0) ∧ BufGrown (ρ.t 93) (ρ.t 5) b 0 n lr bs w w' := by
  have mixed := L.mixed
  have t5 := L.t5; have a5 := L.a5; have z5 := L.z5; have v5 := L.v5
  have t130 := L.t130; have a130 := L.a130; have z130 := L.z130; have v130 := L.v130
  have t3 := L.t3; have a3 := L.a3; have z3 := L.z3; have v3 := L.v3
  have t4 := L.t4; have a4 := L.a4; have z4 := L.z4; have v4 := L.v4
  have t0 := L.t0; have a0 := L.a0; have z0 := L.z0; have v0 := L.v0
  have t93 := L.t93; have u93 := run_underlying L.t93; have a93 := L.a93; have z93 := L.z93; have v93 := L.v93
  have t131 := L.t131; have a131 := L.a131; have z131 := L.z131; have v131 := L.v131
  have t37 := L.t37; have a37 := L.a37; have z37 := L.z37; have v37 := L.v37
  have t75 := L.t75; have a75 := L.a75; have z75 := L.z75; have v75 := L.v75
  have e181 : ∀ args w, (callFunc (ρ.f 181) args).run P w = .ok (.enter (ρ.f 181) args) w := enters_of L.f181 (by kernel_rfl) rfl
  have e251 : ∀ args w, (callFunc (ρ.f 251) args).run P w = .ok (.enter (ρ.f 251) args) w := enters_of L.f251 (by kernel_rfl) rfl
  have e290 : ∀ args w, (callFunc (ρ.f 290) args).run P w = .ok (.enter (ρ.f 290) args) w := enters_of L.f290 (by kernel_rfl) rfl
  have hIs : Lib.IsBuffer (ρ.t 93) (ρ.t 5) B b bs w := ⟨hB, _, _, hbk, ⟨by rw [hl, Nat.mul_one], .inr ⟨g, cap, cur, by rw [hl], hBg, hg, by omega, hcm, by omega, by rw [hl, Nat.mul_one]; exact htake⟩⟩, by simp [Value.ownBlock]; exact hgb⟩
  have hnil : ∀ W, (binOp .eql (ρ.t 37) (.slice (some ⟨g, 0, none⟩) 0 cap) (.slice none 0 0)).run P W = .ok (.bool false) W := fun W => Lib.run_eql_slice_some_nil W _ _ _ L.t37
  go_enter L.f252, Body.n252_ntmps ρ
  go_wp2_with (go_at_fn (ρ.f 181); refine (Any.Buffer_Len { L with } B b bs _ hIs).mono ?_)
  rintro e W0 ⟨rfl, k, hW0⟩
  rw [hl]
  have hbk0 : W0.heap[b]? = some (.cells #[.slice (some ⟨g, 0, none⟩) 0 cap, .int .i64 0, .int .i8 lr] (ρ.t 93) (0, 0)) := by rw [hW0]; exact hbk
  have hg0 : W0.heap[g]? = some (.cells cur (ρ.t 5) (0, 0)) := by rw [hW0]; exact hg
  have c0 : W0.cell? ⟨b, 0, none⟩ = some (.slice (some ⟨g, 0, none⟩) 0 cap) := by rw [Lib.cell_of_heap hbk0]; rfl
  have c1 : W0.cell? ⟨b, 1, none⟩ = some (.int .i64 0) := by rw [Lib.cell_of_heap hbk0]; rfl
  have f0 : W0.frozen? ⟨b, 0, none⟩ = false := Lib.frozen_of_heap hbk0 0
  have f1 : W0.frozen? ⟨b, 1, none⟩ = false := Lib.frozen_of_heap hbk0 1
  have HW0 := Lib.hid hW0
  clear hW0 hIs
  have hcm' := hcm
  unfold maxLen at hcm'
  go_wp2_with (go_at_fn (ρ.f 251); refine (Any.Buffer_tryGrow_none { L with } b _ 0 cap n _ c0 hlc hcm hroom).mono ?_; rintro e w' ⟨rfl, rfl⟩)
  have hc2 : cap ≤ 140737488355328 := by omega
  have h1' : ∀ v ∈ cur.toList.take 0, v.oneCell' = true := by rw [htake]; exact h1
  have hbW := Lib.lt_of_heap hbk0
  have hwn : IntKind.i64.wrap (n : Int) = n := by rw [IntKind.wrap_i64]; omega
  go_region_with_o (
      go_at_fn (ρ.f 290)
      refine (Any.bytes_growSlice_row { L with } g 0 cap n cur _ ?_ hcs hlc hn hlim hc2 h1').mono ?_
      exact hg0
      rintro e w2 ⟨cap2, cells, rfl, hN, hcsz, htk, hcap2, hcm2, hbel⟩
      have hbk2 : w2.heap[b]? = some (.cells #[.slice (some ⟨g, 0, none⟩) 0 cap, .int .i64 0, .int .i8 lr] (ρ.t 93) (0, 0)) := (hbel.block b hbW).trans hbk0
      have d0 : w2.cell? ⟨b, 0, none⟩ = some (.slice (some ⟨g, 0, none⟩) 0 cap) := by rw [Lib.cell_of_heap hbk2]; rfl
      have d1 : w2.cell? ⟨b, 1, none⟩ = some (.int .i64 0) := by rw [Lib.cell_of_heap hbk2]; rfl
      have e0 : w2.frozen? ⟨b, 0, none⟩ = false := Lib.frozen_of_heap hbk2 0
      have e1 : w2.frozen? ⟨b, 1, none⟩ = false := Lib.frozen_of_heap hbk2 1)
  all_goals (
    go_wp2
    go_ret
    have hsz0 : w'.heap.size = w.heap.size := by rw [HW0.out]; rfl
    have hb0 : Below B w w'.drew := by rw [HW0.out]; exact ⟨rfl, rfl, rfl, Nat.le_refl _, fun _ _ => rfl⟩
    have hk2 : Lib.OthersKept (ρ.t 5) (some b) w w2 := Lib.OthersKept.below (w := w'.drew) (by rw [HW0.out]; exact fun _ _ h _ _ => h) hbel
    have hg2 : w.grownBy w2 (some b) := Lib.grownBy_below (w := w'.drew) (by rw [HW0.out]; exact ⟨rfl, rfl, rfl, Nat.le_refl _, fun _ _ _ => rfl⟩) hbel
    have hfin := bufGrown_end (l := 0) (n := n) hbk2 hN (w := w) (by show w.heap.size ≤ w'.heap.size; omega) (by show w'.heap.size ≠ b; omega) hcsz (htk.trans htake) hcap2 hcm2 hg2 (.slice (some ⟨w'.heap.size, 0, none⟩) 0 cap2)
    exact ⟨rfl, by simpa using hfin⟩)
set_option maxHeartbeats 12800000 in
set_option maxRecDepth 100000 in
theorem Any.Buffer_grow_row_x (L : LaysM.n252 P ρ) (B b g l cap n : Nat) (lr : Int) (cur : Array Value) (bs : List Value) (w : World) (hB : B ≤ b) (hBw : B ≤ w.heap.size)
    (hbk : w.heap[b]? = some (.cells #[.slice (some ⟨g, 0, none⟩) l cap, .int .i64 0, .int .i8 lr] (ρ.t 93) (0, 0)))
    (hl : bs.length = l) (hBg : B ≤ g) (hg : w.heap[g]? = some (.cells cur (ρ.t 5) (0, 0))) (hlc : l ≤ cap) (hcm : cap ≤ maxLen) (hcs : cur.size = cap) (htake : cur.toList.take l = bs) (hgb : g ≠ b)
    (h1 : ∀ v ∈ bs, v.oneCell' = true) (hn : 1 ≤ n) (hroom : cap - l < n) (hlim : l + n ≤ 140737488355328) :
    Calls P (ρ.f 252) #[.pointer (some ⟨b, 0, none⟩), .int .i64 n] w fun e w' => e = .returned (.int .i64 l) ∧ BufGrown (ρ.t 93) (ρ.t 5) b l n lr bs w w' := by
  have mixed := L.mixed
  have t5 := L.t5; have a5 := L.a5; have z5 := L.z5; have v5 := L.v5
  have t130 := L.t130; have a130 := L.a130; have z130 := L.z130; have v130 := L.v130
  have t3 := L.t3; have a3 := L.a3; have z3 := L.z3; have v3 := L.v3
  have t4 := L.t4; have a4 := L.a4; have z4 := L.z4; have v4 := L.v4
  have t0 := L.t0; have a0 := L.a0; have z0 := L.z0; have v0 := L.v0
  have t93 := L.t93; have u93 := run_underlying L.t93; have a93 := L.a93; have z93 := L.z93; have v93 := L.v93
  have t131 := L.t131; have a131 := L.a131; have z131 := L.z131; have v131 := L.v131
  have t37 := L.t37; have a37 := L.a37; have z37 := L.z37; have v37 := L.v37
  have t75 := L.t75; have a75 := L.a75; have z75 := L.z75; have v75 := L.v75
  have e181 : ∀ args w, (callFunc (ρ.f 181) args).run P w = .ok (.enter (ρ.f 181) args) w := enters_of L.f181 (by kernel_rfl) rfl
  have e251 : ∀ args w, (callFunc (ρ.f 251) args).run P w = .ok (.enter (ρ.f 251) args) w := enters_of L.f251 (by kernel_rfl) rfl
  have e290 : ∀ args w, (callFunc (ρ.f 290) args).run P w = .ok (.enter (ρ.f 290) args) w := enters_of L.f290 (by kernel_rfl) rfl
  by_cases hl0 : l = 0
  · subst hl0
    exact Any.Buffer_grow_row0_x { L with } B b g cap n lr cur bs w hB hBw hbk hl hBg hg hlc hcm hcs htake hgb h1 hn hroom hlim
  have hIs : Lib.IsBuffer (ρ.t 93) (ρ.t 5) B b bs w := ⟨hB, _, _, hbk, ⟨by rw [hl, Nat.mul_one], .inr ⟨g, cap, cur, by rw [hl], hBg, hg, by omega, hcm, by omega, by rw [hl, Nat.mul_one]; exact htake⟩⟩, by simp [Value.ownBlock]; exact hgb⟩
  have hnil : ∀ W, (binOp .eql (ρ.t 37) (.slice (some ⟨g, 0, none⟩) l cap) (.slice none 0 0)).run P W = .ok (.bool false) W := fun W => Lib.run_eql_slice_some_nil W _ _ _ L.t37
  go_enter L.f252, Body.n252_ntmps ρ
  go_wp2_with (go_at_fn (ρ.f 181); refine (Any.Buffer_Len { L with } B b bs _ hIs).mono ?_)
  rintro e W0 ⟨rfl, k, hW0⟩
  rw [hl]
  have hbk0 : W0.heap[b]? = some (.cells #[.slice (some ⟨g, 0, none⟩) l cap, .int .i64 0, .int .i8 lr] (ρ.t 93) (0, 0)) := by rw [hW0]; exact hbk
  have hg0 : W0.heap[g]? = some (.cells cur (ρ.t 5) (0, 0)) := by rw [hW0]; exact hg
  have c0 : W0.cell? ⟨b, 0, none⟩ = some (.slice (some ⟨g, 0, none⟩) l cap) := by rw [Lib.cell_of_heap hbk0]; rfl
  have c1 : W0.cell? ⟨b, 1, none⟩ = some (.int .i64 0) := by rw [Lib.cell_of_heap hbk0]; rfl
  have f0 : W0.frozen? ⟨b, 0, none⟩ = false := Lib.frozen_of_heap hbk0 0
  have f1 : W0.frozen? ⟨b, 1, none⟩ = false := Lib.frozen_of_heap hbk0 1
  have HW0 := Lib.hid hW0
  clear hW0 hIs
  have hcm' := hcm
  unfold maxLen at hcm'
  go_wp2_with (go_at_fn (ρ.f 251); refine (Any.Buffer_tryGrow_none { L with } b _ l cap n _ c0 hlc hcm hroom).mono ?_; rintro e w' ⟨rfl, rfl⟩)
  have hc2 : cap ≤ 140737488355328 := by omega
  have h1' : ∀ v ∈ cur.toList.take l, v.oneCell' = true := by rw [htake]; exact h1
  have hbW := Lib.lt_of_heap hbk0
  have hwn : IntKind.i64.wrap (n : Int) = n := by rw [IntKind.wrap_i64]; omega
  go_region_with_o (
      go_at_fn (ρ.f 290)
      refine (Any.bytes_growSlice_row { L with } g l cap n cur _ ?_ hcs hlc hn hlim hc2 h1').mono ?_
      exact hg0
      rintro e w2 ⟨cap2, cells, rfl, hN, hcsz, htk, hcap2, hcm2, hbel⟩
      have hbk2 : w2.heap[b]? = some (.cells #[.slice (some ⟨g, 0, none⟩) l cap, .int .i64 0, .int .i8 lr] (ρ.t 93) (0, 0)) := (hbel.block b hbW).trans hbk0
      have d0 : w2.cell? ⟨b, 0, none⟩ = some (.slice (some ⟨g, 0, none⟩) l cap) := by rw [Lib.cell_of_heap hbk2]; rfl
      have d1 : w2.cell? ⟨b, 1, none⟩ = some (.int .i64 0) := by rw [Lib.cell_of_heap hbk2]; rfl
      have e0 : w2.frozen? ⟨b, 0, none⟩ = false := Lib.frozen_of_heap hbk2 0
      have e1 : w2.frozen? ⟨b, 1, none⟩ = false := Lib.frozen_of_heap hbk2 1)
  all_goals (
    go_wp2
    go_ret
    have hsz0 : w'.heap.size = w.heap.size := by rw [HW0.out]; rfl
    have hb0 : Below B w w'.drew := by rw [HW0.out]; exact ⟨rfl, rfl, rfl, Nat.le_refl _, fun _ _ => rfl⟩
    have hk2 : Lib.OthersKept (ρ.t 5) (some b) w w2 := Lib.OthersKept.below (w := w'.drew) (by rw [HW0.out]; exact fun _ _ h _ _ => h) hbel
    have hg2 : w.grownBy w2 (some b) := Lib.grownBy_below (w := w'.drew) (by rw [HW0.out]; exact ⟨rfl, rfl, rfl, Nat.le_refl _, fun _ _ _ => rfl⟩) hbel
    exact ⟨rfl, bufGrown_end hbk2 hN (by show w.heap.size ≤ w'.heap.size; omega) (by show w'.heap.size ≠ b; omega) hcsz (htk.trans htake) hcap2 hcm2 hg2 _⟩)
set_option maxHeartbeats 6400000 in
set_option maxRecDepth 100000 in
theorem Any.Buffer_grow_nil_small_x (L : LaysM.n252 P ρ) (B b n : Nat) (lr : Int) (w : World) (hB : B ≤ b) (hBw : B ≤ w.heap.size)
    (hbk : w.heap[b]? = some (.cells #[.slice none 0 0, .int .i64 0, .int .i8 lr] (ρ.t 93) (0, 0))) (hn : 1 ≤ n) (h64 : n ≤ 64) :
    Calls P (ρ.f 252) #[.pointer (some ⟨b, 0, none⟩), .int .i64 n] w fun e w' => e = .returned (.int .i64 0) ∧ BufGrown (ρ.t 93) (ρ.t 5) b 0 n lr [] w w' := by
  have mixed := L.mixed
  have t5 := L.t5; have a5 := L.a5; have z5 := L.z5; have v5 := L.v5
  have t130 := L.t130; have a130 := L.a130; have z130 := L.z130; have v130 := L.v130
  have t3 := L.t3; have a3 := L.a3; have z3 := L.z3; have v3 := L.v3
  have t4 := L.t4; have a4 := L.a4; have z4 := L.z4; have v4 := L.v4
  have t0 := L.t0; have a0 := L.a0; have z0 := L.z0; have v0 := L.v0
  have t93 := L.t93; have u93 := run_underlying L.t93; have a93 := L.a93; have z93 := L.z93; have v93 := L.v93
  have t131 := L.t131; have a131 := L.a131; have z131 := L.z131; have v131 := L.v131
  have t37 := L.t37; have a37 := L.a37; have z37 := L.z37; have v37 := L.v37
  have t75 := L.t75; have a75 := L.a75; have z75 := L.z75; have v75 := L.v75
  have e181 : ∀ args w, (callFunc (ρ.f 181) args).run P w = .ok (.enter (ρ.f 181) args) w := enters_of L.f181 (by kernel_rfl) rfl
  have e251 : ∀ args w, (callFunc (ρ.f 251) args).run P w = .ok (.enter (ρ.f 251) args) w := enters_of L.f251 (by kernel_rfl) rfl
  obtain ⟨i0, hi, hz0, hz1, hz2⟩ := info_parts L.i5
  obtain ⟨M, hM⟩ : ∃ M, M = madeCells (Value.int .u8 0).cells ((64 : Int).toNat * i0.size) := ⟨_, rfl⟩
  have hMs : M.size = 64 := by rw [hM, size_madeCells, hz1]; rfl
  have hmk : ∀ W : World, (Instr.makeSlice (ρ.t 37) (.int .i64 (n : Int)) (.int .i64 64)).run P W = .ok (.slice (some ⟨W.heap.size, 0, none⟩) n 64) (W.alloc (.cells M (ρ.t 5))) := fun W => by
    have h := run_makeSlice (P := P) W (ρ.t 37) (ρ.t 5) i0 (.int .u8 0) L.t37 hi hz0 .i64 .i64 (n : Int) 64 (by omega) (by omega) (by rw [hz1]; decide) (by rw [hz2]; decide) (by decide)
    rw [← hM] at h
    simpa using h
  clear hM
  have hIs : Lib.IsBuffer (ρ.t 93) (ρ.t 5) B b [] w := ⟨hB, _, _, hbk, World.ownsRow_nil _ _ _ _, by simp [Value.ownBlock]⟩
  have hnil : ∀ W, (binOp .eql (ρ.t 37) (.slice none 0 0) (.slice none 0 0)).run P W = .ok (.bool true) W := fun W => Lib.run_eql_slice_nil_nil W _ _ L.t37
  go_enter L.f252, Body.n252_ntmps ρ
  go_wp2_with (go_at_fn (ρ.f 181); refine (Any.Buffer_Len { L with } B b [] _ hIs).mono ?_)
  rintro e W0 ⟨rfl, k, hW0⟩
  have hbk0 : W0.heap[b]? = some (.cells #[.slice none 0 0, .int .i64 0, .int .i8 lr] (ρ.t 93) (0, 0)) := by rw [hW0]; exact hbk
  have c0 : W0.cell? ⟨b, 0, none⟩ = some (.slice none 0 0) := by rw [Lib.cell_of_heap hbk0]; rfl
  have c1 : W0.cell? ⟨b, 1, none⟩ = some (.int .i64 0) := by rw [Lib.cell_of_heap hbk0]; rfl
  have f0 : W0.frozen? ⟨b, 0, none⟩ = false := Lib.frozen_of_heap hbk0 0
  have f1 : W0.frozen? ⟨b, 1, none⟩ = false := Lib.frozen_of_heap hbk0 1
  have hbW0 := Lib.lt_of_heap hbk0
  have c0a : ∀ o, (W0.alloc o).cell? ⟨b, 0, none⟩ = some (.slice none 0 0) := fun o => (World.cell?_of_block (a := ⟨b, 0, none⟩) (Below.heap_alloc W0 o b hbW0)).trans c0
  have f0a : ∀ o, (W0.alloc o).frozen? ⟨b, 0, none⟩ = false := fun o => (World.frozen?_of_block (a := ⟨b, 0, none⟩) (Below.heap_alloc W0 o b hbW0)).trans f0
  have HW0 := Lib.hid hW0
  clear hW0 hIs
  go_wp2_with (go_at_fn (ρ.f 251); refine (Any.Buffer_tryGrow_none { L with } b _ 0 0 n _ c0 (Nat.le_refl _) (Nat.zero_le _) (by omega)).mono ?_; rintro e w' ⟨rfl, rfl⟩)
  go_ret
  have hsz0 : w'.heap.size = w.heap.size := by rw [HW0.out]; rfl
  have hb0 : Below B w w' := by rw [HW0.out]; exact ⟨rfl, rfl, rfl, Nat.le_refl _, fun _ _ => rfl⟩
  have hk0 : Lib.OthersKept (ρ.t 5) (some b) w w' := by rw [HW0.out]; exact fun _ _ h _ _ => h
  have hg0 : w.grownBy w' (some b) := by rw [HW0.out]; exact ⟨rfl, rfl, rfl, Nat.le_refl _, fun _ _ _ => rfl⟩
  exact ⟨rfl, bufGrown_small hbk0 (by omega) hMs h64 (by unfold maxLen; omega) hg0⟩
set_option maxHeartbeats 12800000 in
set_option maxRecDepth 100000 in
theorem Any.Buffer_grow_nil_big_x (L : LaysM.n252 P ρ) (B b n : Nat) (lr : Int) (w : World) (hB : B ≤ b) (hBw : B ≤ w.heap.size)
    (hbk : w.heap[b]? = some (.cells #[.slice none 0 0, .int .i64 0, .int .i8 lr] (ρ.t 93) (0, 0))) (h64 : 64 < n) (hlim : n ≤ 140737488355328) :
    Calls P (ρ.f 252) #[.pointer (some ⟨b, 0, none⟩), .int .i64 n] w fun e w' => e = .returned (.int .i64 0) ∧ BufGrown (ρ.t 93) (ρ.t 5) b 0 n lr [] w w' := by
  have mixed := L.mixed
  have t5 := L.t5; have a5 := L.a5; have z5 := L.z5; have v5 := L.v5
  have t130 := L.t130; have a130 := L.a130; have z130 := L.z130; have v130 := L.v130
  have t3 := L.t3; have a3 := L.a3; have z3 := L.z3; have v3 := L.v3
  have t4 := L.t4; have a4 := L.a4; have z4 := L.z4; have v4 := L.v4
  have t0 := L.t0; have a0 := L.a0; have z0 := L.z0; have v0 := L.v0
  have t93 := L.t93; have u93 := run_underlying L.t93; have a93 := L.a93; have z93 := L.z93; have v93 := L.v93
  have t131 := L.t131; have a131 := L.a131; have z131 := L.z131; have v131 := L.v131
  have t37 := L.t37; have a37 := L.a37; have z37 := L.z37; have v37 := L.v37
  have t75 := L.t75; have a75 := L.a75; have z75 := L.z75; have v75 := L.v75
  have e181 : ∀ args w, (callFunc (ρ.f 181) args).run P w = .ok (.enter (ρ.f 181) args) w := enters_of L.f181 (by kernel_rfl) rfl
  have e251 : ∀ args w, (callFunc (ρ.f 251) args).run P w = .ok (.enter (ρ.f 251) args) w := enters_of L.f251 (by kernel_rfl) rfl
  have e290 : ∀ args w, (callFunc (ρ.f 290) args).run P w = .ok (.enter (ρ.f 290) args) w := enters_of L.f290 (by kernel_rfl) rfl
  have hn : 1 ≤ n := by omega
  have hIs : Lib.IsBuffer (ρ.t 93) (ρ.t 5) B b [] w := ⟨hB, _, _, hbk, World.ownsRow_nil _ _ _ _, by simp [Value.ownBlock]⟩
  have hnil : ∀ W, (binOp .eql (ρ.t 37) (.slice none 0 0) (.slice none 0 0)).run P W = .ok (.bool true) W := fun W => Lib.run_eql_slice_nil_nil W _ _ L.t37
  go_enter L.f252, Body.n252_ntmps ρ
  go_wp2_with (go_at_fn (ρ.f 181); refine (Any.Buffer_Len { L with } B b [] _ hIs).mono ?_)
  rintro e W0 ⟨rfl, k, hW0⟩
  have hbk0 : W0.heap[b]? = some (.cells #[.slice none 0 0, .int .i64 0, .int .i8 lr] (ρ.t 93) (0, 0)) := by rw [hW0]; exact hbk
  have c0 : W0.cell? ⟨b, 0, none⟩ = some (.slice none 0 0) := by rw [Lib.cell_of_heap hbk0]; rfl
  have c1 : W0.cell? ⟨b, 1, none⟩ = some (.int .i64 0) := by rw [Lib.cell_of_heap hbk0]; rfl
  have f0 : W0.frozen? ⟨b, 0, none⟩ = false := Lib.frozen_of_heap hbk0 0
  have f1 : W0.frozen? ⟨b, 1, none⟩ = false := Lib.frozen_of_heap hbk0 1
  have HW0 := Lib.hid hW0
  clear hW0 hIs
  go_wp2_with (go_at_fn (ρ.f 251); refine (Any.Buffer_tryGrow_none { L with } b _ 0 0 n _ c0 (Nat.le_refl _) (Nat.zero_le _) (by omega)).mono ?_; rintro e w' ⟨rfl, rfl⟩)
  have hbW := Lib.lt_of_heap hbk0
  have hwn : IntKind.i64.wrap (n : Int) = n := by rw [IntKind.wrap_i64]; omega
  go_region_with_o (
      go_at_fn (ρ.f 290)
      refine (Any.bytes_growSlice_nil { L with } n _ hn hlim).mono ?_
      rintro e w2 ⟨cap2, cells, rfl, hN, hcsz, hcap2, hcm2, hbel⟩
      have hbk2 : w2.heap[b]? = some (.cells #[.slice none 0 0, .int .i64 0, .int .i8 lr] (ρ.t 93) (0, 0)) := (hbel.block b hbW).trans hbk0
      have d0 : w2.cell? ⟨b, 0, none⟩ = some (.slice none 0 0) := by rw [Lib.cell_of_heap hbk2]; rfl
      have d1 : w2.cell? ⟨b, 1, none⟩ = some (.int .i64 0) := by rw [Lib.cell_of_heap hbk2]; rfl
      have e0 : w2.frozen? ⟨b, 0, none⟩ = false := Lib.frozen_of_heap hbk2 0
      have e1 : w2.frozen? ⟨b, 1, none⟩ = false := Lib.frozen_of_heap hbk2 1)
  all_goals (
    go_wp2
    go_ret
    have hsz0 : w'.heap.size = w.heap.size := by rw [HW0.out]; rfl
    have hb0 : Below B w w'.drew := by rw [HW0.out]; exact ⟨rfl, rfl, rfl, Nat.le_refl _, fun _ _ => rfl⟩
    have hk2 : Lib.OthersKept (ρ.t 5) (some b) w w2 := Lib.OthersKept.below (w := w'.drew) (by rw [HW0.out]; exact fun _ _ h _ _ => h) hbel
    have hg2 : w.grownBy w2 (some b) := Lib.grownBy_below (w := w'.drew) (by rw [HW0.out]; exact ⟨rfl, rfl, rfl, Nat.le_refl _, fun _ _ _ => rfl⟩) hbel
    have hfin := bufGrown_end (l := 0) (n := n) (bs := []) hbk2 hN (w := w) (by show w.heap.size ≤ w'.heap.size; omega) (by show w'.heap.size ≠ b; omega) hcsz (by simp) (by omega) hcm2 hg2 (.slice (some ⟨w'.heap.size, 0, none⟩) 0 cap2)
    exact ⟨rfl, by simpa using hfin⟩)
end Go.Proofs
namespace Go.Proofs
open Go.Shelf Go.RowKit
variable {P : Program} {ρ : Ren}
def BufRow (e : TypeId) (b : Nat) (v : Value) (bs : List Value) (w : World) : Prop :=
  (v = .slice none 0 0 ∧ bs = []) ∨ ∃ g cap cur, v = .slice (some ⟨g, 0, none⟩) bs.length cap ∧ w.heap[g]? = some (.cells cur e (0, 0)) ∧ bs.length ≤ cap ∧ cap ≤ maxLen ∧ cur.size = cap ∧ cur.toList.take bs.length = bs ∧ g ≠ b
def BufWrote (T e : TypeId) (b : Nat) (v : Value) (bs news : List Value) (w w' : World) : Prop :=
  w'.os = w.os ∧ w'.tape = w.tape ∧ w'.output = w.output ∧ w.heap.size ≤ w'.heap.size ∧ ∃ v' lr, w'.heap[b]? = some (.cells #[v', .int .i64 0, .int .i8 lr] T (0, 0)) ∧
    ((v' = v ∧ news = [] ∧ ∀ c, c < w.heap.size → c ≠ b → w'.heap[c]? = w.heap[c]?) ∨
     ∃ g cap cells, v' = .slice (some ⟨g, 0, none⟩) (bs ++ news).length cap ∧ g ≠ b ∧ w'.heap[g]? = some (.cells cells e (0, 0)) ∧ cells.size = cap ∧ (bs ++ news).length ≤ cap ∧ cap ≤ maxLen ∧
       cells.toList.take (bs ++ news).length = bs ++ news ∧ (w.heap.size ≤ g ∨ v = .slice (some ⟨g, 0, none⟩) bs.length cap) ∧ ∀ c, c < w.heap.size → c ≠ b → c ≠ g → w'.heap[c]? = w.heap[c]?)
theorem heap_setCell_size (w : World) (a : Addr) (x : Value) : (w.setCell a x).heap.size = w.heap.size := by simp [World.setCell]
theorem bufWrote_same {T e : TypeId} {b : Nat} {lr : Int} {v : Value} {bs : List Value} {w W1 : World} (hbk : w.heap[b]? = some (.cells #[v, .int .i64 0, .int .i8 lr] T (0, 0)))
    (hW : W1 = (w.setCell ⟨b, 2, none⟩ (.int .i8 0)).setCell ⟨b, 0, none⟩ v) : BufWrote T e b v bs [] w W1 := by
  subst hW
  refine ⟨rfl, rfl, rfl, by simp [World.setCell], v, 0, Lib.heap_setCell_same (i := 0) (Lib.heap_setCell_same (i := 2) hbk (.int .i8 0)) v, .inl ⟨rfl, rfl, fun c _ hc => ?_⟩⟩
  rw [Below.heap_setCell _ _ _ _ hc, Below.heap_setCell _ _ _ _ hc]
theorem take_written {cur : Array Value} {bs news : List Value} {l n cap : Nat} (hl : bs.length = l) (hn : news.length = n) (hcs : cur.size = cap) (hcap : l + n ≤ cap) (htk : cur.toList.take l = bs) :
    (cur.toList.take l ++ news ++ cur.toList.drop (l + n)).toArray.size = cap ∧ (cur.toList.take l ++ news ++ cur.toList.drop (l + n)).toArray.toList.take (bs ++ news).length = bs ++ news := by
  constructor
  · simp only [List.size_toArray, List.length_append, List.length_take, List.length_drop, Array.length_toList]; omega
  · rw [htk, List.toList_toArray, List.take_append_of_le_length (Nat.le_refl _), List.take_of_length_le (Nat.le_refl _)]
theorem bufWrote_row {T e : TypeId} {b g l n cap : Nat} {lr : Int} {v : Value} {cur : Array Value} {bs news : List Value} {w W1 : World}
    (ho : W1.os = w.os) (ht : W1.tape = w.tape) (hu : W1.output = w.output) (hsz : w.heap.size ≤ W1.heap.size)
    (hbk2 : W1.heap[b]? = some (.cells #[.slice (some ⟨g, 0, none⟩) (l + n) cap, .int .i64 0, .int .i8 lr] T (0, 0)))
    (hg : W1.heap[g]? = some (.cells cur e (0, 0))) (hl : bs.length = l) (hn : news.length = n) (hcs : cur.size = cap) (hcap : l + n ≤ cap) (hcm : cap ≤ maxLen) (htk : cur.toList.take l = bs) (hgb : g ≠ b)
    (hor : w.heap.size ≤ g ∨ v = .slice (some ⟨g, 0, none⟩) bs.length cap) (hoth : ∀ c, c < w.heap.size → c ≠ b → c ≠ g → W1.heap[c]? = w.heap[c]?) :
    BufWrote T e b v bs news w (W1.setRow g (bs ++ (news ++ cur.toList.drop (l + n))).toArray) := by
  obtain ⟨r1, r2⟩ := take_written hl hn hcs hcap htk
  rw [htk, List.append_assoc] at r1 r2
  refine ⟨ho, ht, hu, by simpa using hsz, .slice (some ⟨g, 0, none⟩) (l + n) cap, lr, ?_, .inr ⟨g, cap, _, ?_, hgb, setRow_heap W1 g cur _ e (0, 0) hg, r1, by rw [List.length_append]; omega, hcm, r2, hor, fun c h1 h2 h3 => ?_⟩⟩
  · rw [setRow_other _ _ _ _ (Ne.symm hgb)]; exact hbk2
  · rw [List.length_append, hl, hn]
  · rw [setRow_other _ _ _ _ h3]; exact hoth c h1 h2 h3
theorem Any.Buffer_grow_x (L : LaysM.n252 P ρ) (b n : Nat) (lr : Int) (v : Value) (bs : List Value) (w : World)
    (hbk : w.heap[b]? = some (.cells #[v, .int .i64 0, .int .i8 lr] (ρ.t 93) (0, 0))) (hv : BufRow (ρ.t 5) b v bs w) (hn : 1 ≤ n)
    (hroom : ∀ g cap, v = .slice (some ⟨g, 0, none⟩) bs.length cap → cap - bs.length < n) (h1 : ∀ v ∈ bs, v.oneCell' = true) (hlim : bs.length + n ≤ 140737488355328) :
    Calls P (ρ.f 252) #[.pointer (some ⟨b, 0, none⟩), .int .i64 n] w fun e w' => e = .returned (.int .i64 bs.length) ∧ BufGrown (ρ.t 93) (ρ.t 5) b bs.length n lr bs w w' := by
  rcases hv with ⟨rfl, rfl⟩ | ⟨g, cap, cur, rfl, hg, hlc, hcm, hcs, htk, hgb⟩
  · by_cases h64 : n ≤ 64
    · exact Any.Buffer_grow_nil_small_x L 0 b n lr w (Nat.zero_le _) (Nat.zero_le _) hbk hn h64
    · exact Any.Buffer_grow_nil_big_x L 0 b n lr w (Nat.zero_le _) (Nat.zero_le _) hbk (by omega) (by simpa using hlim)
  · exact Any.Buffer_grow_row_x L 0 b g bs.length cap n lr cur bs w (Nat.zero_le _) (Nat.zero_le _) hbk rfl (Nat.zero_le _) hg hlc hcm hcs htk hgb h1 hn (hroom g cap rfl) hlim
set_option maxHeartbeats 6400000 in
set_option maxRecDepth 100000 in
theorem Any.Buffer_WriteString_x (L : LaysM.n178 P ρ) (b : Nat) (lr : Int) (v : Value) (bs : List Value) (s : ByteArray) (w : World)
    (hbk : w.heap[b]? = some (.cells #[v, .int .i64 0, .int .i8 lr] (ρ.t 93) (0, 0))) (hv : BufRow (ρ.t 5) b v bs w) (h1 : ∀ v ∈ bs, v.oneCell' = true) (hlim : bs.length + s.size ≤ 140737488355328) :
    Calls P (ρ.f 178) #[.pointer (some ⟨b, 0, none⟩), .string s] w fun e w' => e = .returned (.tuple #[.int .i64 s.size, .nilIface]) ∧ BufWrote (ρ.t 93) (ρ.t 5) b v bs (Lib.byteCells s.data.toList) w w' := by
  have mixed := L.mixed
  have t5 := L.t5; have a5 := L.a5; have z5 := L.z5; have v5 := L.v5
  have t130 := L.t130; have a130 := L.a130; have z130 := L.z130; have v130 := L.v130
  have t9 := L.t9; have a9 := L.a9; have z9 := L.z9; have v9 := L.v9
  have t3 := L.t3; have a3 := L.a3; have z3 := L.z3; have v3 := L.v3
  have t75 := L.t75; have a75 := L.a75; have z75 := L.z75; have v75 := L.v75
  have t0 := L.t0; have a0 := L.a0; have z0 := L.z0; have v0 := L.v0
  have t93 := L.t93; have u93 := run_underlying L.t93; have a93 := L.a93; have z93 := L.z93; have v93 := L.v93
  have t91 := L.t91; have a91 := L.a91; have z91 := L.z91; have v91 := L.v91
  have t131 := L.t131; have a131 := L.a131; have z131 := L.z131; have v131 := L.v131
  have t4 := L.t4; have a4 := L.a4; have z4 := L.z4; have v4 := L.v4
  have t37 := L.t37; have a37 := L.a37; have z37 := L.z37; have v37 := L.v37
  have e251 : ∀ args w, (callFunc (ρ.f 251) args).run P w = .ok (.enter (ρ.f 251) args) w := enters_of L.f251 (by kernel_rfl) rfl
  have e252 : ∀ args w, (callFunc (ρ.f 252) args).run P w = .ok (.enter (ρ.f 252) args) w := enters_of L.f252 (by kernel_rfl) rfl
  have c2 : w.cell? ⟨b, 2, none⟩ = some (.int .i8 lr) := by rw [Lib.cell_of_heap hbk]; rfl
  have f2 : w.frozen? ⟨b, 2, none⟩ = false := Lib.frozen_of_heap hbk 2
  have hbk1 : (w.setCell ⟨b, 2, none⟩ (.int .i8 0)).heap[b]? = some (.cells #[v, .int .i64 0, .int .i8 0] (ρ.t 93) (0, 0)) := Lib.heap_setCell_same (i := 2) hbk (.int .i8 0)
  have hv1 : BufRow (ρ.t 5) b v bs (w.setCell ⟨b, 2, none⟩ (.int .i8 0)) := by
    rcases hv with h | ⟨g, cap, cur, h0, hg, h2⟩
    · exact .inl h
    · exact .inr ⟨g, cap, cur, h0, by rw [Below.heap_setCell _ _ _ _ h2.2.2.2.2]; exact hg, h2⟩
  have c0 : (w.setCell ⟨b, 2, none⟩ (.int .i8 0)).cell? ⟨b, 0, none⟩ = some v := by rw [Lib.cell_of_heap hbk1]; rfl
  have f0 : (w.setCell ⟨b, 2, none⟩ (.int .i8 0)).frozen? ⟨b, 0, none⟩ = false := Lib.frozen_of_heap hbk1 0
  have hinfo : (P.info? (ρ.t 5)).map (·.size) = some 1 := by
    obtain ⟨i0, hi, -, hz1, -⟩ := info_parts L.i5
    rw [hi]; simp [hz1]
  have hbl : (Lib.byteCells s.data.toList).length = s.size := by rw [Lib.byteCells_length, ← Lib.size_eq]
  by_cases hs0 : s.size = 0
  ·
    have hce : ∀ d dLen dCap W, (Builtin.copy_ #[(ρ.t 37), (ρ.t 9)] (ρ.t 3) #[.slice d dLen dCap, .string s]).run P W = .ok (goInt 0) W := fun d dLen dCap W => Lib.run_copy_empty_string W (ρ.t 37) (ρ.t 9) (ρ.t 3) (ρ.t 5) d dLen dCap s L.t37 (by rw [hinfo]; rfl) hs0
    have hbc : Lib.byteCells s.data.toList = [] := List.eq_nil_of_length_eq_zero (by rw [hbl]; exact hs0)
    rw [hbc]
    rcases hv with ⟨rfl, rfl⟩ | ⟨g, cap, cur, rfl, hg, hlc, hcm, hcs, htk, hgb⟩
    · clear hv1
      go_enter L.f178, Body.n178_ntmps ρ
      go_wp2_with (go_at_fn (ρ.f 251); refine (Any.Buffer_tryGrow_room { L with } b none 0 0 0 _ c0 f0 (Nat.le_refl _) (Nat.zero_le _) (Nat.zero_le _)).mono ?_)
      rintro e W1 ⟨rfl, hW1⟩
      have d0 : W1.cell? ⟨b, 0, none⟩ = some (.slice none 0 0) := by rw [hW1, Lib.cell_of_heap (Lib.heap_setCell_same (i := 0) hbk1 _)]; rfl
      have HW1 := Lib.hid hW1
      clear hW1 c0 f0 c2 f2 hbk1
      go_wp2
      all_goals (go_ret2; first | exact ⟨rfl, bufWrote_same hbk HW1.out⟩ | exact ⟨by simp [hs0], bufWrote_same hbk HW1.out⟩)
    · have go : (cap = bs.length ∨ cap ≠ bs.length) := Decidable.em _
      rcases go with rfl | hcl
      · clear hv1
        go_enter L.f178, Body.n178_ntmps ρ
        go_wp2_with (go_at_fn (ρ.f 251); refine (Any.Buffer_tryGrow_room { L with } b (some ⟨g, 0, none⟩) bs.length bs.length 0 _ c0 f0 hlc hcm (Nat.zero_le _)).mono ?_)
        rintro e W1 ⟨rfl, hW1⟩
        have d0 : W1.cell? ⟨b, 0, none⟩ = some (.slice (some ⟨g, 0, none⟩) bs.length bs.length) := by rw [hW1, Lib.cell_of_heap (Lib.heap_setCell_same (i := 0) hbk1 _)]; rfl
        have HW1 := Lib.hid hW1
        have hcm' := hcm
        unfold maxLen at hcm'
        clear hW1 c0 f0 c2 f2 hbk1
        go_wp2
        all_goals (go_ret2; first | exact ⟨rfl, bufWrote_same hbk HW1.out⟩ | exact ⟨by simp [hs0], bufWrote_same hbk HW1.out⟩)
      · clear hv1
        go_enter L.f178, Body.n178_ntmps ρ
        go_wp2_with (go_at_fn (ρ.f 251); refine (Any.Buffer_tryGrow_room { L with } b (some ⟨g, 0, none⟩) bs.length cap 0 _ c0 f0 hlc hcm (Nat.zero_le _)).mono ?_)
        rintro e W1 ⟨rfl, hW1⟩
        have d0 : W1.cell? ⟨b, 0, none⟩ = some (.slice (some ⟨g, 0, none⟩) bs.length cap) := by rw [hW1, Lib.cell_of_heap (Lib.heap_setCell_same (i := 0) hbk1 _)]; rfl
        have HW1 := Lib.hid hW1
        have hcm' := hcm
        unfold maxLen at hcm'
        clear hW1 c0 f0 c2 f2 hbk1
        go_wp2
        all_goals (go_ret2; first | exact ⟨rfl, bufWrote_same hbk HW1.out⟩ | exact ⟨by simp [hs0], bufWrote_same hbk HW1.out⟩)
  · by_cases hroom : ∃ g cap cur, v = .slice (some ⟨g, 0, none⟩) bs.length cap ∧ w.heap[g]? = some (.cells cur (ρ.t 5) (0, 0)) ∧ bs.length ≤ cap ∧ cap ≤ maxLen ∧ cur.size = cap ∧ cur.toList.take bs.length = bs ∧ g ≠ b ∧ s.size ≤ cap - bs.length
    ·
      obtain ⟨g, cap, cur, rfl, hg, hlc, hcm, hcs, htk, hgb, hr⟩ := hroom
      clear hv1 hv
      go_enter L.f178, Body.n178_ntmps ρ
      go_wp2_with (go_at_fn (ρ.f 251); refine (Any.Buffer_tryGrow_room { L with } b (some ⟨g, 0, none⟩) bs.length cap s.size _ c0 f0 hlc hcm hr).mono ?_)
      rintro e W1 ⟨rfl, hW1⟩
      have hbk2 : W1.heap[b]? = some (.cells #[.slice (some ⟨g, 0, none⟩) (bs.length + s.size) cap, .int .i64 0, .int .i8 0] (ρ.t 93) (0, 0)) := by rw [hW1]; exact Lib.heap_setCell_same (i := 0) hbk1 _
      have d0 : W1.cell? ⟨b, 0, none⟩ = some (.slice (some ⟨g, 0, none⟩) (bs.length + s.size) cap) := by rw [Lib.cell_of_heap hbk2]; rfl
      have hg2 : W1.heap[g]? = some (.cells cur (ρ.t 5) (0, 0)) := by rw [hW1, Below.heap_setCell _ _ _ _ hgb, Below.heap_setCell _ _ _ _ hgb]; exact hg
      have HW1 := Lib.hid hW1
      have hne : ¬ cap = bs.length := by omega
      have hcp := Lib.run_copy_row_string (P := P) W1 (ρ.t 37) (ρ.t 9) (ρ.t 3) (ρ.t 5) g bs.length s.size (cap - bs.length) s cur (ρ.t 5) L.t37 hinfo hg2 (Nat.le_refl _) (by omega)
      have hcm' := hcm
      unfold maxLen at hcm'
      clear hW1 c0 f0 c2 f2 hbk1
      go_wp2
      go_ret2
      refine ⟨rfl, bufWrote_row (w := w) (by rw [HW1.out]; rfl) (by rw [HW1.out]; rfl) (by rw [HW1.out]; rfl) (by rw [HW1.out, heap_setCell_size, heap_setCell_size]; exact Nat.le_refl _) hbk2 hg2 rfl hbl hcs (by omega) hcm htk hgb (.inr rfl) (fun c _ hc _ => ?_)⟩
      rw [HW1.out, Below.heap_setCell _ _ _ _ hc, Below.heap_setCell _ _ _ _ hc]
    ·
      obtain ⟨ao, cap0, hv0, hlc0, hcm0, hr0, hr1⟩ : ∃ ao cap0, v = .slice ao bs.length cap0 ∧ bs.length ≤ cap0 ∧ cap0 ≤ maxLen ∧ cap0 - bs.length < s.size ∧ ∀ g cap, v = .slice (some ⟨g, 0, none⟩) bs.length cap → cap - bs.length < s.size := by
        rcases hv with ⟨rfl, rfl⟩ | ⟨g, cap, cur, rfl, hg, hlc, hcm, hcs, htk, hgb⟩
        · exact ⟨none, 0, rfl, Nat.le_refl _, Nat.zero_le _, by simp; omega, fun g cap h => by cases h⟩
        · have hlt : cap - bs.length < s.size := Nat.lt_of_not_le fun h => hroom ⟨g, cap, cur, rfl, hg, hlc, hcm, hcs, htk, hgb, h⟩
          exact ⟨_, cap, rfl, hlc, hcm, hlt, fun g' cap' h => by injection h with _ _ h3; rw [← h3]; exact hlt⟩
      rw [hv0] at c0
      clear hroom
      go_enter L.f178, Body.n178_ntmps ρ
      go_wp2_with (go_at_fn (ρ.f 251); refine (Any.Buffer_tryGrow_none { L with } b ao bs.length cap0 s.size _ c0 hlc0 hcm0 hr0).mono ?_; rintro e W0 ⟨rfl, rfl⟩)
      go_wp2_with (go_at_fn (ρ.f 252); refine (Any.Buffer_grow_x { L with } b s.size 0 v bs _ hbk1 hv1 (by omega) hr1 h1 hlim).mono ?_)
      rintro e W1 ⟨rfl, g, cap, cur, hlt, hgb, hbk2, hg2, hcs, htk, hlc, hcm, hgr⟩
      have d0 : W1.cell? ⟨b, 0, none⟩ = some (.slice (some ⟨g, 0, none⟩) (bs.length + s.size) cap) := by rw [Lib.cell_of_heap hbk2]; rfl
      have hne : ¬ cap = bs.length := by omega
      have hcp := Lib.run_copy_row_string (P := P) W1 (ρ.t 37) (ρ.t 9) (ρ.t 3) (ρ.t 5) g bs.length s.size (cap - bs.length) s cur (ρ.t 5) L.t37 hinfo hg2 (Nat.le_refl _) (by omega)
      have hcm' := hcm
      unfold maxLen at hcm'
      have Hgr := Lib.hid hgr
      clear c0 f0 c2 f2 hbk1 hgr hv1 hv
      go_wp2
      go_ret2
      rw [heap_setCell_size] at hlt
      have hgr' := Hgr.out
      refine ⟨rfl, bufWrote_row (w := w) hgr'.os hgr'.tape hgr'.output (by have h := hgr'.size; rw [heap_setCell_size] at h; exact h) hbk2 hg2 rfl hbl hcs hlc hcm htk hgb (.inl hlt) (fun c h1 hc _ => ?_)⟩
      rw [hgr'.block c (by rw [heap_setCell_size]; exact h1) (by simpa using hc), Below.heap_setCell _ _ _ _ hc]
set_option maxHeartbeats 4000000 in
set_option maxRecDepth 100000 in
theorem Any.Buffer_Bytes_x (L : LaysM.n183 P ρ) (b : Nat) (lr : Int) (v : Value) (bs : List Value) (w : World)
    (hbk : w.heap[b]? = some (.cells #[v, .int .i64 0, .int .i8 lr] (ρ.t 93) (0, 0))) (hv : BufRow (ρ.t 5) b v bs w) :
    Calls P (ρ.f 183) #[.pointer (some ⟨b, 0, none⟩)] w fun e w' => e = .returned v ∧ ∃ n, w' = w.drewN n := by
  have mixed := L.mixed
  have t5 := L.t5; have a5 := L.a5; have z5 := L.z5; have v5 := L.v5
  have t130 := L.t130; have a130 := L.a130; have z130 := L.z130; have v130 := L.v130
  have t37 := L.t37; have a37 := L.a37; have z37 := L.z37; have v37 := L.v37
  have t0 := L.t0; have a0 := L.a0; have z0 := L.z0; have v0 := L.v0
  have t93 := L.t93; have u93 := run_underlying L.t93; have a93 := L.a93; have z93 := L.z93; have v93 := L.v93
  have t3 := L.t3; have a3 := L.a3; have z3 := L.z3; have v3 := L.v3
  have c1 : w.cell? ⟨b, 1, none⟩ = some (.int .i64 0) := by rw [Lib.cell_of_heap hbk]; rfl
  have c0 : w.cell? ⟨b, 0, none⟩ = some v := by rw [Lib.cell_of_heap hbk]; rfl
  rcases hv with ⟨rfl, rfl⟩ | ⟨g, cap, cur, rfl, hg, hlc, hcm, hcs, htk, hgb⟩
  · go_enter L.f183, Body.n183_ntmps ρ
    go_wp2
    go_region_o
    all_goals (go_wp2; go_ret; exact ⟨rfl, 1, rfl⟩)
  · have hcm' := hcm
    unfold maxLen at hcm'
    go_enter L.f183, Body.n183_ntmps ρ
    go_wp2
    go_region_o
    all_goals (go_wp2; go_ret; exact ⟨by simp, 1, rfl⟩)
end Go.Proofs
namespace Go.Vx
open Go Go.Proofs
theorem byteCells_get (xs : List UInt8) (i : Nat) : (Lib.byteCells xs)[i]? = xs[i]?.map fun b => Value.int .u8 b.toNat := by
  unfold Lib.byteCells; rw [List.getElem?_map]
theorem byteCells_one (xs : List UInt8) : ∀ v ∈ Lib.byteCells xs, v.oneCell' = true := by
  intro v hv
  unfold Lib.byteCells at hv
  obtain ⟨b, _, rfl⟩ := List.mem_map.1 hv
  rfl
theorem byteCells_app (xs ys : List UInt8) : Lib.byteCells (xs ++ ys) = Lib.byteCells xs ++ Lib.byteCells ys := by unfold Lib.byteCells; rw [List.map_append]
def wbl : Leaf E.A → Option (List UInt8)
  | .nil => some []
  | .own 0 0 .u8 (xs : List UInt8) => some xs
  | _ => none
theorem key_five {ty : TypeId} (h : E.key ty = some K.u8) : ty = 5 := by
  have h : tyKey ty = some .u8 := h
  unfold tyKey at h
  split at h <;> first | rfl | cases h
theorem cells_u8 {G : Gh} {w : World} {xs : List UInt8} {g cap : Nat} {cur : Array Value} {e : TypeId} (h : Rep E G w (.sl (A := E.A) K.u8 xs) (.slice (some ⟨g, 0, none⟩) xs.length cap)) (hg : w.heap[g]? = some (.cells cur e (0, 0))) :
    cur.toList.take xs.length = Lib.byteCells xs := by
  generalize hv : Value.slice (some ⟨g, 0, none⟩) xs.length cap = v at h
  generalize hl : (Leaf.sl (A := E.A) K.u8 xs) = l at h
  cases h with
  | sl0 k a cap h => injection hl with h1 h2; subst h1; have h2 := eq_of_heq h2; subst h2; rfl
  | sl k ys b off cap vals h1 h2 hc hr =>
    injection hl with h3 h4; subst h3; have h4 := eq_of_heq h4; subst h4
    injection hv with h5 h6 h7; injection h5 with h5; injection h5 with h5 h8; subst h5; subst h8
    apply List.ext_getElem?
    intro i
    rw [byteCells_get, List.getElem?_take]
    by_cases hi : i < xs.length
    · rw [if_pos hi, List.getElem?_eq_getElem hi]
      have c := (hc i 0 hi (by show 0 < 1; omega)).1
      rw [Lib.cell_of_heap hg] at c
      have r := hr i xs[i] (List.getElem?_eq_getElem hi) 0 _ rfl
      have e1 : 0 + i * E.sz K.u8 + 0 = i := by show 0 + i * 1 + 0 = i; omega
      rw [e1] at c
      rw [Array.getElem?_toList, c]
      have r' : Rep E G w (.int .u8 (xs[i].toNat : Int)) (vals i 0) := r
      rw [(RRep.lf r').int_inv.1]
      rfl
    · rw [if_neg hi, List.getElem?_eq_none (by omega)]; rfl
  | _ => cases hl
theorem sl_oth {G : Gh} {w : World} {xs : List UInt8} {g n cap : Nat} (h : Rep E G w (.sl (A := E.A) K.u8 xs) (.slice (some ⟨g, 0, none⟩) n cap)) : ∀ o, o < xs.length → ¬ G.oth g o := by
  generalize hv : Value.slice (some ⟨g, 0, none⟩) n cap = v at h
  generalize hl : (Leaf.sl (A := E.A) K.u8 xs) = l at h
  cases h with
  | sl0 k a cap h => injection hl with h1 h2; subst h1; have h2 := eq_of_heq h2; subst h2; intro o ho; exact absurd ho (Nat.not_lt_zero _)
  | sl k ys b off cap vals h1 h2 hc hr =>
    injection hl with h3 h4; subst h3; have h4 := eq_of_heq h4; subst h4
    injection hv with h5 h6 h7; injection h5 with h5; injection h5 with h5 h8; subst h5; subst h8
    intro o ho
    have c := (hc o 0 ho (by show 0 < 1; omega)).2.2
    have e1 : 0 + o * E.sz K.u8 + 0 = o := by show 0 + o * 1 + 0 = o; omega
    rw [e1] at c
    exact c
  | _ => cases hl
theorem wb_row {ob : Nat → Option (Obj E.A)} {G : Gh} {w : World} (hh : HRel E ob G w) {b : Nat} (hb : G.blk 0 = some b) (hcur : G.cur = zero0) {l : Leaf E.A} {v : Value} {xs : List UInt8} (hl : wbl l = some xs) (hr : Rep E G w l v) (hw : WRow E G w l v) :
    BufRow 5 b v (Lib.byteCells xs) w ∧ ((v = .slice none 0 0 ∧ xs = []) ∨ ∃ g cap, v = .slice (some ⟨g, 0, none⟩) xs.length cap ∧ G.tok 0 = some (g, 0 + xs.length * E.sz K.u8, 0 + cap * E.sz K.u8) ∧ ∀ o, o < xs.length → ¬ G.oth g o) := by
  unfold wbl at hl
  split at hl
  · injection hl with hl; subst hl
    cases hr with
    | nil => exact ⟨.inl ⟨rfl, rfl⟩, .inl ⟨rfl, rfl⟩⟩
  · rename_i xs'
    injection hl with hl; subst hl
    have h0 : (0 : Nat) = G.cur 0 := by rw [hcur]; rfl
    cases hr with
    | @own _ _ _ _ a n cap hsl _ hown =>
      have hlen : n = xs'.length ∧ n ≤ cap := by
        cases hsl with
        | sl0 => exact ⟨rfl, Nat.zero_le _⟩
        | sl _ _ _ _ _ _ h1 => exact ⟨rfl, h1⟩
      obtain ⟨rfl, hle⟩ := hlen
      rcases hown h0 with ⟨rfl, rfl⟩ | ⟨g, off, ty, m, rfl, ht, _⟩
      · have : xs' = [] := List.eq_nil_of_length_eq_zero (by omega)
        subst this
        exact ⟨.inl ⟨rfl, rfl⟩, .inl ⟨rfl, rfl⟩⟩
      · rcases hw h0 with ⟨n', hn⟩ | ⟨g', n', cap', cur, ty', hv, hg, hk, hcm, hcs⟩
        · cases hn
        · injection hv with h3 h4 h5
          injection h3 with h3; injection h3 with h3 h6
          subst h3; subst h5; subst h6
          obtain rfl := key_five hk
          have hne : g ≠ b := fun e => (hh.tokb 0 _ _ _ ht).2.1 0 (by rw [hb, e])
          refine ⟨.inr ⟨g, cap, cur, by rw [Lib.byteCells_length], hg, by rw [Lib.byteCells_length]; exact hle, hcm, hcs, ?_, hne⟩, .inr ⟨g, cap, rfl, ht, sl_oth hsl⟩⟩
          rw [Lib.byteCells_length]
          exact cells_u8 hsl hg
  · cases hl
def Gh.row (G : Gh) (T : Option (Nat × Nat × Nat)) : Gh := { G with tok := upd G.tok 0 T }
theorem row_free {G : Gh} {T : Option (Nat × Nat × Nat)} {c o : Nat} (h : G.free c o) (hT : ∀ lo hi, T = some (c, lo, hi) → o < lo ∨ hi ≤ o) : (G.row T).free c o := by
  refine ⟨h.1, fun t lo hi ht => ?_⟩
  unfold Gh.row upd at ht
  simp only at ht
  split at ht
  · exact hT lo hi ht
  · exact h.2 t lo hi ht
theorem row_clear {G : Gh} {T : Option (Nat × Nat × Nat)} {c : Nat} (h : G.clear c) (hT : ∀ lo hi, T ≠ some (c, lo, hi)) : (G.row T).clear c := by
  refine ⟨h.1, fun t lo hi ht => ?_⟩
  unfold Gh.row upd at ht
  simp only at ht
  split at ht
  · exact hT lo hi ht
  · exact h.2 t lo hi ht
theorem wrote_back {l : Leaf E.A} {G : Gh} {w w' : World} (hh : HRel E (fun i => [Obj.wb (A := E.A) 80 l][i]?) G w) (hv : G.ver = zero0) (hc : G.cur = zero0) {b : Nat} (hb : G.blk 0 = some b)
    {lr : Int} {v : Value} (hbk : w.heap[b]? = some (.cells #[v, .int .i64 0, .int .i8 lr] 80 (0, 0))) {xs s : List UInt8} (hr : Rep E G w l v) (hwr : WRow E G w l v) (hl : wbl l = some xs)
    (hW : BufWrote 80 5 b v (Lib.byteCells xs) (Lib.byteCells s) w w') :
    ∃ G', HRel E (fun i => [Obj.wb (A := E.A) 80 (.own 0 0 K.u8 (xs ++ s))][i]?) G' w' ∧ G'.ver = zero0 ∧ G'.cur = zero0 ∧ (∀ i, G'.blk i = G.blk i) ∧ Fr G w G' w' := by
  obtain ⟨hrow, htok⟩ := wb_row hh hb hc hl hr hwr
  obtain ⟨ho, htp, hou, hsz, v', lr', hbk', hcase⟩ := hW
  have hblt := lt_of_heap hbk
  have shb : ∀ s, w.shape? b = some s → w'.shape? b = some s := by
    intro s hs
    unfold World.shape? at *
    rw [hbk] at hs; rw [hbk']; exact hs
  rcases hcase with ⟨rfl, hn, hoth⟩ | ⟨g, cap, cells, rfl, hgb, hg', hcs', hle, hcm, htk, hor, hoth⟩
  ·
    have hs0 : s = [] := List.eq_nil_of_length_eq_zero (by have := congrArg List.length hn; rwa [Lib.byteCells_length] at this)
    subst hs0
    rw [List.append_nil]
    have hcell : ∀ c o x, w.cell? ⟨c, o, none⟩ = some x → G.free c o → w'.cell? ⟨c, o, none⟩ = some x ∧ G.free c o := by
      intro c o x hx hf
      refine ⟨?_, hf⟩
      rw [World.cell?_of_block (w := w) (hoth c (lt_of_cell hx) (fun e => hf.1 0 (by rw [e]; exact hb)))]; exact hx
    have hpur : ∀ c o x, w.cell? ⟨c, o, none⟩ = some x → G.pur c o → w'.cell? ⟨c, o, none⟩ = some x ∧ G.pur c o := fun c o x hx hp => ⟨(hcell c o x hx hp.1).1, hp⟩
    have hshape : ∀ c s, w.shape? c = some s → w'.shape? c = some s := by
      intro c s hs
      by_cases e : c = b
      · subst e; exact shb s hs
      · unfold World.shape? at *
        rw [hoth c (shape_lt hs) e]; exact hs
    refine ⟨G, ⟨fun i o hi => ?_, fun i c hi => Nat.lt_of_lt_of_le (hh.lt i c hi) hsz, hh.inj, fun t c lo hi ht => ?_, hh.tokj, fun g cs hg => ?_, fun c o h => ⟨Nat.lt_of_lt_of_le (hh.othf c o h).1 hsz, (hh.othf c o h).2⟩⟩, hv, hc, fun _ => rfl,
      ⟨ho, htp, hou, hsz, hcell, fun c h1 h2 => ⟨hoth c h1 (fun e => h2.1 0 (by rw [e]; exact hb)), h2, rfl⟩, hshape, rfl⟩⟩
    · match i, hi with
      | 0, hi =>
        injection hi with hi; subst hi
        refine .inl ⟨b, hb, .wb hbk' ?_ ?_⟩
        · rcases htok with ⟨rfl, rfl⟩ | ⟨g, cap, rfl, ht, _⟩
          · exact .own (.sl0 K.u8 none 0 (Nat.zero_le _)) (Nat.zero_le _) (fun _ => .inl ⟨rfl, rfl⟩)
          · have hr' : Rep E G w (.own 0 0 K.u8 xs) (.slice (some ⟨g, 0, none⟩) xs.length cap) := by
              unfold wbl at hl
              split at hl
              · cases hr
              · injection hl with hl; subst hl; exact hr
              · cases hl
            cases hr' with
            | own hsl h1 h2 =>
              refine .own (hsl.plain laws hpur rfl) h1 (fun e => ?_)
              rcases h2 e with h | ⟨b0, off, ty, m, h3, h4, h5, h6⟩
              · exact .inl h
              · exact .inr ⟨b0, off, ty, m, h3, h4, hshape _ _ h5, h6⟩
        · intro _
          rcases hrow with ⟨rfl, _⟩ | ⟨g, cap, cur, rfl, hg, hlc, hcm, hcs, _, hne⟩
          · exact .inl ⟨0, rfl⟩
          · exact .inr ⟨g, _, cap, cur, 5, rfl, by rw [hoth g (lt_of_heap hg) hne]; exact hg, rfl, hcm, hcs⟩
      | i + 1, hi => cases hi
    · obtain ⟨h1, h2, h3⟩ := hh.tokb t c lo hi ht
      have hcb : c ≠ b := fun e => h2 0 (by rw [e]; exact hb)
      refine ⟨Nat.lt_of_lt_of_le h1 hsz, h2, fun o h4 h5 => ?_⟩
      rw [World.cell?_of_block (w := w) (hoth c h1 hcb), World.frozen?_of_block (w := w) (hoth c h1 hcb)]
      exact h3 o h4 h5
    · obtain ⟨this, ⟨t, hs⟩, ha⟩ := hh.gl g cs hg
      refine ⟨?_, ⟨t, hshape _ _ hs⟩, fun k hk => (ha k hk).imp fun _ hn => ⟨hn.1, hpur _ _ _ hn.2.1 hn.2.2⟩⟩
      cases this with
      | pp _ b off vals hp hcell hrep =>
        exact .pp cs _ _ vals hp (fun j hj => hpur _ _ _ (hcell j hj).1 (hcell j hj).2) (fun j l hl => (hrep j l hl).plain laws hpur (List.all_eq_true.1 hp l (List.mem_of_getElem? hl)))
  ·
    have hz : (xs ++ s).length = (Lib.byteCells xs ++ Lib.byteCells s).length := by rw [← byteCells_app, Lib.byteCells_length]
    rw [← hz] at hle htk hbk'
    rw [← byteCells_app] at htk
    have hglt := lt_of_heap hg'
    have hold : w.heap.size ≤ g ∨ (G.tok 0 = some (g, 0 + xs.length * E.sz K.u8, 0 + cap * E.sz K.u8) ∧ ∃ cur, w.heap[g]? = some (.cells cur 5 (0, 0)) ∧ cur.size = cap ∧ ∀ o, o < xs.length → cells[o]? = cur[o]? ∧ ¬ G.oth g o) := by
      rcases hor with h | h
      · exact .inl h
      · right
        rcases htok with ⟨h1, _⟩ | ⟨g0, cap0, h1, ht, hpo⟩
        · rw [h1] at h; cases h
        · rcases hrow with ⟨h2, _⟩ | ⟨g1, cap1, cur, h2, hg1, _, _, hcs1, htk1, _⟩
          · rw [h1] at h2; cases h2
          · have h3 := h1.symm.trans h
            injection h3 with h4 _ h5; injection h4 with h4; injection h4 with h4; subst h4; subst h5
            have h6 := h1.symm.trans h2
            injection h6 with h7 _ h8; injection h7 with h7; injection h7 with h7; subst h7; subst h8
            refine ⟨ht, cur, hg1, hcs1, fun o hlt => ?_⟩
            rw [Lib.byteCells_length] at htk1
            refine ⟨?_, hpo o hlt⟩
            have e1 : cells.toList[o]? = (Lib.byteCells (xs ++ s))[o]? := by rw [← htk, List.getElem?_take, if_pos (by rw [List.length_append]; omega)]
            have e2 : cur.toList[o]? = (Lib.byteCells xs)[o]? := by rw [← htk1, List.getElem?_take, if_pos hlt]
            rw [Array.getElem?_toList] at e1 e2
            rw [e1, e2, byteCells_get, byteCells_get, List.getElem?_append_left hlt]
    have hmul : ∀ n : Nat, 0 + n * E.sz K.u8 = n := fun n => by show 0 + n * 1 = n; omega
    have hTu : ∀ c lo hi, some (g, 0 + (xs ++ s).length * E.sz K.u8, 0 + cap * E.sz K.u8) = some (c, lo, hi) → c = g ∧ lo = (xs ++ s).length ∧ hi = cap := by
      intro c lo hi h
      injection h with h; injection h with h1 h2; injection h2 with h2 h3
      rw [hmul] at h2 h3
      exact ⟨h1.symm, h2.symm, h3.symm⟩
    have hgn : ∀ i, G.blk i ≠ some g := by
      intro i hi
      rcases hold with h | ⟨h, _⟩
      · have := hh.lt i g hi; omega
      · exact (hh.tokb 0 _ _ _ h).2.1 i hi
    have hcell : ∀ c o x, w.cell? ⟨c, o, none⟩ = some x → G.free c o → w'.cell? ⟨c, o, none⟩ = some x ∧ (G.row (some (g, 0 + (xs ++ s).length * E.sz K.u8, 0 + cap * E.sz K.u8))).free c o := by
      intro c o x hx hf
      have hcb : c ≠ b := fun e => hf.1 0 (by rw [e]; exact hb)
      have hlt := lt_of_cell hx
      by_cases e : c = g
      · subst e
        rcases hold with h | ⟨ht, cur, hg0, hcs0, hsame⟩
        · omega
        · have h2 := hf.2 0 _ _ ht
          rw [hmul, hmul] at h2
          rw [Lib.cell_of_heap hg0] at hx
          have hos : o < cap := by
            rw [← hcs0]
            rcases Nat.lt_or_ge o cur.size with h | h
            · exact h
            · rw [Array.getElem?_eq_none h] at hx; cases hx
          have hox : o < xs.length := by omega
          refine ⟨by rw [Lib.cell_of_heap hg', (hsame o hox).1]; exact hx, row_free hf (fun lo hi h => ?_)⟩
          obtain ⟨_, rfl, rfl⟩ := hTu _ _ _ h
          rw [List.length_append]; omega
      · refine ⟨?_, row_free hf (fun lo hi h => absurd (hTu _ _ _ h).1 e)⟩
        rw [World.cell?_of_block (w := w) (hoth c hlt hcb e)]; exact hx
    have hpur : ∀ c o x, w.cell? ⟨c, o, none⟩ = some x → G.pur c o → w'.cell? ⟨c, o, none⟩ = some x ∧ (G.row (some (g, 0 + (xs ++ s).length * E.sz K.u8, 0 + cap * E.sz K.u8))).pur c o := fun c o x hx hp => ⟨(hcell c o x hx hp.1).1, (hcell c o x hx hp.1).2, hp.2⟩
    have hshape : ∀ c s, w.shape? c = some s → w'.shape? c = some s := by
      intro c s hs
      by_cases e : c = b
      · subst e; exact shb s hs
      · by_cases e2 : c = g
        · subst e2
          rcases hold with h | ⟨ht, cur, hg0, hcs0, hsame⟩
          · have := shape_lt hs; omega
          · unfold World.shape? at *
            rw [hg0] at hs; rw [hg', ← hs]; simp only [hcs', hcs0]
        · unfold World.shape? at *
          rw [hoth c (shape_lt hs) e e2]; exact hs
    have hfr : Fr G w (G.row (some (g, 0 + (xs ++ s).length * E.sz K.u8, 0 + cap * E.sz K.u8))) w' := by
      refine ⟨ho, htp, hou, hsz, hcell, fun c h1 h2 => ?_, hshape, rfl⟩
      have hcb : c ≠ b := fun e => h2.1 0 (by rw [e]; exact hb)
      have hcg : c ≠ g := fun e => by
        rcases hold with h | ⟨h, _⟩
        · omega
        · exact h2.2 0 _ _ (by rw [e]; exact h)
      exact ⟨hoth c h1 hcb hcg, row_clear h2 (fun lo hi h => hcg (hTu _ _ _ h).1), rfl⟩
    refine ⟨G.row (some (g, 0 + (xs ++ s).length * E.sz K.u8, 0 + cap * E.sz K.u8)), ⟨fun i o hi => ?_, fun i c hi => Nat.lt_of_lt_of_le (hh.lt i c hi) hsz, hh.inj, fun t c lo hi ht => ?_, fun t u c d lo hi lo' hi' h1 h2 hne => ?_, fun q cs hq => ?_, fun c o h => ?_⟩, hv, hc, fun _ => rfl, hfr⟩
    · match i, hi with
      | 0, hi =>
        injection hi with hi; subst hi
        have hlen : (xs ++ s).length ≤ cap := hle
        refine .inl ⟨b, hb, .wb hbk' ?_ (fun _ => .inr ⟨g, _, cap, cells, 5, rfl, hg', rfl, hcm, hcs'⟩)⟩
        have hmx : cap ≤ big := by unfold maxLen at hcm; unfold big; omega
        refine .own (Rep.sl (E := E) (G := G.row (some (g, 0 + (xs ++ s).length * E.sz K.u8, 0 + cap * E.sz K.u8))) (w := w') K.u8 ((xs ++ s : List UInt8) : List (E.A K.u8)) g 0 cap (fun i _ => cells.getD i undef) hlen hmx (fun i j h1 h2 => ?_) (fun i x hx j l hl => ?_)) (Nat.zero_le _) (fun _ => .inr ⟨g, 0, 5, cap, rfl, rfl, ?_, rfl, by rw [hmul]; exact Nat.le_refl _⟩)
        · have hj : j = 0 := by have : j < 1 := h2; omega
          subst hj
          have h1 : i < (List.append xs s : List UInt8).length := h1
          have h1 : i < (xs ++ s : List UInt8).length := h1
          have e1 : 0 + i * E.sz K.u8 + 0 = i := by rw [Nat.add_zero, hmul]
          rw [e1]
          refine ⟨?_, ⟨hgn, fun t lo hi ht => ?_⟩, fun ho => ?_⟩
          · rw [Lib.cell_of_heap hg']
            have : i < cells.size := by omega
            simp [Array.getD, this]
          · unfold Gh.row upd at ht
            simp only at ht
            split at ht
            · obtain ⟨_, rfl, rfl⟩ := hTu _ _ _ ht; exact .inl h1
            · rename_i hne
              rcases hold with h | ⟨h, _⟩
              · have := (hh.tokb t _ _ _ ht).1; omega
              · exact absurd rfl (hh.tokj 0 t _ _ _ _ _ _ h ht (Ne.symm hne))
          · have := hh.othf g i ho
            rcases hold with h | ⟨h, cur, hg0, hcs0, hsame⟩
            · omega
            · have h2 := this.2.2 0 _ _ h
              rw [hmul, hmul] at h2
              exact (hsame i (by omega)).2 ho
        · have hi : i < (xs ++ s : List UInt8).length := lt_of_get hx
          have hj : j = 0 := by
            cases j with
            | zero => rfl
            | succ j => cases hl
          subst hj
          injection hl with hl; subst hl
          have e1 : cells.toList[i]? = (Lib.byteCells (xs ++ s))[i]? := by rw [← htk, List.getElem?_take, if_pos hi]
          have hx' : (xs ++ s)[i]? = some (x : UInt8) := hx
          rw [Array.getElem?_toList, byteCells_get, hx'] at e1
          have hsi : i < cells.size := by omega
          have e2 : cells.getD i undef = .int .u8 (x : UInt8).toNat := by
            rw [Array.getElem?_eq_getElem hsi] at e1
            injection e1 with e1
            simp only [Array.getD, hsi, dite_true]; exact e1
          show Rep E _ w' (.int .u8 _) (cells.getD i undef)
          rw [e2]
          exact .int (by have := (x : UInt8).toNat_lt; simp [inRb, IntKind.min, IntKind.max, IntKind.signed, IntKind.bits]; omega)
        · unfold World.shape?; rw [hg']; simp only [hcs']
      | i + 1, hi => cases hi
    · unfold Gh.row upd at ht
      simp only at ht
      split at ht
      · obtain ⟨rfl, rfl, rfl⟩ := hTu _ _ _ ht
        refine ⟨hglt, hgn, fun o h4 h5 => ⟨?_, Lib.frozen_of_heap hg' o⟩⟩
        rw [Lib.cell_of_heap hg']
        exact ⟨_, Array.getElem?_eq_getElem (by omega)⟩
      · rename_i hne
        obtain ⟨h1, h2, h3⟩ := hh.tokb t c lo hi ht
        have hcb : c ≠ b := fun e => h2 0 (by rw [e]; exact hb)
        have hcg : c ≠ g := fun e => by
          rcases hold with h | ⟨h, _⟩
          · omega
          · exact hh.tokj t 0 _ _ _ _ _ _ ht h hne e
        refine ⟨Nat.lt_of_lt_of_le h1 hsz, h2, fun o h4 h5 => ?_⟩
        rw [World.cell?_of_block (w := w) (hoth c h1 hcb hcg), World.frozen?_of_block (w := w) (hoth c h1 hcb hcg)]
        exact h3 o h4 h5
    · have key : ∀ t c lo hi, t ≠ 0 → G.tok t = some (c, lo, hi) → c ≠ g := by
        intro t c lo hi hne ht e
        rcases hold with h | ⟨h, _⟩
        · have := (hh.tokb t _ _ _ ht).1; omega
        · exact hh.tokj t 0 _ _ _ _ _ _ ht h hne e
      unfold Gh.row upd at h1 h2
      simp only at h1 h2
      split at h1
      · rename_i e1
        obtain ⟨rfl, _, _⟩ := hTu _ _ _ h1
        split at h2
        · rename_i e2; exact absurd (e1.trans e2.symm) hne
        · rename_i e2; exact Ne.symm (key u d lo' hi' e2 h2)
      · rename_i e1
        split at h2
        · obtain ⟨rfl, _, _⟩ := hTu _ _ _ h2
          exact key t c lo hi e1 h1
        · exact hh.tokj t u c d lo hi lo' hi' h1 h2 hne
    · obtain ⟨this, ⟨t, hs⟩, ha⟩ := hh.gl q cs hq
      refine ⟨?_, ⟨t, hshape _ _ hs⟩, fun k hk => (ha k hk).imp fun _ hn => ⟨hn.1, hpur _ _ _ hn.2.1 hn.2.2⟩⟩
      cases this with
      | pp _ b off vals hp hcell hrep =>
        exact .pp cs _ _ vals hp (fun j hj => hpur _ _ _ (hcell j hj).1 (hcell j hj).2) (fun j l hl => (hrep j l hl).plain laws hpur (List.all_eq_true.1 hp l (List.mem_of_getElem? hl)))
    · have := hh.othf c o h
      refine ⟨Nat.lt_of_lt_of_le this.1 hsz, row_free this.2 (fun lo hi hT => ?_)⟩
      obtain ⟨rfl, rfl, rfl⟩ := hTu _ _ _ hT
      rcases hold with h | ⟨ht, cur, hg0, hcs0, hsame⟩
      · omega
      · have h2 := this.2.2 0 _ _ ht
        rw [hmul, hmul] at h2
        rw [List.length_append]; omega
end Go.Vx
