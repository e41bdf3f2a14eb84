/-
  Part 9 of the proof: the second reading of the model, its laws, and the functions' contracts. Lemmas alone.
-/
import Derived.Test.YtjnmckakmljejaaGreatDoorRows
import Derived.WalkKit
import Derived.ProofKit
import Derived.OpenShut
import Derived.ShutString
import Derived.ChangeOld
import Derived.Below
import Derived.SizedLaws
import Derived.LaidSub
import Derived.Lib.LaidTab
import Derived.Lib.LaidU8
import Derived.LaidLaws
import Derived.WideShapes
import Derived.Deep.Slices
import Derived.Test.YtjnmckakmljejaaGreatDoorA1
import Derived.Test.YtjnmckakmljejaaGreatDoorA3
import Derived.Test.YtjnmckakmljejaaGreatDoorA5
import Derived.Test.YtjnmckakmljejaaGreatDoorA6
import Derived.Test.YtjnmckakmljejaaGreatDoorA8
set_option linter.unusedSectionVars false
set_option linter.unusedVariables false
set_option linter.unusedSimpArgs false
noncomputable section

namespace Go.Vx
open Go
def spec44N (n : Nat) : Spec E := fun args os => match args, os with | [.agg [.int .u8 a0, .int .i64 a1, .int .i64 a2, .str a3, .sl .val a4, .sl .str a5], .lf (.ptr 0 0 0)], [.wb 80 (.own 0 0 .u8 (xs : List UInt8))] => .ite (Px.okLay' n (.mk a0 a1 a2 a3 a4 a5) xs) (.leaf (.tup [], [.wb 80 (.own 0 0 K.u8 (xs ++ Px.layV' (.mk a0 a1 a2 a3 a4 a5)))])) .fail | [.agg [.int .u8 a0, .int .i64 a1, .int .i64 a2, .str a3, .sl .val a4, .sl .str a5], .lf (.ptr 0 0 0)], [.wb 80 .nil] => .ite (Px.okLay' n (.mk a0 a1 a2 a3 a4 a5) []) (.leaf (.tup [], [.wb 80 (.own 0 0 K.u8 (Px.layV' (.mk a0 a1 a2 a3 a4 a5)))])) .fail | _, _ => .fail
def G73 (n : Nat) : FuncId → Option (Spec E) | 68 => some spec68 | 44 => some (spec44N n) | _ => none
theorem hG73 (hL : Laws E) (n : Nat) (hN : Valid E 44 (spec44N n)) : ∀ f spec, (G73 n) f = some spec → Valid E f spec := by
 intro f spec h
 unfold G73 at h
 split at h
 ·injection h with h; subst h; exact valid68 hL
 ·injection h with h; subst h; exact hN
 ·cases h
def L73_0 : Ex → Live | .normal => ⟨[1, 2, 5, 15, 16, 17], [0, 192]⟩ | .exit 0 => ⟨[1, 5], [0]⟩ | .ret => ⟨[], [0, 192]⟩ | _ => ⟨[], []⟩
def S73_0 (p5 : List UInt8) (p15 : List Val) (p16 : Int) (x : Int × (List UInt8) × Int × Int × Int × (List UInt8) × (List Val) × (List (List UInt8))) : St E.A := at' E 45 [(1, .lf (.ptr 0 0 0)), (2, .lf (.ptr 192 0 0)), (5, .lf (.str p5)), (15, .lf (.sl .val p15)), (16, .lf (.int .i64 p16)), (17, .lf (.int .i64 x.1))] [(0, some (.wb 80 (.own 0 0 .u8 x.2.1))), (192, some (.cells 30 [.int .u8 x.2.2.1, .int .i64 x.2.2.2.1, .int .i64 x.2.2.2.2.1, .str x.2.2.2.2.2.1, .sl .val x.2.2.2.2.2.2.1, .sl .str x.2.2.2.2.2.2.2]))]
def t73_0 (n : Nat) (p5 : List UInt8) (p15 : List Val) (p16 : Int) (x : Int × (List UInt8) × Int × Int × Int × (List UInt8) × (List Val) × (List (List UInt8))) : Tree (Int × (List UInt8) × Int × Int × Int × (List UInt8) × (List Val) × (List (List UInt8)) ⊕ Out' E) := .ite (ltI x.1 p16) (.ite (inB x.1 p15.length) (.ite (ltI 0 x.1) (.ite (decide ((x.2.1 ++ [(32 : UInt8)]).length ≤ 1000000000)) (.ite (eqI x.2.2.1 6) (.ite (inB x.1 x.2.2.2.2.2.2.2.length) (.ite (decide ([(47 : UInt8)].length + (x.2.2.2.2.2.2.2.getD x.1.toNat []).length ≤ 2 ^ (60 : Nat))) (.ite (decide (([(47 : UInt8)] ++ x.2.2.2.2.2.2.2.getD x.1.toNat []).length + [(32 : UInt8)].length ≤ 2 ^ (60 : Nat))) (.ite (decide ((x.2.1 ++ [(32 : UInt8)] ++ ([(47 : UInt8)] ++ x.2.2.2.2.2.2.2.getD x.1.toNat [] ++ [(32 : UInt8)])).length ≤ 1000000000)) (.ite (Px.okLay' n (Val.mk (Px.vk (p15.getD x.1.toNat (Val.mk 0 0 0 [] [] []))) (Px.vn (p15.getD x.1.toNat (Val.mk 0 0 0 [] [] []))) (Px.vg (p15.getD x.1.toNat (Val.mk 0 0 0 [] [] []))) (Px.vt (p15.getD x.1.toNat (Val.mk 0 0 0 [] [] []))) (Px.vl (p15.getD x.1.toNat (Val.mk 0 0 0 [] [] []))) (Px.vs (p15.getD x.1.toNat (Val.mk 0 0 0 [] [] [])))) (x.2.1 ++ [(32 : UInt8)] ++ ([(47 : UInt8)] ++ x.2.2.2.2.2.2.2.getD x.1.toNat [] ++ [(32 : UInt8)]))) (.leaf (.inl ((IntKind.i64.wrap (x.1 + (1 : Int))), (x.2.1 ++ [(32 : UInt8)] ++ ([(47 : UInt8)] ++ x.2.2.2.2.2.2.2.getD x.1.toNat [] ++ [(32 : UInt8)]) ++ Px.layV' (Val.mk (Px.vk (p15.getD x.1.toNat (Val.mk 0 0 0 [] [] []))) (Px.vn (p15.getD x.1.toNat (Val.mk 0 0 0 [] [] []))) (Px.vg (p15.getD x.1.toNat (Val.mk 0 0 0 [] [] []))) (Px.vt (p15.getD x.1.toNat (Val.mk 0 0 0 [] [] []))) (Px.vl (p15.getD x.1.toNat (Val.mk 0 0 0 [] [] []))) (Px.vs (p15.getD x.1.toNat (Val.mk 0 0 0 [] [] []))))), x.2.2.1, x.2.2.2.1, x.2.2.2.2.1, x.2.2.2.2.2.1, x.2.2.2.2.2.2.1, x.2.2.2.2.2.2.2))) .fail) .fail) .fail) .fail) .fail) (.ite (Px.okLay' n (Val.mk (Px.vk (p15.getD x.1.toNat (Val.mk 0 0 0 [] [] []))) (Px.vn (p15.getD x.1.toNat (Val.mk 0 0 0 [] [] []))) (Px.vg (p15.getD x.1.toNat (Val.mk 0 0 0 [] [] []))) (Px.vt (p15.getD x.1.toNat (Val.mk 0 0 0 [] [] []))) (Px.vl (p15.getD x.1.toNat (Val.mk 0 0 0 [] [] []))) (Px.vs (p15.getD x.1.toNat (Val.mk 0 0 0 [] [] [])))) (x.2.1 ++ [(32 : UInt8)])) (.leaf (.inl ((IntKind.i64.wrap (x.1 + (1 : Int))), (x.2.1 ++ [(32 : UInt8)] ++ Px.layV' (Val.mk (Px.vk (p15.getD x.1.toNat (Val.mk 0 0 0 [] [] []))) (Px.vn (p15.getD x.1.toNat (Val.mk 0 0 0 [] [] []))) (Px.vg (p15.getD x.1.toNat (Val.mk 0 0 0 [] [] []))) (Px.vt (p15.getD x.1.toNat (Val.mk 0 0 0 [] [] []))) (Px.vl (p15.getD x.1.toNat (Val.mk 0 0 0 [] [] []))) (Px.vs (p15.getD x.1.toNat (Val.mk 0 0 0 [] [] []))))), x.2.2.1, x.2.2.2.1, x.2.2.2.2.1, x.2.2.2.2.2.1, x.2.2.2.2.2.2.1, x.2.2.2.2.2.2.2))) .fail)) .fail) (.ite (eqI x.2.2.1 6) (.ite (inB x.1 x.2.2.2.2.2.2.2.length) (.ite (decide ([(47 : UInt8)].length + (x.2.2.2.2.2.2.2.getD x.1.toNat []).length ≤ 2 ^ (60 : Nat))) (.ite (decide (([(47 : UInt8)] ++ x.2.2.2.2.2.2.2.getD x.1.toNat []).length + [(32 : UInt8)].length ≤ 2 ^ (60 : Nat))) (.ite (decide ((x.2.1 ++ ([(47 : UInt8)] ++ x.2.2.2.2.2.2.2.getD x.1.toNat [] ++ [(32 : UInt8)])).length ≤ 1000000000)) (.ite (Px.okLay' n (Val.mk (Px.vk (p15.getD x.1.toNat (Val.mk 0 0 0 [] [] []))) (Px.vn (p15.getD x.1.toNat (Val.mk 0 0 0 [] [] []))) (Px.vg (p15.getD x.1.toNat (Val.mk 0 0 0 [] [] []))) (Px.vt (p15.getD x.1.toNat (Val.mk 0 0 0 [] [] []))) (Px.vl (p15.getD x.1.toNat (Val.mk 0 0 0 [] [] []))) (Px.vs (p15.getD x.1.toNat (Val.mk 0 0 0 [] [] [])))) (x.2.1 ++ ([(47 : UInt8)] ++ x.2.2.2.2.2.2.2.getD x.1.toNat [] ++ [(32 : UInt8)]))) (.leaf (.inl ((IntKind.i64.wrap (x.1 + (1 : Int))), (x.2.1 ++ ([(47 : UInt8)] ++ x.2.2.2.2.2.2.2.getD x.1.toNat [] ++ [(32 : UInt8)]) ++ Px.layV' (Val.mk (Px.vk (p15.getD x.1.toNat (Val.mk 0 0 0 [] [] []))) (Px.vn (p15.getD x.1.toNat (Val.mk 0 0 0 [] [] []))) (Px.vg (p15.getD x.1.toNat (Val.mk 0 0 0 [] [] []))) (Px.vt (p15.getD x.1.toNat (Val.mk 0 0 0 [] [] []))) (Px.vl (p15.getD x.1.toNat (Val.mk 0 0 0 [] [] []))) (Px.vs (p15.getD x.1.toNat (Val.mk 0 0 0 [] [] []))))), x.2.2.1, x.2.2.2.1, x.2.2.2.2.1, x.2.2.2.2.2.1, x.2.2.2.2.2.2.1, x.2.2.2.2.2.2.2))) .fail) .fail) .fail) .fail) .fail) (.ite (Px.okLay' n (Val.mk (Px.vk (p15.getD x.1.toNat (Val.mk 0 0 0 [] [] []))) (Px.vn (p15.getD x.1.toNat (Val.mk 0 0 0 [] [] []))) (Px.vg (p15.getD x.1.toNat (Val.mk 0 0 0 [] [] []))) (Px.vt (p15.getD x.1.toNat (Val.mk 0 0 0 [] [] []))) (Px.vl (p15.getD x.1.toNat (Val.mk 0 0 0 [] [] []))) (Px.vs (p15.getD x.1.toNat (Val.mk 0 0 0 [] [] [])))) x.2.1) (.leaf (.inl ((IntKind.i64.wrap (x.1 + (1 : Int))), (x.2.1 ++ Px.layV' (Val.mk (Px.vk (p15.getD x.1.toNat (Val.mk 0 0 0 [] [] []))) (Px.vn (p15.getD x.1.toNat (Val.mk 0 0 0 [] [] []))) (Px.vg (p15.getD x.1.toNat (Val.mk 0 0 0 [] [] []))) (Px.vt (p15.getD x.1.toNat (Val.mk 0 0 0 [] [] []))) (Px.vl (p15.getD x.1.toNat (Val.mk 0 0 0 [] [] []))) (Px.vs (p15.getD x.1.toNat (Val.mk 0 0 0 [] [] []))))), x.2.2.1, x.2.2.2.1, x.2.2.2.2.1, x.2.2.2.2.2.1, x.2.2.2.2.2.2.1, x.2.2.2.2.2.2.2))) .fail))) .fail) (.leaf (.inr (.exit 0, at' E 45 [(1, .lf (.ptr 0 0 0)), (5, .lf (.str p5))] [(0, some (.wb 80 (.own 0 0 .u8 x.2.1)))])))
theorem h73_0 (n : Nat) (p5 : List UInt8) (p15 : List Val) (p16 : Int) (x : Int × (List UInt8) × Int × Int × Int × (List UInt8) × (List Val) × (List (List UInt8))) (k : Ex → St E.A → Option Unit) :
  exec E (G73 n) (fun _ _ => .fail) 1 (lb Go.Proofs.Tryz.f73 0) (S73_0 p5 p15 p16 x) (fun e σ1 => k e (clean E (L73_0 e) σ1)) = (t73_0 n p5 p15 p16 x).run (Sum.elim (fun x' => k .normal (S73_0 p5 p15 p16 x')) (fun o => k o.1 o.2)) := by kernel_rfl
def lam73_0 (n : Nat) (p5 : List UInt8) (p15 : List Val) (p16 : Int) (x : Int × (List UInt8) × Int × Int × Int × (List UInt8) × (List Val) × (List (List UInt8))) : Tree (Out' E) := .ite (eqI p16 p15.length && leI 0 x.1 && leI x.1 p16 && Px.okLays' n (eqI x.2.2.1 6) x.1.toNat (p15.drop x.1.toNat) x.2.2.2.2.2.2.2 x.2.1) (.leaf (.exit 0, at' E 45 [(1, .lf (.ptr 0 0 0)), (5, .lf (.str p5))] [(0, some (.wb 80 (.own 0 0 .u8 (x.2.1 ++ Px.layL' (eqI x.2.2.1 6) x.1.toNat (p15.drop x.1.toNat) x.2.2.2.2.2.2.2))))])) .fail
theorem okLays_cons {n : Nat} {d : Bool} {i : Nat} {v : Val} {r : List Val} {ks : List (List UInt8)} {xs : List UInt8} (h : Px.okLays n d i (v :: r) ks xs = true) :
  Px.okLay n v (xs ++ cond (ltI 0 (i : Int)) [32] [] ++ cond d ([47] ++ ks.getD i [] ++ [32]) []) = true ∧ (d = true → i < ks.length) ∧
  Px.okLays n d (i + 1) r ks (xs ++ cond (ltI 0 (i : Int)) [32] [] ++ cond d ([47] ++ ks.getD i [] ++ [32]) [] ++ Px.layV v) = true ∧
  (xs ++ cond (ltI 0 (i : Int)) [32] [] ++ cond d ([47] ++ ks.getD i [] ++ [32]) []).length ≤ 1000000000 := by
 unfold Px.okLays at h
 rw [Bool.and_eq_true, Bool.and_eq_true, Bool.and_eq_true, Px.layL_cons, Px.dls, Px.fitL, Bool.and_eq_true, Nat.ble_eq, Nat.ble_eq] at h
 obtain ⟨h1, ⟨h2, h3⟩, h4, h5⟩ := h
 rw [← List.append_assoc, ← List.append_assoc, ← List.append_assoc] at h5
 refine ⟨?_, fun hd => ?_, ?_, ?_⟩
 ·unfold Px.okLay
  rw [Bool.and_eq_true, Bool.and_eq_true, Nat.ble_eq]
  refine ⟨Nat.ble_eq ▸ (by omega : Px.dl v + 1 ≤ n), h2, ?_⟩
  rw [List.length_append] at h5
  omega
 ·rw [hd, cond_true, Nat.ble_eq, List.length_cons] at h4
  omega
 ·unfold Px.okLays
  rw [Bool.and_eq_true, Bool.and_eq_true, Bool.and_eq_true, Nat.ble_eq, Nat.ble_eq]
  refine ⟨by omega, h3, ?_, h5⟩
  cases d with
  | false => rfl
  | true =>
   rw [cond_true, Nat.ble_eq, List.length_cons] at h4
   rw [cond_true, Nat.ble_eq]; omega
 ·rw [List.length_append, List.length_append] at h5
  omega
theorem k73 {n : Nat} {p5 : List UInt8} {p15 : List Val} {k m g : Int} {t : List UInt8} {l : List Val} {ks : List (List UInt8)} (hb : p15.length ≤ 9223372036854775807) : ∀ (r : List Val) (i : Nat) (xs : List UInt8), p15.drop i = r → Px.okLays n (eqI k 6) i r ks xs = true →
  iter (t73_0 n p5 p15 p15.length) (r.length + 1) ((i : Int), xs, k, m, g, t, l, ks) = some (Ex.exit 0, at' E 45 [(1, .lf (.ptr 0 0 0)), (5, .lf (.str p5))] [(0, some (.wb 80 (.own 0 0 .u8 (xs ++ Px.layL (eqI k 6) i r ks))))])
 | [], i, xs, h, _ => by
  have hi : p15.length ≤ i := List.drop_eq_nil_iff.1 h
  have e1 : ltI (i : Int) (p15.length : Int) = false := by rw [ltI_eq]; exact decide_eq_false (by omega)
  have hs : (t73_0 n p5 p15 p15.length ((i : Int), xs, k, m, g, t, l, ks)).get = some (.inr (Ex.exit 0, at' E 45 [(1, .lf (.ptr 0 0 0)), (5, .lf (.str p5))] [(0, some (.wb 80 (.own 0 0 .u8 xs)))])) := by
   unfold t73_0
   simp only [Tree.get_ite, Tree.get_leaf, e1, cond_false]
  rw [iter, hs]
  show some _ = some _
  rw [Px.layL, List.append_nil]
 | v :: r, i, xs, h, hok => by
  obtain ⟨h1, h2, h3, h4⟩ := okLays_cons hok
  have hi : i < p15.length := by
   rcases Nat.lt_or_ge i p15.length with h5 | h5
   ·exact h5
   ·rw [List.drop_eq_nil_iff.2 h5] at h; cases h
  have hd := h
  rw [drop_cons p15 Px.v0 i hi] at hd
  injection hd with hv hr
  have hv : p15.getD i (Val.mk 0 0 0 [] [] []) = v := hv
  have e1 : ltI (i : Int) (p15.length : Int) = true := by rw [ltI_eq]; exact decide_eq_true (by omega)
  have e2 : inB (i : Int) p15.length = true := inB_true.2 ⟨by omega, by omega⟩
  have e3 : IntKind.i64.wrap ((i : Int) + 1) = ((i + 1 : Nat) : Int) := by rw [wi64] <;> omega
  have hs : (t73_0 n p5 p15 p15.length ((i : Int), xs, k, m, g, t, l, ks)).get = some (.inl (((i + 1 : Nat) : Int), xs ++ cond (ltI 0 (i : Int)) [32] [] ++ cond (eqI k 6) ([47] ++ ks.getD i [] ++ [32]) [] ++ Px.layV v, k, m, g, t, l, ks)) := by
   unfold t73_0
   simp only [Tree.get_ite, Tree.get_leaf, e1, e2, e3, cond_true, Int.toNat_natCast, hv, Px.v_eta, Px.okLay'_eq, Px.layV'_eq]
   cases q1 : ltI 0 (i : Int) <;> cases q2 : eqI k 6 <;> rw [q1, q2] at h1 h4 <;> rw [q2] at h2 <;> simp only [cond_true, cond_false, List.append_nil] at h1 h2 h4 ⊢
   ·rw [h1]; rfl
   ·have e4 : inB (i : Int) ks.length = true := inB_true.2 ⟨by omega, by have := h2 trivial; omega⟩
    have l1 : (ks.getD i []).length + 2 ≤ 1000000000 := by simp only [List.length_append, List.length_cons, List.length_nil] at h4; omega
    rw [e4, decide_eq_true (by simp only [List.length_cons, List.length_nil]; omega), decide_eq_true (by simp only [List.length_append, List.length_cons, List.length_nil]; omega), decide_eq_true h4, h1]
    rfl
   ·rw [decide_eq_true h4, h1]; rfl
   ·have e4 : inB (i : Int) ks.length = true := inB_true.2 ⟨by omega, by have := h2 trivial; omega⟩
    have l1 : (ks.getD i []).length + 2 ≤ 1000000000 := by simp only [List.length_append, List.length_cons, List.length_nil] at h4; omega
    rw [decide_eq_true (by rw [List.length_append] at h4; omega), e4, decide_eq_true (by simp only [List.length_cons, List.length_nil]; omega), decide_eq_true (by simp only [List.length_append, List.length_cons, List.length_nil]; omega), decide_eq_true h4, h1]
    rfl
  rw [iter, hs]
  have ih := k73 (p5 := p5) (m := m) (g := g) (t := t) (l := l) hb r (i + 1) _ hr h3
  refine Eq.trans ih ?_
  rw [Px.layL_cons]
  simp only [List.append_assoc]
theorem m73_0 {n : Nat} {p5 : List UInt8} {p15 : List Val} {p16 : Int} {x : Int × (List UInt8) × Int × Int × Int × (List UInt8) × (List Val) × (List (List UInt8))} {e : Ex} {σ : St E.A} (_ : okLenR (E := E) (.lf (.str p5)) = true) (g : okLenR (E := E) (.lf (.sl .val p15)) = true) (_ : okLenO (E := E) (.wb 80 (.own 0 0 .u8 x.2.1)) = true) (_ : okLenO (E := E) (.cells 30 [.int .u8 x.2.2.1, .int .i64 x.2.2.2.1, .int .i64 x.2.2.2.2.1, .str x.2.2.2.2.2.1, .sl .val x.2.2.2.2.2.2.1, .sl .str x.2.2.2.2.2.2.2]) = true)
  (h : (lam73_0 n p5 p15 p16 x).get = some (e, σ)) : ∃ fuel, iter (t73_0 n p5 p15 p16) fuel x = some (e, σ) ∧ e ≠ .normal := by
 obtain ⟨i, xs, k, m, g', t, l, ks⟩ := x
 have hb : p15.length ≤ 9223372036854775807 := of_decide_eq_true g
 unfold lam73_0 at h
 rcases Tree.get_ite_some h with ⟨h1, h'⟩ | ⟨_, h'⟩
 ·simp only [eqI_eq, leI_eq, Bool.and_eq_true, decide_eq_true_eq] at h1
  obtain ⟨⟨⟨h2, h3⟩, h4⟩, h5⟩ := h1
  subst h2
  obtain ⟨i, rfl⟩ : ∃ j : Nat, i = (j : Int) := ⟨i.toNat, by omega⟩
  rw [← eqI_eq, Px.okLays'_eq] at h5
  simp only [Int.toNat_natCast] at h5 h'
  refine ⟨_, (k73 hb _ i xs rfl h5).trans ?_, ?_⟩
  ·rw [Px.layL'_eq] at h'; exact h'
  ·injection h' with h'; injection h' with h6 _; rw [← h6]; intro hh; cases hh
 ·cases h'
def rd73_0 (n : Nat) (σ : St E.A) : Tree (Out' E) :=
 let c := clean E (L73_0 .normal) σ
 if c.sl.length = 45 then
 match c.sl.getD 1 .undef, c.sl.getD 2 .undef, c.sl.getD 5 .undef, c.sl.getD 15 .undef, c.sl.getD 16 .undef, c.sl.getD 17 .undef, c.ob 0, c.ob 192 with
 | .lf (.ptr 0 0 0), .lf (.ptr 192 0 0), .lf (.str p5), .lf (.sl .val p15), .lf (.int .i64 p16), .lf (.int .i64 x17), some (.wb 80 (.own 0 0 .u8 o0a)), some (.cells 30 [.int .u8 o192a, .int .i64 o192b, .int .i64 o192c, .str o192d, .sl .val o192e, .sl .str o192f]) => lam73_0 n p5 p15 p16 (x17, o0a, o192a, o192b, o192c, o192d, o192e, o192f)
 | _, _, _, _, _, _, _, _ => .fail
 else .fail
theorem ll73_0 (hL : Laws E) (n : Nat) (hN : Valid E 44 (spec44N n)) (σ : St E.A) (e : Ex) (σ' : St E.A) (h : (rd73_0 n σ).get = some (e, σ')) : LoopOK E (lb Go.Proofs.Tryz.f73 0) σ e σ' := by
 refine LoopOK.of_clean hL (L73_0 .normal) ?_
 unfold rd73_0 at h
 simp only at h
 split at h
 ·rename_i hlen
  split at h
  ·rename_i p5 p15 p16 x17 o0a o192a o192b o192c o192d o192e o192f h0 h1 h2 h3 h4 h5 h6 h7
   refine LoopOK.lens 5 (fun g0 => ?_)
   rw [h2] at g0
   refine LoopOK.lens 15 (fun g1 => ?_)
   rw [h3] at g1
   refine LoopOK.lensO 0 (fun gg => ?_)
   have g2 := gg _ h6
   refine LoopOK.lensO 192 (fun gg => ?_)
   have g3 := gg _ h7
   obtain ⟨fuel, hi, ho⟩ := m73_0 g0 g1 g2 g3 h
   have hl := loop_at (Γ := (G73 n)) (Λ := fun _ _ => .fail) (n := 1) (body := lb Go.Proofs.Tryz.f73 0) hL (hG73 hL n hN) (S := S73_0 p5 p15 p16) (t := t73_0 n p5 p15 p16) (Lv := L73_0) (LamOK.none (by kernel_rfl)) (h73_0 n p5 p15 p16) hi ho
   refine LoopOK.fit hlen ?_ ?_ rfl rfl hl
   ·exact ⟨h0, h1, h2, h3, h4, h5, trivial⟩
   ·exact ⟨h6, h7, trivial⟩
  ·cases h
 ·cases h
def Lam73 (n : Nat) : Lam E | 0, σ => rd73_0 n σ | _, _ => .fail
def w73 (n : Nat) (a0 : Int) (a1 : Int) (a2 : Int) (a3 : List UInt8) (a4 : List Val) (a5 : List (List UInt8)) (xs : List UInt8) : Tree (RV E.A × List (Obj E.A)) := .ite (eqI a0 6) (.ite (decide ((xs ++ [(60 : UInt8), (60 : UInt8)]).length ≤ 1000000000)) (.ite (eqI (↑a4.length : Int) (↑a4.length : Int) && leI 0 0 && leI 0 (↑a4.length : Int) && Px.okLays' n (eqI a0 6) (Int.toNat (0 : Int)) (List.drop (Int.toNat (0 : Int)) a4) a5 (xs ++ [(60 : UInt8), (60 : UInt8)])) (.ite (decide ((xs ++ [(60 : UInt8), (60 : UInt8)] ++ Px.layL' (eqI a0 6) (Int.toNat (0 : Int)) (List.drop (Int.toNat (0 : Int)) a4) a5 ++ [(62 : UInt8), (62 : UInt8)]).length ≤ 1000000000)) (.leaf (.tup [], [.wb 80 (.own 0 0 .u8 (xs ++ [(60 : UInt8), (60 : UInt8)] ++ Px.layL' (eqI a0 6) (Int.toNat (0 : Int)) (List.drop (Int.toNat (0 : Int)) a4) a5 ++ [(62 : UInt8), (62 : UInt8)]))])) .fail) .fail) .fail) (.ite (decide ((xs ++ [(91 : UInt8)]).length ≤ 1000000000)) (.ite (eqI (↑a4.length : Int) (↑a4.length : Int) && leI 0 0 && leI 0 (↑a4.length : Int) && Px.okLays' n (eqI a0 6) (Int.toNat (0 : Int)) (List.drop (Int.toNat (0 : Int)) a4) a5 (xs ++ [(91 : UInt8)])) (.ite (decide ((xs ++ [(91 : UInt8)] ++ Px.layL' (eqI a0 6) (Int.toNat (0 : Int)) (List.drop (Int.toNat (0 : Int)) a4) a5 ++ [(93 : UInt8)]).length ≤ 1000000000)) (.leaf (.tup [], [.wb 80 (.own 0 0 .u8 (xs ++ [(91 : UInt8)] ++ Px.layL' (eqI a0 6) (Int.toNat (0 : Int)) (List.drop (Int.toNat (0 : Int)) a4) a5 ++ [(93 : UInt8)]))])) .fail) .fail) .fail)
theorem e73 (n : Nat) (a0 : Int) (a1 : Int) (a2 : Int) (a3 : List UInt8) (a4 : List Val) (a5 : List (List UInt8)) (xs : List UInt8) : execFun E (G73 n) ((Lam73 n)) false Go.Proofs.Tryz.f73 [.agg [.int .u8 a0, .int .i64 a1, .int .i64 a2, .str a3, .sl .val a4, .sl .str a5], .lf (.ptr 0 0 0)] [.wb 80 (.own 0 0 .u8 xs)] some = (w73 n a0 a1 a2 a3 a4 a5 xs).get := by kernel_rfl
def w73_1 (n : Nat) (a0 : Int) (a1 : Int) (a2 : Int) (a3 : List UInt8) (a4 : List Val) (a5 : List (List UInt8)) : Tree (RV E.A × List (Obj E.A)) := .ite (eqI a0 6) (.ite (eqI (↑a4.length : Int) (↑a4.length : Int) && leI 0 0 && leI 0 (↑a4.length : Int) && Px.okLays' n (eqI a0 6) (Int.toNat (0 : Int)) (List.drop (Int.toNat (0 : Int)) a4) a5 [(60 : UInt8), (60 : UInt8)]) (.ite (decide (([(60 : UInt8), (60 : UInt8)] ++ Px.layL' (eqI a0 6) (Int.toNat (0 : Int)) (List.drop (Int.toNat (0 : Int)) a4) a5 ++ [(62 : UInt8), (62 : UInt8)]).length ≤ 1000000000)) (.leaf (.tup [], [.wb 80 (.own 0 0 .u8 ([(60 : UInt8), (60 : UInt8)] ++ Px.layL' (eqI a0 6) (Int.toNat (0 : Int)) (List.drop (Int.toNat (0 : Int)) a4) a5 ++ [(62 : UInt8), (62 : UInt8)]))])) .fail) .fail) (.ite (eqI (↑a4.length : Int) (↑a4.length : Int) && leI 0 0 && leI 0 (↑a4.length : Int) && Px.okLays' n (eqI a0 6) (Int.toNat (0 : Int)) (List.drop (Int.toNat (0 : Int)) a4) a5 [(91 : UInt8)]) (.ite (decide (([(91 : UInt8)] ++ Px.layL' (eqI a0 6) (Int.toNat (0 : Int)) (List.drop (Int.toNat (0 : Int)) a4) a5 ++ [(93 : UInt8)]).length ≤ 1000000000)) (.leaf (.tup [], [.wb 80 (.own 0 0 .u8 ([(91 : UInt8)] ++ Px.layL' (eqI a0 6) (Int.toNat (0 : Int)) (List.drop (Int.toNat (0 : Int)) a4) a5 ++ [(93 : UInt8)]))])) .fail) .fail)
theorem e73_1 (n : Nat) (a0 : Int) (a1 : Int) (a2 : Int) (a3 : List UInt8) (a4 : List Val) (a5 : List (List UInt8)) : execFun E (G73 n) ((Lam73 n)) false Go.Proofs.Tryz.f73 [.agg [.int .u8 a0, .int .i64 a1, .int .i64 a2, .str a3, .sl .val a4, .sl .str a5], .lf (.ptr 0 0 0)] [.wb 80 .nil] some = (w73_1 n a0 a1 a2 a3 a4 a5).get := by kernel_rfl
def raw73 (n : Nat) : Spec E := fun args os => match args, os with | [.agg [.int .u8 a0, .int .i64 a1, .int .i64 a2, .str a3, .sl .val a4, .sl .str a5], .lf (.ptr 0 0 0)], [.wb 80 (.own 0 0 .u8 xs)] => w73 n a0 a1 a2 a3 a4 a5 xs | [.agg [.int .u8 a0, .int .i64 a1, .int .i64 a2, .str a3, .sl .val a4, .sl .str a5], .lf (.ptr 0 0 0)], [.wb 80 .nil] => w73_1 n a0 a1 a2 a3 a4 a5 | _, _ => .fail
theorem validraw73 (hL : Laws E) (n : Nat) (hN : Valid E 44 (spec44N n)) : Valid E 73 (raw73 n) :=
 valid_of_body hL (hG73 hL n hN) (Λ := (Lam73 n)) (fn := Go.Proofs.Tryz.f73) (keep := false) (by kernel_rfl) (by kernel_rfl) (by kernel_rfl) ((LamOK.of (m := 1) (by kernel_rfl) (fun j hj σ e σ' hg => by
   match j, hj with
   | 0, _ => exact ll73_0 hL n hN σ e σ' hg
   ))) (fun args os r os' h => by
  unfold raw73 at h
  split at h
  ·exact (e73 _ _ _ _ _ _ _ _).trans h
  ·exact (e73_1 _ _ _ _ _ _ _).trans h
  ·cases h)
def spec73N (n : Nat) : Spec E := fun args os => match args, os with | [.agg [.int .u8 a0, .int .i64 _, .int .i64 _, .str _, .sl .val a4, .sl .str a5], .lf (.ptr 0 0 0)], [.wb 80 (.own 0 0 .u8 (xs : List UInt8))] => .ite (Px.okAll' n a0 a4 a5 xs) (.leaf (.tup [], [.wb 80 (.own 0 0 K.u8 (xs ++ Px.layA' a0 a4 a5))])) .fail | [.agg [.int .u8 a0, .int .i64 _, .int .i64 _, .str _, .sl .val a4, .sl .str a5], .lf (.ptr 0 0 0)], [.wb 80 .nil] => .ite (Px.okAll' n a0 a4 a5 []) (.leaf (.tup [], [.wb 80 (.own 0 0 K.u8 (Px.layA' a0 a4 a5))])) .fail | _, _ => .fail
theorem eq73 {n : Nat} {a0 a1 a2 : Int} {a3 : List UInt8} {a4 : List Val} {a5 : List (List UInt8)} {xs : List UInt8} (h : Px.okAll n a0 a4 a5 xs = true) :
  (w73 n a0 a1 a2 a3 a4 a5 xs).get = some (.tup [], [.wb 80 (.own 0 0 K.u8 (xs ++ Px.layA a0 a4 a5))]) := by
 have e1 : eqI (a4.length : Int) (a4.length : Int) = true := by rw [eqI_eq]; exact decide_eq_true rfl
 have e2 : leI 0 0 = true := rfl
 have e3 : leI 0 (a4.length : Int) = true := by rw [leI_eq]; exact decide_eq_true (by omega)
 have e4 : Int.toNat 0 = 0 := rfl
 unfold w73
 simp only [Tree.get_ite, Tree.get_leaf, e1, e2, e3, e4, List.drop_zero, Bool.true_and, Px.okLays'_eq, Px.layL'_eq]
 cases q : eqI a0 6 with
 | false =>
  obtain ⟨h1, h2, h3⟩ := Px.okAll_in h q (Px.layA_list q)
  simp only [cond_false]
  rw [decide_eq_true h2, h1, decide_eq_true h3, Px.layA_list q]
  simp only [cond_true, List.append_assoc]
 | true =>
  obtain ⟨h1, h2, h3⟩ := Px.okAll_in h q (Px.layA_dict q)
  simp only [cond_true]
  rw [decide_eq_true h2, h1, decide_eq_true h3, Px.layA_dict q]
  simp only [cond_true, List.append_assoc]
theorem eq73_1 {n : Nat} {a0 a1 a2 : Int} {a3 : List UInt8} {a4 : List Val} {a5 : List (List UInt8)} (h : Px.okAll n a0 a4 a5 [] = true) :
  (w73_1 n a0 a1 a2 a3 a4 a5).get = some (.tup [], [.wb 80 (.own 0 0 K.u8 (Px.layA a0 a4 a5))]) := by
 have e1 : eqI (a4.length : Int) (a4.length : Int) = true := by rw [eqI_eq]; exact decide_eq_true rfl
 have e2 : leI 0 0 = true := rfl
 have e3 : leI 0 (a4.length : Int) = true := by rw [leI_eq]; exact decide_eq_true (by omega)
 have e4 : Int.toNat 0 = 0 := rfl
 unfold w73_1
 simp only [Tree.get_ite, Tree.get_leaf, e1, e2, e3, e4, List.drop_zero, Bool.true_and, Px.okLays'_eq, Px.layL'_eq]
 cases q : eqI a0 6 with
 | false =>
  obtain ⟨h1, h2, h3⟩ := Px.okAll_in h q (Px.layA_list q)
  rw [List.nil_append] at h1 h3
  simp only [cond_false]
  rw [h1, decide_eq_true h3, Px.layA_list q]
  rfl
 | true =>
  obtain ⟨h1, h2, h3⟩ := Px.okAll_in h q (Px.layA_dict q)
  rw [List.nil_append] at h1 h3
  simp only [cond_true]
  rw [h1, decide_eq_true h3, Px.layA_dict q]
  rfl
theorem valid73N (hL : Laws E) (n : Nat) (hN : Valid E 44 (spec44N n)) : Valid E 73 (spec73N n) := (validraw73 hL n hN).less (fun args os x u1 u2 h => by
 clear u1 u2
 unfold spec73N at h
 split at h
 ·rename_i a0 a1 a2 a3 a4 a5 xs
  rcases Tree.get_ite_some h with ⟨h1, h'⟩ | ⟨_, h'⟩
  ·rw [Px.okAll'_eq] at h1
   rw [Px.layA'_eq] at h'
   exact (eq73 (a1 := a1) (a2 := a2) (a3 := a3) h1).trans h'
  ·cases h'
 ·rename_i a0 a1 a2 a3 a4 a5
  rcases Tree.get_ite_some h with ⟨h1, h'⟩ | ⟨_, h'⟩
  ·rw [Px.okAll'_eq] at h1
   rw [Px.layA'_eq] at h'
   exact (eq73_1 (a1 := a1) (a2 := a2) (a3 := a3) h1).trans h'
  ·cases h'
 ·cases h)
end Go.Vx


namespace Go.Vx
open Go
def G71 : FuncId → Option (Spec E) := fun _ => none
theorem hG71 (hL : Laws E) : ∀ f spec, G71 f = some spec → Valid E f spec := by
 intro f spec h
 cases h
def L71_0 : Ex → Live | .normal => ⟨[3, 6, 7, 8], []⟩ | .exit 0 => ⟨[3], []⟩ | .ret => ⟨[2], []⟩ | _ => ⟨[], []⟩
def S71_0 (p6 : List UInt8) (p7 : Int) (x : (List UInt8) × Int) : St E.A := at' E 24 [(3, .lf (.own 0 0 .u8 x.1)), (6, .lf (.sl .u8 p6)), (7, .lf (.int .i64 p7)), (8, .lf (.int .i64 x.2))] []
def t71_0 (p6 : List UInt8) (p7 : Int) (x : (List UInt8) × Int) : Tree ((List UInt8) × Int ⊕ Out' E) := .ite (ltI x.2 p7) (.ite (inB x.2 p6.length) (.ite (inB (vshr IntKind.u8 (↑(p6.getD x.2.toNat (0 : UInt8)).toNat : Int) (4 : Int)) ([48, 49, 50, 51, 52, 53, 54, 55, 56, 57, 97, 98, 99, 100, 101, 102] : List UInt8).length) (.ite (inB (vbits Go.BinOp.and IntKind.u8 (↑(p6.getD x.2.toNat (0 : UInt8)).toNat : Int) (15 : Int)) ([48, 49, 50, 51, 52, 53, 54, 55, 56, 57, 97, 98, 99, 100, 101, 102] : List UInt8).length) (.ite (decide ((x.1.length + [UInt8.ofNat (↑(([48, 49, 50, 51, 52, 53, 54, 55, 56, 57, 97, 98, 99, 100, 101, 102] : List UInt8).getD (vshr IntKind.u8 (↑(p6.getD x.2.toNat (0 : UInt8)).toNat : Int) (4 : Int)).toNat (0 : UInt8)).toNat : Int).toNat, UInt8.ofNat (↑(([48, 49, 50, 51, 52, 53, 54, 55, 56, 57, 97, 98, 99, 100, 101, 102] : List UInt8).getD (vbits Go.BinOp.and IntKind.u8 (↑(p6.getD x.2.toNat (0 : UInt8)).toNat : Int) (15 : Int)).toNat (0 : UInt8)).toNat : Int).toNat].length) * (1 : Nat) ≤ 140737488355328)) (.leaf (.inl ((x.1 ++ [UInt8.ofNat (↑(([48, 49, 50, 51, 52, 53, 54, 55, 56, 57, 97, 98, 99, 100, 101, 102] : List UInt8).getD (vshr IntKind.u8 (↑(p6.getD x.2.toNat (0 : UInt8)).toNat : Int) (4 : Int)).toNat (0 : UInt8)).toNat : Int).toNat, UInt8.ofNat (↑(([48, 49, 50, 51, 52, 53, 54, 55, 56, 57, 97, 98, 99, 100, 101, 102] : List UInt8).getD (vbits Go.BinOp.and IntKind.u8 (↑(p6.getD x.2.toNat (0 : UInt8)).toNat : Int) (15 : Int)).toNat (0 : UInt8)).toNat : Int).toNat]), (IntKind.i64.wrap (x.2 + (1 : Int)))))) .fail) .fail) .fail) .fail) (.leaf (.inr (.exit 0, at' E 24 [(3, .lf (.own 0 0 .u8 x.1))] [])))
theorem h71_0 (p6 : List UInt8) (p7 : Int) (x : (List UInt8) × Int) (k : Ex → St E.A → Option Unit) :
  exec E G71 (fun _ _ => .fail) 1 (lb Go.Proofs.Tryz.f71 0) (S71_0 p6 p7 x) (fun e σ1 => k e (clean E (L71_0 e) σ1)) = (t71_0 p6 p7 x).run (Sum.elim (fun x' => k .normal (S71_0 p6 p7 x')) (fun o => k o.1 o.2)) := by kernel_rfl
def lam71_0 (p6 : List UInt8) (p7 : Int) (x : (List UInt8) × Int) : Tree (Out' E) := .ite (eqI p7 p6.length && leI 0 x.2 && leI x.2 p7 && decide (x.1.length + 2 * (p6.length - x.2.toNat) ≤ 140737488355328)) (.leaf (.exit 0, at' E 24 [(3, .lf (.own 0 0 .u8 (x.1 ++ Px.hexs (p6.drop x.2.toNat))))] [])) .fail
theorem hdig71 (a : Nat) (h : a < 16) : UInt8.ofNat (([(48 : UInt8), 49, 50, 51, 52, 53, 54, 55, 56, 57, 97, 98, 99, 100, 101, 102].getD a 0).toNat : Int).toNat = Px.hd a := by
 rw [Int.toNat_natCast, UInt8.ofNat_toNat]
 rfl
theorem m71_0 {p6 : List UInt8} {p7 : Int} {x : (List UInt8) × Int} {e : Ex} {σ : St E.A} (_ : okLenR (E := E) (.lf (.own 0 0 .u8 x.1)) = true) (g : okLenR (E := E) (.lf (.sl .u8 p6)) = true)
  (h : (lam71_0 p6 p7 x).get = some (e, σ)) : ∃ fuel, iter (t71_0 p6 p7) fuel x = some (e, σ) ∧ e ≠ .normal := by
 have hb : p6.length ≤ big := of_decide_eq_true g
 unfold big at hb
 refine ⟨(p7 - x.2).toNat + 1, iter_tree (lam := lam71_0 p6 p7) (m := fun x => (p7 - x.2).toNat) (fun x o h => ?_) _ x (e, σ) h (by omega), ?_⟩
 ·obtain ⟨acc, i⟩ := x
  unfold lam71_0 at h
  rcases Tree.get_ite_some h with ⟨h1, h⟩ | ⟨_, h⟩
  ·simp only [eqI_eq, leI_eq, Bool.and_eq_true, decide_eq_true_eq] at h1
   obtain ⟨⟨⟨h2, h3⟩, h4⟩, h5⟩ := h1
   simp only at h3 h4 h5 h
   obtain ⟨i, rfl⟩ : ∃ j : Nat, i = (j : Int) := ⟨i.toNat, by omega⟩
   rw [Int.toNat_natCast] at h h5
   unfold t71_0
   by_cases hx : (i : Int) < p7
   ·have hi : i < p6.length := by omega
    have e1 : IntKind.i64.wrap ((i : Int) + 1) = ((i + 1 : Nat) : Int) := by rw [wi64] <;> omega
    have hin : inB (i : Int) p6.length = true := inB_true.2 ⟨by omega, by omega⟩
    rw [drop_cons p6 0 i hi] at h
    obtain ⟨b, hbv⟩ : ∃ b, p6.getD i 0 = b := ⟨_, rfl⟩
    have bl := b.toNat_lt
    rw [hbv] at h
    have c1 : inB ((b.toNat / 16 : Nat) : Int) [(48 : UInt8), 49, 50, 51, 52, 53, 54, 55, 56, 57, 97, 98, 99, 100, 101, 102].length = true := inB_true.2 ⟨by omega, by simp only [List.length_cons, List.length_nil]; omega⟩
    have c2 : inB ((b.toNat % 16 : Nat) : Int) [(48 : UInt8), 49, 50, 51, 52, 53, 54, 55, 56, 57, 97, 98, 99, 100, 101, 102].length = true := inB_true.2 ⟨by omega, by simp only [List.length_cons, List.length_nil]; omega⟩
    refine .inl ⟨(acc ++ [Px.hd (b.toNat / 16), Px.hd (b.toNat % 16)], ((i + 1 : Nat) : Int)), ?_, by simp only; omega, ?_⟩
    ·have hv := hdig71 (b.toNat / 16) (by omega)
     have hm := hdig71 (b.toNat % 16) (by omega)
     have c3 : decide ((acc.length + [Px.hd (b.toNat / 16), Px.hd (b.toNat % 16)].length) * (1 : Nat) ≤ 140737488355328) = true := decide_eq_true (by simp only [List.length_cons, List.length_nil]; omega)
     simp only [Tree.get_ite, Tree.get_leaf, ltI_eq, hx, hin, decide_true, cond_true, Int.toNat_natCast, hbv, vshr_u8, and_u8, c1, c2, e1]
     rw [Int.toNat_natCast] at hv hm
     rw [hv, hm, c3]
     rfl
    ·unfold lam71_0
     have hd : (eqI p7 p6.length && leI 0 ((i + 1 : Nat) : Int) && leI ((i + 1 : Nat) : Int) p7 && decide ((acc ++ [Px.hd (b.toNat / 16), Px.hd (b.toNat % 16)]).length + 2 * (p6.length - (((i + 1 : Nat) : Int)).toNat) ≤ 140737488355328)) = true := by
      simp only [eqI_eq, leI_eq, Bool.and_eq_true, decide_eq_true_eq, Int.toNat_natCast, List.length_append, List.length_cons, List.length_nil]
      omega
     rw [Tree.get_ite, hd, Int.toNat_natCast, List.append_assoc]
     exact h
   ·refine .inr ?_
    have : p6.drop i = [] := List.drop_of_length_le (by omega)
    rw [this] at h
    simp only [Px.hexs, List.append_nil] at h
    simp only [ltI_eq, Tree.get_ite, Tree.get_leaf, hx, decide_false, cond_false]
    injection h with h; rw [← h]
  ·cases h
 ·unfold lam71_0 at h
  rcases Tree.get_ite_some h with ⟨_, h⟩ | ⟨_, h⟩
  ·injection h with h; injection h with h1 _; rw [← h1]; intro hh; cases hh
  ·cases h
def rd71_0 (σ : St E.A) : Tree (Out' E) :=
 let c := clean E (L71_0 .normal) σ
 if c.sl.length = 24 then
 match c.sl.getD 3 .undef, c.sl.getD 6 .undef, c.sl.getD 7 .undef, c.sl.getD 8 .undef with
 | .lf (.own 0 0 .u8 x3), .lf (.sl .u8 p6), .lf (.int .i64 p7), .lf (.int .i64 x8) => lam71_0 p6 p7 (x3, x8)
 | _, _, _, _ => .fail
 else .fail
theorem ll71_0 (hL : Laws E) (σ : St E.A) (e : Ex) (σ' : St E.A) (h : (rd71_0 σ).get = some (e, σ')) : LoopOK E (lb Go.Proofs.Tryz.f71 0) σ e σ' := by
 refine LoopOK.of_clean hL (L71_0 .normal) ?_
 unfold rd71_0 at h
 simp only at h
 split at h
 ·rename_i hlen
  split at h
  ·rename_i x3 p6 p7 x8 h0 h1 h2 h3
   refine LoopOK.lens 3 (fun g0 => ?_)
   rw [h0] at g0
   refine LoopOK.lens 6 (fun g1 => ?_)
   rw [h1] at g1
   obtain ⟨fuel, hi, ho⟩ := m71_0 g0 g1 h
   have hl := loop_at (Γ := G71) (Λ := fun _ _ => .fail) (n := 1) (body := lb Go.Proofs.Tryz.f71 0) hL (hG71 hL) (S := S71_0 p6 p7) (t := t71_0 p6 p7) (Lv := L71_0) (LamOK.none (by kernel_rfl)) (h71_0 p6 p7) hi ho
   refine LoopOK.fit hlen ?_ ?_ rfl rfl hl
   ·exact ⟨h0, h1, h2, h3, trivial⟩
   ·exact trivial
  ·cases h
 ·cases h
def Lam71 : Lam E | 0, σ => rd71_0 σ | _, _ => .fail
def w71 (a0 : List UInt8) : Tree (RV E.A × List (Obj E.A)) := .ite (eqI (↑a0.length : Int) (↑a0.length : Int) && leI 0 0 && leI 0 (↑a0.length : Int) && decide (([] : List UInt8).length + (2 : Nat) * (a0.length - Int.toNat (0 : Int)) ≤ 140737488355328)) (.leaf (.lf (.str ([] ++ Px.hexs (List.drop (Int.toNat (0 : Int)) a0))), [])) .fail
theorem e71 (a0 : List UInt8) : execFun E G71 ((Lam71)) false Go.Proofs.Tryz.f71 [.lf (.sl .u8 a0)] [] some = (w71 a0).get := by kernel_rfl
def raw71 : Spec E := fun args os => match args, os with | [.lf (.sl .u8 a0)], [] => w71 a0 | _, _ => .fail
theorem validraw71 (hL : Laws E) : Valid E 71 raw71 :=
 valid_of_body hL (hG71 hL) (Λ := (Lam71)) (fn := Go.Proofs.Tryz.f71) (keep := false) (by kernel_rfl) (by kernel_rfl) (by kernel_rfl) ((LamOK.of (m := 1) (by kernel_rfl) (fun j hj σ e σ' hg => by
   match j, hj with
   | 0, _ => exact ll71_0 hL σ e σ' hg
   ))) (fun args os r os' h => by
  unfold raw71 at h
  split at h
  ·exact (e71 _).trans h
  ·cases h)
theorem eq71 (p : List UInt8) (h : p.length ≤ 1000000000) : (w71 p).get = some (.lf (.str (Px.hexs p)), []) := by
 unfold w71
 have c1 : (eqI (↑p.length : Int) (↑p.length : Int) && leI 0 0 && leI 0 (↑p.length : Int) && decide (([] : List UInt8).length + (2 : Nat) * (p.length - Int.toNat (0 : Int)) ≤ 140737488355328)) = true := by
  simp only [eqI_eq, leI_eq, Bool.and_eq_true, decide_eq_true_eq, List.length_nil]
  exact ⟨⟨⟨trivial, by omega⟩, by omega⟩, by omega⟩
 rw [Tree.get_ite, c1]
 rfl
def spec71 : Spec E := fun args os => match args, os with | [.lf (.sl .u8 p)], [] => .ite (decide (p.length ≤ 1000000000)) (.leaf (.lf (.str (Px.hexs p)), [])) .fail | _, _ => .fail
theorem valid71 (hL : Laws E) : Valid E 71 spec71 := (validraw71 hL).less (fun args os x g1 g2 h => by
 unfold spec71 at h
 split at h
 ·rename_i p
  rcases Tree.get_ite_some h with ⟨h1, h⟩ | ⟨_, h⟩
  ·exact (eq71 p (of_decide_eq_true h1)).trans h
  ·cases h
 ·cases h)
end Go.Vx

namespace Go.Vx
open Go
def G44 (n : Nat) : FuncId → Option (Spec E) | 68 => some spec68 | 69 => some spec69 | 70 => some spec70 | 71 => some spec71 | 72 => some spec72 | 73 => some (spec73N n) | _ => none
theorem hG44 (hL : Laws E) (n : Nat) (hN : Valid E 73 (spec73N n)) : ∀ f spec, (G44 n) f = some spec → Valid E f spec := by
 intro f spec h
 unfold G44 at h
 split at h
 ·injection h with h; subst h; exact valid68 hL
 ·injection h with h; subst h; exact valid69 hL
 ·injection h with h; subst h; exact valid70 hL
 ·injection h with h; subst h; exact valid71 hL
 ·injection h with h; subst h; exact valid72 hL
 ·injection h with h; subst h; exact hN
 ·cases h
def w44 (n : Nat) (a0 : Int) (a1 : Int) (a2 : Int) (a3 : List UInt8) (a4 : List Val) (a5 : List (List UInt8)) (xs : List UInt8) : Tree (RV E.A × List (Obj E.A)) := .ite (eqI a0 0) (.ite (decide ((xs ++ ([110, 117, 108, 108] : List UInt8)).length ≤ 1000000000)) (.leaf (.tup [], [.wb 80 (.own 0 0 .u8 (xs ++ ([110, 117, 108, 108] : List UInt8)))])) .fail) (.ite (eqI a0 1) (.ite (decide ((xs ++ bif eqI a1 1 then ([116, 114, 117, 101] : List UInt8) else ([102, 97, 108, 115, 101] : List UInt8)).length ≤ 1000000000)) (.leaf (.tup [], [.wb 80 (.own 0 0 .u8 (xs ++ bif eqI a1 1 then ([116, 114, 117, 101] : List UInt8) else ([102, 97, 108, 115, 101] : List UInt8)))])) .fail) (.ite (eqI a0 2) (.ite (decide ((xs ++ Go.Lib.itoa a1).length ≤ 1000000000)) (.leaf (.tup [], [.wb 80 (.own 0 0 .u8 (xs ++ Go.Lib.itoa a1))])) .fail) (.ite (eqI a0 3) (.ite (decide ([(47 : UInt8)].length + a3.length ≤ 2 ^ (60 : Nat))) (.ite (decide ((xs ++ ([(47 : UInt8)] ++ a3)).length ≤ 1000000000)) (.leaf (.tup [], [.wb 80 (.own 0 0 .u8 (xs ++ ([(47 : UInt8)] ++ a3)))])) .fail) .fail) (.ite (eqI a0 4) (.ite (decide (a3.length ≤ 1000000000)) (.ite (decide ([(60 : UInt8)].length + (Px.hexs a3).length ≤ 2 ^ (60 : Nat))) (.ite (decide (([(60 : UInt8)] ++ Px.hexs a3).length + [(62 : UInt8)].length ≤ 2 ^ (60 : Nat))) (.ite (decide ((xs ++ ([(60 : UInt8)] ++ Px.hexs a3 ++ [(62 : UInt8)])).length ≤ 1000000000)) (.leaf (.tup [], [.wb 80 (.own 0 0 .u8 (xs ++ ([(60 : UInt8)] ++ Px.hexs a3 ++ [(62 : UInt8)])))])) .fail) .fail) .fail) .fail) (.ite (eqI a0 7) (.ite (decide ((Go.Lib.itoa a1).length + [(32 : UInt8)].length ≤ 2 ^ (60 : Nat))) (.ite (decide ((Go.Lib.itoa a1 ++ [(32 : UInt8)]).length + (Go.Lib.itoa a2).length ≤ 2 ^ (60 : Nat))) (.ite (decide ((Go.Lib.itoa a1 ++ [(32 : UInt8)] ++ Go.Lib.itoa a2).length + [(32 : UInt8), (82 : UInt8)].length ≤ 2 ^ (60 : Nat))) (.ite (decide ((xs ++ (Go.Lib.itoa a1 ++ [(32 : UInt8)] ++ Go.Lib.itoa a2 ++ [(32 : UInt8), (82 : UInt8)])).length ≤ 1000000000)) (.leaf (.tup [], [.wb 80 (.own 0 0 .u8 (xs ++ (Go.Lib.itoa a1 ++ [(32 : UInt8)] ++ Go.Lib.itoa a2 ++ [(32 : UInt8), (82 : UInt8)])))])) .fail) .fail) .fail) .fail) (.ite (Px.okAll' n a0 a4 a5 xs) (.leaf (.tup [], [.wb 80 (.own 0 0 .u8 (xs ++ Px.layA' a0 a4 a5))])) .fail))))))
theorem e44 (n : Nat) (a0 : Int) (a1 : Int) (a2 : Int) (a3 : List UInt8) (a4 : List Val) (a5 : List (List UInt8)) (xs : List UInt8) : execFun E (G44 n) (fun _ _ => .fail) false Go.Proofs.Tryz.f44 [.agg [.int .u8 a0, .int .i64 a1, .int .i64 a2, .str a3, .sl .val a4, .sl .str a5], .lf (.ptr 0 0 0)] [.wb 80 (.own 0 0 .u8 xs)] some = (w44 n a0 a1 a2 a3 a4 a5 xs).get := by kernel_rfl
def w44_1 (n : Nat) (a0 : Int) (a1 : Int) (a2 : Int) (a3 : List UInt8) (a4 : List Val) (a5 : List (List UInt8)) : Tree (RV E.A × List (Obj E.A)) := .ite (eqI a0 0) (.leaf (.tup [], [.wb 80 (.own 0 0 .u8 (([110, 117, 108, 108] : List UInt8)))])) (.ite (eqI a0 1) (.ite (decide ((bif eqI a1 1 then ([116, 114, 117, 101] : List UInt8) else ([102, 97, 108, 115, 101] : List UInt8)).length ≤ 1000000000)) (.leaf (.tup [], [.wb 80 (.own 0 0 .u8 (bif eqI a1 1 then ([116, 114, 117, 101] : List UInt8) else ([102, 97, 108, 115, 101] : List UInt8)))])) .fail) (.ite (eqI a0 2) (.ite (decide ((Go.Lib.itoa a1).length ≤ 1000000000)) (.leaf (.tup [], [.wb 80 (.own 0 0 .u8 (Go.Lib.itoa a1))])) .fail) (.ite (eqI a0 3) (.ite (decide ([(47 : UInt8)].length + a3.length ≤ 2 ^ (60 : Nat))) (.ite (decide (([(47 : UInt8)] ++ a3).length ≤ 1000000000)) (.leaf (.tup [], [.wb 80 (.own 0 0 .u8 ([(47 : UInt8)] ++ a3))])) .fail) .fail) (.ite (eqI a0 4) (.ite (decide (a3.length ≤ 1000000000)) (.ite (decide ([(60 : UInt8)].length + (Px.hexs a3).length ≤ 2 ^ (60 : Nat))) (.ite (decide (([(60 : UInt8)] ++ Px.hexs a3).length + [(62 : UInt8)].length ≤ 2 ^ (60 : Nat))) (.ite (decide (([(60 : UInt8)] ++ Px.hexs a3 ++ [(62 : UInt8)]).length ≤ 1000000000)) (.leaf (.tup [], [.wb 80 (.own 0 0 .u8 ([(60 : UInt8)] ++ Px.hexs a3 ++ [(62 : UInt8)]))])) .fail) .fail) .fail) .fail) (.ite (eqI a0 7) (.ite (decide ((Go.Lib.itoa a1).length + [(32 : UInt8)].length ≤ 2 ^ (60 : Nat))) (.ite (decide ((Go.Lib.itoa a1 ++ [(32 : UInt8)]).length + (Go.Lib.itoa a2).length ≤ 2 ^ (60 : Nat))) (.ite (decide ((Go.Lib.itoa a1 ++ [(32 : UInt8)] ++ Go.Lib.itoa a2).length + [(32 : UInt8), (82 : UInt8)].length ≤ 2 ^ (60 : Nat))) (.ite (decide ((Go.Lib.itoa a1 ++ [(32 : UInt8)] ++ Go.Lib.itoa a2 ++ [(32 : UInt8), (82 : UInt8)]).length ≤ 1000000000)) (.leaf (.tup [], [.wb 80 (.own 0 0 .u8 (Go.Lib.itoa a1 ++ [(32 : UInt8)] ++ Go.Lib.itoa a2 ++ [(32 : UInt8), (82 : UInt8)]))])) .fail) .fail) .fail) .fail) (.ite (Px.okAll' n a0 a4 a5 []) (.leaf (.tup [], [.wb 80 (.own 0 0 .u8 (Px.layA' a0 a4 a5))])) .fail))))))
theorem e44_1 (n : Nat) (a0 : Int) (a1 : Int) (a2 : Int) (a3 : List UInt8) (a4 : List Val) (a5 : List (List UInt8)) : execFun E (G44 n) (fun _ _ => .fail) false Go.Proofs.Tryz.f44 [.agg [.int .u8 a0, .int .i64 a1, .int .i64 a2, .str a3, .sl .val a4, .sl .str a5], .lf (.ptr 0 0 0)] [.wb 80 .nil] some = (w44_1 n a0 a1 a2 a3 a4 a5).get := by kernel_rfl
def raw44 (n : Nat) : Spec E := fun args os => match args, os with | [.agg [.int .u8 a0, .int .i64 a1, .int .i64 a2, .str a3, .sl .val a4, .sl .str a5], .lf (.ptr 0 0 0)], [.wb 80 (.own 0 0 .u8 xs)] => w44 n a0 a1 a2 a3 a4 a5 xs | [.agg [.int .u8 a0, .int .i64 a1, .int .i64 a2, .str a3, .sl .val a4, .sl .str a5], .lf (.ptr 0 0 0)], [.wb 80 .nil] => w44_1 n a0 a1 a2 a3 a4 a5 | _, _ => .fail
theorem validraw44 (hL : Laws E) (n : Nat) (hN : Valid E 73 (spec73N n)) : Valid E 44 (raw44 n) :=
 valid_of_body hL (hG44 hL n hN) (Λ := fun _ _ => .fail) (fn := Go.Proofs.Tryz.f44) (keep := false) (by kernel_rfl) (by kernel_rfl) (by kernel_rfl) (LamOK.none (by kernel_rfl)) (fun args os r os' h => by
  unfold raw44 at h
  split at h
  ·exact (e44 _ _ _ _ _ _ _ _).trans h
  ·exact (e44_1 _ _ _ _ _ _ _).trans h
  ·cases h)
theorem eq44 {n : Nat} {a0 a1 a2 : Int} {a3 : List UInt8} {a4 : List Val} {a5 : List (List UInt8)} {xs : List UInt8} (h : Px.okLay (n + 1) (.mk a0 a1 a2 a3 a4 a5) xs = true) :
  (w44 n a0 a1 a2 a3 a4 a5 xs).get = some (.tup [], [.wb 80 (.own 0 0 K.u8 (xs ++ Px.layV (.mk a0 a1 a2 a3 a4 a5)))]) := by
 unfold Px.okLay at h
 rw [Bool.and_eq_true, Bool.and_eq_true, Px.fitV, Bool.and_eq_true, Px.dl, Nat.ble_eq (y := 1000000000), Px.layV] at h
 obtain ⟨h1, ⟨h2, h3⟩, h4⟩ := h
 have h1 : Px.dls a4 + 1 ≤ n + 1 := Nat.le_of_ble_eq_true h1
 rw [Px.layV]
 unfold w44
 simp only [Tree.get_ite, Tree.get_leaf, Px.okAll'_eq, Px.layA'_eq]
 cases q0 : eqI a0 0 <;> rw [q0] at h4 <;> simp only [cond_true, cond_false] at h4 ⊢
 rotate_left
 ·have h5 : (xs ++ ([110, 117, 108, 108] : List UInt8)).length ≤ 1000000000 := h4
  rw [decide_eq_true h5]; rfl
 cases q1 : eqI a0 1 <;> rw [q1] at h4 <;> simp only [cond_true, cond_false] at h4 ⊢
 rotate_left
 ·have h5 : (xs ++ cond (eqI a1 1) ([116, 114, 117, 101] : List UInt8) [102, 97, 108, 115, 101]).length ≤ 1000000000 := h4
  rw [decide_eq_true h5]; rfl
 cases q2 : eqI a0 2 <;> rw [q2] at h4 <;> simp only [cond_true, cond_false] at h4 ⊢
 rotate_left
 ·rw [decide_eq_true h4]; rfl
 cases q3 : eqI a0 3 <;> rw [q3] at h4 <;> simp only [cond_true, cond_false] at h4 ⊢
 rotate_left
 ·rw [decide_eq_true h4, decide_eq_true (by simp only [List.length_append, List.length_cons, List.length_nil] at h4 ⊢; omega)]; rfl
 cases q4 : eqI a0 4 <;> rw [q4] at h4 <;> simp only [cond_true, cond_false] at h4 ⊢
 rotate_left
 ·have hl := Px.hexs_len a3
  have h5 := h4
  simp only [List.length_append, List.length_cons, List.length_nil] at h5
  rw [decide_eq_true h4, decide_eq_true (by omega), decide_eq_true (by simp only [List.length_append, List.length_cons, List.length_nil]; omega), decide_eq_true (by simp only [List.length_append, List.length_cons, List.length_nil]; omega)]; rfl
 cases q7 : eqI a0 7 <;> rw [q7] at h4 <;> simp only [cond_true, cond_false] at h4 ⊢
 rotate_left
 ·have h5 := h4
  simp only [List.length_append, List.length_cons, List.length_nil] at h5
  rw [decide_eq_true h4, decide_eq_true (by simp only [List.length_append, List.length_cons, List.length_nil]; omega), decide_eq_true (by simp only [List.length_append, List.length_cons, List.length_nil]; omega), decide_eq_true (by simp only [List.length_append, List.length_cons, List.length_nil]; omega)]; rfl
 have hk : Px.okAll n a0 a4 a5 xs = true := by
  unfold Px.okAll
  rw [Bool.and_eq_true, Bool.and_eq_true, Bool.and_eq_true, Nat.ble_eq (y := 1000000000), Nat.ble_eq (y := n)]
  exact ⟨by omega, h3, h2, h4⟩
 rw [hk]
 rfl
theorem eq44_1 {n : Nat} {a0 a1 a2 : Int} {a3 : List UInt8} {a4 : List Val} {a5 : List (List UInt8)} (h : Px.okLay (n + 1) (.mk a0 a1 a2 a3 a4 a5) [] = true) :
  (w44_1 n a0 a1 a2 a3 a4 a5).get = some (.tup [], [.wb 80 (.own 0 0 K.u8 (Px.layV (.mk a0 a1 a2 a3 a4 a5)))]) := by
 unfold Px.okLay at h
 rw [Bool.and_eq_true, Bool.and_eq_true, Px.fitV, Bool.and_eq_true, Px.dl, Nat.ble_eq (y := 1000000000), Px.layV, List.nil_append] at h
 obtain ⟨h1, ⟨h2, h3⟩, h4⟩ := h
 have h1 : Px.dls a4 + 1 ≤ n + 1 := Nat.le_of_ble_eq_true h1
 rw [Px.layV]
 unfold w44_1
 simp only [Tree.get_ite, Tree.get_leaf, Px.okAll'_eq, Px.layA'_eq]
 cases q0 : eqI a0 0 <;> rw [q0] at h4 <;> simp only [cond_true, cond_false] at h4 ⊢
 rotate_left
 ·rfl
 cases q1 : eqI a0 1 <;> rw [q1] at h4 <;> simp only [cond_true, cond_false] at h4 ⊢
 rotate_left
 ·have h5 : (cond (eqI a1 1) ([116, 114, 117, 101] : List UInt8) [102, 97, 108, 115, 101]).length ≤ 1000000000 := h4
  rw [decide_eq_true h5]; rfl
 cases q2 : eqI a0 2 <;> rw [q2] at h4 <;> simp only [cond_true, cond_false] at h4 ⊢
 rotate_left
 ·rw [decide_eq_true h4]; rfl
 cases q3 : eqI a0 3 <;> rw [q3] at h4 <;> simp only [cond_true, cond_false] at h4 ⊢
 rotate_left
 ·rw [decide_eq_true h4, decide_eq_true (by simp only [List.length_append, List.length_cons, List.length_nil] at h4 ⊢; omega)]; rfl
 cases q4 : eqI a0 4 <;> rw [q4] at h4 <;> simp only [cond_true, cond_false] at h4 ⊢
 rotate_left
 ·have hl := Px.hexs_len a3
  have h5 := h4
  simp only [List.length_append, List.length_cons, List.length_nil] at h5
  rw [decide_eq_true h4, decide_eq_true (by omega), decide_eq_true (by simp only [List.length_append, List.length_cons, List.length_nil]; omega), decide_eq_true (by simp only [List.length_append, List.length_cons, List.length_nil]; omega)]; rfl
 cases q7 : eqI a0 7 <;> rw [q7] at h4 <;> simp only [cond_true, cond_false] at h4 ⊢
 rotate_left
 ·have h5 := h4
  simp only [List.length_append, List.length_cons, List.length_nil] at h5
  rw [decide_eq_true h4, decide_eq_true (by simp only [List.length_append, List.length_cons, List.length_nil]; omega), decide_eq_true (by simp only [List.length_append, List.length_cons, List.length_nil]; omega), decide_eq_true (by simp only [List.length_append, List.length_cons, List.length_nil]; omega)]; rfl
 have hk : Px.okAll n a0 a4 a5 [] = true := by
  unfold Px.okAll
  rw [Bool.and_eq_true, Bool.and_eq_true, Bool.and_eq_true, Nat.ble_eq (y := 1000000000), Nat.ble_eq (y := n)]
  exact ⟨by omega, h3, h2, h4⟩
 rw [hk]
 rfl
theorem valid44N (hL : Laws E) : ∀ n, Valid E 44 (spec44N n)
 | 0 => Valid.never (fun args os => by
   have key : ∀ v xs, Px.okLay' 0 v xs = false := fun v xs => by rw [Px.okLay'_eq]; rfl
   unfold spec44N
   split
   ·rw [Tree.get_ite, key]; rfl
   ·rw [Tree.get_ite, key]; rfl
   ·rfl)
 | n + 1 => (validraw44 hL n (valid73N hL n (valid44N hL n))).less (fun args os x u1 u2 h => by
   clear u1 u2
   unfold spec44N at h
   split at h
   ·rename_i a0 a1 a2 a3 a4 a5 xs
    rcases Tree.get_ite_some h with ⟨h1, h'⟩ | ⟨_, h'⟩
    ·rw [Px.okLay'_eq] at h1
     rw [Px.layV'_eq] at h'
     exact (eq44 h1).trans h'
    ·cases h'
   ·rename_i a0 a1 a2 a3 a4 a5
    rcases Tree.get_ite_some h with ⟨h1, h'⟩ | ⟨_, h'⟩
    ·rw [Px.okLay'_eq] at h1
     rw [Px.layV'_eq] at h'
     exact (eq44_1 h1).trans h'
    ·cases h'
   ·cases h)
def spec44 : Spec E := fun args os => match args, os with | [.agg [.int .u8 a0, .int .i64 a1, .int .i64 a2, .str a3, .sl .val a4, .sl .str a5], .lf (.ptr 0 0 0)], [.wb 80 .nil] => .ite (Px.okLay' 1000000 (.mk a0 a1 a2 a3 a4 a5) []) (.leaf (.tup [], [.wb 80 (.own 0 0 K.u8 (Px.layV' (.mk a0 a1 a2 a3 a4 a5)))])) .fail | _, _ => .fail
theorem valid44 (hL : Laws E) : Valid E 44 spec44 := (valid44N hL 1000000).less (fun args os x u1 u2 h => by
 clear u1 u2
 unfold spec44 at h
 split at h
 ·exact h
 ·cases h)
end Go.Vx

namespace Go.Vx
open Go
def G27 : FuncId → Option (Spec E) | 19 => some spec19 | 44 => some spec44 | 45 => some spec45 | _ => none
theorem hG27 (hL : Laws E) : ∀ f spec, G27 f = some spec → Valid E f spec := by
 intro f spec h
 unfold G27 at h
 split at h
 ·injection h with h; subst h; exact valid19 hL
 ·injection h with h; subst h; exact valid44 hL
 ·injection h with h; subst h; exact valid45 hL
 ·cases h
def w27 (a0Kind : Int) (a0Num : Int) (a0Gen : Int) (a0Text : List UInt8) (a0List : List Val) (a0Keys : List (List UInt8)) : Tree (RV E.A × List (Obj E.A)) := .ite (!Px.okV (0 : Int) (Val.mk a0Kind a0Num a0Gen a0Text a0List a0Keys)) (.leaf (.lf (.sl .u8 []), [])) (.ite (Px.okLay' (1000000 : Nat) (Val.mk a0Kind a0Num a0Gen a0Text a0List a0Keys) []) (.leaf (.lf (.sl .u8 (Px.layV' (Val.mk a0Kind a0Num a0Gen a0Text a0List a0Keys))), [])) .fail)
theorem e27 (a0Kind : Int) (a0Num : Int) (a0Gen : Int) (a0Text : List UInt8) (a0List : List Val) (a0Keys : List (List UInt8)) : execFun E G27 (fun _ _ => .fail) false Go.Proofs.Tryz.f27 [.agg [.int .u8 a0Kind, .int .i64 a0Num, .int .i64 a0Gen, .str a0Text, .sl .val a0List, .sl .str a0Keys]] [] some = (w27 a0Kind a0Num a0Gen a0Text a0List a0Keys).get := by kernel_rfl
def spec27 : Spec E := fun args os => match args, os with | [.agg [.int .u8 a0Kind, .int .i64 a0Num, .int .i64 a0Gen, .str a0Text, .sl .val a0List, .sl .str a0Keys]], [] => w27 a0Kind a0Num a0Gen a0Text a0List a0Keys | _, _ => .fail
theorem valid27 (hL : Laws E) : Valid E 27 spec27 :=
 valid_of_body hL (hG27 hL) (Λ := fun _ _ => .fail) (fn := Go.Proofs.Tryz.f27) (keep := false) (by kernel_rfl) (by kernel_rfl) (by kernel_rfl) (LamOK.none (by kernel_rfl)) (fun args os r os' h => by
  unfold spec27 at h
  split at h
  ·exact (e27 _ _ _ _ _ _).trans h
  ·cases h)
end Go.Vx
namespace Go.Vx
open Go
def G9 : FuncId → Option (Spec E) | 10 => some spec10 | 14 => some spec14 | 15 => some spec15 | 16 => some spec16 | 17 => some spec17 | 18 => some spec18 | 20 => some spec20 | 27 => some spec27 | 31 => some spec31 | _ => none
theorem hG9 (hL : Laws E) : ∀ f spec, G9 f = some spec → Valid E f spec := by
 intro f spec h
 unfold G9 at h
 split at h
 ·injection h with h; subst h; exact valid10 hL
 ·injection h with h; subst h; exact valid14 hL
 ·injection h with h; subst h; exact valid15 hL
 ·injection h with h; subst h; exact valid16 hL
 ·injection h with h; subst h; exact valid17 hL
 ·injection h with h; subst h; exact valid18 hL
 ·injection h with h; subst h; exact valid20 hL
 ·injection h with h; subst h; exact valid27 hL
 ·injection h with h; subst h; exact valid31 hL
 ·cases h
def L9_0 : Ex → Live | .normal => ⟨[1, 5, 6, 7, 8, 9, 28, 29, 30], [384]⟩ | .exit 0 => ⟨[5, 7], [384]⟩ | .ret => ⟨[4], [384]⟩ | _ => ⟨[], []⟩
def S9_0 (p1 : List UInt8) (p6 : List UInt8) (p28 : List UInt8) (p29 : Int) (x : (List UInt8) × Int × Bool × Int × Int × Int × Int × (List UInt8) × (List Val) × (List (List UInt8))) : St E.A := at' E 137 [(1, .lf (.sl .u8 p1)), (5, .lf (.ptr 384 0 0)), (6, .lf (.sl .u8 p6)), (7, .lf (.own 0 0 .u8 x.1)), (8, .lf (.int .i64 x.2.1)), (9, .lf (.bool x.2.2.1)), (28, .lf (.sl .u8 p28)), (29, .lf (.int .i64 p29)), (30, .lf (.int .i64 x.2.2.2.1))] [(384, some (.cells 30 [.int .u8 x.2.2.2.2.1, .int .i64 x.2.2.2.2.2.1, .int .i64 x.2.2.2.2.2.2.1, .str x.2.2.2.2.2.2.2.1, .sl .val x.2.2.2.2.2.2.2.2.1, .sl .str x.2.2.2.2.2.2.2.2.2]))]
def cp9 (out : List UInt8) (c : UInt8) (k : Int) (b : Bool) (i : Int) (K M G : Int) (T : List UInt8) (L : List Val) (KS : List (List UInt8)) : Tree ((List UInt8) × Int × Bool × Int × Int × Int × Int × (List UInt8) × (List Val) × (List (List UInt8)) ⊕ Out' E) :=
 .ite (decide ((out.length + [UInt8.ofNat (↑c.toNat : Int).toNat].length) * (1 : Nat) ≤ 140737488355328)) (.leaf (.inl ((out ++ [UInt8.ofNat (↑c.toNat : Int).toNat]), k, b, (IntKind.i64.wrap (i + (1 : Int))), K, M, G, T, L, KS))) .fail
def pl9 (p1 : List UInt8) (out : List UInt8) (c : UInt8) (k : Int) (ins : Bool) (i : Int) (K M G : Int) (T : List UInt8) (L : List Val) (KS : List (List UInt8)) : Tree ((List UInt8) × Int × Bool × Int × Int × Int × Int × (List UInt8) × (List Val) × (List (List UInt8)) ⊕ Out' E) :=
 .ite (eqI (↑c.toNat : Int) 32)
 (.ite (!ins)
  (.ite (ltI k (↑p1.length : Int))
  (.ite (inB k p1.length)
   (.ite (inB ((↑(p1.getD k.toNat (0 : UInt8)).toNat : Int).tmod (5 : Int)) Px.gaps5.length)
   (.ite (decide ((out.length + (Px.gaps5.getD ((↑(p1.getD k.toNat (0 : UInt8)).toNat : Int).tmod (5 : Int)).toNat []).length) * (1 : Nat) ≤ 140737488355328))
    (.leaf (.inl ((out ++ Px.gaps5.getD ((↑(p1.getD k.toNat (0 : UInt8)).toNat : Int).tmod (5 : Int)).toNat []), (IntKind.i64.wrap (k + (1 : Int))), ins, (IntKind.i64.wrap (i + (1 : Int))), K, M, G, T, L, KS)))
    .fail) .fail) .fail)
  (.ite ins (cp9 out c k (!eqI (↑c.toNat : Int) 62) i K M G T L KS) (cp9 out c k false i K M G T L KS)))
  (.ite ins (cp9 out c k (!eqI (↑c.toNat : Int) 62) i K M G T L KS) (cp9 out c k false i K M G T L KS)))
 (.ite ins (cp9 out c k (!eqI (↑c.toNat : Int) 62) i K M G T L KS) (cp9 out c k false i K M G T L KS))
def op9 (out : List UInt8) (c : UInt8) (k : Int) (i : Int) (K M G : Int) (T : List UInt8) (L : List Val) (KS : List (List UInt8)) : Tree ((List UInt8) × Int × Bool × Int × Int × Int × Int × (List UInt8) × (List Val) × (List (List UInt8)) ⊕ Out' E) :=
 .ite (eqI (↑c.toNat : Int) 32) (cp9 out c k (!eqI (↑c.toNat : Int) 62) i K M G T L KS) (cp9 out c k (!eqI (↑c.toNat : Int) 62) i K M G T L KS)
def at9 (p1 p6 : List UInt8) (out : List UInt8) (c : UInt8) (k : Int) (ins : Bool) (i : Int) (K M G : Int) (T : List UInt8) (L : List Val) (KS : List (List UInt8)) : Tree ((List UInt8) × Int × Bool × Int × Int × Int × Int × (List UInt8) × (List Val) × (List (List UInt8)) ⊕ Out' E) :=
 .ite (eqI i 0) (op9 out c k i K M G T L KS)
 (.ite (inB (IntKind.i64.wrap (i - (1 : Int))) p6.length)
  (.ite (!eqI (↑(p6.getD (IntKind.i64.wrap (i - (1 : Int))).toNat (0 : UInt8)).toNat : Int) (60 : Int)) (op9 out c k i K M G T L KS) (pl9 p1 out c k ins i K M G T L KS))
  .fail)
def t9_0 (p1 : List UInt8) (p6 : List UInt8) (p28 : List UInt8) (p29 : Int) (x : (List UInt8) × Int × Bool × Int × Int × Int × Int × (List UInt8) × (List Val) × (List (List UInt8))) : Tree ((List UInt8) × Int × Bool × Int × Int × Int × Int × (List UInt8) × (List Val) × (List (List UInt8)) ⊕ Out' E) := .ite (ltI x.2.2.2.1 p29) (.ite (inB x.2.2.2.1 p28.length) (.ite (eqI (↑(p28.getD x.2.2.2.1.toNat (0 : UInt8)).toNat : Int) (60 : Int)) (.ite (leI (↑p6.length : Int) (IntKind.i64.wrap (x.2.2.2.1 + (1 : Int)))) (at9 p1 p6 x.1 (p28.getD x.2.2.2.1.toNat (0 : UInt8)) x.2.1 x.2.2.1 x.2.2.2.1 x.2.2.2.2.1 x.2.2.2.2.2.1 x.2.2.2.2.2.2.1 x.2.2.2.2.2.2.2.1 x.2.2.2.2.2.2.2.2.1 x.2.2.2.2.2.2.2.2.2) (.ite (inB (IntKind.i64.wrap (x.2.2.2.1 + (1 : Int))) p6.length) (.ite (!eqI (↑(p6.getD (IntKind.i64.wrap (x.2.2.2.1 + (1 : Int))).toNat (0 : UInt8)).toNat : Int) (60 : Int)) (at9 p1 p6 x.1 (p28.getD x.2.2.2.1.toNat (0 : UInt8)) x.2.1 x.2.2.1 x.2.2.2.1 x.2.2.2.2.1 x.2.2.2.2.2.1 x.2.2.2.2.2.2.1 x.2.2.2.2.2.2.2.1 x.2.2.2.2.2.2.2.2.1 x.2.2.2.2.2.2.2.2.2) (pl9 p1 x.1 (p28.getD x.2.2.2.1.toNat (0 : UInt8)) x.2.1 x.2.2.1 x.2.2.2.1 x.2.2.2.2.1 x.2.2.2.2.2.1 x.2.2.2.2.2.2.1 x.2.2.2.2.2.2.2.1 x.2.2.2.2.2.2.2.2.1 x.2.2.2.2.2.2.2.2.2)) .fail)) (pl9 p1 x.1 (p28.getD x.2.2.2.1.toNat (0 : UInt8)) x.2.1 x.2.2.1 x.2.2.2.1 x.2.2.2.2.1 x.2.2.2.2.2.1 x.2.2.2.2.2.2.1 x.2.2.2.2.2.2.2.1 x.2.2.2.2.2.2.2.2.1 x.2.2.2.2.2.2.2.2.2)) .fail) (.leaf (.inr (.exit 0, at' E 137 [(5, .lf (.ptr 384 0 0)), (7, .lf (.own 0 0 .u8 x.1))] [(384, some (.cells 30 [.int .u8 x.2.2.2.2.1, .int .i64 x.2.2.2.2.2.1, .int .i64 x.2.2.2.2.2.2.1, .str x.2.2.2.2.2.2.2.1, .sl .val x.2.2.2.2.2.2.2.2.1, .sl .str x.2.2.2.2.2.2.2.2.2]))])))
theorem h9_0 (p1 : List UInt8) (p6 : List UInt8) (p28 : List UInt8) (p29 : Int) (x : (List UInt8) × Int × Bool × Int × Int × Int × Int × (List UInt8) × (List Val) × (List (List UInt8))) (k : Ex → St E.A → Option Unit) :
  exec E G9 (fun _ _ => .fail) 1 (lb Go.Proofs.Tryz.f9 0) (S9_0 p1 p6 p28 p29 x) (fun e σ1 => k e (clean E (L9_0 e) σ1)) = (t9_0 p1 p6 p28 p29 x).run (Sum.elim (fun x' => k .normal (S9_0 p1 p6 p28 p29 x')) (fun o => k o.1 o.2)) := by kernel_rfl
def lam9_0 (p1 : List UInt8) (p6 : List UInt8) (p28 : List UInt8) (p29 : Int) (x : (List UInt8) × Int × Bool × Int × Int × Int × Int × (List UInt8) × (List Val) × (List (List UInt8))) : Tree (Out' E) := .ite (Px.same p6 p28 && eqI p29 p28.length && leI 0 x.2.2.2.1 && leI x.2.2.2.1 p29 && leI p29 1000000 && leI 0 x.2.1 && leI x.2.1 x.2.2.2.1 && decide (x.1.length ≤ 7 * x.2.2.2.1.toNat)) (.leaf (.exit 0, at' E 137 [(5, .lf (.ptr 384 0 0)), (7, .lf (.own 0 0 .u8 (x.1 ++ Px.spGo' p1 (Px.prevB p28 x.2.2.2.1) (p28.drop x.2.2.2.1.toNat) x.2.1.toNat x.2.2.1)))] [(384, some (.cells 30 [.int .u8 x.2.2.2.2.1, .int .i64 x.2.2.2.2.2.1, .int .i64 x.2.2.2.2.2.2.1, .str x.2.2.2.2.2.2.2.1, .sl .val x.2.2.2.2.2.2.2.2.1, .sl .str x.2.2.2.2.2.2.2.2.2]))])) .fail
theorem s9_0 {gs p : List UInt8} {out : List UInt8} {k i : Nat} {ins : Bool} {K M G : Int} {T : List UInt8} {L : List Val} {KS : List (List UInt8)} {c : UInt8} {r : List UInt8} (h : p.drop i = c :: r) (hl : p.length ≤ 1000000) (hk : k ≤ i) (ho : out.length ≤ 7 * i) :
  (t9_0 gs p p p.length (out, (k : Int), ins, (i : Int), K, M, G, T, L, KS)).get =
   some (.inl (cond (eqI (c.toNat : Int) 32 && (!(Px.opens (Px.prevB p i) c r || ins) && ltI (k : Int) gs.length))
    (out ++ Px.gapOf (gs.getD k 0), ((k + 1 : Nat) : Int), (Px.opens (Px.prevB p i) c r || ins), ((i + 1 : Nat) : Int), K, M, G, T, L, KS)
    (out ++ [c], (k : Int), ((Px.opens (Px.prevB p i) c r || ins) && !eqI (c.toNat : Int) 62), ((i + 1 : Nat) : Int), K, M, G, T, L, KS))) := by
 have hi : i < p.length := by
  rcases Nat.lt_or_ge i p.length with h5 | h5
  ·exact h5
  ·rw [List.drop_eq_nil_iff.2 h5] at h; cases h
 have hd := h
 rw [drop_cons p 0 i hi] at hd
 injection hd with hc hr
 have e1 : ltI (i : Int) (p.length : Int) = true := by rw [ltI_eq]; exact decide_eq_true (by omega)
 have e2 : inB (i : Int) p.length = true := inB_true.2 ⟨by omega, by omega⟩
 have e3 : IntKind.i64.wrap ((i : Int) + 1) = ((i + 1 : Nat) : Int) := by rw [wi64] <;> omega
 have e4 : IntKind.i64.wrap ((k : Int) + 1) = ((k + 1 : Nat) : Int) := by rw [wi64] <;> omega
 have e5 : IntKind.i64.wrap ((i : Int) - 1) = (i : Int) - 1 := by rw [wi64] <;> omega
 have f1 : inB ((i + 1 : Nat) : Int) p.length = !leI (p.length : Int) ((i + 1 : Nat) : Int) := by
  rw [Bool.eq_iff_iff, inB_true, Bool.not_eq_true', leI_eq, decide_eq_false_iff_not]; omega
 have f2 : inB ((i : Int) - 1) p.length = !eqI (i : Int) 0 := by
  rw [Bool.eq_iff_iff, inB_true, Bool.not_eq_true', eqI_eq, decide_eq_false_iff_not]; omega
 have f3 : inB (k : Int) gs.length = ltI (k : Int) (gs.length : Int) := by
  rw [Bool.eq_iff_iff, inB_true, ltI_eq, decide_eq_true_eq]; omega
 have hg := Px.gap_len (gs.getD k 0)
 have b1 : decide ((out.length + [c].length) * 1 ≤ 140737488355328) = true := decide_eq_true (by simp only [List.length_cons, List.length_nil]; omega)
 have b2 : decide ((out.length + (Px.gapOf (gs.getD k 0)).length) * 1 ≤ 140737488355328) = true := decide_eq_true (by omega)
 have b3 : inB (((gs.getD k 0).toNat : Int).tmod 5) Px.gaps5.length = true := by
  have := (gs.getD k 0).toNat_lt
  have e : (((gs.getD k 0).toNat : Int).tmod 5) = (((gs.getD k 0).toNat % 5 : Nat) : Int) := rfl
  rw [e]
  exact inB_true.2 ⟨by omega, by show (((gs.getD k 0).toNat % 5 : Nat) : Int) < 5; omega⟩
 have g0 : ([[(32 : UInt8)], [(10 : UInt8)], ([37, 120, 60, 13] : List UInt8), ([9, 32, 0] : List UInt8), ([32, 37, 93, 10, 37, 91, 10] : List UInt8)] : List (List UInt8)) = Px.gaps5 := rfl
 have g1 : Px.gaps5.getD (((gs.getD k 0).toNat : Int).tmod 5).toNat [] = Px.gapOf (gs.getD k 0) := rfl
 have g2 : UInt8.ofNat c.toNat = c := UInt8.ofNat_toNat
 have h1 : r.isEmpty = leI (p.length : Int) ((i + 1 : Nat) : Int) := by
  rw [Bool.eq_iff_iff, List.isEmpty_iff, leI_eq, decide_eq_true_eq, ← hr, List.drop_eq_nil_iff]; omega
 have h2 : r.getD 0 0 = p.getD (i + 1) 0 := by
  rw [← hr]; simp [List.getD]
 have h3 : Px.prevB p (i : Int) = cond (eqI (i : Int) 0) 0 (p.getD ((i : Int) - 1).toNat 0) := rfl
 have z0 : eqI ((0 : UInt8).toNat : Int) 60 = false := rfl
 have n1 : ((i + 1 : Nat) : Int).toNat = i + 1 := Int.toNat_natCast _
 unfold t9_0 at9 op9 pl9 cp9 Px.opens
 rw [h1, h2, h3]
 simp only [Tree.get_ite, Tree.get_leaf, e1, e2, e3, e4, e5, f1, f2, f3, g0, b3, Int.toNat_natCast, hc, g1, b2, g2, cond_true, n1]
 simp only [b1, cond_true]
 have q : ∀ b : Bool, eqI ((cond b 0 (p.getD ((i : Int) - 1).toNat 0) : UInt8).toNat : Int) 60 = (!b && eqI ((p.getD ((i : Int) - 1).toNat 0).toNat : Int) 60) := fun b => by cases b <;> rfl
 rw [q]
 generalize eqI ((p.getD ((i : Int) - 1).toNat 0).toNat : Int) 60 = bp
 generalize eqI ((p.getD (i + 1) 0).toNat : Int) 60 = bn
 generalize leI (p.length : Int) ((i + 1 : Nat) : Int) = bN
 generalize eqI (i : Int) 0 = b0
 generalize ltI (k : Int) (gs.length : Int) = bk
 have hx : (eqI (c.toNat : Int) 60 && eqI (c.toNat : Int) 32) = false := by
  rw [Bool.eq_false_iff, ne_eq, Bool.and_eq_true, eqI_eq, eqI_eq, decide_eq_true_eq, decide_eq_true_eq]; omega
 generalize eqI (c.toNat : Int) 60 = b6 at hx ⊢
 generalize eqI (c.toNat : Int) 32 = b3 at hx ⊢
 cases b6 <;> cases b3 <;> (first | (cases hx; done) | skip) <;> cases bN <;> cases bn <;> cases b0 <;> cases bp <;> cases ins <;> cases bk <;> rfl
theorem k9_0 {gs p : List UInt8} {K M G : Int} {T : List UInt8} {L : List Val} {KS : List (List UInt8)} (hl : p.length ≤ 1000000) : ∀ (r : List UInt8) (i k : Nat) (ins : Bool) (out z : List UInt8), p.drop i = r → k ≤ i → out.length ≤ 7 * i →
  z = out ++ Px.spGo gs (Px.prevB p i) r k ins →
  iter (t9_0 gs p p p.length) (r.length + 1) (out, (k : Int), ins, (i : Int), K, M, G, T, L, KS) = some (Ex.exit 0, at' E 137 [(5, .lf (.ptr 384 0 0)), (7, .lf (.own 0 0 .u8 z))] [(384, some (.cells 30 [.int .u8 K, .int .i64 M, .int .i64 G, .str T, .sl .val L, .sl .str KS]))])
 | [], i, k, ins, out, z, h, hk, ho, hz => by
  have hi : p.length ≤ i := List.drop_eq_nil_iff.1 h
  have e1 : ltI (i : Int) (p.length : Int) = false := by rw [ltI_eq]; exact decide_eq_false (by omega)
  obtain rfl : out = z := by rw [hz, Px.spGo, List.append_nil]
  have hs : (t9_0 gs p p p.length (out, (k : Int), ins, (i : Int), K, M, G, T, L, KS)).get = some (.inr (Ex.exit 0, at' E 137 [(5, .lf (.ptr 384 0 0)), (7, .lf (.own 0 0 .u8 out))] [(384, some (.cells 30 [.int .u8 K, .int .i64 M, .int .i64 G, .str T, .sl .val L, .sl .str KS]))])) := by
   unfold t9_0
   simp only [Tree.get_ite, Tree.get_leaf, e1, cond_false]
  rw [iter, hs]
 | c :: r, i, k, ins, out, z, h, hk, ho, hz => by
  have hi : i < p.length := by
   rcases Nat.lt_or_ge i p.length with h5 | h5
   ·exact h5
   ·rw [List.drop_eq_nil_iff.2 h5] at h; cases h
  have hd := h
  rw [drop_cons p 0 i hi] at hd
  injection hd with hc hr
  have hp : Px.prevB p ((i + 1 : Nat) : Int) = c := by
   unfold Px.prevB
   rw [show eqI ((i + 1 : Nat) : Int) 0 = false by rw [eqI_eq]; exact decide_eq_false (by omega), cond_false, show (((i + 1 : Nat) : Int) - 1).toNat = i by omega]
   exact hc
  have hg := Px.gap_len (gs.getD k 0)
  rw [iter, s9_0 h hl hk ho]
  rw [Px.spGo] at hz
  cases q : (eqI (c.toNat : Int) 32 && (!(Px.opens (Px.prevB p i) c r || ins) && ltI (k : Int) gs.length)) with
  | true =>
   rw [q, cond_true] at hz
   exact k9_0 hl r (i + 1) (k + 1) _ _ z hr (by omega) (by rw [List.length_append]; omega) (by rw [hz, hp, List.append_assoc])
  | false =>
   rw [q, cond_false] at hz
   exact k9_0 hl r (i + 1) k _ _ z hr (by omega) (by rw [List.length_append]; simp only [List.length_cons, List.length_nil]; omega) (by rw [hz, hp, List.append_assoc])
theorem m9_0 {p1 p6 p28 : List UInt8} {p29 : Int} {x : (List UInt8) × Int × Bool × Int × Int × Int × Int × (List UInt8) × (List Val) × (List (List UInt8))} {e : Ex} {σ : St E.A} (_ : okLenR (E := E) (.lf (.sl .u8 p1)) = true) (_ : okLenR (E := E) (.lf (.sl .u8 p6)) = true) (_ : okLenR (E := E) (.lf (.own 0 0 .u8 x.1)) = true) (_ : okLenR (E := E) (.lf (.sl .u8 p28)) = true) (_ : okLenO (E := E) (.cells 30 [.int .u8 x.2.2.2.2.1, .int .i64 x.2.2.2.2.2.1, .int .i64 x.2.2.2.2.2.2.1, .str x.2.2.2.2.2.2.2.1, .sl .val x.2.2.2.2.2.2.2.2.1, .sl .str x.2.2.2.2.2.2.2.2.2]) = true)
  (h : (lam9_0 p1 p6 p28 p29 x).get = some (e, σ)) : ∃ fuel, iter (t9_0 p1 p6 p28 p29) fuel x = some (e, σ) ∧ e ≠ .normal := by
 obtain ⟨out, k, ins, i, K, M, G, T, L, KS⟩ := x
 unfold lam9_0 at h
 rcases Tree.get_ite_some h with ⟨h1, h'⟩ | ⟨_, h'⟩
 ·simp only [eqI_eq, leI_eq, Bool.and_eq_true, decide_eq_true_eq, Px.same] at h1
  obtain ⟨⟨⟨⟨⟨⟨⟨rfl, rfl⟩, h3⟩, h4⟩, h5⟩, h6⟩, h7⟩, h8⟩ := h1
  obtain ⟨i, rfl⟩ : ∃ j : Nat, i = (j : Int) := ⟨i.toNat, by omega⟩
  obtain ⟨k, rfl⟩ : ∃ j : Nat, k = (j : Int) := ⟨k.toNat, by omega⟩
  simp only [Int.toNat_natCast, Px.spGo'_eq] at h' h8
  refine ⟨_, (k9_0 (by omega) _ i k ins out _ rfl (by omega) h8 rfl).trans h', ?_⟩
  ·injection h' with h'; injection h' with h6 _; rw [← h6]; intro hh; cases hh
 ·cases h'
def rd9_0 (σ : St E.A) : Tree (Out' E) :=
 let c := clean E (L9_0 .normal) σ
 if c.sl.length = 137 then
 match c.sl.getD 1 .undef, c.sl.getD 5 .undef, c.sl.getD 6 .undef, c.sl.getD 7 .undef, c.sl.getD 8 .undef, c.sl.getD 9 .undef, c.sl.getD 28 .undef, c.sl.getD 29 .undef, c.sl.getD 30 .undef, c.ob 384 with
 | .lf (.sl .u8 p1), .lf (.ptr 384 0 0), .lf (.sl .u8 p6), .lf (.own 0 0 .u8 x7), .lf (.int .i64 x8), .lf (.bool x9), .lf (.sl .u8 p28), .lf (.int .i64 p29), .lf (.int .i64 x30), some (.cells 30 [.int .u8 o384a, .int .i64 o384b, .int .i64 o384c, .str o384d, .sl .val o384e, .sl .str o384f]) => lam9_0 p1 p6 p28 p29 (x7, x8, x9, x30, o384a, o384b, o384c, o384d, o384e, o384f)
 | _, _, _, _, _, _, _, _, _, _ => .fail
 else .fail
theorem ll9_0 (hL : Laws E) (σ : St E.A) (e : Ex) (σ' : St E.A) (h : (rd9_0 σ).get = some (e, σ')) : LoopOK E (lb Go.Proofs.Tryz.f9 0) σ e σ' := by
 refine LoopOK.of_clean hL (L9_0 .normal) ?_
 unfold rd9_0 at h
 simp only at h
 split at h
 ·rename_i hlen
  split at h
  ·rename_i p1 p6 x7 x8 x9 p28 p29 x30 o384a o384b o384c o384d o384e o384f h0 h1 h2 h3 h4 h5 h6 h7 h8 h9
   refine LoopOK.lens 1 (fun g0 => ?_)
   rw [h0] at g0
   refine LoopOK.lens 6 (fun g1 => ?_)
   rw [h2] at g1
   refine LoopOK.lens 7 (fun g2 => ?_)
   rw [h3] at g2
   refine LoopOK.lens 28 (fun g3 => ?_)
   rw [h6] at g3
   refine LoopOK.lensO 384 (fun gg => ?_)
   have g4 := gg _ h9
   obtain ⟨fuel, hi, ho⟩ := m9_0 g0 g1 g2 g3 g4 h
   have hl := loop_at (Γ := G9) (Λ := fun _ _ => .fail) (n := 1) (body := lb Go.Proofs.Tryz.f9 0) hL (hG9 hL) (S := S9_0 p1 p6 p28 p29) (t := t9_0 p1 p6 p28 p29) (Lv := L9_0) (LamOK.none (by kernel_rfl)) (h9_0 p1 p6 p28 p29) hi ho
   refine LoopOK.fit hlen ?_ ?_ rfl rfl hl
   ·exact ⟨h0, h1, h2, h3, h4, h5, h6, h7, h8, trivial⟩
   ·exact ⟨h9, trivial⟩
  ·cases h
 ·cases h
def Lam9 : Lam E | 0, σ => rd9_0 σ | _, _ => .fail
def out9 (a1 P : List UInt8) : List UInt8 := [] ++ Px.spGo' a1 (Px.prevB P (0 : Int)) (List.drop (Int.toNat (0 : Int)) P) (Int.toNat (0 : Int)) false
def et9 (v : Val) : Val := Val.mk (Px.vk v) (Px.vn v) (Px.vg v) (Px.vt v) (Px.vl v) (Px.vs v)
def fin9 (O : List UInt8) (V : Val) : Tree (RV E.A × List (Obj E.A)) :=
 .ite (Px.okAt O (0 : Int))
 (.ite (Px.okAt O (0 : Int) && Px.rSmall O)
 (.ite ((Px.rParse O).2.2 == eqI (Px.oParse O).2.2 (0 : Int))
  (.ite (eqI (Px.oParse O).2.1 (Px.rParse O).2.1)
  (.ite (!(Px.rParse O).2.2)
   (.ite ((Px.rParse O).2.2) (.leaf (.lf (.bool (Px.alike (et9 (Px.oParse O).1) V)), [])) (.leaf (.lf (.bool false), [])))
   (.ite (Px.smallV (et9 (Px.oParse O).1))
   (.ite (Px.alike (et9 (Px.oParse O).1) (et9 (Px.rParse O).1))
    (.ite ((Px.rParse O).2.2) (.leaf (.lf (.bool (Px.alike (et9 (Px.oParse O).1) V)), [])) (.leaf (.lf (.bool false), [])))
    (.leaf (.lf (.bool false), [])))
   .fail))
  (.leaf (.lf (.bool false), [])))
  (.leaf (.lf (.bool false), [])))
 .fail)
 .fail
def w9 (a0 : List (Int × Int × Int × List UInt8 × Int × Bool)) (a1 : List UInt8) : Tree (RV E.A × List (Obj E.A)) := .ite (Px.smallV (et9 (Px.made a0))) (.ite (Px.smallV (et9 (Px.made a0))) (.ite (!Px.okV (0 : Int) (et9 (Px.made a0))) (.leaf (.lf (.bool true), [])) (.ite (!Px.okV (0 : Int) (et9 (Px.made a0))) (fin9 (out9 a1 []) (et9 (Px.made a0))) (.ite (Px.okLay' (1000000 : Nat) (et9 (Px.made a0)) []) (.ite (Px.same (Px.layV' (et9 (Px.made a0))) (Px.layV' (et9 (Px.made a0))) && eqI (↑(Px.layV' (et9 (Px.made a0))).length : Int) (↑(Px.layV' (et9 (Px.made a0))).length : Int) && leI 0 0 && leI 0 (↑(Px.layV' (et9 (Px.made a0))).length : Int) && leI (↑(Px.layV' (et9 (Px.made a0))).length : Int) (1000000 : Int) && leI 0 0 && leI 0 0 && decide (([] : List UInt8).length ≤ 7 * Int.toNat (0 : Int))) (fin9 (out9 a1 (Px.layV' (et9 (Px.made a0)))) (et9 (Px.made a0))) .fail) .fail))) .fail) .fail
theorem e9 (a0 : List (Int × Int × Int × List UInt8 × Int × Bool)) (a1 : List UInt8) : execFun E G9 ((Lam9)) false Go.Proofs.Tryz.f9 [.lf (.sl .bit a0), .lf (.sl .u8 a1)] [] some = (w9 a0 a1).get := by kernel_rfl
def spec9 : Spec E := fun args os => match args, os with | [.lf (.sl .bit a0), .lf (.sl .u8 a1)], [] => w9 a0 a1 | _, _ => .fail
theorem valid9 (hL : Laws E) : Valid E 9 spec9 :=
 valid_of_body hL (hG9 hL) (Λ := (Lam9)) (fn := Go.Proofs.Tryz.f9) (keep := false) (by kernel_rfl) (by kernel_rfl) (by kernel_rfl) ((LamOK.of (m := 1) (by kernel_rfl) (fun j hj σ e σ' hg => by
   match j, hj with
   | 0, _ => exact ll9_0 hL σ e σ' hg
   ))) (fun args os r os' h => by
  unfold spec9 at h
  split at h
  ·exact (e9 _ _).trans h
  ·cases h)
end Go.Vx
namespace Px
open Go.Vx Go
theorem skipN_stop : ∀ (l : List UInt8) (c : Bool), skipN false (l.drop (skipN c l)) = 0
 | [], c => by cases c <;> rfl
 | b :: r, true => by
  rw [skipN, List.drop_succ_cons]
  exact skipN_stop r _
 | b :: r, false => by
  rw [skipN]
  cases q1 : eqI (b.toNat : Int) 37
  ·simp only [cond_false]
   cases q2 : blank (b.toNat : Int)
   ·simp only [cond_false, List.drop_zero]
    rw [skipN, q1, q2]; rfl
   ·simp only [cond_true, List.drop_succ_cons]
    exact skipN_stop r false
  ·simp only [cond_true, List.drop_succ_cons]
   exact skipN_stop r true
theorem skipI_eq {p : List UInt8} {i : Int} (h : okAt p i = true) : skipI p i = i + (skipN false (p.drop i.toNat) : Int) := by
 obtain ⟨h0, h1, _⟩ := okAt_iff.1 h
 have e : (ltI i 0 || ltI (p.length : Int) i) = false := by
  rw [Bool.or_eq_false_iff, ltI_eq, ltI_eq]; exact ⟨decide_eq_false (by omega), decide_eq_false (by omega)⟩
 unfold skipI
 rw [e]; rfl
theorem skipI_idem {p : List UInt8} {i : Int} (h : okAt p i = true) : skipI p (skipI p i) = skipI p i := by
 have h1 := ok_skip h
 rw [skipI_eq h1]
 have e : p.drop (skipI p i).toNat = (p.drop i.toNat).drop (skipN false (p.drop i.toNat)) := by
  rw [List.drop_drop, skipI_eq h]
  congr 1
  have := (okAt_iff.1 h).1
  omega
 rw [e, skipN_stop]
 omega
theorem pre_end {p : List UInt8} {s : Int} {c : UInt8} {r : List UInt8} (h : (p.length : Int) ≤ s) : preAt p s (c :: r) = false := by
 unfold preAt hasPre
 rw [List.drop_eq_nil_of_le (by omega)]
 rfl
theorem word_end {p : List UInt8} {s : Int} (h : (p.length : Int) ≤ s) : wordS p s = [] := by
 unfold wordS
 rw [List.drop_eq_nil_of_le (by omega)]
 rfl
theorem word_stop {p : List UInt8} {s : Int} (h0 : 0 ≤ s) (h1 : s < p.length) (h : stopB (p.getD s.toNat 0) = true) : wordS p s = [] := by
 obtain ⟨n, rfl⟩ : ∃ j : Nat, s = (j : Int) := ⟨s.toNat, by omega⟩
 have hn : n < p.length := by omega
 rw [Int.toNat_natCast] at h
 unfold wordS
 rw [Int.toNat_natCast, drop_cons p 0 n hn, wordN, h]
 rfl
theorem plain_hash {s : List UInt8} (h : plain s = true) : leI 0 (Lib.indexByte s 35) = false := by
 unfold plain at h
 rw [Bool.and_eq_true, Bool.not_eq_true', Bool.not_eq_true'] at h
 have h2 := h.2
 unfold anyBad at h2
 rw [List.any_eq_false] at h2
 have : Lib.indexByte s 35 = -1 := indexByte_none (fun b hb hh => by
  subst hh
  exact h2 35 hb (by decide))
 rw [this]; rfl
theorem oName_eq (p : List UInt8) (i : Int) : (eqI (oName p i).2.1 0 = plain (wordS p i)) ∧ (plain (wordS p i) = true → oName p i = (wordS p i, 0, wordE p i)) := by
 unfold oName
 cases q : plain (wordS p i)
 ·refine ⟨?_, fun h => by cases h⟩
  cases leI 0 (Lib.indexByte (wordS p i) 35) <;> rfl
 ·rw [plain_hash q]
  exact ⟨rfl, fun _ => rfl⟩
theorem smallL_app : ∀ (l : List Val) (v : Val), smallL l = true → smallV v = true → smallL (l ++ [v]) = true
 | [], v, _, hv => by rw [List.nil_append, smallL, hv]; rfl
 | a :: l, v, h, hv => by
  rw [smallL, Bool.and_eq_true] at h
  rw [List.cons_append, smallL, h.1, smallL_app l v h.2 hv]; rfl
end Px
namespace Px
open Go.Vx Go
def At (p : List UInt8) (i : Int) (r : List UInt8) : Prop := okAt p i = true ∧ p.drop i.toNat = r
def sk (l : List UInt8) : List UInt8 := l.drop (skipN false l)
def wd (l : List UInt8) : List UInt8 := l.take (wordN l)
def wr (l : List UInt8) : List UInt8 := l.drop (wordN l)
theorem At.len {p : List UInt8} {i : Int} {r : List UInt8} (h : At p i r) : (p.length : Int) = i + r.length := by
 obtain ⟨h1, h2⟩ := h
 obtain ⟨h3, h4, _⟩ := okAt_iff.1 h1
 rw [← h2, List.length_drop]; omega
theorem At.mk {p : List UInt8} {i : Int} {r : List UInt8} (h : okAt p i = true) (hr : p.drop i.toNat = r) : At p i r := ⟨h, hr⟩
theorem At.start {p : List UInt8} (h : p.length ≤ 1000000) : At p 0 p := ⟨okAt_iff.2 ⟨by omega, by omega, h⟩, rfl⟩
theorem At.step {p : List UInt8} {i : Int} {a r : List UInt8} (h : At p i (a ++ r)) : At p (i + (a.length : Int)) r := by
 have hl := h.len
 obtain ⟨h1, h2⟩ := h
 obtain ⟨h3, h4, h5⟩ := okAt_iff.1 h1
 rw [List.length_append] at hl
 refine ⟨okAt_iff.2 ⟨by omega, by omega, h5⟩, ?_⟩
 have e : (i + (a.length : Int)).toNat = i.toNat + a.length := by omega
 rw [e, ← List.drop_drop, h2, List.drop_left]
theorem At.skip {p : List UInt8} {i : Int} {r : List UInt8} (h : At p i r) : At p (skipI p i) (sk r) ∧ skipI p i = i + (skipN false r : Int) := by
 have e := skipI_eq h.1
 rw [h.2] at e
 have hle := skipN_le r false
 have ha : At p i (r.take (skipN false r) ++ r.drop (skipN false r)) := by rw [List.take_append_drop]; exact h
 have hs := ha.step
 rw [List.length_take, Nat.min_eq_left hle] at hs
 rw [e]
 exact ⟨hs, rfl⟩
theorem At.word {p : List UInt8} {i : Int} {r : List UInt8} (h : At p i r) : wordS p i = wd r ∧ At p (wordE p i) (wr r) ∧ wordE p i = i + (wordN r : Int) := by
 have e : wordE p i = i + (wordN r : Int) := by unfold wordE; rw [h.2]
 have hle := wordN_le r
 have ha : At p i (r.take (wordN r) ++ r.drop (wordN r)) := by rw [List.take_append_drop]; exact h
 have hs := ha.step
 rw [List.length_take, Nat.min_eq_left hle] at hs
 refine ⟨?_, by rw [e]; exact hs, e⟩
 unfold wordS wd; rw [h.2]
theorem At.pre {p : List UInt8} {i : Int} {r : List UInt8} (h : At p i r) (s : List UInt8) : preAt p i s = hasPre r s := by unfold preAt; rw [h.2]
theorem pre_self (s r : List UInt8) : hasPre (s ++ r) s = true := decide_eq_true (by rw [List.take_left' rfl])
theorem pre_ne {b c : UInt8} {r s : List UInt8} (h : b ≠ c) : hasPre (b :: r) (c :: s) = false := decide_eq_false (by
 intro hh
 rw [List.length_cons, List.take_succ_cons] at hh
 injection hh with h1 _
 exact h h1)
def solid (b : UInt8) : Bool := !(eqI (b.toNat : Int) 37) && !(blank (b.toNat : Int))
theorem skip_solid {b : UInt8} {r : List UInt8} (h : solid b = true) : skipN false (b :: r) = 0 := by
 unfold solid at h
 rw [Bool.and_eq_true, Bool.not_eq_true', Bool.not_eq_true'] at h
 rw [skipN, h.1, h.2]; rfl
theorem sk_solid {b : UInt8} {r : List UInt8} (h : solid b = true) : sk (b :: r) = b :: r := by unfold sk; rw [skip_solid h]; rfl
def firm (l : List UInt8) : Prop := skipN false l = 0
theorem firm_cons {b : UInt8} {r : List UInt8} (h : solid b = true) : firm (b :: r) := skip_solid h
theorem At.firm {p : List UInt8} {i : Int} {r : List UInt8} (h : At p i r) (hf : firm r) : skipI p i = i := by
 have := h.skip.2
 unfold Px.firm at hf
 rw [hf] at this; omega
def ends (l : List UInt8) : Prop := wordN l = 0
theorem ends_cons {b : UInt8} {r : List UInt8} (h : stopB b = true) : ends (b :: r) := by unfold ends; rw [wordN, h]; rfl
theorem word_app : ∀ {w r : List UInt8}, (∀ b ∈ w, stopB b = false) → ends r → wordN (w ++ r) = w.length
 | [], r, _, h => h
 | b :: w, r, hw, h => by
  rw [List.cons_append, wordN, hw b List.mem_cons_self, cond_false, word_app (fun c hc => hw c (List.mem_cons_of_mem _ hc)) h, List.length_cons]
theorem wd_app {w r : List UInt8} (hw : ∀ b ∈ w, stopB b = false) (h : ends r) : wd (w ++ r) = w ∧ wr (w ++ r) = r := by
 unfold wd wr
 rw [word_app hw h]
 exact ⟨List.take_left' rfl, List.drop_left' rfl⟩
theorem value_word {m : Nat} {p : List UInt8} {i : Int} {b : UInt8} {r : List UInt8} (h : At p i (b :: r)) (hs : solid b = true) (h1 : b ≠ 60) (h2 : b ≠ 91) (h3 : b ≠ 40) (h4 : b ≠ 47) : oValueF (m + 1) p i = oWord p i := by
 have hf := h.firm (firm_cons hs)
 rw [oValueF, hf, hf, hf, hf, hf, h.pre, h.pre, h.pre, h.pre, h.pre, pre_ne h1, pre_ne h1, pre_ne h2, pre_ne h3, pre_ne h4]
 rfl
theorem dv_app : ∀ (l m : List UInt8) (a : Nat), dv a (l ++ m) = dv (dv a l) m
 | [], m, a => rfl
 | b :: l, m, a => by rw [List.cons_append, dv, dv]; exact dv_app l m _
theorem dig_of {d : Nat} (h : d < 10) : isDig (UInt8.ofNat (48 + d)) = true ∧ dg (UInt8.ofNat (48 + d)) = d := by
 have e : (UInt8.ofNat (48 + d)).toNat = 48 + d := by rw [UInt8.toNat_ofNat']; omega
 exact ⟨(isDig_iff _).2 (by omega), by rw [dg_eq, e]; omega⟩
theorem digits_all (u : Nat) : allDig (Lib.decDigits u) = true := by
 induction u using Nat.strongRecOn with
 | ind u ih =>
  rw [Lib.decDigits]
  split
  ·rename_i h
   unfold allDig; rw [List.all_cons, (dig_of h).1]; rfl
  ·have := ih (u / 10) (by omega)
   unfold allDig at this ⊢
   rw [List.all_append, this, List.all_cons, (dig_of (Nat.mod_lt u (by decide))).1]; rfl
theorem digits_ne (u : Nat) : Lib.decDigits u ≠ [] := by
 rw [Lib.decDigits]
 split
 ·intro h; cases h
 ·intro h; rw [List.append_eq_nil_iff] at h; cases h.2
theorem digits_dv (u : Nat) : dv 0 (Lib.decDigits u) = u := by
 induction u using Nat.strongRecOn with
 | ind u ih =>
  rw [Lib.decDigits]
  split
  ·rename_i h
   rw [dv, dv, (dig_of h).2]; omega
  ·rw [dv_app, ih (u / 10) (by omega), dv, dv, (dig_of (Nat.mod_lt u (by decide))).2]; omega
theorem numRun_of {l : List UInt8} (h : dv 0 l ≤ 9223372036854775808) : numRun 0 l = some (dv 0 l) := by
 cases hr : numRun 0 l with
 | none => have := numRun_none l 0 hr; omega
 | some u => rw [numRun_some l 0 u hr]
theorem dig_sign {l : List UInt8} (h : allDig l = true) : minusB l = false ∧ plusB l = false := by
 cases l with
 | nil => exact ⟨rfl, rfl⟩
 | cons b r =>
  unfold allDig at h
  rw [List.all_cons, Bool.and_eq_true, isDig_iff] at h
  constructor
  ·unfold minusB; rw [Bool.eq_false_iff, ne_eq, Nat.beq_eq]; omega
  ·unfold plusB; rw [Bool.eq_false_iff, ne_eq, Nat.beq_eq]; omega
theorem bare_digits {l : List UInt8} (h : allDig l = true) : bare1 l = l := by
 unfold bare1; rw [(dig_sign h).1, (dig_sign h).2]; rfl
theorem num_plain {l : List UInt8} (h : allDig l = true) (hn : l ≠ []) (hv : dv 0 l ≤ 9223372036854775807) : numOk l = true ∧ numV l = (dv 0 l : Int) := by
 have e : refNum l = ((dv 0 l : Int), true) := by
  unfold refNum
  rw [bare_digits h, (digs_iff l).2 ⟨hn, h⟩, cond_true, numRun_of (by omega), (dig_sign h).1]
  have b1 : Nat.blt 9223372036854775808 (dv 0 l) = false := by rw [Bool.eq_false_iff]; intro hh; have := Nat.le_of_ble_eq_true hh; omega
  have b2 : Nat.beq (dv 0 l) 9223372036854775808 = false := by rw [Bool.eq_false_iff, ne_eq, Nat.beq_eq]; omega
  simp only [b1, b2]; rfl
 unfold numOk numV
 rw [e]; exact ⟨rfl, rfl⟩
theorem num_minus {l : List UInt8} (h : allDig l = true) (hn : l ≠ []) (hv : dv 0 l ≤ 9223372036854775808) : numOk (45 :: l) = true ∧ numV (45 :: l) = -(dv 0 l : Int) := by
 have e : refNum (45 :: l) = (-(dv 0 l : Int), true) := by
  unfold refNum
  rw [show bare1 (45 :: l) = l from rfl, (digs_iff l).2 ⟨hn, h⟩, cond_true, numRun_of hv, show minusB (45 :: l) = true from rfl]
  have b1 : Nat.blt 9223372036854775808 (dv 0 l) = false := by rw [Bool.eq_false_iff]; intro hh; have := Nat.le_of_ble_eq_true hh; omega
  simp only [b1]; simp
 unfold numOk numV
 rw [e]; exact ⟨rfl, rfl⟩
theorem itoa_num {n : Int} (h : inRb .i64 n = true) : numOk (Lib.itoa n) = true ∧ numV (Lib.itoa n) = n := by
 have hr : -9223372036854775808 ≤ n ∧ n ≤ 9223372036854775807 := by rw [inRb_iff] at h; exact h
 unfold Lib.itoa
 split
 ·have := num_minus (digits_all n.natAbs) (digits_ne _) (by rw [digits_dv]; omega)
  rw [digits_dv] at this
  exact ⟨this.1, by rw [this.2]; omega⟩
 ·have := num_plain (digits_all n.toNat) (digits_ne _) (by rw [digits_dv]; omega)
  rw [digits_dv] at this
  exact ⟨this.1, by rw [this.2]; omega⟩
theorem dig_stop {b : UInt8} (h : isDig b = true) : stopB b = false ∧ solid b = true ∧ b ≠ 60 ∧ b ≠ 91 ∧ b ≠ 40 ∧ b ≠ 47 := by
 have := all_u8 (q := fun b => !isDig b || (!stopB b && (solid b && (!decide (b = 60) && (!decide (b = 91) && (!decide (b = 40) && !decide (b = 47))))))) (by kernel_rfl) b
 rw [h] at this
 simpa using this
def numB (b : UInt8) : Bool := isDig b || decide (b = 43) || decide (b = 45)
theorem numB_stop {b : UInt8} (h : numB b = true) : stopB b = false ∧ solid b = true ∧ b ≠ 60 ∧ b ≠ 91 ∧ b ≠ 40 ∧ b ≠ 47 := by
 unfold numB at h
 rw [Bool.or_eq_true, Bool.or_eq_true, decide_eq_true_eq, decide_eq_true_eq] at h
 rcases h with (h | rfl) | rfl
 ·exact dig_stop h
 ·exact ⟨rfl, rfl, by decide, by decide, by decide, by decide⟩
 ·exact ⟨rfl, rfl, by decide, by decide, by decide, by decide⟩
theorem all_numB {l : List UInt8} (h : allDig l = true) : ∀ b ∈ l, numB b = true := fun b hb => by
 unfold numB; rw [List.all_eq_true.1 h b hb]; rfl
theorem itoa_numB (n : Int) : ∀ b ∈ Lib.itoa n, numB b = true := by
 intro b hb
 unfold Lib.itoa at hb
 split at hb
 ·rcases List.mem_cons.1 hb with rfl | hb
  ·rfl
  ·exact all_numB (digits_all _) b hb
 ·exact all_numB (digits_all _) b hb
theorem itoa_ne (n : Int) : Lib.itoa n ≠ [] := by
 unfold Lib.itoa
 split
 ·intro h; cases h
 ·exact digits_ne _
theorem num_words {w : List UInt8} (h : ∀ b ∈ w, numB b = true) : w ≠ wNull ∧ w ≠ wTrue ∧ w ≠ wFalse ∧ w ≠ [82] := by
 refine ⟨fun hh => ?_, fun hh => ?_, fun hh => ?_, fun hh => ?_⟩ <;> subst hh
 ·exact absurd (h 110 List.mem_cons_self) (by decide)
 ·exact absurd (h 116 List.mem_cons_self) (by decide)
 ·exact absurd (h 102 List.mem_cons_self) (by decide)
 ·exact absurd (h 82 List.mem_cons_self) (by decide)
theorem word_num {m : Nat} {p : List UInt8} {i : Int} {w r : List UInt8} (h : At p i (w ++ r)) (hw : ∀ b ∈ w, numB b = true) (hn : w ≠ []) (he : ends r) :
  oValueF (m + 1) p i = cond (numOk w) (refV 2147483647 p (i + (w.length : Int)) w, 0, refE p (i + (w.length : Int)) w) (v0, numE w, i) := by
 have hst : ∀ b ∈ w, stopB b = false := fun b hb => (numB_stop (hw b hb)).1
 obtain ⟨h1, h2, h3⟩ := h.word
 rw [(wd_app hst he).1] at h1
 rw [word_app hst he] at h3
 obtain ⟨n1, n2, n3, _⟩ := num_words hw
 have hv : oValueF (m + 1) p i = oWord p i := by
  cases w with
  | nil => exact absurd rfl hn
  | cons b w =>
   obtain ⟨_, hs, g1, g2, g3, g4⟩ := numB_stop (hw b List.mem_cons_self)
   exact value_word h hs g1 g2 g3 g4
 rw [hv]
 unfold oWord
 rw [h1, h3, decide_eq_false n1, decide_eq_false n2, decide_eq_false n3]
 rfl
end Px
namespace Px
open Go.Vx Go
end Px
namespace Px
open Go.Vx Go
theorem hd_fact {k : Nat} (h : k < 16) : hv (hd k) = k ∧ blank ((hd k).toNat : Int) = false ∧ eqI ((hd k).toNat : Int) 62 = false ∧ hd k ≠ 60 ∧ hd k ≠ 32 := by
 have := all_nat (m := 16) (q := fun k => Nat.beq (hv (hd k)) k && (!blank ((hd k).toNat : Int) && (!eqI ((hd k).toNat : Int) 62 && (!decide (hd k = 60) && !decide (hd k = 32))))) (by kernel_rfl) h
 simp only [Bool.and_eq_true, Bool.not_eq_true', decide_eq_false_iff_not, Nat.beq_eq] at this
 exact this
theorem text_hexs : ∀ (t out : List UInt8), textRun (2 * out.length, out) (hexs t) = some (2 * (out ++ t).length, out ++ t)
 | [], out => by rw [hexs, textRun, List.append_nil]
 | b :: r, out => by
  have bl := b.toNat_lt
  obtain ⟨a1, a2, _⟩ := hd_fact (k := b.toNat / 16) (by omega)
  obtain ⟨c1, c2, _⟩ := hd_fact (k := b.toNat % 16) (by omega)
  have e0 : Nat.beq (2 * out.length % 2) 0 = true := by rw [Nat.beq_eq]; omega
  have e1 : Nat.beq ((2 * out.length + 1) % 2) 0 = false := by rw [Bool.eq_false_iff, ne_eq, Nat.beq_eq]; omega
  have b1 : Nat.blt (b.toNat / 16) 16 = true := Nat.ble_eq ▸ (by omega : b.toNat / 16 + 1 ≤ 16)
  have b2 : Nat.blt (b.toNat % 16) 16 = true := Nat.ble_eq ▸ (by omega : b.toNat % 16 + 1 ≤ 16)
  have s1 : textStep (2 * out.length, out) (hd (b.toNat / 16)) = some (2 * out.length + 1, out ++ [UInt8.ofNat (16 * (b.toNat / 16))]) := by
   unfold textStep
   simp only [a1, a2, b1, e0, cond_true, cond_false]
  have e2 : (2 * out.length + 1) / 2 = out.length := by omega
  have e3 : (UInt8.ofNat (16 * (b.toNat / 16))).toNat = 16 * (b.toNat / 16) := by rw [UInt8.toNat_ofNat']; omega
  have e4 : UInt8.ofNat (16 * (b.toNat / 16) + b.toNat % 16) = b := by
   apply UInt8.toNat_inj.1
   rw [UInt8.toNat_ofNat']; omega
  have s2 : textStep (2 * out.length + 1, out ++ [UInt8.ofNat (16 * (b.toNat / 16))]) (hd (b.toNat % 16)) = some (2 * (out ++ [b]).length, out ++ [b]) := by
   unfold textStep
   simp only [c1, c2, b2, e1, e2, cond_true, cond_false]
   have g : (out ++ [UInt8.ofNat (16 * (b.toNat / 16))]).getD out.length 0 = UInt8.ofNat (16 * (b.toNat / 16)) := by simp [List.getD]
   rw [g, e3, e4, List.set_append_right _ _ (Nat.le_refl _), Nat.sub_self, List.length_append]
   rfl
  rw [hexs, textRun, s1]
  simp only
  rw [textRun, s2]
  simp only
  rw [text_hexs r (out ++ [b]), List.append_assoc]
  rfl
theorem text_of (t : List UInt8) : textIs (hexs t) = true ∧ textOut (hexs t) = t := by
 have h := text_hexs t []
 have h : textGo (hexs t) = some (2 * ([] ++ t).length, [] ++ t) := h
 unfold textIs textOut
 rw [h]
 exact ⟨rfl, rfl⟩
theorem hexs_gt : ∀ (t r : List UInt8), gtN (hexs t ++ 62 :: r) = (hexs t).length
 | [], r => rfl
 | b :: t, r => by
  have bl := b.toNat_lt
  obtain ⟨_, _, a, _⟩ := hd_fact (k := b.toNat / 16) (by omega)
  obtain ⟨_, _, c, _⟩ := hd_fact (k := b.toNat % 16) (by omega)
  rw [hexs, List.cons_append, List.cons_append, gtN, a, cond_false, gtN, c, cond_false, hexs_gt t r]
  rfl
theorem hexs_head (t r : List UInt8) : ∃ c l, hexs t ++ 62 :: r = c :: l ∧ c ≠ 60 := by
 cases t with
 | nil => exact ⟨62, r, rfl, by decide⟩
 | cons b t => exact ⟨_, _, rfl, (hd_fact (k := b.toNat / 16) (by have := b.toNat_lt; omega)).2.2.2.1⟩
def Gap (g : List UInt8) : Prop := ends g ∧ g ≠ [] ∧ ∀ l, firm l → skipN false (g ++ l) = g.length
theorem Gap.ends {g : List UInt8} (h : Gap g) (r : List UInt8) : ends (g ++ r) := by
 obtain ⟨h1, h2, _⟩ := h
 cases g with
 | nil => exact absurd rfl h2
 | cons b g =>
  unfold Px.ends at h1 ⊢
  rw [wordN] at h1
  rw [List.cons_append, wordN]
  cases q : stopB b
  ·rw [q] at h1; cases h1
  ·rfl
theorem Gap.sk {g r : List UInt8} (h : Gap g) (hr : firm r) : sk (g ++ r) = r := by
 unfold Px.sk; rw [h.2.2 r hr, List.drop_left]
mutual
def Laid : Val → List UInt8 → Prop
 | .mk k n g t l ks, s => (k = 0 → s = wNull) ∧ (k = 1 → s = cond (eqI n 1) wTrue wFalse) ∧ (k = 2 → s = Lib.itoa n) ∧ (k = 3 → s = 47 :: t) ∧ (k = 4 → s = 60 :: (hexs t ++ [62])) ∧
  (k = 7 → ∃ g1 g2, Gap g1 ∧ Gap g2 ∧ s = Lib.itoa n ++ (g1 ++ (Lib.itoa g ++ (g2 ++ [82])))) ∧
  (k = 5 → ∃ b, Lays false true l [] b ∧ s = 91 :: (b ++ [93])) ∧ (k = 6 → ∃ b, Lays true true l ks b ∧ s = 60 :: 60 :: (b ++ [62, 62]))
def Lays (d : Bool) : Bool → List Val → List (List UInt8) → List UInt8 → Prop
 | _, [], _, b => b = []
 | fst, v :: r, ks, b => ∃ g1 g2 s b', cond fst (g1 = []) (Gap g1) ∧ (d = true → Gap g2) ∧ Laid v s ∧ Lays d false r ks.tail b' ∧ b = g1 ++ (cond d (47 :: (ks.headD [] ++ g2)) [] ++ (s ++ b'))
end
def After (r : List UInt8) : Prop := ends r ∧ wd (sk r) ≠ [82] ∧ ¬ (digs (wd (sk r)) = true ∧ wd (sk (wr (sk r))) = [82])
theorem itoa_head (n : Int) : ∃ b r, Lib.itoa n = b :: r ∧ numB b = true := by
 cases h : Lib.itoa n with
 | nil => exact absurd h (itoa_ne n)
 | cons b r => exact ⟨b, r, rfl, itoa_numB n b (by rw [h]; exact List.mem_cons_self)⟩
theorem kinds {k n g : Int} {t : List UInt8} {l : Nat} {ks : List (List UInt8)} (h : locB k n g t l ks = true) (h0 : 0 ≤ k) : k = 0 ∨ k = 1 ∨ k = 2 ∨ k = 3 ∨ k = 4 ∨ k = 5 ∨ k = 6 ∨ k = 7 := by
 unfold locB at h
 rw [Bool.and_eq_true, leI_eq, decide_eq_true_eq] at h
 omega
end Px
namespace Px
open Go.Vx Go
theorem laid_head {v : Val} {s : List UInt8} (h : Laid v s) (hr : rR v = true) (h0 : 0 ≤ vk v) : ∃ b r, s = b :: r ∧ solid b = true ∧ b ≠ 93 ∧ b ≠ 62 := by
 obtain ⟨k, n, g, t, l, ks⟩ := v
 rw [rR, Bool.and_eq_true] at hr
 rw [Laid] at h
 obtain ⟨a0, a1, a2, a3, a4, a7, a5, a6⟩ := h
 have hn : ∀ b, numB b = true → solid b = true ∧ b ≠ 93 ∧ b ≠ 62 := fun b hb => by
  refine ⟨(numB_stop hb).2.1, fun e => ?_, fun e => ?_⟩ <;> subst e <;> cases hb
 rcases kinds hr.1 h0 with rfl | rfl | rfl | rfl | rfl | rfl | rfl | rfl
 ·rw [a0 rfl]; exact ⟨110, _, rfl, rfl, by decide, by decide⟩
 ·rw [a1 rfl]
  cases eqI n 1
  ·exact ⟨102, _, rfl, rfl, by decide, by decide⟩
  ·exact ⟨116, _, rfl, rfl, by decide, by decide⟩
 ·obtain ⟨b, r, e, hb⟩ := itoa_head n
  rw [a2 rfl, e]; exact ⟨b, r, rfl, hn b hb⟩
 ·rw [a3 rfl]; exact ⟨47, _, rfl, rfl, by decide, by decide⟩
 ·rw [a4 rfl]; exact ⟨60, _, rfl, rfl, by decide, by decide⟩
 ·obtain ⟨b, _, e⟩ := a5 rfl
  rw [e]; exact ⟨91, _, rfl, rfl, by decide, by decide⟩
 ·obtain ⟨b, _, e⟩ := a6 rfl
  rw [e]; exact ⟨60, _, rfl, rfl, by decide, by decide⟩
 ·obtain ⟨g1, g2, _, _, e⟩ := a7 rfl
  obtain ⟨b, r, e2, hb⟩ := itoa_head n
  rw [e, e2]; exact ⟨b, _, rfl, hn b hb⟩
theorem ends_word {b : UInt8} {r : List UInt8} (h : stopB b = true) : wd (b :: r) = [] := by unfold wd; rw [ends_cons h]; rfl
theorem laid_word {v : Val} {s T : List UInt8} (h : Laid v s) (hr : rR v = true) (h0 : 0 ≤ vk v) (hT : ends T) (hT2 : wd (sk T) ≠ [82]) :
  wd (s ++ T) ≠ [82] ∧ (digs (wd (s ++ T)) = true → wd (sk (wr (s ++ T))) ≠ [82]) := by
 obtain ⟨k, n, g, t, l, ks⟩ := v
 rw [rR, Bool.and_eq_true] at hr
 rw [Laid] at h
 obtain ⟨a0, a1, a2, a3, a4, a7, a5, a6⟩ := h
 have mark : ∀ (b : UInt8) (r : List UInt8), stopB b = true → wd (b :: r) ≠ [82] ∧ (digs (wd (b :: r)) = true → wd (sk (wr (b :: r))) ≠ [82]) := fun b r hb => by
  rw [ends_word hb]
  exact ⟨fun e => (by cases e), fun e => (by cases e)⟩
 have word : ∀ (w : List UInt8), (∀ b ∈ w, stopB b = false) → w ≠ [82] → digs w = false → wd (w ++ T) ≠ [82] ∧ (digs (wd (w ++ T)) = true → wd (sk (wr (w ++ T))) ≠ [82]) := fun w hw h1 h2 => by
  rw [(wd_app hw hT).1, h2]
  exact ⟨h1, fun e => (by cases e)⟩
 have hst : ∀ m : Int, ∀ b ∈ Lib.itoa m, stopB b = false := fun m b hb => (numB_stop (itoa_numB m b hb)).1
 rcases kinds hr.1 h0 with rfl | rfl | rfl | rfl | rfl | rfl | rfl | rfl
 ·rw [a0 rfl]; exact word wNull (by decide) (by decide) (by decide)
 ·rw [a1 rfl]
  cases eqI n 1
  ·exact word wFalse (by decide) (by decide) (by decide)
  ·exact word wTrue (by decide) (by decide) (by decide)
 ·rw [a2 rfl, (wd_app (hst n) hT).1, (wd_app (hst n) hT).2]
  exact ⟨(num_words (itoa_numB n)).2.2.2, fun _ => hT2⟩
 ·rw [a3 rfl]; exact mark 47 _ rfl
 ·rw [a4 rfl]; exact mark 60 _ rfl
 ·obtain ⟨b, _, e⟩ := a5 rfl
  rw [e]; exact mark 91 _ rfl
 ·obtain ⟨b, _, e⟩ := a6 rfl
  rw [e]; exact mark 60 _ rfl
 ·obtain ⟨g1, g2, hg1, hg2, e⟩ := a7 rfl
  have e1 : s ++ T = Lib.itoa n ++ (g1 ++ (Lib.itoa g ++ (g2 ++ [82] ++ T))) := by rw [e]; simp only [List.append_assoc]
  obtain ⟨b, r, e2, hb⟩ := itoa_head g
  have hf : firm (Lib.itoa g ++ (g2 ++ [82] ++ T)) := by rw [e2]; exact firm_cons (numB_stop hb).2.1
  have he : ends (g2 ++ [82] ++ T) := by rw [List.append_assoc]; exact hg2.ends _
  rw [e1, (wd_app (hst n) (hg1.ends _)).1, (wd_app (hst n) (hg1.ends _)).2, hg1.sk hf, (wd_app (hst g) he).1]
  exact ⟨(num_words (itoa_numB n)).2.2.2, fun _ => (num_words (itoa_numB g)).2.2.2⟩
def endOf (d : Bool) : List UInt8 := cond d [62, 62] [93]
theorem endOf_head (d : Bool) : ∃ b r, endOf d = b :: r ∧ solid b = true ∧ stopB b = true ∧ b ≠ 47 := by
 cases d
 ·exact ⟨93, [], rfl, rfl, rfl, by decide⟩
 ·exact ⟨62, [62], rfl, rfl, rfl, by decide⟩
theorem tail_word (d : Bool) : ∀ (l : List Val) (ks : List (List UInt8)) (b rest : List UInt8), Lays d false l ks b → rRs l = true → (∀ v ∈ l, 0 ≤ vk v) →
  ends (b ++ (endOf d ++ rest)) ∧ wd (sk (b ++ (endOf d ++ rest))) ≠ [82] ∧ (digs (wd (sk (b ++ (endOf d ++ rest)))) = true → wd (sk (wr (sk (b ++ (endOf d ++ rest))))) ≠ [82])
 | [], ks, b, rest, h, _, _ => by
  rw [Lays] at h
  subst h
  obtain ⟨c, r, e, hs, hc, _⟩ := endOf_head d
  rw [List.nil_append, e, List.cons_append, sk_solid hs, ends_word hc]
  exact ⟨ends_cons hc, fun e => (by cases e), fun e => (by cases e)⟩
 | v :: r, ks, b, rest, h, hr, h0 => by
  rw [Lays] at h
  obtain ⟨g1, g2, s, b', hg1, hg2, hv, hl, rfl⟩ := h
  rw [rRs, Bool.and_eq_true] at hr
  obtain ⟨i1, i2, _⟩ := tail_word d r ks.tail b' rest hl hr.2 (fun v hv => h0 v (List.mem_cons_of_mem _ hv))
  have hg1 : Gap g1 := hg1
  have hv0 := h0 v List.mem_cons_self
  rw [List.append_assoc]
  refine ⟨hg1.ends _, ?_⟩
  cases d with
  | true =>
   simp only [cond_true, List.cons_append]
   rw [hg1.sk (firm_cons rfl), ends_word rfl]
   exact ⟨fun e => (by cases e), fun e => (by cases e)⟩
  | false =>
   simp only [cond_false, List.nil_append, List.append_assoc]
   obtain ⟨c, q, e, hs, _⟩ := laid_head hv hr.1 hv0
   have hf : firm (s ++ (b' ++ (endOf false ++ rest))) := by rw [e]; exact firm_cons hs
   rw [hg1.sk hf]
   exact laid_word hv hr.1 hv0 i1 i2
theorem tail_after {d : Bool} {l : List Val} {ks : List (List UInt8)} {b rest : List UInt8} (h : Lays d false l ks b) (hr : rRs l = true) (h0 : ∀ v ∈ l, 0 ≤ vk v) : After (b ++ (endOf d ++ rest)) := by
 obtain ⟨h1, h2, h3⟩ := tail_word d l ks b rest h hr h0
 exact ⟨h1, h2, fun ⟨a, b⟩ => h3 a b⟩
theorem value_skip {m : Nat} {p : List UInt8} {i : Int} (h : okAt p i = true) : oValueF (m + 1) p i = oValueF (m + 1) p (skipI p i) := by
 have e := skipI_idem h
 rw [oValueF, oValueF]
 simp only [e]
theorem At.same {p : List UInt8} {i j : Int} {r : List UInt8} (h : At p i r) (k : At p j r) : i = j := by
 have := h.len; have := k.len; omega
theorem plain_stop {t : List UInt8} (h : plain t = true) : ∀ b ∈ t, stopB b = false := by
 unfold plain at h
 rw [Bool.and_eq_true, Bool.not_eq_true', Bool.not_eq_true'] at h
 have h2 := h.2
 unfold anyBad at h2
 rw [List.any_eq_false] at h2
 intro b hb
 have h3 := h2 b hb
 have := all_u8 (q := fun b => badB b || !stopB b) (by kernel_rfl) b
 simp only [Bool.or_eq_true, Bool.not_eq_true'] at this
 rcases this with h4 | h4
 ·exact absurd h4 h3
 ·exact h4
theorem name_read {p : List UInt8} {i : Int} {t r : List UInt8} (h : At p i (t ++ r)) (ht : plain t = true) (he : ends r) : oName p i = (t, 0, i + (t.length : Int)) := by
 obtain ⟨h1, h2, h3⟩ := h.word
 rw [(wd_app (plain_stop ht) he).1] at h1
 rw [word_app (plain_stop ht) he] at h3
 have := (oName_eq p i).2 (by rw [h1]; exact ht)
 rw [this, h1, h3]
theorem keysGo_plain : ∀ (d ks : List (List UInt8)), keysGo d ks = true → ∀ k ∈ ks, plain k = true
 | _, [], _, k, hk => by cases hk
 | d, x :: r, h, k, hk => by
  rw [keysGo, Bool.and_eq_true, Bool.and_eq_true] at h
  rcases List.mem_cons.1 hk with rfl | hk
  ·exact h.1
  ·exact keysGo_plain _ r h.2.2 k hk
theorem lays_len (d : Bool) : ∀ (l : List Val) (fst : Bool) (ks : List (List UInt8)) (b : List UInt8), Lays d fst l ks b → rRs l = true → (∀ v ∈ l, 0 ≤ vk v) → l.length ≤ b.length
 | [], _, _, _, _, _, _ => Nat.zero_le _
 | v :: r, fst, ks, b, h, hr, h0 => by
  rw [Lays] at h
  obtain ⟨g1, g2, s, b', _, _, hv, hl, rfl⟩ := h
  rw [rRs, Bool.and_eq_true] at hr
  have ih := lays_len d r false ks.tail b' hl hr.2 (fun v hv => h0 v (List.mem_cons_of_mem _ hv))
  obtain ⟨c, q, e, _⟩ := laid_head hv hr.1 (h0 v List.mem_cons_self)
  rw [List.length_append, List.length_append, List.length_append, e, List.length_cons, List.length_cons]
  omega
end Px
namespace Px
open Go.Vx Go
mutual
def inV : Val → Bool | .mk k n _ _ l _ => leI 0 k && (inRb .i64 n && inL l)
def inL : List Val → Bool | [] => true | v :: r => inV v && inL r
end
theorem inV_kind {v : Val} (h : inV v = true) : 0 ≤ vk v := by
 obtain ⟨k, n, g, t, l, ks⟩ := v
 rw [inV, Bool.and_eq_true, leI_eq, decide_eq_true_eq] at h
 exact h.1
theorem inL_kind : ∀ {l : List Val}, inL l = true → ∀ v ∈ l, 0 ≤ vk v
 | [], _, v, hv => by cases hv
 | x :: r, h, v, hv => by
  rw [inL, Bool.and_eq_true] at h
  rcases List.mem_cons.1 hv with rfl | hv
  ·exact inV_kind h.1
  ·exact inL_kind h.2 v hv
theorem bare_nil {k n g : Int} {t : List UInt8} {l ks : Nat} (h : bareB k n g t l ks = true) : (k ≠ 1 → k ≠ 2 → k ≠ 7 → n = 0) ∧ (k ≠ 7 → g = 0) ∧ (k ≠ 3 → k ≠ 4 → t = []) ∧ (k ≠ 5 → k ≠ 6 → l = 0) ∧ (k ≠ 6 → ks = 0) := by
 unfold bareB at h
 simp only [Bool.and_eq_true, Bool.or_eq_true, eqI_eq, decide_eq_true_eq] at h
 obtain ⟨h1, h2, h3, h4, h5⟩ := h
 refine ⟨fun a b c => ?_, fun a => ?_, fun a b => ?_, fun a b => ?_, fun a => ?_⟩
 ·rcases h1 with ((h | h) | h) | h
  ·exact absurd h a
  ·exact absurd h b
  ·exact absurd h c
  ·exact h
 ·exact h2.resolve_left a
 ·rcases h3 with (h | h) | h
  ·exact absurd h a
  ·exact absurd h b
  ·exact h
 ·rcases h4 with (h | h) | h
  ·exact absurd h a
  ·exact absurd h b
  ·omega
 ·have := h5.resolve_left a; omega
theorem reads_list {m : Nat} {d : Bool} {p rest : List UInt8} : ∀ (l : List Val) (fst : Bool) (ks : List (List UInt8)) (b : List UInt8) (i : Int) (f : Nat) (ls0 : List Val) (ks0 : List (List UInt8)),
  (∀ v ∈ l, ∀ s, Laid v s → ∀ j T, At p j (s ++ T) → After T → oValueF m p j = (v, 0, j + (s.length : Int))) → (l ≠ [] → 1 ≤ m) →
  Lays d fst l ks b → rRs l = true → (∀ v ∈ l, 0 ≤ vk v) → (d = true → ks.length = l.length ∧ ∀ k ∈ ks, plain k = true) → l.length < f → At p i (b ++ (endOf d ++ rest)) →
  oListGo (oValueF m p) p (cond d 6 5) (endOf d) f i ls0 ks0 = (.mk (cond d 6 5) 0 0 [] (ls0 ++ l) (ks0 ++ cond d ks []), 0, i + (b.length : Int) + ((endOf d).length : Int))
 | [], fst, ks, b, i, 0, ls0, ks0, _, _, _, _, _, _, hf, _ => absurd hf (Nat.lt_irrefl _)
 | [], fst, ks, b, i, f + 1, ls0, ks0, _, _, h, _, _, hk, _, ha => by
  rw [Lays] at h
  subst h
  rw [List.nil_append] at ha
  obtain ⟨c, q, e, hs, _⟩ := endOf_head d
  have hfi := ha.firm (by rw [e]; exact firm_cons hs)
  rw [oListGo, hfi, ha.pre, pre_self, cond_true]
  have hks : cond d ks [] = [] := by
   cases d with
   | false => rfl
   | true => exact List.eq_nil_of_length_eq_zero (hk rfl).1
  rw [hks, List.append_nil, List.append_nil]
  simp
 | v :: r, fst, ks, b, i, 0, ls0, ks0, _, _, _, _, _, _, hf, _ => absurd hf (Nat.not_lt_zero _)
 | v :: r, fst, ks, b, i, f + 1, ls0, ks0, hval, hm, h, hr, h0, hk, hf, ha => by
  have hrr := hr
  rw [Lays] at h
  obtain ⟨g1, g2, s, b', hg1, hg2, hv, hl, rfl⟩ := h
  rw [rRs, Bool.and_eq_true] at hr
  obtain ⟨m, rfl⟩ : ∃ k, m = k + 1 := ⟨m - 1, by have := hm (by simp); omega⟩
  have hv0 := h0 v List.mem_cons_self
  obtain ⟨c, q, e, hs, hc1, hc2⟩ := laid_head hv hr.1 hv0
  have hT : After (b' ++ (endOf d ++ rest)) := tail_after hl hr.2 (fun v hv => h0 v (List.mem_cons_of_mem _ hv))
  have ih := reads_list (m := m + 1) (d := d) (p := p) (rest := rest) r false ks.tail b'
  have hval' : ∀ v ∈ r, ∀ s, Laid v s → ∀ j T, At p j (s ++ T) → After T → oValueF (m + 1) p j = (v, 0, j + (s.length : Int)) := fun v hv => hval v (List.mem_cons_of_mem _ hv)
  have skipG : ∀ X, At p i (g1 ++ X) → firm X → skipI p i = i + (g1.length : Int) ∧ At p (i + (g1.length : Int)) X := by
   intro X hX hfX
   refine ⟨?_, hX.step⟩
   have := hX.skip.2
   rw [this]
   cases fst with
   | true =>
    have hg1 : g1 = [] := hg1
    subst hg1
    rw [List.nil_append]; unfold firm at hfX; rw [hfX]; rfl
   | false => rw [hg1.2.2 X hfX]
  cases d with
  | false =>
   simp only [cond_false, List.nil_append, List.append_assoc] at ha ⊢
   have hfX : firm (s ++ (b' ++ (endOf false ++ rest))) := by rw [e]; exact firm_cons hs
   obtain ⟨e1, h1⟩ := skipG _ ha hfX
   have e2 : hasPre (s ++ (b' ++ (endOf false ++ rest))) (endOf false) = false := by rw [e]; exact pre_ne hc1
   have e3 := hval v List.mem_cons_self s hv _ _ h1 hT
   rw [oListGo, e1, h1.pre, e2, e3]
   have e4 : eqI 5 6 = false := rfl
   have e5 : eqI 0 0 = true := rfl
   simp only [cond_false, e4, e5, cond_true]
   have ih := ih (i + (g1.length : Int) + (s.length : Int)) f (ls0 ++ [v]) ks0 hval' (fun _ => Nat.succ_le_succ (Nat.zero_le _)) hl hr.2 (fun v hv => h0 v (List.mem_cons_of_mem _ hv)) (fun h => by cases h) (by simp only [List.length_cons] at hf; omega) h1.step
   simp only [cond_false] at ih
   rw [ih, List.append_assoc]
   simp only [List.length_append, Prod.mk.injEq]
   exact ⟨rfl, trivial, by omega⟩
  | true =>
   obtain ⟨hk1, hk2⟩ := hk rfl
   obtain ⟨key, ks', rfl⟩ : ∃ key ks', ks = key :: ks' := by
    cases ks with
    | nil => rw [List.length_cons] at hk1; cases hk1
    | cons a b => exact ⟨a, b, rfl⟩
   have hg2 := hg2 rfl
   have hpl := hk2 key List.mem_cons_self
   simp only [cond_true, List.headD_cons, List.append_assoc, List.cons_append] at ha ⊢
   have hfX : firm (47 :: (key ++ (g2 ++ (s ++ (b' ++ (endOf true ++ rest)))))) := firm_cons rfl
   obtain ⟨e1, h1⟩ := skipG _ ha hfX
   have e2 : hasPre (47 :: (key ++ (g2 ++ (s ++ (b' ++ (endOf true ++ rest)))))) (endOf true) = false := pre_ne (by decide)
   have e3 : skipI p (i + (g1.length : Int)) = i + (g1.length : Int) := h1.firm hfX
   have e4 : hasPre (47 :: (key ++ (g2 ++ (s ++ (b' ++ (endOf true ++ rest)))))) [47] = true := pre_self [47] _
   have h2 : At p (i + (g1.length : Int) + 1) (key ++ (g2 ++ (s ++ (b' ++ (endOf true ++ rest))))) := At.step (a := [47]) h1
   have e5 := name_read h2 hpl (hg2.ends _)
   have h3 : At p (i + (g1.length : Int) + 1 + (key.length : Int)) (g2 ++ (s ++ (b' ++ (endOf true ++ rest)))) := h2.step
   have hfs : firm (s ++ (b' ++ (endOf true ++ rest))) := by rw [e]; exact firm_cons hs
   have e6 := h3.skip.2
   rw [hg2.2.2 _ hfs] at e6
   have e7 : oValueF (m + 1) p (i + (g1.length : Int) + 1 + (key.length : Int)) = (v, 0, i + (g1.length : Int) + 1 + (key.length : Int) + (g2.length : Int) + (s.length : Int)) := by
    rw [value_skip h3.1, e6]
    exact hval v List.mem_cons_self s hv _ _ h3.step hT
   rw [oListGo, e1, h1.pre, e2, e3, h1.pre, e4, e5, e7]
   have e8 : eqI 6 6 = true := rfl
   have e9 : eqI 0 0 = true := rfl
   simp only [cond_false, e8, e9, cond_true]
   have ih := ih (i + (g1.length : Int) + 1 + (key.length : Int) + (g2.length : Int) + (s.length : Int)) f (ls0 ++ [v]) (ks0 ++ [key]) hval' (fun _ => Nat.succ_le_succ (Nat.zero_le _)) hl hr.2 (fun v hv => h0 v (List.mem_cons_of_mem _ hv))
    (fun _ => ⟨by simp only [List.length_cons] at hk1; simp only [List.tail_cons]; omega, fun k hk => hk2 k (List.mem_cons_of_mem _ hk)⟩) (by simp only [List.length_cons] at hf; omega) h3.step.step
   simp only [cond_true, List.tail_cons] at ih
   rw [ih, List.append_assoc, List.append_assoc]
   simp only [List.length_append, List.length_cons, Prod.mk.injEq]
   exact ⟨rfl, trivial, by omega⟩
theorem ref_read {p w w2 g1 g2 T : List UInt8} {j : Int} (h : At p j (g1 ++ (w2 ++ (g2 ++ ([82] ++ T))))) (hw : digs w = true) (h2 : ∀ b ∈ w2, numB b = true) (hd : digs w2 = true) (hk : numOk w2 = true) (hg1 : Gap g1) (hg2 : Gap g2) (hT : ends T) (x : Int) :
  refV x p j w = .mk 7 (numV w) (min (numV w2) x) [] [] [] ∧ refE p j w = j + (g1.length : Int) + (w2.length : Int) + (g2.length : Int) + 1 := by
 have hne : w2 ≠ [] := (digs_iff w2).1 hd |>.1
 obtain ⟨b, r, e⟩ : ∃ b r, w2 = b :: r := by
  cases w2 with
  | nil => exact absurd rfl hne
  | cons b r => exact ⟨b, r, rfl⟩
 have hst : ∀ b ∈ w2, stopB b = false := fun b hb => (numB_stop (h2 b hb)).1
 have hf : firm (w2 ++ (g2 ++ ([82] ++ T))) := by rw [e]; exact firm_cons (numB_stop (h2 b (by rw [e]; exact List.mem_cons_self))).2.1
 have s1 := h.skip.2
 rw [hg1.2.2 _ hf] at s1
 have a1 : At p (skipI p j) (w2 ++ (g2 ++ ([82] ++ T))) := by rw [s1]; exact h.step
 obtain ⟨w1, _, w3⟩ := a1.word
 rw [(wd_app hst (hg2.ends _)).1] at w1
 rw [word_app hst (hg2.ends _)] at w3
 have g1e : genS p j = w2 := w1
 have g1E : genE p j = j + (g1.length : Int) + (w2.length : Int) := by unfold genE; rw [w3, s1]
 have a2 : At p (genE p j) (g2 ++ ([82] ++ T)) := by rw [g1E]; exact h.step.step
 have hf2 : firm ([82] ++ T) := firm_cons rfl
 have s2 := a2.skip.2
 rw [hg2.2.2 _ hf2] at s2
 have a3 : At p (skipI p (genE p j)) ([82] ++ T) := by rw [s2]; exact a2.step
 obtain ⟨w4, _, w5⟩ := a3.word
 have h82 : ∀ b ∈ ([82] : List UInt8), stopB b = false := by decide
 rw [(wd_app h82 hT).1] at w4
 rw [word_app h82 hT] at w5
 have g2e : genS p (genE p j) = [82] := w4
 have g2E : genE p (genE p j) = genE p j + (g2.length : Int) + 1 := by
  show wordE p (skipI p (genE p j)) = _
  rw [w5, s2]; rfl
 have hi : isRef p j w = true := by
  unfold isRef
  rw [g1e, g2e, hw, hk, hd]
  rfl
 unfold refV refE
 rw [hi, cond_true, cond_true, g1e, g2E, g1E]
 exact ⟨rfl, by omega⟩
theorem itoa_pos {n : Int} (h : 0 ≤ n) : digs (Lib.itoa n) = true := by
 unfold Lib.itoa
 rw [if_neg (by omega)]
 exact (digs_iff _).2 ⟨digits_ne _, digits_all _⟩
theorem in_small {n : Int} (h : 0 ≤ n) (h2 : n ≤ 2147483647) : inRb .i64 n = true := by
 rw [inRb_iff]
 exact ⟨show (-9223372036854775808 : Int) ≤ n by omega, show n ≤ (9223372036854775807 : Int) by omega⟩
mutual
theorem reads : ∀ (v : Val) (s : List UInt8), Laid v s → rR v = true → inV v = true → ∀ (m : Nat), dl v < m → ∀ (p : List UInt8) (i : Int) (T : List UInt8), At p i (s ++ T) → After T → oValueF m p i = (v, 0, i + (s.length : Int))
 | .mk k n g t l ks, s, h, hr, hin, m', hm, p, i, T, ha, hT => by
  obtain ⟨m, rfl⟩ : ∃ q, m' = q + 1 := ⟨m' - 1, by omega⟩
  rw [rR, Bool.and_eq_true] at hr
  obtain ⟨hloc, hrs⟩ := hr
  rw [inV, Bool.and_eq_true, Bool.and_eq_true, leI_eq, decide_eq_true_eq] at hin
  obtain ⟨hk0, hn, hil⟩ := hin
  rw [dl] at hm
  have hloc' := hloc
  unfold locB at hloc'
  rw [Bool.and_eq_true, Bool.and_eq_true] at hloc'
  obtain ⟨_, hbare, hcase⟩ := hloc'
  obtain ⟨b1, b2, b3, b4, b5⟩ := bare_nil hbare
  rw [Laid] at h
  obtain ⟨a0, a1, a2, a3, a4, a7, a5, a6⟩ := h
  obtain ⟨t1, t2, t3⟩ := hT
  rcases kinds hloc hk0 with rfl | rfl | rfl | rfl | rfl | rfl | rfl | rfl
  ·
   have hs := a0 rfl
   subst hs
   obtain rfl := b1 (by decide) (by decide) (by decide)
   obtain rfl := b2 (by decide)
   obtain rfl := b3 (by decide) (by decide)
   obtain rfl := List.eq_nil_of_length_eq_zero (b4 (by decide) (by decide))
   obtain rfl := List.eq_nil_of_length_eq_zero (b5 (by decide))
   obtain ⟨w1, _, w3⟩ := ha.word
   rw [(wd_app (by decide) t1).1] at w1
   rw [word_app (by decide) t1] at w3
   rw [value_word (b := 110) ha rfl (by decide) (by decide) (by decide) (by decide)]
   unfold oWord
   rw [w1, w3, decide_eq_true rfl]
   rfl
  ·
   have hs := a1 rfl
   obtain rfl := b2 (by decide)
   obtain rfl := b3 (by decide) (by decide)
   obtain rfl := List.eq_nil_of_length_eq_zero (b4 (by decide) (by decide))
   obtain rfl := List.eq_nil_of_length_eq_zero (b5 (by decide))
   have hcase : (eqI n 0 || eqI n 1) = true := hcase
   rw [Bool.or_eq_true, eqI_eq, eqI_eq, decide_eq_true_eq, decide_eq_true_eq] at hcase
   rcases hcase with rfl | rfl
   ·have hs : s = wFalse := hs
    subst hs
    obtain ⟨w1, _, w3⟩ := ha.word
    rw [(wd_app (by decide) t1).1] at w1
    rw [word_app (by decide) t1] at w3
    rw [value_word (b := 102) ha rfl (by decide) (by decide) (by decide) (by decide)]
    unfold oWord
    rw [w1, w3, decide_eq_false (by decide), decide_eq_false (by decide), decide_eq_true rfl]
    rfl
   ·have hs : s = wTrue := hs
    subst hs
    obtain ⟨w1, _, w3⟩ := ha.word
    rw [(wd_app (by decide) t1).1] at w1
    rw [word_app (by decide) t1] at w3
    rw [value_word (b := 116) ha rfl (by decide) (by decide) (by decide) (by decide)]
    unfold oWord
    rw [w1, w3, decide_eq_false (by decide), decide_eq_true rfl]
    rfl
  ·
   have hs := a2 rfl
   subst hs
   obtain rfl := b2 (by decide)
   obtain rfl := b3 (by decide) (by decide)
   obtain rfl := List.eq_nil_of_length_eq_zero (b4 (by decide) (by decide))
   obtain rfl := List.eq_nil_of_length_eq_zero (b5 (by decide))
   obtain ⟨c1, c2⟩ := itoa_num hn
   rw [word_num ha (itoa_numB n) (itoa_ne n) t1, c1, cond_true]
   have aj := ha.step
   have s1 := aj.skip
   have gS : genS p (i + ((Lib.itoa n).length : Int)) = wd (sk T) := s1.1.word.1
   have aE : At p (genE p (i + ((Lib.itoa n).length : Int))) (wr (sk T)) := s1.1.word.2.1
   have gS2 : genS p (genE p (i + ((Lib.itoa n).length : Int))) = wd (sk (wr (sk T))) := aE.skip.1.word.1
   have hno : isRef p (i + ((Lib.itoa n).length : Int)) (Lib.itoa n) = false := by
    unfold isRef
    rw [gS, gS2]
    cases q1 : digs (wd (sk T))
    ·simp
    ·rw [decide_eq_false (fun hh => t3 ⟨q1, hh⟩)]
     simp
   unfold refV refE
   rw [hno, c2]
   rfl
  ·
   have hs := a3 rfl
   subst hs
   obtain rfl := b1 (by decide) (by decide) (by decide)
   obtain rfl := b2 (by decide)
   obtain rfl := List.eq_nil_of_length_eq_zero (b4 (by decide) (by decide))
   obtain rfl := List.eq_nil_of_length_eq_zero (b5 (by decide))
   have hpl : plain t = true := hcase
   have hf := ha.firm (firm_cons (b := 47) rfl)
   have hn2 := name_read (At.step (a := [47]) ha) hpl t1
   have e1 : i + (([47] : List UInt8).length : Int) = i + 1 := rfl
   rw [e1] at hn2
   have p1 : hasPre (47 :: (t ++ T)) [60, 60] = false := pre_ne (by decide)
   have p2 : hasPre (47 :: (t ++ T)) [91] = false := pre_ne (by decide)
   have p3 : hasPre (47 :: (t ++ T)) [60] = false := pre_ne (by decide)
   have p4 : hasPre (47 :: (t ++ T)) [40] = false := pre_ne (by decide)
   have p5 : hasPre (47 :: (t ++ T)) [47] = true := pre_self [47] _
   have ha : At p i (47 :: (t ++ T)) := ha
   rw [oValueF, hf, hf, hf, hf, hf, ha.pre, ha.pre, ha.pre, ha.pre, ha.pre, p1, p2, p3, p4, p5, hn2]
   have e2 : eqI 0 0 = true := rfl
   simp only [cond_false, cond_true, e2, List.length_cons]
   rw [show i + 1 + (t.length : Int) = i + ((t.length + 1 : Nat) : Int) by omega]
  ·
   have hs := a4 rfl
   subst hs
   obtain rfl := b1 (by decide) (by decide) (by decide)
   obtain rfl := b2 (by decide)
   obtain rfl := List.eq_nil_of_length_eq_zero (b4 (by decide) (by decide))
   obtain rfl := List.eq_nil_of_length_eq_zero (b5 (by decide))
   have e0 : 60 :: (hexs t ++ [62]) ++ T = 60 :: (hexs t ++ 62 :: T) := by simp
   rw [e0] at ha
   obtain ⟨c, q, e, hc⟩ := hexs_head t T
   have hf := ha.firm (firm_cons (b := 60) rfl)
   have p1 : hasPre (60 :: (hexs t ++ 62 :: T)) [60, 60] = false := by
    rw [e]
    exact decide_eq_false (fun hh => by
     rw [List.length_cons, List.length_cons, List.length_nil, List.take_succ_cons, List.take_succ_cons] at hh
     injection hh with _ h2
     injection h2 with h2 _
     exact hc h2)
   have p2 : hasPre (60 :: (hexs t ++ 62 :: T)) [91] = false := pre_ne (by decide)
   have p3 : hasPre (60 :: (hexs t ++ 62 :: T)) [60] = true := pre_self [60] _
   have a1 : At p (i + 1) (hexs t ++ 62 :: T) := At.step (a := [60]) ha
   rw [oValueF, hf, hf, hf, ha.pre, ha.pre, ha.pre, p1, p2, p3]
   simp only [cond_false, cond_true]
   unfold oText
   have hg := hexs_gt t T
   have hL : gtL (hexs t ++ 62 :: T) = hexs t := by unfold gtL; rw [hg, List.take_left' rfl]
   obtain ⟨x1, x2⟩ := text_of t
   have hlen := a1.len
   rw [List.length_append, List.length_cons] at hlen
   rw [a1.2, hg, hL, x1, x2]
   have e2 : ltI (i + 1 + ((hexs t).length : Int)) (p.length : Int) = true := by rw [ltI_eq]; exact decide_eq_true (by omega)
   rw [e2]
   simp only [Bool.and_self, cond_true, List.length_cons, List.length_append, List.length_nil]
   rw [show i + 1 + ((hexs t).length : Int) + 1 = i + (((hexs t).length + (0 + 1) + 1 : Nat) : Int) by omega]
  ·
   obtain ⟨b, hb, hs⟩ := a5 rfl
   subst hs
   obtain rfl := b1 (by decide) (by decide) (by decide)
   obtain rfl := b2 (by decide)
   obtain rfl := b3 (by decide) (by decide)
   obtain rfl := List.eq_nil_of_length_eq_zero (b5 (by decide))
   have e0 : 91 :: (b ++ [93]) ++ T = 91 :: (b ++ (endOf false ++ T)) := by unfold endOf; simp
   rw [e0] at ha
   have hf := ha.firm (firm_cons (b := 91) rfl)
   have p1 : hasPre (91 :: (b ++ (endOf false ++ T))) [60, 60] = false := pre_ne (by decide)
   have p2 : hasPre (91 :: (b ++ (endOf false ++ T))) [91] = true := pre_self [91] _
   have a1 : At p (i + 1) (b ++ (endOf false ++ T)) := At.step (a := [91]) ha
   have hll := lays_len false l true [] b hb hrs (inL_kind hil)
   have hlen := a1.len
   rw [List.length_append] at hlen
   have hi0 := (okAt_iff.1 ha.1).1
   have key := reads_list (m := m) (d := false) (p := p) (rest := T) l true [] b (i + 1) (p.length + 2) [] [] (readsL l hrs hil m (by omega) p) (fun hne => by
    cases l with
    | nil => exact absurd rfl hne
    | cons v r => rw [dls] at hm; omega) hb hrs (inL_kind hil) (fun h => by cases h) (by omega) a1
   rw [oValueF, hf, hf, ha.pre, ha.pre, p1, p2]
   have key : oListGo (oValueF m p) p 5 [93] (p.length + 2) (i + 1) [] [] = _ := key
   simp only [cond_false, cond_true]
   rw [key]
   simp only [cond_false, List.nil_append, List.length_cons, List.length_append, Prod.mk.injEq]
   refine ⟨trivial, trivial, ?_⟩
   show i + 1 + (b.length : Int) + 1 = _
   simp; omega
  ·
   obtain ⟨b, hb, hs⟩ := a6 rfl
   subst hs
   obtain rfl := b1 (by decide) (by decide) (by decide)
   obtain rfl := b2 (by decide)
   obtain rfl := b3 (by decide) (by decide)
   have hcase : (keysGo [] ks && eqI (ks.length : Int) (l.length : Int)) = true := hcase
   rw [Bool.and_eq_true, eqI_eq, decide_eq_true_eq] at hcase
   have e0 : 60 :: 60 :: (b ++ [62, 62]) ++ T = [60, 60] ++ (b ++ (endOf true ++ T)) := by unfold endOf; simp
   rw [e0] at ha
   have hf := ha.firm (firm_cons (b := 60) rfl)
   have p1 : hasPre ([60, 60] ++ (b ++ (endOf true ++ T))) [60, 60] = true := pre_self _ _
   have a1 : At p (i + 2) (b ++ (endOf true ++ T)) := ha.step
   have hll := lays_len true l true ks b hb hrs (inL_kind hil)
   have hlen := a1.len
   rw [List.length_append] at hlen
   have hi0 := (okAt_iff.1 ha.1).1
   have key := reads_list (m := m) (d := true) (p := p) (rest := T) l true ks b (i + 2) (p.length + 2) [] [] (readsL l hrs hil m (by omega) p) (fun hne => by
    cases l with
    | nil => exact absurd rfl hne
    | cons v r => rw [dls] at hm; omega) hb hrs (inL_kind hil) (fun _ => ⟨by omega, keysGo_plain [] ks hcase.1⟩) (by omega) a1
   rw [oValueF, hf, ha.pre, p1]
   have key : oListGo (oValueF m p) p 6 [62, 62] (p.length + 2) (i + 2) [] [] = _ := key
   simp only [cond_true]
   rw [key]
   simp only [cond_true, List.nil_append, List.length_cons, List.length_append, Prod.mk.injEq]
   refine ⟨trivial, trivial, ?_⟩
   show i + 2 + (b.length : Int) + 2 = _
   simp; omega
  ·
   obtain ⟨g1, g2, hg1, hg2, hs⟩ := a7 rfl
   subst hs
   obtain rfl := b3 (by decide) (by decide)
   obtain rfl := List.eq_nil_of_length_eq_zero (b4 (by decide) (by decide))
   obtain rfl := List.eq_nil_of_length_eq_zero (b5 (by decide))
   have hcase : (leI 1 n && (leI n 2147483647 && (leI 0 g && leI g 65535))) = true := hcase
   simp only [Bool.and_eq_true, leI_eq, decide_eq_true_eq] at hcase
   obtain ⟨n1, n2, n3, n4⟩ := hcase
   obtain ⟨c1, c2⟩ := itoa_num hn
   obtain ⟨d1, d2⟩ := itoa_num (in_small n3 (by omega))
   have e0 : Lib.itoa n ++ (g1 ++ (Lib.itoa g ++ (g2 ++ [82]))) ++ T = Lib.itoa n ++ (g1 ++ (Lib.itoa g ++ (g2 ++ ([82] ++ T)))) := by simp only [List.append_assoc]
   rw [e0] at ha
   obtain ⟨r1, r2⟩ := ref_read ha.step (itoa_pos (n := n) (by omega)) (itoa_numB g) (itoa_pos n3) d1 hg1 hg2 t1 2147483647
   rw [word_num ha (itoa_numB n) (itoa_ne n) (hg1.ends _), c1, cond_true, r1, r2, c2, d2]
   simp only [List.length_append, List.length_cons, List.length_nil, Prod.mk.injEq]
   refine ⟨?_, trivial, by omega⟩
   rw [show min g 2147483647 = g by omega]
theorem readsL : ∀ (l : List Val), rRs l = true → inL l = true → ∀ (m : Nat), dls l ≤ m → ∀ (p : List UInt8), ∀ v ∈ l, ∀ s, Laid v s → ∀ (j : Int) T, At p j (s ++ T) → After T → oValueF m p j = (v, 0, j + (s.length : Int))
 | [], _, _, _, _, _, v, hv, _, _, _, _, _, _ => by cases hv
 | x :: r, hr, hin, m, hm, p, v, hv, s, hl, j, T, ha, hT => by
  rw [rRs, Bool.and_eq_true] at hr
  rw [inL, Bool.and_eq_true] at hin
  rw [dls] at hm
  by_cases hx : v = x
  ·rw [hx] at hl ⊢
   exact reads x s hl hr.1 hin.1 m (by omega) p j T ha hT
  ·rcases List.mem_cons.1 hv with h | h
   ·exact absurd h hx
   ·exact readsL r hr.2 hin.2 m (by omega) p v h s hl j T ha hT
end
end Px
namespace Px
open Go.Vx Go
def bkeys (t : List UInt8) : Nat → Nat → List (List UInt8)
 | _, 0 => []
 | k, j + 1 => bkey k t :: bkeys t (k + 1) j
theorem bkeys_len (t : List UInt8) : ∀ j k, (bkeys t k j).length = j
 | 0, _ => rfl
 | j + 1, k => by rw [bkeys, List.length_cons, bkeys_len]
theorem growLoop_keys (g : List Bit → Val × List Bit) (dict : Bool) (t : List UInt8) (ok : Bool) : ∀ (m k : Nat) (l : List Bit) (ls : List Val) (ks : List (List UInt8)),
  ∃ j, j ≤ m ∧ (growLoop g dict t ok m k l ls ks).1.length = ls.length + j ∧ (growLoop g dict t ok m k l ls ks).2.1 = cond dict (ks ++ bkeys t k j) ks
 | 0, k, l, ls, ks => ⟨0, Nat.le_refl _, rfl, by cases dict <;> simp [growLoop, bkeys]⟩
 | m + 1, k, l, ls, ks => by
  rw [growLoop]
  cases l.isEmpty || !ok with
  | true => exact ⟨0, Nat.zero_le _, rfl, by cases dict <;> simp [bkeys]⟩
  | false =>
   obtain ⟨j, h1, h2, h3⟩ := growLoop_keys g dict t ok m (k + 1) (g l).2 (ls ++ [(g l).1]) (cond dict (ks ++ [bkey k t]) ks)
   refine ⟨j + 1, by omega, ?_, ?_⟩
   ·rw [cond_false, h2]; simp; omega
   ·rw [cond_false, h3]
    cases dict
    ·rfl
    ·simp [bkeys]
end Px
namespace Px
open Go.Vx Go
theorem gap_blank : Gap [32] := by
 refine ⟨rfl, (by intro h; cases h), fun l hl => ?_⟩
 unfold firm at hl
 show skipN false (32 :: l) = _
 rw [skipN]
 have e1 : eqI ((32 : UInt8).toNat : Int) 37 = false := rfl
 have e2 : blank ((32 : UInt8).toNat : Int) = true := rfl
 rw [e1, e2, cond_false, cond_true, hl]; rfl
theorem drop_head : ∀ (ks : List (List UInt8)) (i : Nat), (ks.drop i).headD [] = ks.getD i [] ∧ (ks.drop i).tail = ks.drop (i + 1)
 | [], i => by simp
 | k :: r, 0 => by simp
 | k :: r, i + 1 => by simp
mutual
theorem laid_lay : ∀ v : Val, rR v = true → 0 ≤ vk v → inV v = true → Laid v (layV v)
 | .mk k n g t l ks, hr, h0, hin => by
  rw [rR, Bool.and_eq_true] at hr
  rw [inV, Bool.and_eq_true, Bool.and_eq_true] at hin
  rw [Laid, layV]
  have h0 : 0 ≤ k := h0
  rcases kinds hr.1 h0 with rfl | rfl | rfl | rfl | rfl | rfl | rfl | rfl
  ·exact ⟨fun _ => rfl, fun h => (by cases h), fun h => (by cases h), fun h => (by cases h), fun h => (by cases h), fun h => (by cases h), fun h => (by cases h), fun h => (by cases h)⟩
  ·exact ⟨fun h => (by cases h), fun _ => rfl, fun h => (by cases h), fun h => (by cases h), fun h => (by cases h), fun h => (by cases h), fun h => (by cases h), fun h => (by cases h)⟩
  ·exact ⟨fun h => (by cases h), fun h => (by cases h), fun _ => rfl, fun h => (by cases h), fun h => (by cases h), fun h => (by cases h), fun h => (by cases h), fun h => (by cases h)⟩
  ·exact ⟨fun h => (by cases h), fun h => (by cases h), fun h => (by cases h), fun _ => rfl, fun h => (by cases h), fun h => (by cases h), fun h => (by cases h), fun h => (by cases h)⟩
  ·exact ⟨fun h => (by cases h), fun h => (by cases h), fun h => (by cases h), fun h => (by cases h), fun _ => rfl, fun h => (by cases h), fun h => (by cases h), fun h => (by cases h)⟩
  ·refine ⟨fun h => (by cases h), fun h => (by cases h), fun h => (by cases h), fun h => (by cases h), fun h => (by cases h), fun h => (by cases h), fun _ => ?_, fun h => (by cases h)⟩
   have hks : ks = [] := by
    have hl := hr.1
    unfold locB at hl
    rw [Bool.and_eq_true, Bool.and_eq_true] at hl
    exact List.eq_nil_of_length_eq_zero ((bare_nil hl.2.1).2.2.2.2 (by decide))
   subst hks
   exact ⟨layL false 0 l [], lays_lay false l 0 [] hr.2 hin.2.2, rfl⟩
  ·refine ⟨fun h => (by cases h), fun h => (by cases h), fun h => (by cases h), fun h => (by cases h), fun h => (by cases h), fun h => (by cases h), fun h => (by cases h), fun _ => ?_⟩
   exact ⟨layL true 0 l ks, lays_lay true l 0 ks hr.2 hin.2.2, rfl⟩
  ·refine ⟨fun h => (by cases h), fun h => (by cases h), fun h => (by cases h), fun h => (by cases h), fun h => (by cases h), fun _ => ?_, fun h => (by cases h), fun h => (by cases h)⟩
   refine ⟨[32], [32], gap_blank, gap_blank, ?_⟩
   show Lib.itoa n ++ [32] ++ Lib.itoa g ++ [32, 82] = _
   simp only [List.append_assoc, List.cons_append, List.nil_append]
theorem lays_lay (d : Bool) : ∀ (l : List Val) (i : Nat) (ks : List (List UInt8)), rRs l = true → inL l = true → Lays d (decide (i = 0)) l (ks.drop i) (layL d i l ks)
 | [], i, ks, _, _ => by rw [Lays, layL]
 | v :: r, i, ks, hr, hin => by
  rw [rRs, Bool.and_eq_true] at hr
  rw [inL, Bool.and_eq_true] at hin
  rw [Lays, layL]
  obtain ⟨e1, e2⟩ := drop_head ks i
  refine ⟨cond (ltI 0 (i : Int)) [32] [], [32], layV v, layL d (i + 1) r ks, ?_, fun _ => gap_blank, laid_lay v hr.1 (inV_kind hin.1) hin.1, ?_, ?_⟩
  ·by_cases hi : i = 0
   ·subst hi; rfl
   ·have e : ltI 0 (i : Int) = true := by rw [ltI_eq]; exact decide_eq_true (by omega)
    rw [decide_eq_false hi, e]; exact gap_blank
  ·have := lays_lay d r (i + 1) ks hr.2 hin.2
   rw [e2]
   rwa [decide_eq_false (Nat.succ_ne_zero i)] at this
  ·rw [e1]; rfl
end
def BitIn (x : Bit) : Prop := inRb .u8 x.1 = true ∧ inRb .i64 x.2.1 = true ∧ inRb .u8 x.2.2.1 = true ∧ inRb .u8 x.2.2.2.2.1 = true
def sumL : List Val → Nat | [] => 0 | v :: r => (layV v).length + sumL r
theorem layL_le (d : Bool) (ks : List (List UInt8)) (hk : ∀ i, (ks.getD i []).length ≤ 10) : ∀ (l : List Val) (i : Nat), (layL d i l ks).length ≤ sumL l + 13 * l.length
 | [], i => by rw [layL]; exact Nat.zero_le _
 | v :: r, i => by
  have ih := layL_le d ks hk r (i + 1)
  have h1 := hk i
  have e1 : (cond (ltI 0 (i : Int)) ([32] : List UInt8) []).length ≤ 1 := by cases ltI 0 (i : Int) <;> simp
  have e2 : (cond d ([47] ++ ks.getD i [] ++ [32]) []).length ≤ 12 := by
   cases d <;> simp only [cond_true, cond_false, List.length_append, List.length_cons, List.length_nil] <;> omega
  rw [layL, sumL, List.length_append, List.length_append, List.length_append, List.length_cons]
  omega
theorem sumL_app : ∀ (l m : List Val), sumL (l ++ m) = sumL l + sumL m
 | [], m => by rw [List.nil_append, sumL]; omega
 | v :: l, m => by rw [List.cons_append, sumL, sumL, sumL_app l m]; omega
theorem inL_app : ∀ (l : List Val) (v : Val), inL l = true → inV v = true → inL (l ++ [v]) = true
 | [], v, _, h => by rw [List.nil_append, inL, h]; rfl
 | x :: l, v, h, hv => by
  rw [inL, Bool.and_eq_true] at h
  rw [List.cons_append, inL, h.1, inL_app l v h.2 hv]; rfl
structure Made (b : Nat) (r : Val × List Bit) : Prop where
 inv : inV r.1 = true
 small : smallV r.1 = true
 bits : ∀ x ∈ r.2, BitIn x
 len : (layV r.1).length + 20 + 100 * r.2.length ≤ 100 * b
theorem bkeys_key (t : List UInt8) : ∀ (j k i : Nat), ((bkeys t k j).getD i []).length ≤ 10
 | 0, k, i => by simp [bkeys]
 | j + 1, k, 0 => by
  have := nameOf_len t
  simp [bkeys, bkey]; omega
 | j + 1, k, i + 1 => by
  have := bkeys_key t j (k + 1) i
  simpa [bkeys] using this
theorem loop_made {m : Nat} (hg : ∀ b l, (∀ x ∈ b :: l, BitIn x) → Made (l.length + 1) (growF (m + 1) (b :: l))) (dict : Bool) (t : List UInt8) :
  ∀ (q k : Nat) (l : List Bit) (ls : List Val) (ks : List (List UInt8)), (∀ x ∈ l, BitIn x) → inL ls = true → smallL ls = true →
  inL (growLoop (growF (m + 1)) dict t true q k l ls ks).1 = true ∧ smallL (growLoop (growF (m + 1)) dict t true q k l ls ks).1 = true ∧ (∀ x ∈ (growLoop (growF (m + 1)) dict t true q k l ls ks).2.2, BitIn x) ∧
  sumL (growLoop (growF (m + 1)) dict t true q k l ls ks).1 + 20 * (growLoop (growF (m + 1)) dict t true q k l ls ks).1.length + 100 * (growLoop (growF (m + 1)) dict t true q k l ls ks).2.2.length ≤ sumL ls + 20 * ls.length + 100 * l.length
 | 0, k, l, ls, ks, hb, h1, h2 => ⟨h1, h2, hb, Nat.le_refl _⟩
 | q + 1, k, [], ls, ks, hb, h1, h2 => ⟨h1, h2, hb, Nat.le_refl _⟩
 | q + 1, k, b :: l, ls, ks, hb, h1, h2 => by
  rw [growLoop]
  have e : ((b :: l).isEmpty || !true) = false := rfl
  rw [e, cond_false]
  have hm := hg b l hb
  have ih := loop_made hg dict t q (k + 1) (growF (m + 1) (b :: l)).2 (ls ++ [(growF (m + 1) (b :: l)).1]) (cond dict (ks ++ [bkey k t]) ks) hm.bits (inL_app _ _ h1 hm.inv) (smallL_app _ _ h2 hm.small)
  refine ⟨ih.1, ih.2.1, ih.2.2.1, Nat.le_trans ih.2.2.2 ?_⟩
  have := hm.len
  rw [sumL_app, sumL, sumL, List.length_append, List.length_cons, List.length_cons, List.length_nil]
  omega
theorem digits_le : ∀ (k m : Nat), m < 10 ^ (k + 1) → (Lib.decDigits m).length ≤ k + 1
 | 0, m, h => by
  unfold Lib.decDigits
  rw [dif_pos (by simpa using h)]; simp
 | k + 1, m, h => by
  unfold Lib.decDigits
  split
  ·simp
  ·have := digits_le k (m / 10) (by rw [Nat.pow_succ] at h; omega)
   simp; omega
theorem itoa_le {n : Int} (h : inRb .i64 n = true) : (Lib.itoa n).length ≤ 21 := by
 have h1 : -9223372036854775808 ≤ n ∧ n ≤ 9223372036854775807 := by rw [inRb_iff] at h; exact h
 unfold Lib.itoa
 split
 ·have := digits_le 19 n.natAbs (by omega)
  rw [List.length_cons]; omega
 ·have := digits_le 19 n.toNat (by omega)
  omega
theorem grow_made : ∀ (m : Nat) (b : Bit) (l : List Bit), (∀ x ∈ b :: l, BitIn x) → Made (l.length + 1) (growF (m + 1) (b :: l))
 | m, b, l, hb => by
  obtain ⟨hk, hn, hg, hh⟩ := hb b List.mem_cons_self
  have hl : ∀ x ∈ l, BitIn x := fun x hx => hb x (List.mem_cons_of_mem _ hx)
  have k0 : 0 ≤ b.1.tmod 8 := by
   have : 0 ≤ b.1 := by rw [inRb_iff] at hk; exact hk.1
   rw [Int.tmod_eq_emod_of_nonneg this]; omega
  have n0 : inRb .i64 0 = true := rfl
  have nI : inRb .i64 (cond (eqI (b.1.tmod 8) 1) (vbits Go.BinOp.and IntKind.i64 b.2.1 1) (cond (eqI (b.1.tmod 8) 2) b.2.1 (cond (eqI (b.1.tmod 8) 7) (IntKind.i64.wrap (1 + vbits Go.BinOp.and IntKind.i64 b.2.1 65535)) 0))) = true := by
   cases eqI (b.1.tmod 8) 1 <;> cases eqI (b.1.tmod 8) 2 <;> cases eqI (b.1.tmod 8) 7 <;> first | exact hn | exact wrap_inRb _ _ | rfl
  have gI : inRb .i64 (cond (eqI (b.1.tmod 8) 7 || b.2.2.2.2.2) (IntKind.i64.wrap b.2.2.1) 0) = true := by
   cases (eqI (b.1.tmod 8) 7 || b.2.2.2.2.2) <;> first | exact wrap_inRb _ _ | rfl
  have tN : ∀ q, (cond (eqI q 3) ([78] ++ nameOf b.2.2.2.1) (cond (eqI q 4) (b.2.2.2.1.take 20) [])).length ≤ 20 := by
   intro q
   have h1 := nameOf_len b.2.2.2.1
   cases eqI q 3 <;> cases eqI q 4 <;> simp only [cond_true, cond_false, List.length_append, List.length_cons, List.length_nil, List.length_take] <;> omega
  have parts : inL (cond (eqI (b.1.tmod 8) 5 || eqI (b.1.tmod 8) 6) (growLoop (growF m) (eqI (b.1.tmod 8) 6) b.2.2.2.1 (Nat.ble 1 m) (b.2.2.2.2.1.tmod 4).toNat 0 l [] []) ([], [], l)).1 = true ∧
    smallL (cond (eqI (b.1.tmod 8) 5 || eqI (b.1.tmod 8) 6) (growLoop (growF m) (eqI (b.1.tmod 8) 6) b.2.2.2.1 (Nat.ble 1 m) (b.2.2.2.2.1.tmod 4).toNat 0 l [] []) ([], [], l)).1 = true ∧
    (∀ x ∈ (cond (eqI (b.1.tmod 8) 5 || eqI (b.1.tmod 8) 6) (growLoop (growF m) (eqI (b.1.tmod 8) 6) b.2.2.2.1 (Nat.ble 1 m) (b.2.2.2.2.1.tmod 4).toNat 0 l [] []) ([], [], l)).2.2, BitIn x) ∧
    sumL (cond (eqI (b.1.tmod 8) 5 || eqI (b.1.tmod 8) 6) (growLoop (growF m) (eqI (b.1.tmod 8) 6) b.2.2.2.1 (Nat.ble 1 m) (b.2.2.2.2.1.tmod 4).toNat 0 l [] []) ([], [], l)).1 + 20 * (cond (eqI (b.1.tmod 8) 5 || eqI (b.1.tmod 8) 6) (growLoop (growF m) (eqI (b.1.tmod 8) 6) b.2.2.2.1 (Nat.ble 1 m) (b.2.2.2.2.1.tmod 4).toNat 0 l [] []) ([], [], l)).1.length + 100 * (cond (eqI (b.1.tmod 8) 5 || eqI (b.1.tmod 8) 6) (growLoop (growF m) (eqI (b.1.tmod 8) 6) b.2.2.2.1 (Nat.ble 1 m) (b.2.2.2.2.1.tmod 4).toNat 0 l [] []) ([], [], l)).2.2.length ≤ 100 * l.length ∧
    (cond (eqI (b.1.tmod 8) 5 || eqI (b.1.tmod 8) 6) (growLoop (growF m) (eqI (b.1.tmod 8) 6) b.2.2.2.1 (Nat.ble 1 m) (b.2.2.2.2.1.tmod 4).toNat 0 l [] []) ([], [], l)).1.length ≤ 1000000 ∧
    (cond (eqI (b.1.tmod 8) 5 || eqI (b.1.tmod 8) 6) (growLoop (growF m) (eqI (b.1.tmod 8) 6) b.2.2.2.1 (Nat.ble 1 m) (b.2.2.2.2.1.tmod 4).toNat 0 l [] []) ([], [], l)).2.1.length ≤ 1000000 ∧
    ∀ i, ((cond (eqI (b.1.tmod 8) 5 || eqI (b.1.tmod 8) 6) (growLoop (growF m) (eqI (b.1.tmod 8) 6) b.2.2.2.1 (Nat.ble 1 m) (b.2.2.2.2.1.tmod 4).toNat 0 l [] []) ([], [], l)).2.1.getD i []).length ≤ 10 := by
   have hm4 : (b.2.2.2.2.1.tmod 4).toNat ≤ 3 := by
    have := Int.tmod_lt_of_pos b.2.2.2.2.1 (show (0 : Int) < 4 by decide)
    omega
   cases (eqI (b.1.tmod 8) 5 || eqI (b.1.tmod 8) 6) with
   | false =>
    simp only [cond_false]
    exact ⟨rfl, rfl, hl, by simp [sumL], by simp, by simp, fun i => by simp⟩
   | true =>
    simp only [cond_true]
    obtain ⟨j, j1, j2, j3⟩ := growLoop_keys (growF m) (eqI (b.1.tmod 8) 6) b.2.2.2.1 (Nat.ble 1 m) (b.2.2.2.2.1.tmod 4).toNat 0 l [] []
    have hkl : (growLoop (growF m) (eqI (b.1.tmod 8) 6) b.2.2.2.1 (Nat.ble 1 m) (b.2.2.2.2.1.tmod 4).toNat 0 l [] []).2.1.length ≤ 1000000 ∧ ∀ i, ((growLoop (growF m) (eqI (b.1.tmod 8) 6) b.2.2.2.1 (Nat.ble 1 m) (b.2.2.2.2.1.tmod 4).toNat 0 l [] []).2.1.getD i []).length ≤ 10 := by
     rw [j3]
     cases eqI (b.1.tmod 8) 6 with
     | false => exact ⟨by simp, fun i => by simp⟩
     | true =>
      refine ⟨by rw [cond_true, List.nil_append, bkeys_len]; omega, fun i => ?_⟩
      rw [cond_true, List.nil_append]
      exact bkeys_key _ _ _ _
    have hvl : (growLoop (growF m) (eqI (b.1.tmod 8) 6) b.2.2.2.1 (Nat.ble 1 m) (b.2.2.2.2.1.tmod 4).toNat 0 l [] []).1.length ≤ 1000000 := by rw [j2, List.length_nil]; omega
    cases m with
    | zero =>
     have e : ∀ q, growLoop (growF 0) (eqI (b.1.tmod 8) 6) b.2.2.2.1 (Nat.ble 1 0) q 0 l [] [] = ([], [], l) := by
      intro q
      cases q with
      | zero => rfl
      | succ q =>
       rw [growLoop, show (l.isEmpty || !Nat.ble 1 0) = true by cases l <;> rfl]
       rfl
     rw [e] at hkl hvl ⊢
     exact ⟨rfl, rfl, hl, by simp [sumL], hvl, hkl.1, hkl.2⟩
    | succ m =>
     have e : Nat.ble 1 (m + 1) = true := Nat.ble_eq ▸ Nat.succ_le_succ (Nat.zero_le m)
     rw [e] at hkl hvl ⊢
     obtain ⟨a1, a2, a3, a4⟩ := loop_made (fun b l hb => grow_made m b l hb) (eqI (b.1.tmod 8) 6) b.2.2.2.1 (b.2.2.2.2.1.tmod 4).toNat 0 l [] [] hl rfl rfl
     exact ⟨a1, a2, a3, by simpa [sumL] using a4, hvl, hkl.1, hkl.2⟩
  rw [growF]
  generalize (cond (eqI (b.1.tmod 8) 5 || eqI (b.1.tmod 8) 6) (growLoop (growF m) (eqI (b.1.tmod 8) 6) b.2.2.2.1 (Nat.ble 1 m) (b.2.2.2.2.1.tmod 4).toNat 0 l [] []) ([], [], l)) = R at parts ⊢
  generalize (cond (eqI (b.1.tmod 8) 1) (vbits Go.BinOp.and IntKind.i64 b.2.1 1) (cond (eqI (b.1.tmod 8) 2) b.2.1 (cond (eqI (b.1.tmod 8) 7) (IntKind.i64.wrap (1 + vbits Go.BinOp.and IntKind.i64 b.2.1 65535)) 0))) = N at nI ⊢
  generalize (cond (eqI (b.1.tmod 8) 7 || b.2.2.2.2.2) (IntKind.i64.wrap b.2.2.1) 0) = G at gI ⊢
  have tN := tN (b.1.tmod 8)
  generalize (cond (eqI (b.1.tmod 8) 3) ([78] ++ nameOf b.2.2.2.1) (cond (eqI (b.1.tmod 8) 4) (b.2.2.2.1.take 20) [])) = T at tN ⊢
  generalize b.1.tmod 8 = k at k0 ⊢
  obtain ⟨p1, p2, p3, p4, p5, p6, p7⟩ := parts
  refine ⟨?_, ?_, p3, ?_⟩
  ·rw [inV, nI, p1, show leI 0 k = true by rw [leI_eq]; exact decide_eq_true k0]; rfl
  ·rw [smallV, p2, show Nat.ble R.1.length 1000000 = true from Nat.ble_eq ▸ p5, show Nat.ble R.2.1.length 1000000 = true from Nat.ble_eq ▸ p6]; rfl
  ·have i1 := itoa_le nI
   have i2 := itoa_le gI
   have hx := hexs_len T
   have l1 := layL_le true R.2.1 p7 R.1 0
   have l2 := layL_le false R.2.1 p7 R.1 0
   simp only
   rw [layV]
   have w1 : wNull.length = 4 := rfl
   have w2 : wTrue.length = 4 := rfl
   have w3 : wFalse.length = 5 := rfl
   cases eqI k 0 <;> cases eqI k 1 <;> cases eqI k 2 <;> cases eqI k 3 <;> cases eqI k 4 <;> cases eqI k 7 <;> cases eqI k 6 <;> cases eqI N 1 <;>
    simp only [cond_true, cond_false, List.length_append, List.length_cons, List.length_nil] <;> omega
end Px
namespace Px
open Go.Vx Go
theorem made_facts {l : List Bit} (hb : ∀ x ∈ l, BitIn x) : inV (made l) = true ∧ smallV (made l) = true ∧ (layV (made l)).length ≤ 4000 := by
 unfold made
 split
 ·exact ⟨rfl, rfl, by have : layV v0 = wNull := rfl; rw [this]; decide⟩
 ·cases l with
  | nil => rename_i h; exact absurd rfl h
  | cons b l =>
   have hb' : ∀ x ∈ b :: l.take 39, BitIn x := fun x hx => by
    rcases List.mem_cons.1 hx with rfl | hx
    ·exact hb _ List.mem_cons_self
    ·exact hb x (List.mem_cons_of_mem _ (List.mem_of_mem_take hx))
   have hm := grow_made 21 b (l.take 39) hb'
   have e : growV 0 ((b :: l).take 40) = (growF (21 + 1) (b :: l.take 39)).1 := rfl
   rw [e]
   have h1 := hm.len
   have h2 : (l.take 39).length ≤ 39 := by rw [List.length_take]; omega
   exact ⟨hm.inv, hm.small, by omega⟩
mutual
theorem fit_of : ∀ v : Val, rR v = true → fitV v = true
 | .mk k n g t l ks, h => by
  rw [rR, Bool.and_eq_true] at h
  rw [fitV, fits_of l h.2, Bool.and_true]
  have h1 := h.1
  unfold locB at h1
  rw [Bool.and_eq_true, Bool.and_eq_true] at h1
  cases q : eqI k 6 with
  | false => rfl
  | true =>
   have hk : k = 6 := eqI_of q
   subst hk
   have h2 : (keysGo [] ks && eqI (ks.length : Int) (l.length : Int)) = true := h1.2.2
   rw [Bool.and_eq_true, eqI_eq, decide_eq_true_eq] at h2
   rw [cond_true, Nat.ble_eq]; omega
theorem fits_of : ∀ l : List Val, rRs l = true → fitL l = true
 | [], _ => rfl
 | v :: r, h => by
  rw [rRs, Bool.and_eq_true] at h
  rw [fitL, fit_of v h.1, fits_of r h.2]; rfl
end
theorem okV_iff {v : Val} : okV 0 v = true ↔ rR v = true ∧ dl v ≤ 32 := by
 unfold okV
 rw [Bool.and_eq_true, leI_eq, decide_eq_true_eq]
 constructor
 ·rintro ⟨a, b⟩; exact ⟨a, by omega⟩
 ·rintro ⟨a, b⟩; exact ⟨a, by omega⟩
theorem okLay_of {v : Val} (h : okV 0 v = true) (hl : (layV v).length ≤ 1000000000) : okLay 1000000 v [] = true := by
 obtain ⟨h1, h2⟩ := okV_iff.1 h
 unfold okLay
 rw [fit_of v h1, List.nil_append, show Nat.blt (dl v) 1000000 = true from Nat.ble_eq ▸ (by omega : dl v + 1 ≤ 1000000), show Nat.ble (layV v).length 1000000000 = true from Nat.ble_eq ▸ hl]
 rfl
theorem parse_laid {v : Val} {s T : List UInt8} (h : Laid v s) (hok : okV 0 v = true) (hin : inV v = true) (hT : After T) (hl : (s ++ T).length ≤ 1000000) : oParse (s ++ T) = (v, (s.length : Int), 0) := by
 obtain ⟨h1, h2⟩ := okV_iff.1 hok
 have ha : At (s ++ T) 0 (s ++ T) := At.start hl
 have hv : oValue (s ++ T) 0 0 = (v, 0, 0 + (s.length : Int)) := reads v s h h1 hin 33 (by omega) (s ++ T) 0 T ha hT
 unfold oParse
 rw [hv, Int.zero_add]
 simp only
 rw [hok]
 rfl
theorem after_nil : After [] := ⟨rfl, (by intro h; cases h), fun h => (by cases h.1)⟩
end Px
namespace Go.Vx
open Go
theorem bits_in {G : Gh} {w : World} {v : Value} {xs : List Bit} (h : Rep E G w (.sl (A := E.A) K.bit xs) v) : ∀ x ∈ xs, Px.BitIn x := by
 generalize hl : (Leaf.sl (A := E.A) K.bit xs) = l at h
 cases h with
 | sl0 k a cap h => injection hl with h1 h2; subst h1; have h2 := eq_of_heq h2; subst h2; intro x hx; cases hx
 | sl k ys b off cap vals h1 h2 hc hr =>
  injection hl with h3 h4; subst h3; have h4 := eq_of_heq h4; subst h4
  intro x hx
  obtain ⟨i, hi, rfl⟩ := List.getElem_of_mem hx
  have r := hr i xs[i] (List.getElem?_eq_getElem hi)
  have r0 : Rep E G w (.int .u8 (xs[i] : Bit).1) (vals i 0) := r 0 _ rfl
  have r1 : Rep E G w (.int .i64 (xs[i] : Bit).2.1) (vals i 1) := r 1 _ rfl
  have r2 : Rep E G w (.int .u8 (xs[i] : Bit).2.2.1) (vals i 2) := r 2 _ rfl
  have r4 : Rep E G w (.int .u8 (xs[i] : Bit).2.2.2.2.1) (vals i 4) := r 4 _ rfl
  exact ⟨(RRep.lf r0).int_inv.2, (RRep.lf r1).int_inv.2, (RRep.lf r2).int_inv.2, (RRep.lf r4).int_inv.2⟩
 | _ => cases hl
end Go.Vx
namespace Px
open Go.Vx Go
theorem gap_gap (g : UInt8) : Gap (gapOf g) := by
 have key : ∀ n : Nat, n < 5 → Gap (gaps5.getD n []) := by
  intro n hn
  match n, hn with
  | 0, _ => exact gap_blank
  | 1, _ => exact ⟨rfl, (by intro h; cases h), fun l hl => by
    unfold firm at hl
    have : skipN false (10 :: l) = skipN false l + 1 := rfl
    show skipN false (10 :: l) = 1
    rw [this, hl]⟩
  | 2, _ => exact ⟨rfl, (by intro h; cases h), fun l hl => by
    unfold firm at hl
    have : skipN false (37 :: 120 :: 60 :: 13 :: l) = skipN false l + 1 + 1 + 1 + 1 := rfl
    show skipN false (37 :: 120 :: 60 :: 13 :: l) = 4
    rw [this, hl]⟩
  | 3, _ => exact ⟨rfl, (by intro h; cases h), fun l hl => by
    unfold firm at hl
    have : skipN false (9 :: 32 :: 0 :: l) = skipN false l + 1 + 1 + 1 := rfl
    show skipN false (9 :: 32 :: 0 :: l) = 3
    rw [this, hl]⟩
  | 4, _ => exact ⟨rfl, (by intro h; cases h), fun l hl => by
    unfold firm at hl
    have : skipN false (32 :: 37 :: 93 :: 10 :: 37 :: 91 :: 10 :: l) = skipN false l + 1 + 1 + 1 + 1 + 1 + 1 + 1 := rfl
    show skipN false (32 :: 37 :: 93 :: 10 :: 37 :: 91 :: 10 :: l) = 7
    rw [this, hl]⟩
 have e : ((g.toNat : Int).tmod 5).toNat = g.toNat % 5 := rfl
 unfold gapOf
 rw [e]
 exact key _ (Nat.mod_lt _ (by decide))
def calm (c : UInt8) : Bool := !eqI (c.toNat : Int) 60 && !eqI (c.toNat : Int) 32
theorem calm_opens {c prev : UInt8} {r : List UInt8} (h : calm c = true) : opens prev c r = false ∧ eqI (c.toNat : Int) 32 = false := by
 unfold calm at h
 rw [Bool.and_eq_true, Bool.not_eq_true', Bool.not_eq_true'] at h
 unfold opens
 rw [h.1]; exact ⟨rfl, h.2⟩
theorem sp_calm (gs : List UInt8) {c prev : UInt8} {r : List UInt8} {k : Nat} (h : calm c = true) : spGo gs prev (c :: r) k false = [c] ++ spGo gs c r k false := by
 obtain ⟨h1, h2⟩ := calm_opens (prev := prev) (r := r) h
 rw [spGo, h1, h2]; rfl
def lastB (prev : UInt8) (w : List UInt8) : UInt8 := w.getLast?.getD prev
theorem lastB_cons (prev c : UInt8) (w : List UInt8) : lastB prev (c :: w) = lastB c w := by
 unfold lastB
 cases w with
 | nil => rfl
 | cons d w => simp [List.getLast?_cons_cons, List.getLast?_cons]
theorem sp_word (gs : List UInt8) : ∀ (w r : List UInt8) (prev : UInt8) (k : Nat), (∀ c ∈ w, calm c = true) → spGo gs prev (w ++ r) k false = w ++ spGo gs (lastB prev w) r k false
 | [], r, prev, k, _ => rfl
 | c :: w, r, prev, k, h => by
  rw [List.cons_append, sp_calm gs (h c List.mem_cons_self), sp_word gs w r c k (fun d hd => h d (List.mem_cons_of_mem _ hd)), lastB_cons]
  rfl
theorem lastB_calm : ∀ (w : List UInt8) (prev : UInt8), (∀ c ∈ w, calm c = true) → w ≠ [] → lastB prev w ≠ 60
 | [], _, _, h => absurd rfl h
 | [c], prev, h, _ => by
  intro hh
  have hc := h c List.mem_cons_self
  have hh : c = 60 := hh
  subst hh; cases hc
 | c :: d :: w, prev, h, _ => by
  rw [lastB_cons]
  exact lastB_calm (d :: w) c (fun x hx => h x (List.mem_cons_of_mem _ hx)) (by intro h; cases h)
theorem sp_in (gs : List UInt8) : ∀ (w r : List UInt8) (prev : UInt8) (k : Nat), (∀ c ∈ w, calm c = true ∧ eqI (c.toNat : Int) 62 = false) → ∃ q, spGo gs prev (w ++ r) k true = w ++ spGo gs q r k true
 | [], r, prev, k, _ => ⟨prev, rfl⟩
 | c :: w, r, prev, k, h => by
  obtain ⟨hc, hc2⟩ := h c List.mem_cons_self
  obtain ⟨q, hq⟩ := sp_in gs w r c k (fun d hd => h d (List.mem_cons_of_mem _ hd))
  obtain ⟨h1, h2⟩ := calm_opens (prev := prev) (r := w ++ r) hc
  refine ⟨q, ?_⟩
  rw [List.cons_append, spGo, h1, h2, hc2]
  show [c] ++ spGo gs c (w ++ r) k true = _
  rw [hq]; rfl
theorem sp_blank (gs : List UInt8) (prev : UInt8) (r : List UInt8) (k : Nat) : ∃ g k', Gap g ∧ spGo gs prev (32 :: r) k false = g ++ spGo gs 32 r k' false := by
 have h1 : opens prev 32 r = false := rfl
 have h2 : eqI ((32 : UInt8).toNat : Int) 32 = true := rfl
 have h3 : eqI ((32 : UInt8).toNat : Int) 62 = false := rfl
 rw [spGo, h1, h2, h3]
 cases ltI (k : Int) (gs.length : Int) with
 | true => exact ⟨_, k + 1, gap_gap _, rfl⟩
 | false => exact ⟨[32], k, gap_blank, rfl⟩
theorem calm_num {w : List UInt8} (h : ∀ b ∈ w, numB b = true) : ∀ c ∈ w, calm c = true := by
 intro c hc
 have h1 := h c hc
 have := all_u8 (q := fun b => !numB b || calm b) (by kernel_rfl) c
 rw [h1] at this
 simpa using this
theorem calm_plain {t : List UInt8} (h : plain t = true) : ∀ c ∈ t, calm c = true := by
 unfold plain at h
 rw [Bool.and_eq_true, Bool.not_eq_true', Bool.not_eq_true'] at h
 have h2 := h.2
 unfold anyBad at h2
 rw [List.any_eq_false] at h2
 intro c hc
 have h3 := h2 c hc
 have := all_u8 (q := fun b => badB b || calm b) (by kernel_rfl) c
 simp only [Bool.or_eq_true] at this
 exact this.resolve_left h3
theorem calm_hexs : ∀ (t : List UInt8), ∀ c ∈ hexs t, calm c = true ∧ eqI (c.toNat : Int) 62 = false
 | [], c, hc => by cases hc
 | b :: t, c, hc => by
  have bl := b.toNat_lt
  have key : ∀ k, k < 16 → calm (hd k) = true ∧ eqI ((hd k).toNat : Int) 62 = false := by
   intro k hk
   have := all_nat (m := 16) (q := fun k => calm (hd k) && !eqI ((hd k).toNat : Int) 62) (by kernel_rfl) hk
   simpa using this
  rw [hexs] at hc
  rcases List.mem_cons.1 hc with rfl | hc
  ·exact key _ (by omega)
  ·rcases List.mem_cons.1 hc with rfl | hc
   ·exact key _ (by omega)
   ·exact calm_hexs t c hc
theorem sp_text (gs : List UInt8) (t r : List UInt8) {prev : UInt8} (hp : prev ≠ 60) (k : Nat) : spGo gs prev (60 :: (hexs t ++ 62 :: r)) k false = 60 :: (hexs t ++ 62 :: spGo gs 62 r k false) := by
 obtain ⟨c, l, e, hc⟩ := hexs_head t r
 have ho : opens prev 60 (hexs t ++ 62 :: r) = true := by
  unfold opens
  have e1 : eqI ((60 : UInt8).toNat : Int) 60 = true := rfl
  have e2 : eqI (prev.toNat : Int) 60 = false := by
   rw [eqI_lit prev 60 60 rfl]; exact decide_eq_false hp
  have e3 : eqI ((c.toNat : Nat) : Int) 60 = false := by
   rw [eqI_lit c 60 60 rfl]; exact decide_eq_false hc
  rw [e]
  have e4 : (c :: l).getD 0 0 = c := rfl
  rw [e4, e1, e2, e3]; simp
 have h2 : eqI ((60 : UInt8).toNat : Int) 32 = false := rfl
 have h3 : eqI ((60 : UInt8).toNat : Int) 62 = false := rfl
 rw [spGo, ho, h2, h3]
 show [60] ++ spGo gs 60 (hexs t ++ 62 :: r) k true = _
 obtain ⟨q, hq⟩ := sp_in gs (hexs t) (62 :: r) 60 k (calm_hexs t)
 rw [hq]
 have ho2 : opens q 62 r = false := rfl
 have h4 : eqI ((62 : UInt8).toNat : Int) 32 = false := rfl
 have h5 : eqI ((62 : UInt8).toNat : Int) 62 = true := rfl
 rw [spGo, ho2, h4, h5]
 rfl
theorem sp_dict (gs : List UInt8) (r : List UInt8) (prev : UInt8) (k : Nat) : spGo gs prev (60 :: 60 :: r) k false = 60 :: 60 :: spGo gs 60 r k false := by
 have o1 : opens prev 60 (60 :: r) = false := by
  unfold opens
  have e3 : eqI (((60 :: r).getD 0 0).toNat : Int) 60 = true := rfl
  rw [e3]; simp
 have o2 : opens 60 60 r = false := by
  unfold opens
  have e3 : eqI ((60 : UInt8).toNat : Int) 60 = true := rfl
  rw [e3]; simp
 have h2 : eqI ((60 : UInt8).toNat : Int) 32 = false := rfl
 rw [spGo, o1, h2]
 show [60] ++ spGo gs 60 (60 :: r) k false = _
 rw [spGo, o2, h2]
 rfl
mutual
theorem sp_value (gs : List UInt8) : ∀ (v : Val), rR v = true → inV v = true → ∀ (prev : UInt8) (k : Nat) (r : List UInt8), prev ≠ 60 →
  ∃ s k' q, Laid v s ∧ q ≠ 60 ∧ spGo gs prev (layV v ++ r) k false = s ++ spGo gs q r k' false
 | .mk kd n g t l ks, hr, hin, prev, k, r, hp => by
  have hlaid := laid_lay (.mk kd n g t l ks) hr (inV_kind hin) hin
  rw [rR, Bool.and_eq_true] at hr
  obtain ⟨hloc, hrs⟩ := hr
  rw [inV, Bool.and_eq_true, Bool.and_eq_true, leI_eq, decide_eq_true_eq] at hin
  obtain ⟨hk0, hn, hil⟩ := hin
  have hloc' := hloc
  unfold locB at hloc'
  rw [Bool.and_eq_true, Bool.and_eq_true] at hloc'
  obtain ⟨_, hbare, hcase⟩ := hloc'
  have word : ∀ w : List UInt8, layV (.mk kd n g t l ks) = w → w ≠ [] → (∀ c ∈ w, calm c = true) → ∃ s k' q, Laid (.mk kd n g t l ks) s ∧ q ≠ 60 ∧ spGo gs prev (layV (.mk kd n g t l ks) ++ r) k false = s ++ spGo gs q r k' false := by
   intro w hw hne hc
   refine ⟨w, k, lastB prev w, hw ▸ hlaid, lastB_calm w prev hc hne, ?_⟩
   rw [hw]; exact sp_word gs w r prev k hc
  rcases kinds hloc hk0 with rfl | rfl | rfl | rfl | rfl | rfl | rfl | rfl
  ·exact word wNull (by rw [layV]; rfl) (by intro h; cases h) (by decide)
  ·cases q : eqI n 1 with
   | true => exact word wTrue (by rw [layV, q]; rfl) (by intro h; cases h) (by decide)
   | false => exact word wFalse (by rw [layV, q]; rfl) (by intro h; cases h) (by decide)
  ·exact word (Lib.itoa n) (by rw [layV]; rfl) (itoa_ne n) (calm_num (itoa_numB n))
  ·refine word (47 :: t) (by rw [layV]; rfl) (by intro h; cases h) (fun c hc => ?_)
   rcases List.mem_cons.1 hc with rfl | hc
   ·rfl
   ·exact calm_plain hcase c hc
  ·refine ⟨layV (.mk 4 n g t l ks), k, 62, hlaid, by decide, ?_⟩
   have e : layV (.mk 4 n g t l ks) ++ r = 60 :: (hexs t ++ 62 :: r) := by rw [layV]; show [60] ++ hexs t ++ [62] ++ r = _; simp
   have e2 : layV (.mk 4 n g t l ks) ++ spGo gs 62 r k false = 60 :: (hexs t ++ 62 :: spGo gs 62 r k false) := by rw [layV]; show [60] ++ hexs t ++ [62] ++ _ = _; simp
   rw [e, e2]
   exact sp_text gs t r hp k
  ·have hks : ks = [] := List.eq_nil_of_length_eq_zero ((bare_nil hbare).2.2.2.2 (by decide))
   subst hks
   have e : layV (.mk 5 n g t l []) ++ r = 91 :: (layL false 0 l [] ++ (93 :: r)) := by rw [layV]; show [91] ++ layL false 0 l [] ++ [93] ++ r = _; simp
   obtain ⟨b, k', q, hb, hq⟩ := sp_list gs false l 0 [] hrs hil (fun h => by cases h) 91 k (93 :: r) (fun _ => by decide)
   refine ⟨91 :: (b ++ [93]), k', 93, ?_, by decide, ?_⟩
   ·rw [Laid]
    refine ⟨fun h => (by cases h), fun h => (by cases h), fun h => (by cases h), fun h => (by cases h), fun h => (by cases h), fun h => (by cases h), fun _ => ⟨b, hb, rfl⟩, fun h => (by cases h)⟩
   ·rw [e, sp_calm gs (c := 91) rfl, hq, sp_calm gs (c := 93) rfl]
    simp
  ·have hcase : (keysGo [] ks && eqI (ks.length : Int) (l.length : Int)) = true := hcase
   rw [Bool.and_eq_true, eqI_eq, decide_eq_true_eq] at hcase
   have e : layV (.mk 6 n g t l ks) ++ r = 60 :: 60 :: (layL true 0 l ks ++ (62 :: 62 :: r)) := by rw [layV]; show [60, 60] ++ layL true 0 l ks ++ [62, 62] ++ r = _; simp
   obtain ⟨b, k', q, hb, hq⟩ := sp_list gs true l 0 ks hrs hil (fun _ => ⟨by omega, keysGo_plain [] ks hcase.1⟩) 60 k (62 :: 62 :: r) (fun h => by cases h)
   refine ⟨60 :: 60 :: (b ++ [62, 62]), k', 62, ?_, by decide, ?_⟩
   ·rw [Laid]
    refine ⟨fun h => (by cases h), fun h => (by cases h), fun h => (by cases h), fun h => (by cases h), fun h => (by cases h), fun h => (by cases h), fun h => (by cases h), fun _ => ⟨b, hb, rfl⟩⟩
   ·rw [e, sp_dict, hq, sp_calm gs (c := 62) rfl, sp_calm gs (c := 62) rfl]
    simp
  ·have e : layV (.mk 7 n g t l ks) ++ r = Lib.itoa n ++ (32 :: (Lib.itoa g ++ (32 :: (82 :: r)))) := by
    rw [layV]; show Lib.itoa n ++ [32] ++ Lib.itoa g ++ [32, 82] ++ r = _; simp
   rw [e, sp_word gs _ _ _ _ (calm_num (itoa_numB n))]
   obtain ⟨g1, k1, hg1, e1⟩ := sp_blank gs (lastB prev (Lib.itoa n)) (Lib.itoa g ++ (32 :: (82 :: r))) k
   rw [e1, sp_word gs _ _ _ _ (calm_num (itoa_numB g))]
   obtain ⟨g2, k2, hg2, e2⟩ := sp_blank gs (lastB 32 (Lib.itoa g)) (82 :: r) k1
   rw [e2, sp_calm gs (c := 82) rfl]
   refine ⟨Lib.itoa n ++ (g1 ++ (Lib.itoa g ++ (g2 ++ [82]))), k2, 82, ?_, by decide, by simp⟩
   rw [Laid]
   exact ⟨fun h => (by cases h), fun h => (by cases h), fun h => (by cases h), fun h => (by cases h), fun h => (by cases h), fun _ => ⟨g1, g2, hg1, hg2, rfl⟩, fun h => (by cases h), fun h => (by cases h)⟩
theorem sp_list (gs : List UInt8) (d : Bool) : ∀ (l : List Val) (i : Nat) (ks : List (List UInt8)), rRs l = true → inL l = true → (d = true → i + l.length ≤ ks.length ∧ ∀ x ∈ ks, plain x = true) → ∀ (prev : UInt8) (k : Nat) (r : List UInt8), (d = false → prev ≠ 60) →
  ∃ b k' q, Lays d (decide (i = 0)) l (ks.drop i) b ∧ spGo gs prev (layL d i l ks ++ r) k false = b ++ spGo gs q r k' false
 | [], i, ks, _, _, _, prev, k, r, _ => ⟨[], k, prev, by rw [Lays], by rw [layL]; rfl⟩
 | v :: vs, i, ks, hr, hin, hkk, prev, k, r, hp => by
  rw [rRs, Bool.and_eq_true] at hr
  rw [inL, Bool.and_eq_true] at hin
  obtain ⟨d1, d2⟩ := drop_head ks i
  obtain ⟨g1, k1, p1, hg1, hp1, e1⟩ : ∃ g1 k1 p1, cond (decide (i = 0)) (g1 = []) (Gap g1) ∧ (d = false → p1 ≠ 60) ∧ ∀ X, spGo gs prev (cond (ltI 0 (i : Int)) [32] [] ++ X) k false = g1 ++ spGo gs p1 X k1 false := by
   by_cases hi : i = 0
   ·subst hi
    exact ⟨[], k, prev, rfl, hp, fun X => rfl⟩
   ·have e : ltI 0 (i : Int) = true := by rw [ltI_eq]; exact decide_eq_true (by omega)
    rw [e, decide_eq_false hi]
    have h1 : ∀ r, opens prev 32 r = false := fun _ => rfl
    have h2 : eqI ((32 : UInt8).toNat : Int) 32 = true := rfl
    have h3 : eqI ((32 : UInt8).toNat : Int) 62 = false := rfl
    cases q : ltI (k : Int) (gs.length : Int) with
    | true =>
     refine ⟨gapOf (gs.getD k 0), k + 1, 32, gap_gap _, fun _ => by decide, fun X => ?_⟩
     show spGo gs prev (32 :: X) k false = _
     rw [spGo, h1, h2, h3, q]; rfl
    | false =>
     refine ⟨[32], k, 32, gap_blank, fun _ => by decide, fun X => ?_⟩
     show spGo gs prev (32 :: X) k false = _
     rw [spGo, h1, h2, h3, q]; rfl
  have hnext : d = true → i + 1 + vs.length ≤ ks.length ∧ ∀ x ∈ ks, plain x = true := fun hd => by
   have := hkk hd
   simp only [List.length_cons] at this
   exact ⟨by omega, this.2⟩
  rw [layL]
  simp only [List.append_assoc]
  rw [e1]
  cases d with
  | false =>
   simp only [cond_false, List.nil_append]
   obtain ⟨s, k2, q, hs, hq, e2⟩ := sp_value gs v hr.1 hin.1 p1 k1 (layL false (i + 1) vs ks ++ r) (hp1 rfl)
   obtain ⟨b, k3, q3, hb, e3⟩ := sp_list gs false vs (i + 1) ks hr.2 hin.2 hnext q k2 r (fun _ => hq)
   rw [decide_eq_false (Nat.succ_ne_zero i), ← d2] at hb
   rw [e2, e3]
   refine ⟨g1 ++ (s ++ b), k3, q3, ?_, by simp only [List.append_assoc]⟩
   rw [Lays]
   exact ⟨g1, [], s, b, hg1, fun h => (by cases h), hs, hb, rfl⟩
  | true =>
   obtain ⟨hlen, hpl⟩ := hkk rfl
   simp only [List.length_cons] at hlen
   have hik : i < ks.length := by omega
   have hkey : plain (ks.getD i []) = true := by
    have e : ks.getD i [] = ks[i] := by simp [List.getD, hik]
    rw [e]; exact hpl _ (List.getElem_mem hik)
   simp only [cond_true, List.append_assoc]
   have e4 : [47] ++ (ks.getD i [] ++ ([32] ++ (layV v ++ (layL true (i + 1) vs ks ++ r)))) = (47 :: ks.getD i []) ++ (32 :: (layV v ++ (layL true (i + 1) vs ks ++ r))) := by simp
   rw [e4, sp_word gs (47 :: ks.getD i []) _ _ _ (fun c hc => by
    rcases List.mem_cons.1 hc with rfl | hc
    ·rfl
    ·exact calm_plain hkey c hc)]
   obtain ⟨g2, k2, hg2, e5⟩ := sp_blank gs (lastB p1 (47 :: ks.getD i [])) (layV v ++ (layL true (i + 1) vs ks ++ r)) k1
   obtain ⟨s, k3, q, hs, hq, e6⟩ := sp_value gs v hr.1 hin.1 32 k2 (layL true (i + 1) vs ks ++ r) (by decide)
   obtain ⟨b, k4, q4, hb, e7⟩ := sp_list gs true vs (i + 1) ks hr.2 hin.2 hnext q k3 r (fun _ => hq)
   rw [decide_eq_false (Nat.succ_ne_zero i), ← d2] at hb
   rw [e5, e6, e7]
   refine ⟨g1 ++ (47 :: (ks.getD i [] ++ g2) ++ (s ++ b)), k4, q4, ?_, by simp⟩
   rw [Lays]
   refine ⟨g1, g2, s, b, hg1, fun _ => hg2, hs, hb, ?_⟩
   rw [d1]; rfl
end
theorem sp_len (gs : List UInt8) : ∀ (r : List UInt8) (prev : UInt8) (k : Nat) (ins : Bool), (spGo gs prev r k ins).length ≤ 7 * r.length
 | [], _, _, _ => by rw [spGo]; exact Nat.le_refl _
 | c :: r, prev, k, ins => by
  have hg := gap_len (gs.getD k 0)
  rw [spGo]
  cases (eqI (c.toNat : Int) 32 && (!(opens prev c r || ins) && ltI (k : Int) gs.length)) with
  | true =>
   have ih := sp_len gs r c (k + 1) (opens prev c r || ins)
   rw [cond_true, List.length_append, List.length_cons]; omega
  | false =>
   have ih := sp_len gs r c k ((opens prev c r || ins) && !eqI (c.toNat : Int) 62)
   rw [cond_false, List.length_append, List.length_cons, List.length_cons, List.length_nil]; omega
end Px
namespace Px
open Go.Vx Go
theorem pre_byte {p : List UInt8} {s : Int} {c : UInt8} (h0 : 0 ≤ s) (h1 : s < p.length) : preAt p s [c] = eqI (rByte p s) (c.toNat : Int) := by
 obtain ⟨n, rfl⟩ : ∃ j : Nat, s = (j : Int) := ⟨s.toNat, by omega⟩
 have hn : n < p.length := by omega
 unfold preAt hasPre rByte
 rw [Int.toNat_natCast, drop_cons p 0 n hn, u8_eq]
 refine decide_eq_decide.2 ?_
 simp
mutual
def clamp : Val → Val | .mk k n g t l ks => .mk k n (min g 100000) t (clamps l) ks
def clamps : List Val → List Val | [] => [] | v :: r => clamp v :: clamps r
end
theorem clamps_app : ∀ (l : List Val) (v : Val), clamps (l ++ [v]) = clamps l ++ [clamp v]
 | [], v => by rw [List.nil_append, clamps, clamps, clamps]; rfl
 | a :: l, v => by rw [List.cons_append, clamps, clamps, clamps_app l v]; rfl
theorem clamps_len : ∀ l : List Val, (clamps l).length = l.length
 | [] => by rw [clamps]
 | v :: r => by rw [clamps, List.length_cons, List.length_cons, clamps_len r]
theorem loc_clamp (k n g : Int) (t : List UInt8) (l : Nat) (ks : List (List UInt8)) : locB k n (min g 100000) t l ks = locB k n g t l ks := by
 have e1 : eqI (min g 100000) 0 = eqI g 0 := by rw [eqI_eq, eqI_eq]; exact decide_eq_decide.2 (by omega)
 have e2 : (leI 0 (min g 100000) && leI (min g 100000) 65535) = (leI 0 g && leI g 65535) := by
  rw [Bool.eq_iff_iff]
  simp only [leI_eq, Bool.and_eq_true, decide_eq_true_eq]
  omega
 unfold locB bareB
 rw [e1, e2]
mutual
theorem rR_clamp : ∀ v : Val, rR (clamp v) = rR v
 | .mk k n g t l ks => by rw [clamp, rR, rR, clamps_len, loc_clamp, rRs_clamp l]
theorem rRs_clamp : ∀ l : List Val, rRs (clamps l) = rRs l
 | [] => by rw [clamps]
 | v :: r => by rw [clamps, rRs, rRs, rR_clamp v, rRs_clamp r]
end
mutual
theorem dl_clamp : ∀ v : Val, dl (clamp v) = dl v
 | .mk k n g t l ks => by rw [clamp, dl, dl, dls_clamp l]
theorem dls_clamp : ∀ l : List Val, dls (clamps l) = dls l
 | [] => by rw [clamps]
 | v :: r => by rw [clamps, dls, dls, dl_clamp v, dls_clamp r]
end
theorem loc_gen {k n g : Int} {t : List UInt8} {l : Nat} {ks : List (List UInt8)} (h : locB k n g t l ks = true) : min g 100000 = g := by
 unfold locB at h
 rw [Bool.and_eq_true, Bool.and_eq_true] at h
 obtain ⟨_, hb, hc⟩ := h
 cases q : eqI k 7
 ·unfold bareB at hb
  rw [q] at hb
  simp only [Bool.false_or, Bool.and_eq_true, eqI_eq, decide_eq_true_eq] at hb
  have := hb.2.1
  omega
 ·have hk := eqI_of q
  subst hk
  have hc : (leI 1 n && (leI n 2147483647 && (leI 0 g && leI g 65535))) = true := hc
  simp only [leI_eq, Bool.and_eq_true, decide_eq_true_eq] at hc
  omega
mutual
theorem clamp_id : ∀ v : Val, rR v = true → clamp v = v
 | .mk k n g t l ks, h => by
  rw [rR, Bool.and_eq_true] at h
  rw [clamp, loc_gen h.1, clamps_id l h.2]
theorem clamps_id : ∀ l : List Val, rRs l = true → clamps l = l
 | [], _ => by rw [clamps]
 | v :: r, h => by
  rw [rRs, Bool.and_eq_true] at h
  rw [clamps, clamp_id v h.1, clamps_id r h.2]
end
theorem okV_clamp (v : Val) : okV 0 (clamp v) = okV 0 v := by
 unfold okV
 rw [rR_clamp, dl_clamp]
end Px
namespace Px
open Go.Vx Go
theorem rList_deep {val : Int → Val × Int × Bool} {p : List UInt8} {kind : Int} {e : List UInt8} : ∀ (f : Nat) (i : Int) (ls : List Val) (ks : List (List UInt8)),
  (rListGo val p kind e f i ls ks).2.2 = true → dls ls ≤ dl (rListGo val p kind e f i ls ks).1
 | 0, i, ls, ks, h => by cases h
 | f + 1, i, ls, ks, h => by
  have app : ∀ (l : List Val) (v : Val), dls l ≤ dls (l ++ [v]) := by
   intro l
   induction l with
   | nil => intro v; exact Nat.zero_le _
   | cons a l ih => intro v; rw [List.cons_append, dls, dls]; have := ih v; omega
  rw [rListGo] at h ⊢
  cases q1 : preAt p (skipI p i) e
  ·rw [q1] at h
   simp only [cond_false] at h ⊢
   cases q2 : eqI kind 6
   ·rw [q2] at h
    simp only [cond_false] at h ⊢
    cases q : (val (skipI p i)).2.2
    ·rw [q] at h; cases h
    ·rw [q] at h
     simp only [cond_true] at h ⊢
     exact Nat.le_trans (app _ _) (rList_deep f _ _ _ h)
   ·rw [q2] at h
    simp only [cond_true] at h ⊢
    cases q3 : preAt p (skipI p i) [47]
    ·rw [q3] at h; cases h
    ·rw [q3] at h
     simp only [cond_true] at h ⊢
     cases q4 : plain (wordS p (skipI p i + 1))
     ·rw [q4] at h; cases h
     ·rw [q4] at h
      simp only [cond_true] at h ⊢
      cases q : (val (wordE p (skipI p i + 1))).2.2
      ·rw [q] at h; cases h
      ·rw [q] at h
       simp only [cond_true] at h ⊢
       exact Nat.le_trans (app _ _) (rList_deep f _ _ _ h)
  ·simp only [cond_true]
   rw [dl]; exact Nat.le_refl _
theorem dls_last : ∀ (l : List Val) (v : Val), dl v + 1 ≤ dls (l ++ [v])
 | [], v => by rw [List.nil_append, dls, dls]; omega
 | a :: l, v => by rw [List.cons_append, dls]; have := dls_last l v; omega
def RelA (p : List UInt8) (val : Int → Val × Int × Int) (val' : Int → Val × Int × Bool) : Prop :=
 ∀ j, okAt p j = true → eqI (val j).2.1 0 = true → val' j = (clamp (val j).1, (val j).2.2, true)
def RelB (p : List UInt8) (m : Nat) (val : Int → Val × Int × Int) (val' : Int → Val × Int × Bool) : Prop :=
 ∀ j, okAt p j = true → eqI (val j).2.1 0 = false → (val' j).2.2 = true → m ≤ dl (val' j).1
theorem list_rel {val : Int → Val × Int × Int} {val' : Int → Val × Int × Bool} {p : List UInt8} {m : Nat} (kind : Int) (e : List UInt8) (hA : RelA p val val') (hB : RelB p m val val')
  (hv : ∀ j, okAt p j = true → Onward p j (val j).2.1 (val j).2.2) : ∀ (f : Nat) (i : Int) (ls : List Val) (ks : List (List UInt8)), okAt p i = true →
  (eqI (oListGo val p kind e f i ls ks).2.1 0 = true → rListGo val' p kind e f i (clamps ls) ks = (clamp (oListGo val p kind e f i ls ks).1, (oListGo val p kind e f i ls ks).2.2, true)) ∧
  (eqI (oListGo val p kind e f i ls ks).2.1 0 = false → (rListGo val' p kind e f i (clamps ls) ks).2.2 = true → m + 1 ≤ dl (rListGo val' p kind e f i (clamps ls) ks).1)
 | 0, i, ls, ks, _ => ⟨fun h => (by cases h), fun _ h => (by cases h)⟩
 | f + 1, i, ls, ks, hi => by
  have h1 := ok_skip hi
  rw [oListGo, rListGo, skipI_idem hi]
  cases q1 : preAt p (skipI p i) e
  ·simp only [cond_false]
   cases q2 : eqI kind 6
   ·simp only [cond_false]
    cases q : eqI (val (skipI p i)).2.1 0
    ·simp only [cond_false]
     refine ⟨fun h => (by rw [q] at h; cases h), fun _ h => ?_⟩
     cases q' : (val' (skipI p i)).2.2
     ·rw [q'] at h; cases h
     ·rw [q'] at h
      simp only [cond_true] at h ⊢
      have hm := hB _ h1 q q'
      have := rList_deep f _ _ _ h
      have := dls_last (clamps ls) (val' (skipI p i)).1
      omega
    ·have ha := hA _ h1 q
     have ho := (hv _ h1)
     have ih := list_rel kind e hA hB hv f (val (skipI p i)).2.2 (ls ++ [(val (skipI p i)).1]) ks ho.1
     rw [clamps_app] at ih
     rw [ha]
     simp only [cond_true]
     exact ih
   ·simp only [cond_true]
    cases q3 : preAt p (skipI p i) [47]
    ·exact ⟨fun h => (by cases h), fun _ h => (by cases h)⟩
    ·have h3 : okAt p (skipI p i + 1) = true := ok_pre h1 q3
     obtain ⟨n1, n2⟩ := oName_eq p (skipI p i + 1)
     simp only [cond_true, n1]
     cases q4 : plain (wordS p (skipI p i + 1))
     ·simp only [cond_false]
      refine ⟨fun h => ?_, fun _ h => (by cases h)⟩
      rw [n1, q4] at h; cases h
     ·rw [n2 q4]
      have h4 := ok_word h3
      simp only [cond_true]
      cases q : eqI (val (wordE p (skipI p i + 1))).2.1 0
      ·simp only [cond_false]
       refine ⟨fun h => (by rw [q] at h; cases h), fun _ h => ?_⟩
       cases q' : (val' (wordE p (skipI p i + 1))).2.2
       ·rw [q'] at h; cases h
       ·rw [q'] at h
        simp only [cond_true] at h ⊢
        have hm := hB _ h4 q q'
        have := rList_deep f _ _ _ h
        have := dls_last (clamps ls) (val' (wordE p (skipI p i + 1))).1
        omega
      ·have ha := hA _ h4 q
       have ho := hv _ h4
       have ih := list_rel kind e hA hB hv f (val (wordE p (skipI p i + 1))).2.2 (ls ++ [(val (wordE p (skipI p i + 1))).1]) (ks ++ [wordS p (skipI p i + 1)]) ho.1
       rw [clamps_app] at ih
       rw [ha]
       simp only [cond_true]
       exact ih
  ·refine ⟨fun _ => ?_, fun h => by cases h⟩
   simp only [cond_true]
   rw [clamp, show min (0 : Int) 100000 = 0 by decide]
theorem text_rel (p : List UInt8) (i : Int) : (eqI (oText p i).2.1 0 = true → rText p i = (clamp (oText p i).1, (oText p i).2.2, true)) ∧ (eqI (oText p i).2.1 0 = false → (rText p i).2.2 = false) := by
 unfold oText rText
 cases q1 : ltI (i + (gtN (p.drop i.toNat) : Int)) p.length <;> cases q2 : textIs (gtL (p.drop i.toNat))
 ·exact ⟨fun h => (by cases h), fun _ => rfl⟩
 ·exact ⟨fun h => (by cases h), fun _ => rfl⟩
 ·exact ⟨fun h => (by cases h), fun _ => rfl⟩
 ·refine ⟨fun _ => ?_, fun h => by cases h⟩
  simp only [Bool.and_self, cond_true]
  rw [clamp, clamps, show min (0 : Int) 100000 = 0 by decide]
theorem word_rel (p : List UInt8) (i : Int) : (eqI (oWord p i).2.1 0 = true → rWord p i = (clamp (oWord p i).1, (oWord p i).2.2, true)) ∧ (eqI (oWord p i).2.1 0 = false → (rWord p i).2.2 = false) := by
 unfold oWord rWord
 cases q1 : decide (wordS p i = wNull)
 ·cases q2 : decide (wordS p i = wTrue)
  ·cases q3 : decide (wordS p i = wFalse)
   ·cases q4 : numOk (wordS p i)
    ·refine ⟨fun h => absurd (eqI_of h) (numE_ne q4), fun _ => rfl⟩
    ·refine ⟨fun _ => ?_, fun h => by cases h⟩
     simp only [cond_true, cond_false]
     unfold refV
     cases isRef p (wordE p i) (wordS p i)
     ·simp only [cond_false]
      rw [clamp, clamps, show min (0 : Int) 100000 = 0 by decide]
     ·simp only [cond_true]
      rw [clamp, clamps, show min (min (numV (genS p (wordE p i))) 2147483647) 100000 = min (numV (genS p (wordE p i))) 100000 by omega]
   ·refine ⟨fun _ => ?_, fun h => by cases h⟩
    simp only [cond_true, cond_false]
    rw [clamp, clamps, show min (0 : Int) 100000 = 0 by decide]
  ·refine ⟨fun _ => ?_, fun h => by cases h⟩
   simp only [cond_true, cond_false]
   rw [clamp, clamps, show min (0 : Int) 100000 = 0 by decide]
 ·refine ⟨fun _ => ?_, fun h => by cases h⟩
  simp only [cond_true]
  show _ = (clamp v0, _, _)
  unfold v0
  rw [clamp, clamps, show min (0 : Int) 100000 = 0 by decide]
theorem word_none {p : List UInt8} {i : Int} (h : wordS p i = []) : eqI (oWord p i).2.1 0 = false ∧ (rWord p i).2.2 = false := by
 unfold oWord rWord
 rw [h]
 exact ⟨rfl, rfl⟩
end Px
namespace Px
open Go.Vx Go
theorem stop_byte {p : List UInt8} {s : Int} {c : UInt8} (h : eqI (rByte p s) (c.toNat : Int) = true) : p.getD s.toNat 0 = c := by
 unfold rByte at h
 rw [u8_eq] at h
 exact of_decide_eq_true h
theorem value_rel : ∀ m : Nat, (∀ p, RelA p (oValueF m p) (rValueF (m + 8) p)) ∧ (∀ p, RelB p m (oValueF m p) (rValueF (m + 8) p))
 | 0 => ⟨fun p j _ h => (by cases h), fun p j _ _ _ => Nat.zero_le _⟩
 | m + 1 => by
  obtain ⟨ihA, ihB⟩ := value_rel m
  have key : ∀ (p : List UInt8) (i : Int), okAt p i = true →
    (eqI (oValueF (m + 1) p i).2.1 0 = true → rValueF (m + 8 + 1) p i = (clamp (oValueF (m + 1) p i).1, (oValueF (m + 1) p i).2.2, true)) ∧
    (eqI (oValueF (m + 1) p i).2.1 0 = false → (rValueF (m + 8 + 1) p i).2.2 = true → m + 1 ≤ dl (rValueF (m + 8 + 1) p i).1) := by
   intro p i hi
   have h1 := ok_skip hi
   obtain ⟨s0, s1, s2⟩ := okAt_iff.1 h1
   have hv : ∀ j, okAt p j = true → Onward p j (oValueF m p j).2.1 (oValueF m p j).2.2 := fun j hj => oValueF_on m hj
   rw [oValueF, rValueF, skipI_idem hi, skipI_idem hi, skipI_idem hi, skipI_idem hi]
   by_cases he : (p.length : Int) ≤ skipI p i
   ·rw [pre_end he, pre_end he, pre_end he, pre_end he, pre_end he, show leI (p.length : Int) (skipI p i) = true by rw [leI_eq]; exact decide_eq_true he]
    simp only [cond_false, cond_true]
    have hw := (word_none (word_end he)).1
    exact ⟨fun h => (by rw [hw] at h; cases h), fun _ h => (by cases h)⟩
   ·have hlt : skipI p i < p.length := by omega
    rw [show leI (p.length : Int) (skipI p i) = false by rw [leI_eq]; exact decide_eq_false he, pre_byte s0 hlt, pre_byte s0 hlt, pre_byte s0 hlt, pre_byte s0 hlt]
    simp only [cond_false]
    have c91 : (((91 : UInt8).toNat : Nat) : Int) = 91 := rfl
    have c60 : (((60 : UInt8).toNat : Nat) : Int) = 60 := rfl
    have c40 : (((40 : UInt8).toNat : Nat) : Int) = 40 := rfl
    have c47 : (((47 : UInt8).toNat : Nat) : Int) = 47 := rfl
    rw [c91, c60, c40, c47]
    have h2 : okAt p (skipI p i + 1) = true := okAt_iff.2 ⟨by omega, by omega, s2⟩
    cases q1 : preAt p (skipI p i) [60, 60]
    ·simp only [cond_false]
     cases q2 : eqI (rByte p (skipI p i)) 91
     ·simp only [cond_false]
      cases q3 : eqI (rByte p (skipI p i)) 60
      ·simp only [cond_false]
       cases q4 : eqI (rByte p (skipI p i)) 40
       ·simp only [cond_false]
        cases q5 : eqI (rByte p (skipI p i)) 47
        ·simp only [cond_false]
         obtain ⟨w1, w2⟩ := word_rel p (skipI p i)
         exact ⟨w1, fun h h' => (by rw [w2 h] at h'; cases h')⟩
        ·simp only [cond_true]
         obtain ⟨n1, n2⟩ := oName_eq p (skipI p i + 1)
         rw [n1]
         cases q6 : plain (wordS p (skipI p i + 1))
         ·simp only [cond_false]
          exact ⟨fun h => (by rw [n1, q6] at h; cases h), fun _ h => (by cases h)⟩
         ·rw [n2 q6]
          simp only [cond_true]
          refine ⟨fun _ => ?_, fun h => (by cases h)⟩
          rw [clamp, clamps, show min (0 : Int) 100000 = 0 by decide]
       ·simp only [cond_true]
        have hb := stop_byte (c := 40) q4
        have q5 : eqI (rByte p (skipI p i)) 47 = false := by
         unfold rByte; rw [hb]; rfl
        rw [q5]
        simp only [cond_false]
        have hw := (word_none (word_stop s0 hlt (by rw [hb]; rfl))).2
        exact ⟨fun h => (by cases h), fun _ h => (by rw [hw] at h; cases h)⟩
      ·simp only [cond_true]
       obtain ⟨w1, w2⟩ := text_rel p (skipI p i + 1)
       exact ⟨w1, fun h h' => (by rw [w2 h] at h'; cases h')⟩
     ·simp only [cond_true]
      exact list_rel 5 [93] (ihA p) (ihB p) hv (p.length + 2) (skipI p i + 1) [] [] h2
    ·simp only [cond_true]
     have h3 : okAt p (skipI p i + 2) = true := ok_pre h1 q1
     exact list_rel 6 [62, 62] (ihA p) (ihB p) hv (p.length + 2) (skipI p i + 2) [] [] h3
  exact ⟨fun p j hj => (key p j hj).1, fun p j hj => (key p j hj).2⟩
def errB (e : Int) : Prop := e = 0 ∨ e = 2 ∨ e = 14
theorem numE_err (s : List UInt8) : errB (numE s) := by
 unfold numE
 cases numOk s
 ·cases dotted s
  ·exact .inr (.inl rfl)
  ·exact .inr (.inr rfl)
 ·exact .inl rfl
theorem oName_err (p : List UInt8) (i : Int) : errB (oName p i).2.1 := by
 unfold oName
 cases leI 0 (Lib.indexByte (wordS p i) 35)
 ·cases plain (wordS p i)
  ·exact .inr (.inl rfl)
  ·exact .inl rfl
 ·exact .inr (.inr rfl)
theorem oText_err (p : List UInt8) (i : Int) : errB (oText p i).2.1 := by
 unfold oText
 cases (ltI (i + (gtN (p.drop i.toNat) : Int)) p.length && textIs (gtL (p.drop i.toNat)))
 ·exact .inr (.inl rfl)
 ·exact .inl rfl
theorem oWord_err (p : List UInt8) (i : Int) : errB (oWord p i).2.1 := by
 unfold oWord
 cases decide (wordS p i = wNull)
 ·cases decide (wordS p i = wTrue)
  ·cases decide (wordS p i = wFalse)
   ·cases numOk (wordS p i)
    ·exact numE_err _
    ·exact .inl rfl
   ·exact .inl rfl
  ·exact .inl rfl
 ·exact .inl rfl
theorem oList_err {val : Int → Val × Int × Int} {p : List UInt8} (kind : Int) (e : List UInt8) (hv : ∀ j, errB (val j).2.1) : ∀ (f : Nat) (i : Int) (ls : List Val) (ks : List (List UInt8)), errB (oListGo val p kind e f i ls ks).2.1
 | 0, i, ls, ks => .inr (.inl rfl)
 | f + 1, i, ls, ks => by
  rw [oListGo]
  cases preAt p (skipI p i) e
  ·simp only [cond_false]
   cases eqI kind 6
   ·simp only [cond_false]
    cases eqI (val (skipI p i)).2.1 0
    ·exact hv _
    ·exact oList_err kind e hv f _ _ _
   ·simp only [cond_true]
    cases preAt p (skipI p (skipI p i)) [47]
    ·exact .inr (.inl rfl)
    ·simp only [cond_true]
     cases eqI (oName p (skipI p (skipI p i) + 1)).2.1 0
     ·exact oName_err _ _
     ·simp only [cond_true]
      cases eqI (val (oName p (skipI p (skipI p i) + 1)).2.2).2.1 0
      ·exact hv _
      ·exact oList_err kind e hv f _ _ _
  ·exact .inl rfl
theorem oValue_err : ∀ (m : Nat) (p : List UInt8) (i : Int), errB (oValueF m p i).2.1
 | 0, p, i => .inr (.inl rfl)
 | m + 1, p, i => by
  have hv : ∀ j, errB (oValueF m p j).2.1 := fun j => oValue_err m p j
  rw [oValueF]
  cases preAt p (skipI p i) [60, 60]
  ·simp only [cond_false]
   cases preAt p (skipI p (skipI p i)) [91]
   ·simp only [cond_false]
    cases preAt p (skipI p (skipI p (skipI p i))) [60]
    ·simp only [cond_false]
     cases preAt p (skipI p (skipI p (skipI p (skipI p i)))) [40]
     ·simp only [cond_false]
      cases preAt p (skipI p (skipI p (skipI p (skipI p (skipI p i))))) [47]
      ·exact oWord_err _ _
      ·simp only [cond_true]
       cases eqI (oName p (skipI p (skipI p (skipI p (skipI p (skipI p i)))) + 1)).2.1 0
       ·exact oName_err _ _
       ·exact .inl rfl
     ·exact .inr (.inr rfl)
    ·exact oText_err _ _
   ·exact oList_err 5 _ hv _ _ _ _
  ·exact oList_err 6 _ hv _ _ _ _
theorem rList_small {val : Int → Val × Int × Bool} {p : List UInt8} (kind : Int) {e : List UInt8} (hs : ∀ j, okAt p j = true → (val j).2.2 = true → smallV (val j).1 = true) (hv : ∀ j, okAt p j = true → Further p j (val j).2.2 (val j).2.1) :
  ∀ (f : Nat) (i : Int) (ls : List Val) (ks : List (List UInt8)), okAt p i = true → (ls.length : Int) ≤ i → (ks.length : Int) ≤ i → smallL ls = true → (rListGo val p kind e f i ls ks).2.2 = true → smallV (rListGo val p kind e f i ls ks).1 = true
 | 0, i, ls, ks, _, _, _, _, h => by cases h
 | f + 1, i, ls, ks, hi, hl, hk, hsm, h => by
  have h1 := ok_skip hi
  have g1 := skip_ge hi
  obtain ⟨i0, i1, i2⟩ := okAt_iff.1 hi
  have len1 : ∀ (v : Val), (((ls ++ [v]).length : Nat) : Int) = (ls.length : Int) + 1 := fun v => by rw [List.length_append]; simp
  have len2 : ∀ (v : List UInt8), (((ks ++ [v]).length : Nat) : Int) = (ks.length : Int) + 1 := fun v => by rw [List.length_append]; simp
  rw [rListGo] at h ⊢
  cases q1 : preAt p (skipI p i) e
  ·rw [q1] at h
   simp only [cond_false] at h ⊢
   cases q2 : eqI kind 6
   ·rw [q2] at h
    simp only [cond_false] at h ⊢
    cases q : (val (skipI p i)).2.2
    ·rw [q] at h; cases h
    ·rw [q] at h
     simp only [cond_true] at h ⊢
     have hx := hv _ h1 q
     exact rList_small kind hs hv f _ _ _ hx.1 (by rw [len1]; omega) (by omega) (smallL_app _ _ hsm (hs _ h1 q)) h
   ·rw [q2] at h
    simp only [cond_true] at h ⊢
    cases q3 : preAt p (skipI p i) [47]
    ·rw [q3] at h; cases h
    ·rw [q3] at h
     have h3 : okAt p (skipI p i + 1) = true := ok_pre h1 q3
     simp only [cond_true] at h ⊢
     cases q4 : plain (wordS p (skipI p i + 1))
     ·rw [q4] at h; cases h
     ·rw [q4] at h
      have h4 := ok_word h3
      have g4 := word_ge h3
      simp only [cond_true] at h ⊢
      cases q : (val (wordE p (skipI p i + 1))).2.2
      ·rw [q] at h; cases h
      ·rw [q] at h
       simp only [cond_true] at h ⊢
       have hx := hv _ h4 q
       exact rList_small kind hs hv f _ _ _ hx.1 (by rw [len1]; omega) (by rw [len2]; omega) (smallL_app _ _ hsm (hs _ h4 q)) h
  ·simp only [cond_true]
   have e1 : Nat.ble ls.length 1000000 = true := Nat.ble_eq ▸ (by omega : ls.length ≤ 1000000)
   have e2 : Nat.ble ks.length 1000000 = true := Nat.ble_eq ▸ (by omega : ks.length ≤ 1000000)
   rw [smallV, hsm, e1, e2]
   rfl
theorem rWord_small (p : List UInt8) (i : Int) : smallV (rWord p i).1 = true := by
 unfold rWord
 cases decide (wordS p i = wNull) <;> cases decide (wordS p i = wTrue) <;> cases decide (wordS p i = wFalse) <;> cases numOk (wordS p i) <;> first | rfl | skip
 simp only [cond_true, cond_false]
 unfold refV
 cases isRef p (wordE p i) (wordS p i) <;> rfl
theorem rText_small (p : List UInt8) (i : Int) : smallV (rText p i).1 = true := by
 unfold rText
 cases textIs (gtL (p.drop i.toNat)) <;> rfl
theorem rValue_small : ∀ (m : Nat) (p : List UInt8) (i : Int), okAt p i = true → (rValueF m p i).2.2 = true → smallV (rValueF m p i).1 = true
 | 0, p, i, _, h => by cases h
 | m + 1, p, i, hi, h => by
  have h1 := ok_skip hi
  obtain ⟨s0, s1, s2⟩ := okAt_iff.1 h1
  have hs : ∀ j, okAt p j = true → (rValueF m p j).2.2 = true → smallV (rValueF m p j).1 = true := fun j hj => rValue_small m p j hj
  have hv : ∀ j, okAt p j = true → Further p j (rValueF m p j).2.2 (rValueF m p j).2.1 := fun j hj => rValueF_on m hj
  rw [rValueF] at h ⊢
  cases q0 : leI (p.length : Int) (skipI p i)
  ·rw [q0] at h
   rw [leI_eq, decide_eq_false_iff_not] at q0
   have h2 : okAt p (skipI p i + 1) = true := okAt_iff.2 ⟨by omega, by omega, s2⟩
   simp only [cond_false] at h ⊢
   cases q1 : preAt p (skipI p i) [60, 60]
   ·rw [q1] at h
    simp only [cond_false] at h ⊢
    cases q2 : eqI (rByte p (skipI p i)) 91
    ·rw [q2] at h
     simp only [cond_false] at h ⊢
     cases q3 : eqI (rByte p (skipI p i)) 60
     ·rw [q3] at h
      simp only [cond_false] at h ⊢
      cases q4 : eqI (rByte p (skipI p i)) 47
      ·exact rWord_small _ _
      ·rfl
     ·exact rText_small _ _
    ·rw [q2] at h
     simp only [cond_true] at h ⊢
     exact rList_small 5 hs hv _ _ [] [] h2 (by simp only [List.length_nil]; omega) (by simp only [List.length_nil]; omega) rfl h
   ·rw [q1] at h
    have h3 : okAt p (skipI p i + 2) = true := ok_pre h1 q1
    simp only [cond_true] at h ⊢
    exact rList_small 6 hs hv _ _ [] [] h3 (by simp only [List.length_nil]; omega) (by simp only [List.length_nil]; omega) rfl h
  ·rfl
theorem rSmall_ok {p : List UInt8} (h : okAt p 0 = true) : rSmall p = true := by
 unfold rSmall
 cases q : (rValue p 0 0).2.2
 ·rfl
 ·exact rValue_small _ p 0 h q
theorem parse_rel {p : List UInt8} (h : okAt p 0 = true) :
  ((rParse p).2.2 = true → oParse p = ((rParse p).1, (rParse p).2.1, 0) ∧ okV 0 (rParse p).1 = true ∧ smallV (rParse p).1 = true) ∧
  ((rParse p).2.2 = false → (oParse p).1 = v0 ∧ (oParse p).2.1 = 0 ∧ ((oParse p).2.2 = 2 ∨ (oParse p).2.2 = 14)) := by
 have eo : oValue p 0 0 = oValueF 33 p 0 := rfl
 have er : rValue p 0 0 = rValueF (33 + 8) p 0 := rfl
 have hA := (value_rel 33).1 p 0 h
 have hB := (value_rel 33).2 p 0 h
 have hs := rValue_small (33 + 8) p 0 h
 unfold oParse rParse
 rw [eo, er]
 cases q : eqI (oValueF 33 p 0).2.1 0 with
 | true =>
  have ha := hA q
  rw [ha]
  rw [ha] at hs
  have hs := hs rfl
  simp only [cond_true, okV_clamp]
  cases qk : okV 0 (oValueF 33 p 0).1 with
  | true =>
   have hr : rR (oValueF 33 p 0).1 = true := by
    unfold okV at qk
    rw [Bool.and_eq_true] at qk
    exact qk.1
   rw [clamp_id _ hr] at hs ⊢
   refine ⟨fun _ => ⟨rfl, qk, hs⟩, fun h => (by cases h)⟩
  | false => exact ⟨fun h => (by cases h), fun _ => (by simp)⟩
 | false =>
  simp only [cond_false]
  have herr := oValue_err 33 p 0
  have hne : (oValueF 33 p 0).2.1 ≠ 0 := fun hh => by rw [hh] at q; cases q
  have he : (oValueF 33 p 0).2.1 = 2 ∨ (oValueF 33 p 0).2.1 = 14 := by
   rcases herr with h | h | h
   ·exact absurd h hne
   ·exact .inl h
   ·exact .inr h
  cases qr : (rValueF (33 + 8) p 0).2.2 with
  | false => exact ⟨fun h => (by cases h), fun _ => (by first | exact ⟨rfl, rfl, he⟩ | simpa using he)⟩
  | true =>
   have hd := hB q qr
   have hk : okV 0 (rValueF (33 + 8) p 0).1 = false := by
    unfold okV
    rw [show leI ((dl (rValueF (33 + 8) p 0).1 : Int) + 0) 32 = false by rw [leI_eq]; exact decide_eq_false (by omega)]
    simp
   simp only [cond_true, hk, cond_false]
   exact ⟨fun h => (by cases h), fun _ => (by first | exact ⟨rfl, rfl, he⟩ | simpa using he)⟩
end Px
namespace Go.Vx
open Go
theorem sp9 (l : List Bit) (gs : List UInt8) (hb : ∀ x ∈ l, Px.BitIn x) : (spec9 [.lf (.sl .bit l), .lf (.sl .u8 gs)] []).get = some (.lf (.bool true), []) := by
 show (w9 l gs).get = _
 obtain ⟨m1, m2, m3⟩ := Px.made_facts hb
 have c1 : ∀ a : Int, eqI a a = true := fun a => by rw [eqI_eq]; exact decide_eq_true rfl
 have al : ∀ v, Px.alike v v = true := fun v => (Px.alike_iff v v).2 rfl
 have hsame : ∀ p : List UInt8, Px.same p p = true := fun p => decide_eq_true rfl
 have n0 : Int.toNat 0 = 0 := rfl
 have z0 : leI 0 0 = true := rfl
 have z1 : ([] : List UInt8).length ≤ 7 * 0 := Nat.le_refl _
 have pv : ∀ p, Px.prevB p 0 = 0 := fun _ => rfl
 unfold w9 fin9 out9 et9
 generalize Px.made l = v at m1 m2 m3 ⊢
 simp only [Tree.get_ite, Tree.get_leaf, Px.v_eta, m2, cond_true]
 cases q : Px.okV 0 v with
 | false => rfl
 | true =>
  obtain ⟨hr, _⟩ := Px.okV_iff.1 q
  have e1 := Px.okLay_of q (by omega)
  obtain ⟨s, k', q2, hs, _, he⟩ := Px.sp_value gs v hr m1 0 0 [] (by decide)
  rw [List.append_nil, Px.spGo, List.append_nil] at he
  have hl := Px.sp_len gs (Px.layV v) 0 0 false
  rw [he] at hl
  have hsl : s.length ≤ 1000000 := by omega
  have hp := Px.parse_laid (T := []) hs q m1 Px.after_nil (by rw [List.append_nil]; exact hsl)
  rw [List.append_nil] at hp
  have hat : Px.okAt s 0 = true := Px.okAt_iff.2 ⟨by omega, by omega, hsl⟩
  have hsm := Px.rSmall_ok hat
  obtain ⟨r1, r2⟩ := Px.parse_rel hat
  have hR : Px.rParse s = (v, (s.length : Int), true) := by
   cases qr : (Px.rParse s).2.2 with
   | true =>
    obtain ⟨o1, _, _⟩ := r1 qr
    rw [hp] at o1
    injection o1 with o2 o3
    injection o3 with o3 _
    rw [o2, o3, ← qr]
   | false =>
    obtain ⟨_, _, o3⟩ := r2 qr
    rw [hp] at o3
    rcases o3 with o3 | o3 <;> cases o3
  have b1 : leI ((Px.layV v).length : Int) 1000000 = true := by rw [leI_eq]; exact decide_eq_true (by omega)
  have b2 : leI 0 ((Px.layV v).length : Int) = true := by rw [leI_eq]; exact decide_eq_true (by omega)
  have b3 : decide (([] : List UInt8).length ≤ 7 * 0) = true := rfl
  simp only [Bool.not_true, cond_false, cond_true, Px.okLay'_eq, Px.layV'_eq, Px.spGo'_eq, e1, hsame, c1, z0, b1, b2, n0, pv, List.drop_zero, List.nil_append, he, hat, hsm, hp, hR, Px.v_eta, m2, al, Bool.and_self, b3, beq_self_eq_true]
end Go.Vx
namespace Go.Vx
open Go Go.RowKit
def Gh.none : Gh := { blk := fun _ => Option.none, tok := fun _ => Option.none, ver := zero0, cur := zero0, oth := fun _ _ => False, bl := fun _ => (0, 0, 0) }
theorem none_pur (b o : Nat) : Gh.none.pur b o := by
 refine ⟨⟨fun _ h => ?_, fun _ _ _ h => ?_⟩, fun h => h⟩
 ·cases h
 ·cases h
theorem none_hrel {Key : Type} [DecidableEq Key] {E : Env Key} {w : World} (hg : ∀ g cs, E.gl g = some cs → Glob E Gh.none w cs g) : HRel E (fun i => ([] : List (Obj E.A))[i]?) Gh.none w where
 ob i o h := by simp at h
 lt _ _ h := by cases h
 inj _ _ _ h := by cases h
 tokb _ _ _ _ h := by cases h
 tokj _ _ _ _ _ _ _ _ h := by cases h
 gl := hg
 othf _ _ h := h.elim
theorem none_below {G' : Gh} {w w' : World} (h : Fr Gh.none w G' w') : Below w.heap.size w w' :=
 ⟨h.os, h.tape, h.output, h.size, fun k hk => (h.blk k hk ⟨fun _ h => (by cases h), fun _ _ _ h => (by cases h)⟩).1⟩
theorem calls_of_valid {Key : Type} [DecidableEq Key] {E : Env Key} {f : FuncId} {spec : Spec E} (hV : Valid E f spec) {args : List (RV E.A)} {w : World} {vals : Array Value} {fn : Func} (hf : E.P.funcs[f]? = some fn) (hb : fn.body.isSome = true) (hnm : (fn.name == "runtime.NumGoroutine") = false) {b : Bool}
  (hs : (spec args []).get = some (.lf (.bool b), [])) (ha : ARel E Gh.none w args vals)
  (hg : ∀ g cs, E.gl g = some cs → Glob E Gh.none w cs g) :
  Calls E.P f vals w fun e w' => e = .returned (.bool b) ∧ Below w.heap.size w w' := by
 unfold Valid at hV
 have h := hV args [] _ _ hs Gh.none w vals ha (none_hrel hg) rfl rfl
 have hcf : (callFunc f vals).run E.P w = .ok (.enter f vals) w := by
  obtain ⟨c, hc⟩ := Option.isSome_iff_exists.1 hb
  unfold callFunc
  have hne : ¬ fn.name = "runtime.NumGoroutine" := by simpa using hnm
  simp [hf, hc, hne]
 rw [hcf] at h
 refine Calls.mono (show Calls E.P f vals w _ from h) ?_
 rintro e w' ⟨v, G', rfl, hbk⟩
 refine ⟨?_, none_below hbk.fr⟩
 cases hbk.val with
 | lf h => cases h; rfl
def IsRow (k : IntKind) (w : World) (a : Option Addr) (len cap : Nat) (zs : List Int) : Prop :=
 (a = Option.none ∧ len = 0 ∧ cap = 0 ∧ zs = []) ∨
 ∃ x, a = some x ∧ len ≤ cap ∧ cap ≤ maxLen ∧ zs.length = cap ∧ (∀ i, i < zs.length → w.cell? (x.add i) = some (.int k (zs.getD i 0))) ∧ ∀ n ∈ zs, (Lit.int k n).wf = true
theorem IsRow.len {k : IntKind} {w : World} {a : Option Addr} {len cap : Nat} {zs : List Int} (h : IsRow k w a len cap zs) : min len zs.length = len ∧ len ≤ big := by
 rcases h with ⟨_, rfl, _, rfl⟩ | ⟨_, _, h1, h2, h3, _⟩
 ·exact ⟨rfl, by decide⟩
 ·exact ⟨by omega, by unfold big; unfold maxLen at h2; omega⟩
theorem arel2 {w : World} {l0 l1 : Leaf E.A} {v0 v1 : Value} (h0 : Rep E Gh.none w l0 v0) (h1 : Rep E Gh.none w l1 v1) : ARel E Gh.none w [.lf l0, .lf l1] #[v0, v1] := by
 refine ⟨rfl, fun j r hj => ?_⟩
 match j with
 | 0 => injection hj with hj; subst hj; exact .lf h0
 | 1 => injection hj with hj; subst hj; exact .lf h1
 | j + 2 => cases hj
theorem wf_inRb {k : IntKind} {n : Int} (h : (Lit.int k n).wf = true) : inRb k n = true := by
 simpa [Lit.wf, inRb] using h
theorem row_ok {α : Type} {zs : List Int} {len eb : Nat} (f : Int → α) (h : min len zs.length = len ∧ len ≤ big) (y : len * eb ≤ 140737488355328) : ((zs.take len).map f).length ≤ big ∧ ((zs.take len).map f).length * eb ≤ 140737488355328 := by
 rw [List.length_map, List.length_take, h.1]
 exact ⟨h.2, y⟩
theorem sized_row {H : Type} {P : Program} {ts : List TypeId} {ds : List (DataW H)} (h : (DataW.weightsEach P ts ds).all (· ≤ reachBytes) = true) {j : Nat} {t e : TypeId} {k : IntKind} {zs : List Int} {len eb : Nat}
  (ht : ts[j]? = some t) (hd : ds[j]? = some (.slice (Go.ChangeShapes.lits k (zs.take len)) (Go.ChangeShapes.lits k (zs.drop len)))) (hu : P.underlying t = some (.slice e)) (hb : P.bytesOf e = eb) (hl : len ≤ zs.length) : len * eb ≤ 140737488355328 := by
 have h1 := sized_slice h ht hd hu
 have h2 := reachBytes_lt
 rw [hb] at h1
 have e1 : (Go.ChangeShapes.lits (H := H) k (zs.take len)).length = len := by simp [Go.ChangeShapes.lits]; omega
 rw [e1] at h1
 have : len * eb ≤ (len + (Go.ChangeShapes.lits (H := H) k (zs.drop len)).length) * eb := Nat.mul_le_mul_right _ (Nat.le_add_right _ _)
 omega
theorem rep_row {K0 : K} {ik : IntKind} (f : Int → E.A K0) (hs : E.sz K0 = 1) (henc : ∀ z, inRb ik z = true → E.enc K0 (f z) = [.int ik z]) {w : World}
  {a : Option Addr} {len cap : Nat} {zs : List Int} (h : IsRow ik w a len cap zs) : Rep E Gh.none w (.sl K0 ((zs.take len).map f)) (.slice a len cap) := by
 rcases h with ⟨rfl, rfl, rfl, rfl⟩ | ⟨x, rfl, hl, hm, hz, hc, hw⟩
 ·exact .sl0 K0 _ _ (by decide)
 ·rcases Nat.eq_zero_or_pos len with h0 | h0
  ·subst h0; exact .sl0 K0 _ _ hm
  ·have hx : x.spot = Option.none := by
    have := hc 0 (by omega)
    rw [show x.add 0 = x from rfl] at this
    unfold World.cell? at this
    split at this
    ·cases hq : x.spot with
     | none => rfl
     | some q => rw [hq] at this; simp at this
    ·cases this
   obtain ⟨b, off, sp⟩ := x
   obtain rfl : sp = Option.none := hx
   have e : ((zs.take len).map f).length = len := by simp; omega
   have hrep := Rep.sl (E := E) (G := Gh.none) (w := w) K0 ((zs.take len).map f) b off cap (fun i _ => .int ik (zs.getD i 0)) (by rw [e]; exact hl) hm
    (fun i j hi hj => by
     rw [hs] at hj ⊢
     obtain rfl : j = 0 := by omega
     refine ⟨?_, none_pur _ _⟩
     have := hc i (by rw [e] at hi; omega)
     simp only [Addr.add] at this
     split at this
     ·rename_i h; subst h; simpa using this
     ·simpa using this)
    (fun i y hy j l hl' => by
     rw [List.getElem?_map, Option.map_eq_some_iff] at hy
     obtain ⟨z, hz1, rfl⟩ := hy
     have hlt : i < len := by
      have := (List.getElem?_eq_some_iff.1 hz1).1
      simp at this; omega
     rw [List.getElem?_take_of_lt hlt] at hz1
     have hmem : z ∈ zs := List.mem_of_getElem? hz1
     rw [henc z (wf_inRb (hw z hmem))] at hl'
     match j with
     | 0 =>
      injection hl' with hl'
      subst hl'
      have : zs.getD i 0 = z := by rw [List.getD, hz1]; rfl
      rw [this]
      exact .int (wf_inRb (hw z hmem))
     | j + 1 => cases hl')
   rw [e] at hrep
   exact hrep
theorem enc_u8 (z : Int) (h : inRb .u8 z = true) : E.enc .u8 (UInt8.ofNat z.toNat) = [.int .u8 z] := by
 show [Leaf.int IntKind.u8 ((UInt8.ofNat z.toNat).toNat : Int)] = _
 simp only [inRb, Bool.and_eq_true, decide_eq_true_eq] at h
 have h1 : (0 : Int) ≤ z := h.1
 have h2 : z ≤ 255 := h.2
 have : ((UInt8.ofNat z.toNat).toNat : Int) = z := by simp; omega
 rw [this]; rfl
theorem int_of_shaped {P : Program} {w : World} {g : Nat} {t : TypeId} {zero : Array Value} {k : IntKind} (h : w.ShapedOpen P) (hg : g < P.globals.size)
  (h0 : ((begin P (fun _ _ => 0) default).world.heap[g]?).bind Obj.row? = some (zero, t)) (hz : zero.size = 1) (hb : P.buildable t = true) (hc : P.cellTypes P.depth t = some [t]) (hu : P.underlying t = some (.int k)) :
  ∃ m, k.has m ∧ w.cell? ⟨g, 0, none⟩ = some (.int k m) := by
 obtain ⟨cs, hh, hs, hr⟩ := h.1 g zero t hg h0
 obtain ⟨ts, hts, _, hall⟩ := hr hb
 rw [hc] at hts
 cases hts
 have h1 : 0 < cs.size := by omega
 obtain ⟨u, hu', hok⟩ := hall 0 cs[0] (by simp [h1])
 have : u = t := by simpa using hu'.symm
 subst this
 have hcell : w.cell? ⟨g, 0, none⟩ = some cs[0] := by simp [World.cell?, hh, h1]
 rw [hcell]
 unfold Cell.ok at hok
 rw [hu] at hok
 cases hv : cs[0] <;> rw [hv] at hok <;> simp at hok
 case int k' n => exact ⟨n, hok.2, by rw [hok.1]⟩
theorem shape_of_shaped {P : Program} {w : World} {g : Nat} {t : TypeId} {zero : Array Value} {n : Nat} (h : w.ShapedOpen P) (hg : g < P.globals.size)
  (h0 : ((begin P (fun _ _ => 0) default).world.heap[g]?).bind Obj.row? = some (zero, t)) (hz : zero.size = n) : ∃ t, w.shape? g = some (t, n) := by
 obtain ⟨cs, hh, hs, _⟩ := h.1 g zero t hg h0
 refine ⟨t, ?_⟩
 unfold World.shape?
 rw [hh]
 simp [hs, hz]
theorem glob_of_cells {w : World} {ik : IntKind} {n g : Nat} (f : Nat → Int) (hf : ∀ i, i < n → inRb ik (f i) = true) (hc : ∀ i, i < n → w.cell? ⟨g, i, none⟩ = some (.int ik (f i))) (hs : ∃ t, w.shape? g = some (t, n)) (hga : E.ga g = none) :
  Glob E Gh.none w ((List.range n).map fun c => .int ik (f c)) g := by
 refine ⟨.pp _ g 0 (fun j => .int ik (f j)) (List.all_eq_true.2 fun l hl => ?_) (fun j hj => ⟨?_, none_pur _ _⟩) (fun j l hl => ?_), ?_, fun k hk => ?_⟩
 ·obtain ⟨c, _, rfl⟩ := List.mem_map.1 hl
  rfl
 ·rw [Nat.zero_add]
  exact hc j (by simpa using hj)
 ·rw [List.getElem?_map, Option.map_eq_some_iff] at hl
  obtain ⟨z, hz, rfl⟩ := hl
  have hj : j < n := by
   have := (List.getElem?_eq_some_iff.1 hz).1
   simpa using this
  rw [List.getElem?_range hj] at hz
  injection hz with hz; subst hz
  exact .int (hf j hj)
 ·rw [List.length_map, List.length_range]; exact hs
 ·rw [hga] at hk; cases hk
theorem glob_of_tab {w : World} (h : Lib.TabIs E.P w "internal/strconv.uint64pow10" .u64 Lib.pow10Tab) (hs : ∃ t, w.shape? 2 = some (t, 20)) : Glob E Gh.none w ((Go.Lib.pow10Tab).map fun z => .int .u64 z) 2 := by
 have hg : E.P.globalNamed "internal/strconv.uint64pow10" = some 2 := by kernel_rfl
 have e : ((Go.Lib.pow10Tab).map fun z => (Leaf.int (A := E.A) .u64 z)) = (List.range 20).map fun c => .int .u64 (Lib.pow10Tab.getD c 0) := by kernel_rfl
 rw [e]
 refine glob_of_cells (fun c => Lib.pow10Tab.getD c 0) (fun i hi => ?_) (fun i hi => h.cell hg i hi) hs rfl
 have : (List.range 20).all (fun i => inRb .u64 (Lib.pow10Tab.getD i 0)) = true := by decide
 exact List.all_eq_true.1 this i (List.mem_range.2 hi)
theorem first_of_reads {w : World} (h : Lib.VarReads E.P w "unicode/utf8.first" Lib.firstData) (c : Nat) (hc : c < 256) : w.cell? ⟨3, c, none⟩ = some (.int .u8 (Lib.firstT c : Int)) := by
 obtain ⟨g, t, cs, fuel, p, hg, hty, hvar, hd⟩ := h
 obtain rfl := Option.some.inj ((show E.P.globalNamed "unicode/utf8.first" = some 3 from by kernel_rfl).symm.trans hg)
 obtain rfl := Option.some.inj ((show (E.P.globals[3]?).map (·.type) = some 170 from by kernel_rfl).symm.trans hty)
 have hcs := Lib.cells_of_tab (t := 170) (e := 5) (n := 256) (by kernel_rfl) (by kernel_rfl) (by kernel_rfl) (by kernel_rfl) hd
 have := World.var?_cell hg hvar c
 rw [this, ← Array.getElem?_toList, hcs]
 simp [Lib.firstTab, hc]
theorem accept_of_reads {w : World} (h : Lib.VarReads E.P w "unicode/utf8.acceptRanges" Lib.acceptData) (i : Nat) (hi : i < 16) :
  w.cell? ⟨4, 2 * i, none⟩ = some (.int .u8 (Lib.accLo i : Int)) ∧ w.cell? ⟨4, 2 * i + 1, none⟩ = some (.int .u8 (Lib.accHi i : Int)) := by
 obtain ⟨g, t, cs, fuel, p, hg, hty, hvar, hd⟩ := h
 obtain rfl := Option.some.inj ((show E.P.globalNamed "unicode/utf8.acceptRanges" = some 4 from by kernel_rfl).symm.trans hg)
 obtain rfl := Option.some.inj ((show (E.P.globals[4]?).map (·.type) = some 173 from by kernel_rfl).symm.trans hty)
 obtain ⟨fuel', d, q, hdi, he⟩ := Lib.array_elem (n := 16) (e := 172) (by kernel_rfl) hd i hi
 simp only [List.getElem?_map, List.getElem?_range hi, Option.map_some, Option.some.injEq] at hdi
 subst hdi
 have c2 : E.P.cellsOf 172 = 2 := by kernel_rfl
 have c5 : E.P.cellsOf 5 = 1 := by kernel_rfl
 have u5 : E.P.underlying 5 = some (.int .u8) := by kernel_rfl
 rw [c2] at he
 have hcs := Lib.ints_of_struct Go.Proofs.Tryz.underlying172 (fun j f hj => by
  match j, hj with
  | 0, hj => simp at hj; subst hj; exact ⟨u5, rfl, c5⟩
  | 1, hj => simp at hj; subst hj; exact ⟨u5, rfl, c5⟩
  | j + 2, hj => simp at hj) (c2.trans rfl) he
 have e0 := congrArg (·[0]?) hcs
 have e1 := congrArg (·[1]?) hcs
 simp only [List.getElem?_take, List.getElem?_drop] at e0 e1
 constructor
 ·rw [World.var?_cell hg hvar (2 * i), ← Array.getElem?_toList]
  simpa [Nat.mul_comm] using e0
 ·rw [World.var?_cell hg hvar (2 * i + 1), ← Array.getElem?_toList]
  simpa [Nat.mul_comm] using e1
theorem err_ty (u : TypeId) (hu : E.P.typeName? 3 u = some "*errors.errorString") : u = 181 := by
 have e : some "*errors.errorString" = some ("*" ++ "errors.errorString") := by decide +kernel
 rw [e] at hu
 exact typeName_ptr_named (P := E.P) (nm := "errors.errorString") (tp := 181) (by decide +kernel) (by decide +kernel) (by decide +kernel) u hu
theorem err_of_laid {P : Program} {w : World} {n : String} {d : DataW Unit} {g ti : Nat} {ms : Array (String × TypeId)} {e : TypeId} (hg : P.globalNamed n = some g) (hty : (P.globals[g]?).map (·.type) = some ti) (hms : P.underlying ti = some (.interface ms))
  (hnm : ∀ u, P.typeName? 3 u = some "*errors.errorString" → u = 181) (hpt : P.underlying 181 = some (.pointer e)) (h : laidMet P [(n, .iface "*errors.errorString" (.ptr d))] w) :
  ∃ v : Value, w.cell? ⟨g, 0, none⟩ = some (.iface 181 v) ∧ v.oneCell' = true := by
 obtain ⟨ps, ⟨g', t', cs, fuel, p, q, h1, h2, hvar, hd, hq, rfl⟩, _, hall⟩ := h
 obtain rfl := Option.some.inj (hg.symm.trans h1)
 obtain rfl := Option.some.inj (hty.symm.trans h2)
 obtain ⟨fuel', u, v, hcs, hn, _⟩ := iface_of_trod hms hd
 have hc0 : w.cell? ⟨g, 0, none⟩ = some (.iface u v) := by
  rw [World.var?_cell hg hvar 0, ← Array.getElem?_toList, hcs]; rfl
 have hsz : cs.size = 1 := by rw [← Array.length_toList, hcs]; rfl
 have hok := (hall g 0 (by rw [hsz]; simp [MemPlace.row])).2 u v hc0
 obtain rfl := hnm u hn
 obtain ⟨a, rfl⟩ := WideShapes.okWide_pointer hpt hok
 exact ⟨_, hc0, rfl⟩
theorem glob_of_err {w : World} {g : Nat} (h : ∃ v : Value, w.cell? ⟨g, 0, none⟩ = some (.iface 181 v) ∧ v.oneCell' = true) (hs : ∃ t, w.shape? g = some (t, 1)) (hga : E.ga g = none) : Glob E Gh.none w [.ifc 181 .dead] g := by
 obtain ⟨v, hc, hv⟩ := h
 refine ⟨.pp _ g 0 (fun _ => .iface 181 v) rfl (fun j hj => ⟨?_, none_pur _ _⟩) (fun j l hl => ?_), hs, fun k hk => by rw [hga] at hk; cases hk⟩
 ·have hj' : j < 1 := hj
  obtain rfl : j = 0 := by omega
  exact hc
 ·match j, hl with
  | 0, hl => injection hl with hl; subst hl; exact .ifc (.dead hv)
  | j + 1, hl => cases hl
def errS : DataW Unit := .agg [.lit (.string [105, 110, 118, 97, 108, 105, 100, 32, 115, 121, 110, 116, 97, 120])]
def errR : DataW Unit := .agg [.lit (.string [118, 97, 108, 117, 101, 32, 111, 117, 116, 32, 111, 102, 32, 114, 97, 110, 103, 101])]
theorem gl_of_laid {w : World} {laid : List (String × DataW Unit)} (hf : laid.filter (fun x => x.1 == "internal/strconv.uint64pow10") = [("internal/strconv.uint64pow10", Lib.tabData .u64 Lib.pow10Tab)])
  (hf2 : laid.filter (fun x => x.1 == "unicode/utf8.first") = [("unicode/utf8.first", Lib.firstData)]) (hf3 : laid.filter (fun x => x.1 == "unicode/utf8.acceptRanges") = [("unicode/utf8.acceptRanges", Lib.acceptData)])
  (hf5 : laid.filter (fun x => x.1 == "strconv.ErrSyntax") = [("strconv.ErrSyntax", .iface "*errors.errorString" (.ptr errS))]) (hf6 : laid.filter (fun x => x.1 == "strconv.ErrRange") = [("strconv.ErrRange", .iface "*errors.errorString" (.ptr errR))])
  (h : laidMetH E.P laid w) (hs : w.ShapedOpen E.P) :
  ∀ g cs, E.gl g = some cs → Glob E Gh.none w cs g := by
 intro g cs hg
 match g, hg with
 | 0, hg => cases hg
 | 1, hg =>
  injection hg with hg; subst hg
  obtain ⟨m, hm, hc⟩ := int_of_shaped (g := 1) (t := 3) (k := .i64) (zero := #[.int .i64 0]) hs (by decide +kernel) (by kernel_rfl) rfl (by kernel_rfl) (by kernel_rfl) (by kernel_rfl)
  refine ⟨.pp _ 1 0 (fun _ => .int .i64 m) rfl (fun j hj => ⟨?_, none_pur _ _⟩) (fun j l hl => ?_), shape_of_shaped (g := 1) (t := 3) (zero := #[.int .i64 0]) hs (by decide +kernel) (by kernel_rfl) rfl, fun k hk => ?_⟩
  ·have hj' : j < 1 := hj
   obtain rfl : j = 0 := by omega
   exact hc
  ·match j, hl with
   | 0, hl => injection hl with hl; subst hl; exact .dead rfl
   | j + 1, hl => cases hl
  ·injection hk with hk; subst hk
   refine ⟨m, ?_, hc, none_pur _ _⟩
   unfold IntKind.has at hm
   unfold inRb
   simpa using hm
 | 2, hg =>
  injection hg with hg; subst hg
  have h1 := laidMetH.filter (fun x => x.1 == "internal/strconv.uint64pow10") h
  rw [hf] at h1
  have h2 : laidMet E.P [("internal/strconv.uint64pow10", Lib.tabData .u64 Lib.pow10Tab)] w := h1
  have h3 : Lib.TabIs E.P w "internal/strconv.uint64pow10" .u64 Lib.pow10Tab := Lib.tabIs_of_head (g := 2) (t := 150) (e := 54) (n := 20) (by kernel_rfl) (by kernel_rfl) (by kernel_rfl) (by kernel_rfl) (by kernel_rfl) (by kernel_rfl) h2
  exact glob_of_tab h3 (shape_of_shaped (g := 2) (t := 150) (zero := Array.replicate 20 (.int .u64 0)) hs (by decide +kernel) (by kernel_rfl) Array.size_replicate)
 | 3, hg =>
  injection hg with hg; subst hg
  have h1 := laidMetH.filter (fun x => x.1 == "unicode/utf8.first") h
  rw [hf2] at h1
  have h2 : laidMet E.P [("unicode/utf8.first", Lib.firstData)] w := h1
  have h3 := Lib.laidMet.reads h2 (List.mem_singleton.2 rfl)
  refine glob_of_cells (fun c => (Lib.firstT c : Int)) (fun i hi => ?_) (first_of_reads h3) (shape_of_shaped (g := 3) (t := 170) (zero := Array.replicate 256 (.int .u8 0)) hs (by decide +kernel) (by kernel_rfl) Array.size_replicate) rfl
  have : (List.range 256).all (fun i => inRb .u8 (Lib.firstT i : Int)) = true := by decide +kernel
  exact List.all_eq_true.1 this i (List.mem_range.2 hi)
 | 4, hg =>
  injection hg with hg; subst hg
  have h1 := laidMetH.filter (fun x => x.1 == "unicode/utf8.acceptRanges") h
  rw [hf3] at h1
  have h2 : laidMet E.P [("unicode/utf8.acceptRanges", Lib.acceptData)] w := h1
  have h3 := Lib.laidMet.reads h2 (List.mem_singleton.2 rfl)
  refine glob_of_cells (fun c => if c % 2 = 0 then (Lib.accLo (c / 2) : Int) else (Lib.accHi (c / 2) : Int)) (fun i hi => ?_) (fun i hi => ?_) (shape_of_shaped (g := 4) (t := 173) (zero := Array.replicate 32 (.int .u8 0)) hs (by decide +kernel) (by kernel_rfl) Array.size_replicate) rfl
  ·have : (List.range 32).all (fun c => inRb .u8 (if c % 2 = 0 then (Lib.accLo (c / 2) : Int) else (Lib.accHi (c / 2) : Int))) = true := by decide +kernel
   exact List.all_eq_true.1 this i (List.mem_range.2 hi)
  ·obtain ⟨k1, k2⟩ := accept_of_reads h3 (i / 2) (by omega)
   rcases Nat.mod_two_eq_zero_or_one i with e | e
   ·rw [if_pos e]
    rw [show 2 * (i / 2) = i by omega] at k1
    exact k1
   ·rw [if_neg (by omega)]
    rw [show 2 * (i / 2) + 1 = i by omega] at k2
    exact k2
 | 5, hg =>
  injection hg with hg; subst hg
  have h1 := laidMetH.filter (fun x => x.1 == "strconv.ErrSyntax") h
  rw [hf5] at h1
  have h2 : laidMet E.P [("strconv.ErrSyntax", .iface "*errors.errorString" (.ptr errS))] w := h1
  exact glob_of_err (err_of_laid (g := 5) (ti := 103) (e := 183) (by kernel_rfl) (by kernel_rfl) Go.Proofs.Tryz.underlying103 err_ty (by kernel_rfl) h2) (shape_of_shaped (g := 5) (t := 103) (zero := #[.nilIface]) hs (by decide +kernel) (by kernel_rfl) rfl) rfl
 | 6, hg =>
  injection hg with hg; subst hg
  have h1 := laidMetH.filter (fun x => x.1 == "strconv.ErrRange") h
  rw [hf6] at h1
  have h2 : laidMet E.P [("strconv.ErrRange", .iface "*errors.errorString" (.ptr errR))] w := h1
  exact glob_of_err (err_of_laid (g := 6) (ti := 103) (e := 183) (by kernel_rfl) (by kernel_rfl) Go.Proofs.Tryz.underlying103 err_ty (by kernel_rfl) h2) (shape_of_shaped (g := 6) (t := 103) (zero := #[.nilIface]) hs (by decide +kernel) (by kernel_rfl) rfl) rfl
 | g + 7, hg => cases hg
variable {H : Type} {enc : TypeId × Value → H}
theorem returns_shaped {a : Assume} {C : Checked} {os : Os} {f : FuncId} {fn : Func} {s : ChangeSpec} {conds : List PathCond} {apart fresh handsOn again : Bool} {X : World → Array Value → Prop}
  (hX : ∀ (w w' : World) (args : Array Value), w.heap = w'.heap → X w args → X w' args)
  (own : ownKnob C.prog.godebug = none) (started : os.Started) (noInit : C.prog.inits.idxOf? f = none) (hfn : C.prog.funcs[f]? = some fn)
  (witness : ∃ (w : World) (tape : Tape) (i : Input), w.os = os ∧ (w.forCall tape i).Shaped C.prog ∧ i.vars = [] ∧ Input.okWide C.prog (w.forCall tape i) .any w.heap.size f i ∧
   ((s.pre enc C.prog fn conds apart (w.forCall tape i).memory i.args ∧ X (w.forCall tape i).memory i.args) ∧ sizedMet enc C.prog fn (OpenSpec.ofChange s) apart (w.forCall tape i).memory i.args) ∧ a.holds C.prog (lone (Frame.enter C.prog f i.args .normal) [] (w.forCall tape i)))
  (contract : ∀ (W : World) (base : Nat) (args : Array Value) (ds gs : List (DataW H)) (before : List MemPlace),
   (∀ (j : Nat) t v, fn.params[j]? = some t → args[j]? = some v → Value.okWide C.prog W .any base t v) →
   DataW.Whole enc C.prog fn.params.toList s.vars apart W args.toList ds gs before →
   conds.all (PathCond.test C.prog ⟨fn.params.toList, ds, s.plain.varTypes C.prog, gs⟩) = true →
   (DataW.weightsEach C.prog (fn.params.toList ++ s.plain.varTypes C.prog) (ds ++ gs)).all (· ≤ reachBytes) = true → X W args → W.ShapedOpen C.prog →
   Calls C.prog f args W fun e W' => ∃ v, e = .returned v ∧ s.post enc C.prog fn apart fresh handsOn again W args v W') :
  ReturnsInHanded a C os f .any (fun w args => (s.pre enc C.prog fn conds apart w args ∧ X w args) ∧ sizedMet enc C.prog fn (OpenSpec.ofChange s) apart w args) (s.post enc C.prog fn apart fresh handsOn again) := by
 refine returnsInHanded_of_calls own started noInit witness ?_
 intro w tape i _ hsh _ hok hpre _
 obtain ⟨_, _, _, fn', hfn', _, _, _, _, hval⟩ := hok
 have e : fn' = fn := Option.some.inj (hfn'.symm.trans hfn)
 subst e
 obtain ⟨⟨⟨ds, gs, before, hw, hc⟩, hx⟩, hz⟩ := hpre
 have hw' := DataW.Whole.of_heap (w' := w.forCall tape i) (by rfl) hw
 refine (contract (w.forCall tape i) w.heap.size i.args ds gs before hval hw' hc (hz.weights hw) (hX _ _ _ (by rfl) hx) hsh).mono fun e W' ⟨v, he, hp⟩ => ?_
 subst he
 exact ChangeSpec.post_blind hp
end Go.Vx
namespace Go.Vx
open Go Go.RowKit
theorem six_of {α : Type} : ∀ l : List α, l.length = 6 → ∃ a b c d e f, l = [a, b, c, d, e, f]
 | [a, b, c, d, e, f], _ => ⟨a, b, c, d, e, f, rfl⟩
theorem row_of {α : Type} (f : Nat → α) (len : Nat) : ∃ xs : List α, xs.length = len ∧ ∀ (i : Nat) (y : α), xs[i]? = some y → i < len ∧ y = f i := by
 refine ⟨(List.range len).map f, by simp, fun i y hy => ?_⟩
 rw [List.getElem?_map, Option.map_eq_some_iff] at hy
 obtain ⟨q, hq, rfl⟩ := hy
 obtain ⟨h1, h2⟩ := List.getElem?_eq_some_iff.1 hq
 simp at h1 h2
 subst h2
 exact ⟨h1, rfl⟩
set_option maxRecDepth 100000 in
theorem bit_cells {H : Type} {enc : TypeId × Value → H} {w : World} {sp : Nat → Bool} {hd : Bool} {n : Nat} {cs : List Value} {y : DataW H × List MemPlace} (h : DataW.trod enc Go.Proofs.Tryz.prog w 0 sp hd n 99 cs = some y) (hlen : cs.length = 6) :
  ∃ b : Bit, ∀ (j : Nat) (l : Leaf E.A), (Kenc .bit b)[j]? = some l → ∃ v : Value, cs[j]? = some v ∧ Rep E Gh.none w l v := by
 obtain ⟨xs, k, _, _, _, hxl, hf⟩ := DataW.trod_struct Go.Proofs.Tryz.underlying99 h
 have hxl : xs.length = 6 := hxl
 obtain ⟨y0, y1, y2, y3, y4, y5, rfl⟩ := six_of xs hxl
 obtain ⟨c0, c1, c2, c3, c4, c5, rfl⟩ := six_of cs hlen
 have g0 : DataW.trod enc Go.Proofs.Tryz.prog w 0 sp hd k 5 [c0] = some y0 := hf 0 _ rfl
 have g1 : DataW.trod enc Go.Proofs.Tryz.prog w 0 sp hd k 2 [c1] = some y1 := hf 1 _ rfl
 have g2 : DataW.trod enc Go.Proofs.Tryz.prog w 0 sp hd k 5 [c2] = some y2 := hf 2 _ rfl
 have g3 : DataW.trod enc Go.Proofs.Tryz.prog w 0 sp hd k 9 [c3] = some y3 := hf 3 _ rfl
 have g4 : DataW.trod enc Go.Proofs.Tryz.prog w 0 sp hd k 5 [c4] = some y4 := hf 4 _ rfl
 have g5 : DataW.trod enc Go.Proofs.Tryz.prog w 0 sp hd k 4 [c5] = some y5 := hf 5 _ rfl
 obtain ⟨n0, e0, _, w0⟩ := DataW.trod_int Go.Proofs.Tryz.underlying5 g0
 obtain ⟨n1, e1, _, w1⟩ := DataW.trod_int Go.Proofs.Tryz.underlying2 g1
 obtain ⟨n2, e2, _, w2⟩ := DataW.trod_int Go.Proofs.Tryz.underlying5 g2
 obtain ⟨s3, e3, _, w3⟩ := DataW.trod_string Go.Proofs.Tryz.underlying9 g3
 obtain ⟨n4, e4, _, w4⟩ := DataW.trod_int Go.Proofs.Tryz.underlying5 g4
 obtain ⟨b5, e5, _⟩ := DataW.trod_bool Go.Proofs.Tryz.underlying4 g5
 injection e0 with e0 _; injection e1 with e1 _; injection e2 with e2 _; injection e3 with e3 _; injection e4 with e4 _; injection e5 with e5 _
 subst e0; subst e1; subst e2; subst e3; subst e4; subst e5
 refine ⟨(n0, n1, n2, s3.data.toList, n4, b5), fun j l hj => ?_⟩
 match j, hj with
 | 0, hj => injection hj with hj; subst hj; exact ⟨_, rfl, .int (wf_inRb w0)⟩
 | 1, hj => injection hj with hj; subst hj; exact ⟨_, rfl, .int (wf_inRb w1)⟩
 | 2, hj => injection hj with hj; subst hj; exact ⟨_, rfl, .int (wf_inRb w2)⟩
 | 3, hj =>
  injection hj with hj; subst hj
  refine ⟨_, rfl, .str s3 ?_⟩
  rw [Array.length_toList]
  show s3.size ≤ big
  unfold big; unfold maxLen at w3; omega
 | 4, hj => injection hj with hj; subst hj; exact ⟨_, rfl, .int (wf_inRb w4)⟩
 | 5, hj => injection hj with hj; subst hj; exact ⟨_, rfl, .bool b5⟩
 | j + 6, hj => cases hj
theorem open_bits {H : Type} {enc : TypeId × Value → H} {w : World} {sp : Nat → Bool} {hd : Bool} {fuel : Nat} {cs : List Value} {x : DataW H × List MemPlace} (h : DataW.trod enc Go.Proofs.Tryz.prog w 0 sp hd fuel 43 cs = some x) :
  ∃ (a : Option Addr) (len cap : Nat) (xs : List Bit), cs = [.slice a len cap] ∧ Rep E Gh.none w (.sl .bit xs) (.slice a len cap) := by
 rcases Go.Deep.open_slice Go.Proofs.Tryz.underlying43 h with ⟨rfl, _⟩ | ⟨a, len, cap, m, n, D, Pl, rfl, _, hl, hm, hmm, rfl, hx⟩
 ·exact ⟨none, 0, 0, [], rfl, .sl0 _ _ _ (by decide)⟩
 ·have hlm : len ≤ m := by rw [hmm]; split <;> omega
  have hbig : cap ≤ big := by unfold big; unfold maxLen at hm; omega
  have c6 : Go.Proofs.Tryz.prog.cellsOf 99 = 6 := by kernel_rfl
  rw [c6] at hx
  rcases Nat.eq_zero_or_pos len with h0 | h0
  ·subst h0; exact ⟨some a, 0, cap, [], rfl, .sl0 _ _ _ hbig⟩
  ·have each : ∀ i, i < len → ∃ b : Bit, ∀ (j : Nat) (l : Leaf E.A), (Kenc .bit b)[j]? = some l → ∃ v : Value, w.cell? (a.add (i * 6 + j)) = some v ∧ Rep E Gh.none w l v := by
    intro i hi
    obtain ⟨cs', h1, h2⟩ := hx i (by omega)
    obtain ⟨_, hlen, hcell⟩ := World.cells?_some h1
    obtain ⟨b, hb⟩ := bit_cells h2 hlen
    refine ⟨b, fun j l hj => ?_⟩
    obtain ⟨v, hv, hr⟩ := hb j l hj
    have hj6 : j < 6 := by
     have := (List.getElem?_eq_some_iff.1 hv).1
     omega
    have hc := hcell j hj6
    rw [Go.Deep.add_add] at hc
    exact ⟨v, hc.trans hv, hr⟩
   obtain ⟨f, hf⟩ := Go.Deep.choose_lt each
   have hspot : a.spot = none := by
    obtain ⟨v, hv, _⟩ := hf 0 h0 0 _ rfl
    have := World.cell?_spot hv
    simpa [Addr.add] using this
   obtain ⟨b, off, sp'⟩ := a
   obtain rfl : sp' = none := hspot
   obtain ⟨xs, e, hxs⟩ := row_of (α := E.A K.bit) f len
   have hrep := Rep.sl (E := E) (G := Gh.none) (w := w) .bit xs b off cap (fun i j => (w.cell? ⟨b, off + i * 6 + j, none⟩).getD undef) (by rw [e]; exact hl) hbig
    (fun i j hi hj => by
     rw [e] at hi
     have hj : j < 6 := hj
     have hk : (Kenc .bit (f i)).length = 6 := rfl
     obtain ⟨v, hv, _⟩ := hf i hi j ((Kenc .bit (f i))[j]'(by omega)) (List.getElem?_eq_getElem (by omega))
     have e2 : (⟨b, off, none⟩ : Addr).add (i * 6 + j) = ⟨b, off + i * 6 + j, none⟩ := by
      unfold Addr.add
      split
      ·rename_i hz; rw [show off + i * 6 + j = off by omega]
      ·rw [Nat.add_assoc]
     rw [e2] at hv
     refine ⟨?_, none_pur _ _⟩
     show w.cell? ⟨b, off + i * 6 + j, none⟩ = _
     rw [hv]; rfl)
    (fun i y hy j l hl' => by
     obtain ⟨hlt, rfl⟩ := hxs i y hy
     obtain ⟨v, hv, hr⟩ := hf i hlt j l hl'
     have e2 : (⟨b, off, none⟩ : Addr).add (i * 6 + j) = ⟨b, off + i * 6 + j, none⟩ := by
      unfold Addr.add
      split
      ·rename_i hz; rw [show off + i * 6 + j = off by omega]
      ·rw [Nat.add_assoc]
     rw [e2] at hv
     rw [hv]; exact hr)
   rw [e] at hrep
   exact ⟨_, _, _, _, rfl, hrep⟩
end Go.Vx
end
