/-
  Part 9 of the proof: the second reading of the model, its laws, and the functions' contracts. Lemmas alone.
-/
import Derived.Test.YtjnmckakmljejaaGreatDoorRows
import Derived.WalkKit
import Derived.ProofKit
import Derived.OpenShut
import Derived.ShutString
import Derived.ChangeOld
import Derived.Below
import Derived.SizedLaws
import Derived.LaidSub
import Derived.Lib.LaidTab
import Derived.Lib.LaidU8
import Derived.LaidLaws
import Derived.WideShapes
import Derived.Test.YtjnmckakmljejaaGreatDoorA2
import Derived.Test.YtjnmckakmljejaaGreatDoorA4
import Derived.Test.YtjnmckakmljejaaGreatDoorA6
import Derived.Test.YtjnmckakmljejaaGreatDoorA7
import Derived.Test.YtjnmckakmljejaaGreatDoorA8
set_option linter.unusedSectionVars false
set_option linter.unusedVariables false
set_option linter.unusedSimpArgs false

namespace Go.Vx
open Go
noncomputable def spec44N (n : Nat) : Spec E := fun args os => match args, os with
  | [.agg [.int .u8 a0, .int .i64 a1, .int .i64 a2, .str a3, .sl .val a4, .sl .str a5], .lf (.ptr 0 0 0)], [.wb 80 (.own 0 0 .u8 (xs : List UInt8))] =>
    .ite (Px.okLay' n (.mk a0 a1 a2 a3 a4 a5) xs) (.leaf (.tup [], [.wb 80 (.own 0 0 K.u8 (xs ++ Px.layV' (.mk a0 a1 a2 a3 a4 a5)))])) .fail
  | [.agg [.int .u8 a0, .int .i64 a1, .int .i64 a2, .str a3, .sl .val a4, .sl .str a5], .lf (.ptr 0 0 0)], [.wb 80 .nil] =>
    .ite (Px.okLay' n (.mk a0 a1 a2 a3 a4 a5) []) (.leaf (.tup [], [.wb 80 (.own 0 0 K.u8 (Px.layV' (.mk a0 a1 a2 a3 a4 a5)))])) .fail
  | _, _ => .fail
noncomputable def G73 (n : Nat) : FuncId → Option (Spec E)
  | 68 => some spec68
  | 44 => some (spec44N n)
  | _ => none
theorem hG73 (hL : Laws E) (n : Nat) (hN : Valid E 44 (spec44N n)) : ∀ f spec, (G73 n) f = some spec → Valid E f spec := by
  intro f spec h
  unfold G73 at h
  split at h
  · injection h with h; subst h; exact valid68 hL
  · injection h with h; subst h; exact hN
  · cases h
def L73_0 : Ex → Live
  | .normal => ⟨[1, 2, 5, 15, 16, 17], [0, 192]⟩
  | .exit 0 => ⟨[1, 5], [0]⟩
  | .ret => ⟨[], [0, 192]⟩
  | _ => ⟨[], []⟩
noncomputable def S73_0 (p5 : List UInt8) (p15 : List Val) (p16 : Int) (x : Int × (List UInt8) × Int × Int × Int × (List UInt8) × (List Val) × (List (List UInt8))) : St E.A := at' E 45 [(1, .lf (.ptr 0 0 0)), (2, .lf (.ptr 192 0 0)), (5, .lf (.str p5)), (15, .lf (.sl .val p15)), (16, .lf (.int .i64 p16)), (17, .lf (.int .i64 x.1))] [(0, some (.wb 80 (.own 0 0 .u8 x.2.1))), (192, some (.cells 30 [.int .u8 x.2.2.1, .int .i64 x.2.2.2.1, .int .i64 x.2.2.2.2.1, .str x.2.2.2.2.2.1, .sl .val x.2.2.2.2.2.2.1, .sl .str x.2.2.2.2.2.2.2]))]
noncomputable def t73_0 (n : Nat) (p5 : List UInt8) (p15 : List Val) (p16 : Int) (x : Int × (List UInt8) × Int × Int × Int × (List UInt8) × (List Val) × (List (List UInt8))) : Tree (Int × (List UInt8) × Int × Int × Int × (List UInt8) × (List Val) × (List (List UInt8)) ⊕ Out' E) :=
 .ite (ltI x.fst p16)
 (.ite (inB x.fst p15.length)
  (.ite (ltI (0 : Int) x.fst)
   (.ite (decide ((x.snd.fst ++ [(32 : UInt8)]).length ≤ (1000000000 : Nat)))
    (.ite (eqI x.snd.snd.fst (6 : Int))
     (.ite (inB x.fst x.snd.snd.snd.snd.snd.snd.snd.length)
      (.ite (decide ([(47 : UInt8)].length + (x.snd.snd.snd.snd.snd.snd.snd.getD x.fst.toNat []).length ≤ (2 : Nat) ^ (60 : Nat)))
       (.ite (decide (([(47 : UInt8)] ++ x.snd.snd.snd.snd.snd.snd.snd.getD x.fst.toNat []).length + [(32 : UInt8)].length ≤ (2 : Nat) ^ (60 : Nat)))
        (.ite (decide ((x.snd.fst ++ [(32 : UInt8)] ++ ([(47 : UInt8)] ++ x.snd.snd.snd.snd.snd.snd.snd.getD x.fst.toNat [] ++ [(32 : UInt8)])).length ≤ (1000000000 : Nat)))
         (.ite (Px.okLay' n (Val.mk (Px.vk (p15.getD x.fst.toNat (Val.mk (0 : Int) (0 : Int) (0 : Int) [] [] []))) (Px.vn (p15.getD x.fst.toNat (Val.mk (0 : Int) (0 : Int) (0 : Int) [] [] []))) (Px.vg (p15.getD x.fst.toNat (Val.mk (0 : Int) (0 : Int) (0 : Int) [] [] []))) (Px.vt (p15.getD x.fst.toNat (Val.mk (0 : Int) (0 : Int) (0 : Int) [] [] []))) (Px.vl (p15.getD x.fst.toNat (Val.mk (0 : Int) (0 : Int) (0 : Int) [] [] []))) (Px.vs (p15.getD x.fst.toNat (Val.mk (0 : Int) (0 : Int) (0 : Int) [] [] [])))) (x.snd.fst ++ [(32 : UInt8)] ++ ([(47 : UInt8)] ++ x.snd.snd.snd.snd.snd.snd.snd.getD x.fst.toNat [] ++ [(32 : UInt8)])))
          (.leaf (.inl ((IntKind.i64.wrap (x.fst + (1 : Int))), (x.snd.fst ++ [(32 : UInt8)] ++ ([(47 : UInt8)] ++ x.snd.snd.snd.snd.snd.snd.snd.getD x.fst.toNat [] ++ [(32 : UInt8)]) ++ Px.layV' (Val.mk (Px.vk (p15.getD x.fst.toNat (Val.mk (0 : Int) (0 : Int) (0 : Int) [] [] []))) (Px.vn (p15.getD x.fst.toNat (Val.mk (0 : Int) (0 : Int) (0 : Int) [] [] []))) (Px.vg (p15.getD x.fst.toNat (Val.mk (0 : Int) (0 : Int) (0 : Int) [] [] []))) (Px.vt (p15.getD x.fst.toNat (Val.mk (0 : Int) (0 : Int) (0 : Int) [] [] []))) (Px.vl (p15.getD x.fst.toNat (Val.mk (0 : Int) (0 : Int) (0 : Int) [] [] []))) (Px.vs (p15.getD x.fst.toNat (Val.mk (0 : Int) (0 : Int) (0 : Int) [] [] []))))), x.snd.snd.fst, x.snd.snd.snd.fst, x.snd.snd.snd.snd.fst, x.snd.snd.snd.snd.snd.fst, x.snd.snd.snd.snd.snd.snd.fst, x.snd.snd.snd.snd.snd.snd.snd)))
          (.fail))
         (.fail))
        (.fail))
       (.fail))
      (.fail))
     (.ite (Px.okLay' n (Val.mk (Px.vk (p15.getD x.fst.toNat (Val.mk (0 : Int) (0 : Int) (0 : Int) [] [] []))) (Px.vn (p15.getD x.fst.toNat (Val.mk (0 : Int) (0 : Int) (0 : Int) [] [] []))) (Px.vg (p15.getD x.fst.toNat (Val.mk (0 : Int) (0 : Int) (0 : Int) [] [] []))) (Px.vt (p15.getD x.fst.toNat (Val.mk (0 : Int) (0 : Int) (0 : Int) [] [] []))) (Px.vl (p15.getD x.fst.toNat (Val.mk (0 : Int) (0 : Int) (0 : Int) [] [] []))) (Px.vs (p15.getD x.fst.toNat (Val.mk (0 : Int) (0 : Int) (0 : Int) [] [] [])))) (x.snd.fst ++ [(32 : UInt8)]))
      (.leaf (.inl ((IntKind.i64.wrap (x.fst + (1 : Int))), (x.snd.fst ++ [(32 : UInt8)] ++ Px.layV' (Val.mk (Px.vk (p15.getD x.fst.toNat (Val.mk (0 : Int) (0 : Int) (0 : Int) [] [] []))) (Px.vn (p15.getD x.fst.toNat (Val.mk (0 : Int) (0 : Int) (0 : Int) [] [] []))) (Px.vg (p15.getD x.fst.toNat (Val.mk (0 : Int) (0 : Int) (0 : Int) [] [] []))) (Px.vt (p15.getD x.fst.toNat (Val.mk (0 : Int) (0 : Int) (0 : Int) [] [] []))) (Px.vl (p15.getD x.fst.toNat (Val.mk (0 : Int) (0 : Int) (0 : Int) [] [] []))) (Px.vs (p15.getD x.fst.toNat (Val.mk (0 : Int) (0 : Int) (0 : Int) [] [] []))))), x.snd.snd.fst, x.snd.snd.snd.fst, x.snd.snd.snd.snd.fst, x.snd.snd.snd.snd.snd.fst, x.snd.snd.snd.snd.snd.snd.fst, x.snd.snd.snd.snd.snd.snd.snd)))
      (.fail)))
    (.fail))
   (.ite (eqI x.snd.snd.fst (6 : Int))
    (.ite (inB x.fst x.snd.snd.snd.snd.snd.snd.snd.length)
     (.ite (decide ([(47 : UInt8)].length + (x.snd.snd.snd.snd.snd.snd.snd.getD x.fst.toNat []).length ≤ (2 : Nat) ^ (60 : Nat)))
      (.ite (decide (([(47 : UInt8)] ++ x.snd.snd.snd.snd.snd.snd.snd.getD x.fst.toNat []).length + [(32 : UInt8)].length ≤ (2 : Nat) ^ (60 : Nat)))
       (.ite (decide ((x.snd.fst ++ ([(47 : UInt8)] ++ x.snd.snd.snd.snd.snd.snd.snd.getD x.fst.toNat [] ++ [(32 : UInt8)])).length ≤ (1000000000 : Nat)))
        (.ite (Px.okLay' n (Val.mk (Px.vk (p15.getD x.fst.toNat (Val.mk (0 : Int) (0 : Int) (0 : Int) [] [] []))) (Px.vn (p15.getD x.fst.toNat (Val.mk (0 : Int) (0 : Int) (0 : Int) [] [] []))) (Px.vg (p15.getD x.fst.toNat (Val.mk (0 : Int) (0 : Int) (0 : Int) [] [] []))) (Px.vt (p15.getD x.fst.toNat (Val.mk (0 : Int) (0 : Int) (0 : Int) [] [] []))) (Px.vl (p15.getD x.fst.toNat (Val.mk (0 : Int) (0 : Int) (0 : Int) [] [] []))) (Px.vs (p15.getD x.fst.toNat (Val.mk (0 : Int) (0 : Int) (0 : Int) [] [] [])))) (x.snd.fst ++ ([(47 : UInt8)] ++ x.snd.snd.snd.snd.snd.snd.snd.getD x.fst.toNat [] ++ [(32 : UInt8)])))
         (.leaf (.inl ((IntKind.i64.wrap (x.fst + (1 : Int))), (x.snd.fst ++ ([(47 : UInt8)] ++ x.snd.snd.snd.snd.snd.snd.snd.getD x.fst.toNat [] ++ [(32 : UInt8)]) ++ Px.layV' (Val.mk (Px.vk (p15.getD x.fst.toNat (Val.mk (0 : Int) (0 : Int) (0 : Int) [] [] []))) (Px.vn (p15.getD x.fst.toNat (Val.mk (0 : Int) (0 : Int) (0 : Int) [] [] []))) (Px.vg (p15.getD x.fst.toNat (Val.mk (0 : Int) (0 : Int) (0 : Int) [] [] []))) (Px.vt (p15.getD x.fst.toNat (Val.mk (0 : Int) (0 : Int) (0 : Int) [] [] []))) (Px.vl (p15.getD x.fst.toNat (Val.mk (0 : Int) (0 : Int) (0 : Int) [] [] []))) (Px.vs (p15.getD x.fst.toNat (Val.mk (0 : Int) (0 : Int) (0 : Int) [] [] []))))), x.snd.snd.fst, x.snd.snd.snd.fst, x.snd.snd.snd.snd.fst, x.snd.snd.snd.snd.snd.fst, x.snd.snd.snd.snd.snd.snd.fst, x.snd.snd.snd.snd.snd.snd.snd)))
         (.fail))
        (.fail))
       (.fail))
      (.fail))
     (.fail))
    (.ite (Px.okLay' n (Val.mk (Px.vk (p15.getD x.fst.toNat (Val.mk (0 : Int) (0 : Int) (0 : Int) [] [] []))) (Px.vn (p15.getD x.fst.toNat (Val.mk (0 : Int) (0 : Int) (0 : Int) [] [] []))) (Px.vg (p15.getD x.fst.toNat (Val.mk (0 : Int) (0 : Int) (0 : Int) [] [] []))) (Px.vt (p15.getD x.fst.toNat (Val.mk (0 : Int) (0 : Int) (0 : Int) [] [] []))) (Px.vl (p15.getD x.fst.toNat (Val.mk (0 : Int) (0 : Int) (0 : Int) [] [] []))) (Px.vs (p15.getD x.fst.toNat (Val.mk (0 : Int) (0 : Int) (0 : Int) [] [] [])))) x.snd.fst)
     (.leaf (.inl ((IntKind.i64.wrap (x.fst + (1 : Int))), (x.snd.fst ++ Px.layV' (Val.mk (Px.vk (p15.getD x.fst.toNat (Val.mk (0 : Int) (0 : Int) (0 : Int) [] [] []))) (Px.vn (p15.getD x.fst.toNat (Val.mk (0 : Int) (0 : Int) (0 : Int) [] [] []))) (Px.vg (p15.getD x.fst.toNat (Val.mk (0 : Int) (0 : Int) (0 : Int) [] [] []))) (Px.vt (p15.getD x.fst.toNat (Val.mk (0 : Int) (0 : Int) (0 : Int) [] [] []))) (Px.vl (p15.getD x.fst.toNat (Val.mk (0 : Int) (0 : Int) (0 : Int) [] [] []))) (Px.vs (p15.getD x.fst.toNat (Val.mk (0 : Int) (0 : Int) (0 : Int) [] [] []))))), x.snd.snd.fst, x.snd.snd.snd.fst, x.snd.snd.snd.snd.fst, x.snd.snd.snd.snd.snd.fst, x.snd.snd.snd.snd.snd.snd.fst, x.snd.snd.snd.snd.snd.snd.snd)))
     (.fail))))
  (.fail))
 (.leaf (.inr (.exit 0, at' E 45 [(1, .lf (.ptr 0 0 0)), (5, .lf (.str p5))] [(0, some (.wb 80 (.own 0 0 .u8 x.snd.fst)))])))
theorem h73_0 (n : Nat) (p5 : List UInt8) (p15 : List Val) (p16 : Int) (x : Int × (List UInt8) × Int × Int × Int × (List UInt8) × (List Val) × (List (List UInt8))) (k : Ex → St E.A → Option Unit) :
    exec E (G73 n) (fun _ _ => .fail) 1 (lb Go.Proofs.Tryz.f73 0) (S73_0 p5 p15 p16 x) (fun e σ1 => k e (clean E (L73_0 e) σ1)) = (t73_0 n p5 p15 p16 x).run (Sum.elim (fun x' => k .normal (S73_0 p5 p15 p16 x')) (fun o => k o.1 o.2)) := by kernel_rfl
noncomputable def lam73_0 (n : Nat) (p5 : List UInt8) (p15 : List Val) (p16 : Int) (x : Int × (List UInt8) × Int × Int × Int × (List UInt8) × (List Val) × (List (List UInt8))) : Tree (Out' E) :=
  .ite (eqI p16 p15.length && leI 0 x.1 && leI x.1 p16 && Px.okLays' n (eqI x.2.2.1 6) x.1.toNat (p15.drop x.1.toNat) x.2.2.2.2.2.2.2 x.2.1)
   (.leaf (.exit 0, at' E 45 [(1, .lf (.ptr 0 0 0)), (5, .lf (.str p5))] [(0, some (.wb 80 (.own 0 0 .u8 (x.2.1 ++ Px.layL' (eqI x.2.2.1 6) x.1.toNat (p15.drop x.1.toNat) x.2.2.2.2.2.2.2))))])) .fail
theorem okLays_cons {n : Nat} {d : Bool} {i : Nat} {v : Val} {r : List Val} {ks : List (List UInt8)} {xs : List UInt8} (h : Px.okLays n d i (v :: r) ks xs = true) :
    Px.okLay n v (xs ++ cond (ltI 0 (i : Int)) [32] [] ++ cond d ([47] ++ ks.getD i [] ++ [32]) []) = true ∧ (d = true → i < ks.length) ∧
    Px.okLays n d (i + 1) r ks (xs ++ cond (ltI 0 (i : Int)) [32] [] ++ cond d ([47] ++ ks.getD i [] ++ [32]) [] ++ Px.layV v) = true ∧
    (xs ++ cond (ltI 0 (i : Int)) [32] [] ++ cond d ([47] ++ ks.getD i [] ++ [32]) []).length ≤ 1000000000 := by
  unfold Px.okLays at h
  rw [Bool.and_eq_true, Bool.and_eq_true, Bool.and_eq_true, Px.layL_cons, Px.dls, Px.fitL, Bool.and_eq_true, Nat.ble_eq, Nat.ble_eq] at h
  obtain ⟨h1, ⟨h2, h3⟩, h4, h5⟩ := h
  rw [← List.append_assoc, ← List.append_assoc, ← List.append_assoc] at h5
  refine ⟨?_, fun hd => ?_, ?_, ?_⟩
  · unfold Px.okLay
    rw [Bool.and_eq_true, Bool.and_eq_true, Nat.ble_eq]
    refine ⟨Nat.ble_eq ▸ (by omega : Px.dl v + 1 ≤ n), h2, ?_⟩
    rw [List.length_append] at h5
    omega
  · rw [hd, cond_true, Nat.ble_eq, List.length_cons] at h4
    omega
  · unfold Px.okLays
    rw [Bool.and_eq_true, Bool.and_eq_true, Bool.and_eq_true, Nat.ble_eq, Nat.ble_eq]
    refine ⟨by omega, h3, ?_, h5⟩
    cases d with
    | false => rfl
    | true =>
      rw [cond_true, Nat.ble_eq, List.length_cons] at h4
      rw [cond_true, Nat.ble_eq]; omega
  · rw [List.length_append, List.length_append] at h5
    omega
theorem k73 {n : Nat} {p5 : List UInt8} {p15 : List Val} {k m g : Int} {t : List UInt8} {l : List Val} {ks : List (List UInt8)} (hb : p15.length ≤ 9223372036854775807) : ∀ (r : List Val) (i : Nat) (xs : List UInt8), p15.drop i = r → Px.okLays n (eqI k 6) i r ks xs = true →
    iter (t73_0 n p5 p15 p15.length) (r.length + 1) ((i : Int), xs, k, m, g, t, l, ks) = some (Ex.exit 0, at' E 45 [(1, .lf (.ptr 0 0 0)), (5, .lf (.str p5))] [(0, some (.wb 80 (.own 0 0 .u8 (xs ++ Px.layL (eqI k 6) i r ks))))])
  | [], i, xs, h, _ => by
    have hi : p15.length ≤ i := List.drop_eq_nil_iff.1 h
    have e1 : ltI (i : Int) (p15.length : Int) = false := by rw [ltI_eq]; exact decide_eq_false (by omega)
    have hs : (t73_0 n p5 p15 p15.length ((i : Int), xs, k, m, g, t, l, ks)).get = some (.inr (Ex.exit 0, at' E 45 [(1, .lf (.ptr 0 0 0)), (5, .lf (.str p5))] [(0, some (.wb 80 (.own 0 0 .u8 xs)))])) := by
      unfold t73_0
      simp only [Tree.get_ite, Tree.get_leaf, e1, cond_false]
    rw [iter, hs]
    show some _ = some _
    rw [Px.layL, List.append_nil]
  | v :: r, i, xs, h, hok => by
    obtain ⟨h1, h2, h3, h4⟩ := okLays_cons hok
    have hi : i < p15.length := by
      rcases Nat.lt_or_ge i p15.length with h5 | h5
      · exact h5
      · rw [List.drop_eq_nil_iff.2 h5] at h; cases h
    have hd := h
    rw [drop_cons p15 Px.v0 i hi] at hd
    injection hd with hv hr
    have hv : p15.getD i (Val.mk 0 0 0 [] [] []) = v := hv
    have e1 : ltI (i : Int) (p15.length : Int) = true := by rw [ltI_eq]; exact decide_eq_true (by omega)
    have e2 : inB (i : Int) p15.length = true := inB_true.2 ⟨by omega, by omega⟩
    have e3 : IntKind.i64.wrap ((i : Int) + 1) = ((i + 1 : Nat) : Int) := by rw [wi64] <;> omega
    have hs : (t73_0 n p5 p15 p15.length ((i : Int), xs, k, m, g, t, l, ks)).get = some (.inl (((i + 1 : Nat) : Int), xs ++ cond (ltI 0 (i : Int)) [32] [] ++ cond (eqI k 6) ([47] ++ ks.getD i [] ++ [32]) [] ++ Px.layV v, k, m, g, t, l, ks)) := by
      unfold t73_0
      simp only [Tree.get_ite, Tree.get_leaf, e1, e2, e3, cond_true, Int.toNat_natCast, hv, Px.v_eta, Px.okLay'_eq, Px.layV'_eq]
      cases q1 : ltI 0 (i : Int) <;> cases q2 : eqI k 6 <;> rw [q1, q2] at h1 h4 <;> rw [q2] at h2 <;> simp only [cond_true, cond_false, List.append_nil] at h1 h2 h4 ⊢
      · rw [h1]; rfl
      · have e4 : inB (i : Int) ks.length = true := inB_true.2 ⟨by omega, by have := h2 trivial; omega⟩
        have l1 : (ks.getD i []).length + 2 ≤ 1000000000 := by simp only [List.length_append, List.length_cons, List.length_nil] at h4; omega
        rw [e4, decide_eq_true (by simp only [List.length_cons, List.length_nil]; omega), decide_eq_true (by simp only [List.length_append, List.length_cons, List.length_nil]; omega), decide_eq_true h4, h1]
        rfl
      · rw [decide_eq_true h4, h1]; rfl
      · have e4 : inB (i : Int) ks.length = true := inB_true.2 ⟨by omega, by have := h2 trivial; omega⟩
        have l1 : (ks.getD i []).length + 2 ≤ 1000000000 := by simp only [List.length_append, List.length_cons, List.length_nil] at h4; omega
        rw [decide_eq_true (by rw [List.length_append] at h4; omega), e4, decide_eq_true (by simp only [List.length_cons, List.length_nil]; omega), decide_eq_true (by simp only [List.length_append, List.length_cons, List.length_nil]; omega), decide_eq_true h4, h1]
        rfl
    rw [iter, hs]
    have ih := k73 (p5 := p5) (m := m) (g := g) (t := t) (l := l) hb r (i + 1) _ hr h3
    refine Eq.trans ih ?_
    rw [Px.layL_cons]
    simp only [List.append_assoc]
theorem m73_0 {n : Nat} {p5 : List UInt8} {p15 : List Val} {p16 : Int} {x : Int × (List UInt8) × Int × Int × Int × (List UInt8) × (List Val) × (List (List UInt8))} {e : Ex} {σ : St E.A} (_ : okLenR (E := E) (.lf (.str p5)) = true) (g : okLenR (E := E) (.lf (.sl .val p15)) = true) (_ : okLenO (E := E) (.wb 80 (.own 0 0 .u8 x.2.1)) = true) (_ : okLenO (E := E) (.cells 30 [.int .u8 x.2.2.1, .int .i64 x.2.2.2.1, .int .i64 x.2.2.2.2.1, .str x.2.2.2.2.2.1, .sl .val x.2.2.2.2.2.2.1, .sl .str x.2.2.2.2.2.2.2]) = true)
    (h : (lam73_0 n p5 p15 p16 x).get = some (e, σ)) : ∃ fuel, iter (t73_0 n p5 p15 p16) fuel x = some (e, σ) ∧ e ≠ .normal := by
  obtain ⟨i, xs, k, m, g', t, l, ks⟩ := x
  have hb : p15.length ≤ 9223372036854775807 := of_decide_eq_true g
  unfold lam73_0 at h
  rcases Tree.get_ite_some h with ⟨h1, h'⟩ | ⟨_, h'⟩
  · simp only [eqI_eq, leI_eq, Bool.and_eq_true, decide_eq_true_eq] at h1
    obtain ⟨⟨⟨h2, h3⟩, h4⟩, h5⟩ := h1
    subst h2
    obtain ⟨i, rfl⟩ : ∃ j : Nat, i = (j : Int) := ⟨i.toNat, by omega⟩
    rw [← eqI_eq, Px.okLays'_eq] at h5
    simp only [Int.toNat_natCast] at h5 h'
    refine ⟨_, (k73 hb _ i xs rfl h5).trans ?_, ?_⟩
    · rw [Px.layL'_eq] at h'; exact h'
    · injection h' with h'; injection h' with h6 _; rw [← h6]; intro hh; cases hh
  · cases h'
noncomputable def rd73_0 (n : Nat) (σ : St E.A) : Tree (Out' E) :=
  let c := clean E (L73_0 .normal) σ
  if c.sl.length = 45 then
  match c.sl.getD 1 .undef, c.sl.getD 2 .undef, c.sl.getD 5 .undef, c.sl.getD 15 .undef, c.sl.getD 16 .undef, c.sl.getD 17 .undef, c.ob 0, c.ob 192 with
  | .lf (.ptr 0 0 0), .lf (.ptr 192 0 0), .lf (.str p5), .lf (.sl .val p15), .lf (.int .i64 p16), .lf (.int .i64 x17), some (.wb 80 (.own 0 0 .u8 o0a)), some (.cells 30 [.int .u8 o192a, .int .i64 o192b, .int .i64 o192c, .str o192d, .sl .val o192e, .sl .str o192f]) => lam73_0 n p5 p15 p16 (x17, o0a, o192a, o192b, o192c, o192d, o192e, o192f)
  | _, _, _, _, _, _, _, _ => .fail
  else .fail
theorem ll73_0 (hL : Laws E) (n : Nat) (hN : Valid E 44 (spec44N n)) (σ : St E.A) (e : Ex) (σ' : St E.A) (h : (rd73_0 n σ).get = some (e, σ')) : LoopOK E (lb Go.Proofs.Tryz.f73 0) σ e σ' := by
  refine LoopOK.of_clean hL (L73_0 .normal) ?_
  unfold rd73_0 at h
  simp only at h
  split at h
  · rename_i hlen
    split at h
    · rename_i p5 p15 p16 x17 o0a o192a o192b o192c o192d o192e o192f h0 h1 h2 h3 h4 h5 h6 h7
      refine LoopOK.lens 5 (fun g0 => ?_)
      rw [h2] at g0
      refine LoopOK.lens 15 (fun g1 => ?_)
      rw [h3] at g1
      refine LoopOK.lensO 0 (fun gg => ?_)
      have g2 := gg _ h6
      refine LoopOK.lensO 192 (fun gg => ?_)
      have g3 := gg _ h7
      obtain ⟨fuel, hi, ho⟩ := m73_0 g0 g1 g2 g3 h
      have hl := loop_at (Γ := (G73 n)) (Λ := fun _ _ => .fail) (n := 1) (body := lb Go.Proofs.Tryz.f73 0) hL (hG73 hL n hN) (S := S73_0 p5 p15 p16) (t := t73_0 n p5 p15 p16) (Lv := L73_0) (LamOK.none (by kernel_rfl)) (h73_0 n p5 p15 p16) hi ho
      refine LoopOK.fit hlen ?_ ?_ rfl rfl hl
      · exact ⟨h0, h1, h2, h3, h4, h5, trivial⟩
      · exact ⟨h6, h7, trivial⟩
    · cases h
  · cases h
noncomputable def Lam73 (n : Nat) : Lam E
  | 0, σ => rd73_0 n σ
  | _, _ => .fail
noncomputable def w73 (n : Nat) (a0 : Int) (a1 : Int) (a2 : Int) (a3 : List UInt8) (a4 : List Val) (a5 : List (List UInt8)) (xs : List UInt8) : Tree (RV E.A × List (Obj E.A)) :=
 .ite (eqI a0 (6 : Int))
 (.ite (decide ((xs ++ [(60 : UInt8), (60 : UInt8)]).length ≤ (1000000000 : Nat)))
  (.ite (eqI (↑a4.length : Int) (↑a4.length : Int) && leI (0 : Int) (0 : Int) && leI (0 : Int) (↑a4.length : Int) && Px.okLays' n (eqI a0 (6 : Int)) (Int.toNat (0 : Int)) (List.drop (Int.toNat (0 : Int)) a4) a5 (xs ++ [(60 : UInt8), (60 : UInt8)]))
   (.ite (decide ((xs ++ [(60 : UInt8), (60 : UInt8)] ++ Px.layL' (eqI a0 (6 : Int)) (Int.toNat (0 : Int)) (List.drop (Int.toNat (0 : Int)) a4) a5 ++ [(62 : UInt8), (62 : UInt8)]).length ≤ (1000000000 : Nat)))
    (.leaf (.tup [], [.wb 80 (.own 0 0 .u8 (xs ++ [(60 : UInt8), (60 : UInt8)] ++ Px.layL' (eqI a0 (6 : Int)) (Int.toNat (0 : Int)) (List.drop (Int.toNat (0 : Int)) a4) a5 ++ [(62 : UInt8), (62 : UInt8)]))]))
    (.fail))
   (.fail))
  (.fail))
 (.ite (decide ((xs ++ [(91 : UInt8)]).length ≤ (1000000000 : Nat)))
  (.ite (eqI (↑a4.length : Int) (↑a4.length : Int) && leI (0 : Int) (0 : Int) && leI (0 : Int) (↑a4.length : Int) && Px.okLays' n (eqI a0 (6 : Int)) (Int.toNat (0 : Int)) (List.drop (Int.toNat (0 : Int)) a4) a5 (xs ++ [(91 : UInt8)]))
   (.ite (decide ((xs ++ [(91 : UInt8)] ++ Px.layL' (eqI a0 (6 : Int)) (Int.toNat (0 : Int)) (List.drop (Int.toNat (0 : Int)) a4) a5 ++ [(93 : UInt8)]).length ≤ (1000000000 : Nat)))
    (.leaf (.tup [], [.wb 80 (.own 0 0 .u8 (xs ++ [(91 : UInt8)] ++ Px.layL' (eqI a0 (6 : Int)) (Int.toNat (0 : Int)) (List.drop (Int.toNat (0 : Int)) a4) a5 ++ [(93 : UInt8)]))]))
    (.fail))
   (.fail))
  (.fail))
theorem e73 (n : Nat) (a0 : Int) (a1 : Int) (a2 : Int) (a3 : List UInt8) (a4 : List Val) (a5 : List (List UInt8)) (xs : List UInt8) : execFun E (G73 n) ((Lam73 n)) false Go.Proofs.Tryz.f73 [.agg [.int .u8 a0, .int .i64 a1, .int .i64 a2, .str a3, .sl .val a4, .sl .str a5], .lf (.ptr 0 0 0)] [.wb 80 (.own 0 0 .u8 xs)] some = (w73 n a0 a1 a2 a3 a4 a5 xs).get := by kernel_rfl
noncomputable def w73_1 (n : Nat) (a0 : Int) (a1 : Int) (a2 : Int) (a3 : List UInt8) (a4 : List Val) (a5 : List (List UInt8)) : Tree (RV E.A × List (Obj E.A)) :=
 .ite (eqI a0 (6 : Int))
 (.ite (eqI (↑a4.length : Int) (↑a4.length : Int) && leI (0 : Int) (0 : Int) && leI (0 : Int) (↑a4.length : Int) && Px.okLays' n (eqI a0 (6 : Int)) (Int.toNat (0 : Int)) (List.drop (Int.toNat (0 : Int)) a4) a5 [(60 : UInt8), (60 : UInt8)])
  (.ite (decide (([(60 : UInt8), (60 : UInt8)] ++ Px.layL' (eqI a0 (6 : Int)) (Int.toNat (0 : Int)) (List.drop (Int.toNat (0 : Int)) a4) a5 ++ [(62 : UInt8), (62 : UInt8)]).length ≤ (1000000000 : Nat)))
   (.leaf (.tup [], [.wb 80 (.own 0 0 .u8 ([(60 : UInt8), (60 : UInt8)] ++ Px.layL' (eqI a0 (6 : Int)) (Int.toNat (0 : Int)) (List.drop (Int.toNat (0 : Int)) a4) a5 ++ [(62 : UInt8), (62 : UInt8)]))]))
   (.fail))
  (.fail))
 (.ite (eqI (↑a4.length : Int) (↑a4.length : Int) && leI (0 : Int) (0 : Int) && leI (0 : Int) (↑a4.length : Int) && Px.okLays' n (eqI a0 (6 : Int)) (Int.toNat (0 : Int)) (List.drop (Int.toNat (0 : Int)) a4) a5 [(91 : UInt8)])
  (.ite (decide (([(91 : UInt8)] ++ Px.layL' (eqI a0 (6 : Int)) (Int.toNat (0 : Int)) (List.drop (Int.toNat (0 : Int)) a4) a5 ++ [(93 : UInt8)]).length ≤ (1000000000 : Nat)))
   (.leaf (.tup [], [.wb 80 (.own 0 0 .u8 ([(91 : UInt8)] ++ Px.layL' (eqI a0 (6 : Int)) (Int.toNat (0 : Int)) (List.drop (Int.toNat (0 : Int)) a4) a5 ++ [(93 : UInt8)]))]))
   (.fail))
  (.fail))
theorem e73_1 (n : Nat) (a0 : Int) (a1 : Int) (a2 : Int) (a3 : List UInt8) (a4 : List Val) (a5 : List (List UInt8)) : execFun E (G73 n) ((Lam73 n)) false Go.Proofs.Tryz.f73 [.agg [.int .u8 a0, .int .i64 a1, .int .i64 a2, .str a3, .sl .val a4, .sl .str a5], .lf (.ptr 0 0 0)] [.wb 80 .nil] some = (w73_1 n a0 a1 a2 a3 a4 a5).get := by kernel_rfl
noncomputable def raw73 (n : Nat) : Spec E := fun args os => match args, os with
  | [.agg [.int .u8 a0, .int .i64 a1, .int .i64 a2, .str a3, .sl .val a4, .sl .str a5], .lf (.ptr 0 0 0)], [.wb 80 (.own 0 0 .u8 xs)] => w73 n a0 a1 a2 a3 a4 a5 xs
  | [.agg [.int .u8 a0, .int .i64 a1, .int .i64 a2, .str a3, .sl .val a4, .sl .str a5], .lf (.ptr 0 0 0)], [.wb 80 .nil] => w73_1 n a0 a1 a2 a3 a4 a5
  | _, _ => .fail
theorem validraw73 (hL : Laws E) (n : Nat) (hN : Valid E 44 (spec44N n)) : Valid E 73 (raw73 n) :=
  valid_of_body hL (hG73 hL n hN) (Λ := (Lam73 n)) (fn := Go.Proofs.Tryz.f73) (keep := false) (by kernel_rfl) (by kernel_rfl) (by kernel_rfl) ((LamOK.of (m := 1) (by kernel_rfl) (fun j hj σ e σ' hg => by
      match j, hj with
      | 0, _ => exact ll73_0 hL n hN σ e σ' hg
      ))) (fun args os r os' h => by
    unfold raw73 at h
    split at h
    · exact (e73 _ _ _ _ _ _ _ _).trans h
    · exact (e73_1 _ _ _ _ _ _ _).trans h
    · cases h)
noncomputable def spec73N (n : Nat) : Spec E := fun args os => match args, os with
  | [.agg [.int .u8 a0, .int .i64 _, .int .i64 _, .str _, .sl .val a4, .sl .str a5], .lf (.ptr 0 0 0)], [.wb 80 (.own 0 0 .u8 (xs : List UInt8))] =>
    .ite (Px.okAll' n a0 a4 a5 xs) (.leaf (.tup [], [.wb 80 (.own 0 0 K.u8 (xs ++ Px.layA' a0 a4 a5))])) .fail
  | [.agg [.int .u8 a0, .int .i64 _, .int .i64 _, .str _, .sl .val a4, .sl .str a5], .lf (.ptr 0 0 0)], [.wb 80 .nil] =>
    .ite (Px.okAll' n a0 a4 a5 []) (.leaf (.tup [], [.wb 80 (.own 0 0 K.u8 (Px.layA' a0 a4 a5))])) .fail
  | _, _ => .fail
theorem eq73 {n : Nat} {a0 a1 a2 : Int} {a3 : List UInt8} {a4 : List Val} {a5 : List (List UInt8)} {xs : List UInt8} (h : Px.okAll n a0 a4 a5 xs = true) :
    (w73 n a0 a1 a2 a3 a4 a5 xs).get = some (.tup [], [.wb 80 (.own 0 0 K.u8 (xs ++ Px.layA a0 a4 a5))]) := by
  have e1 : eqI (a4.length : Int) (a4.length : Int) = true := by rw [eqI_eq]; exact decide_eq_true rfl
  have e2 : leI 0 0 = true := rfl
  have e3 : leI 0 (a4.length : Int) = true := by rw [leI_eq]; exact decide_eq_true (by omega)
  have e4 : Int.toNat 0 = 0 := rfl
  unfold w73
  simp only [Tree.get_ite, Tree.get_leaf, e1, e2, e3, e4, List.drop_zero, Bool.true_and, Px.okLays'_eq, Px.layL'_eq]
  cases q : eqI a0 6 with
  | false =>
    obtain ⟨h1, h2, h3⟩ := Px.okAll_in h q (Px.layA_list q)
    simp only [cond_false]
    rw [decide_eq_true h2, h1, decide_eq_true h3, Px.layA_list q]
    simp only [cond_true, List.append_assoc]
  | true =>
    obtain ⟨h1, h2, h3⟩ := Px.okAll_in h q (Px.layA_dict q)
    simp only [cond_true]
    rw [decide_eq_true h2, h1, decide_eq_true h3, Px.layA_dict q]
    simp only [cond_true, List.append_assoc]
theorem eq73_1 {n : Nat} {a0 a1 a2 : Int} {a3 : List UInt8} {a4 : List Val} {a5 : List (List UInt8)} (h : Px.okAll n a0 a4 a5 [] = true) :
    (w73_1 n a0 a1 a2 a3 a4 a5).get = some (.tup [], [.wb 80 (.own 0 0 K.u8 (Px.layA a0 a4 a5))]) := by
  have e1 : eqI (a4.length : Int) (a4.length : Int) = true := by rw [eqI_eq]; exact decide_eq_true rfl
  have e2 : leI 0 0 = true := rfl
  have e3 : leI 0 (a4.length : Int) = true := by rw [leI_eq]; exact decide_eq_true (by omega)
  have e4 : Int.toNat 0 = 0 := rfl
  unfold w73_1
  simp only [Tree.get_ite, Tree.get_leaf, e1, e2, e3, e4, List.drop_zero, Bool.true_and, Px.okLays'_eq, Px.layL'_eq]
  cases q : eqI a0 6 with
  | false =>
    obtain ⟨h1, h2, h3⟩ := Px.okAll_in h q (Px.layA_list q)
    rw [List.nil_append] at h1 h3
    simp only [cond_false]
    rw [h1, decide_eq_true h3, Px.layA_list q]
    rfl
  | true =>
    obtain ⟨h1, h2, h3⟩ := Px.okAll_in h q (Px.layA_dict q)
    rw [List.nil_append] at h1 h3
    simp only [cond_true]
    rw [h1, decide_eq_true h3, Px.layA_dict q]
    rfl
theorem valid73N (hL : Laws E) (n : Nat) (hN : Valid E 44 (spec44N n)) : Valid E 73 (spec73N n) := (validraw73 hL n hN).less (fun args os x u1 u2 h => by
  clear u1 u2
  unfold spec73N at h
  split at h
  · rename_i a0 a1 a2 a3 a4 a5 xs
    rcases Tree.get_ite_some h with ⟨h1, h'⟩ | ⟨_, h'⟩
    · rw [Px.okAll'_eq] at h1
      rw [Px.layA'_eq] at h'
      exact (eq73 (a1 := a1) (a2 := a2) (a3 := a3) h1).trans h'
    · cases h'
  · rename_i a0 a1 a2 a3 a4 a5
    rcases Tree.get_ite_some h with ⟨h1, h'⟩ | ⟨_, h'⟩
    · rw [Px.okAll'_eq] at h1
      rw [Px.layA'_eq] at h'
      exact (eq73_1 (a1 := a1) (a2 := a2) (a3 := a3) h1).trans h'
    · cases h'
  · cases h)
end Go.Vx


namespace Go.Vx
open Go
noncomputable def G71 : FuncId → Option (Spec E) := fun _ => none
theorem hG71 (hL : Laws E) : ∀ f spec, G71 f = some spec → Valid E f spec := by
  intro f spec h
  cases h
def L71_0 : Ex → Live
  | .normal => ⟨[3, 6, 7, 8], []⟩
  | .exit 0 => ⟨[3], []⟩
  | .ret => ⟨[2], []⟩
  | _ => ⟨[], []⟩
noncomputable def S71_0 (p6 : List UInt8) (p7 : Int) (x : (List UInt8) × Int) : St E.A := at' E 24 [(3, .lf (.own 0 0 .u8 x.1)), (6, .lf (.sl .u8 p6)), (7, .lf (.int .i64 p7)), (8, .lf (.int .i64 x.2))] []
noncomputable def t71_0 (p6 : List UInt8) (p7 : Int) (x : (List UInt8) × Int) : Tree ((List UInt8) × Int ⊕ Out' E) :=
 .ite (ltI x.snd p7)
 (.ite (inB x.snd p6.length)
  (.ite (inB (vshr IntKind.u8 (↑(p6.getD x.snd.toNat (0 : UInt8)).toNat : Int) (4 : Int)) [(48 : UInt8), (49 : UInt8), (50 : UInt8), (51 : UInt8), (52 : UInt8), (53 : UInt8), (54 : UInt8), (55 : UInt8), (56 : UInt8), (57 : UInt8), (97 : UInt8), (98 : UInt8), (99 : UInt8), (100 : UInt8), (101 : UInt8), (102 : UInt8)].length)
   (.ite (inB (vbits Go.BinOp.and IntKind.u8 (↑(p6.getD x.snd.toNat (0 : UInt8)).toNat : Int) (15 : Int)) [(48 : UInt8), (49 : UInt8), (50 : UInt8), (51 : UInt8), (52 : UInt8), (53 : UInt8), (54 : UInt8), (55 : UInt8), (56 : UInt8), (57 : UInt8), (97 : UInt8), (98 : UInt8), (99 : UInt8), (100 : UInt8), (101 : UInt8), (102 : UInt8)].length)
    (.ite (decide ((x.fst.length + [UInt8.ofNat (↑([(48 : UInt8), (49 : UInt8), (50 : UInt8), (51 : UInt8), (52 : UInt8), (53 : UInt8), (54 : UInt8), (55 : UInt8), (56 : UInt8), (57 : UInt8), (97 : UInt8), (98 : UInt8), (99 : UInt8), (100 : UInt8), (101 : UInt8), (102 : UInt8)].getD (vshr IntKind.u8 (↑(p6.getD x.snd.toNat (0 : UInt8)).toNat : Int) (4 : Int)).toNat (0 : UInt8)).toNat : Int).toNat, UInt8.ofNat (↑([(48 : UInt8), (49 : UInt8), (50 : UInt8), (51 : UInt8), (52 : UInt8), (53 : UInt8), (54 : UInt8), (55 : UInt8), (56 : UInt8), (57 : UInt8), (97 : UInt8), (98 : UInt8), (99 : UInt8), (100 : UInt8), (101 : UInt8), (102 : UInt8)].getD (vbits Go.BinOp.and IntKind.u8 (↑(p6.getD x.snd.toNat (0 : UInt8)).toNat : Int) (15 : Int)).toNat (0 : UInt8)).toNat : Int).toNat].length) * (1 : Nat) ≤ (140737488355328 : Nat)))
     (.leaf (.inl ((x.fst ++ [UInt8.ofNat (↑([(48 : UInt8), (49 : UInt8), (50 : UInt8), (51 : UInt8), (52 : UInt8), (53 : UInt8), (54 : UInt8), (55 : UInt8), (56 : UInt8), (57 : UInt8), (97 : UInt8), (98 : UInt8), (99 : UInt8), (100 : UInt8), (101 : UInt8), (102 : UInt8)].getD (vshr IntKind.u8 (↑(p6.getD x.snd.toNat (0 : UInt8)).toNat : Int) (4 : Int)).toNat (0 : UInt8)).toNat : Int).toNat, UInt8.ofNat (↑([(48 : UInt8), (49 : UInt8), (50 : UInt8), (51 : UInt8), (52 : UInt8), (53 : UInt8), (54 : UInt8), (55 : UInt8), (56 : UInt8), (57 : UInt8), (97 : UInt8), (98 : UInt8), (99 : UInt8), (100 : UInt8), (101 : UInt8), (102 : UInt8)].getD (vbits Go.BinOp.and IntKind.u8 (↑(p6.getD x.snd.toNat (0 : UInt8)).toNat : Int) (15 : Int)).toNat (0 : UInt8)).toNat : Int).toNat]), (IntKind.i64.wrap (x.snd + (1 : Int))))))
     (.fail))
    (.fail))
   (.fail))
  (.fail))
 (.leaf (.inr (.exit 0, at' E 24 [(3, .lf (.own 0 0 .u8 x.fst))] [])))
theorem h71_0 (p6 : List UInt8) (p7 : Int) (x : (List UInt8) × Int) (k : Ex → St E.A → Option Unit) :
    exec E G71 (fun _ _ => .fail) 1 (lb Go.Proofs.Tryz.f71 0) (S71_0 p6 p7 x) (fun e σ1 => k e (clean E (L71_0 e) σ1)) = (t71_0 p6 p7 x).run (Sum.elim (fun x' => k .normal (S71_0 p6 p7 x')) (fun o => k o.1 o.2)) := by kernel_rfl
noncomputable def lam71_0 (p6 : List UInt8) (p7 : Int) (x : (List UInt8) × Int) : Tree (Out' E) :=
  .ite (eqI p7 p6.length && leI 0 x.2 && leI x.2 p7 && decide (x.1.length + 2 * (p6.length - x.2.toNat) ≤ 140737488355328))
   (.leaf (.exit 0, at' E 24 [(3, .lf (.own 0 0 .u8 (x.1 ++ Px.hexs (p6.drop x.2.toNat))))] [])) .fail
theorem hdig71 (a : Nat) (h : a < 16) : UInt8.ofNat (([(48 : UInt8), 49, 50, 51, 52, 53, 54, 55, 56, 57, 97, 98, 99, 100, 101, 102].getD a 0).toNat : Int).toNat = Px.hd a := by
  rw [Int.toNat_natCast, UInt8.ofNat_toNat]
  rfl
theorem m71_0 {p6 : List UInt8} {p7 : Int} {x : (List UInt8) × Int} {e : Ex} {σ : St E.A} (_ : okLenR (E := E) (.lf (.own 0 0 .u8 x.1)) = true) (g : okLenR (E := E) (.lf (.sl .u8 p6)) = true)
    (h : (lam71_0 p6 p7 x).get = some (e, σ)) : ∃ fuel, iter (t71_0 p6 p7) fuel x = some (e, σ) ∧ e ≠ .normal := by
  have hb : p6.length ≤ big := of_decide_eq_true g
  unfold big at hb
  refine ⟨(p7 - x.2).toNat + 1, iter_tree (lam := lam71_0 p6 p7) (m := fun x => (p7 - x.2).toNat) (fun x o h => ?_) _ x (e, σ) h (by omega), ?_⟩
  · obtain ⟨acc, i⟩ := x
    unfold lam71_0 at h
    rcases Tree.get_ite_some h with ⟨h1, h⟩ | ⟨_, h⟩
    · simp only [eqI_eq, leI_eq, Bool.and_eq_true, decide_eq_true_eq] at h1
      obtain ⟨⟨⟨h2, h3⟩, h4⟩, h5⟩ := h1
      simp only at h3 h4 h5 h
      obtain ⟨i, rfl⟩ : ∃ j : Nat, i = (j : Int) := ⟨i.toNat, by omega⟩
      rw [Int.toNat_natCast] at h h5
      unfold t71_0
      by_cases hx : (i : Int) < p7
      · have hi : i < p6.length := by omega
        have e1 : IntKind.i64.wrap ((i : Int) + 1) = ((i + 1 : Nat) : Int) := by rw [wi64] <;> omega
        have hin : inB (i : Int) p6.length = true := inB_true.2 ⟨by omega, by omega⟩
        rw [drop_cons p6 0 i hi] at h
        obtain ⟨b, hbv⟩ : ∃ b, p6.getD i 0 = b := ⟨_, rfl⟩
        have bl := b.toNat_lt
        rw [hbv] at h
        have c1 : inB ((b.toNat / 16 : Nat) : Int) [(48 : UInt8), 49, 50, 51, 52, 53, 54, 55, 56, 57, 97, 98, 99, 100, 101, 102].length = true := inB_true.2 ⟨by omega, by simp only [List.length_cons, List.length_nil]; omega⟩
        have c2 : inB ((b.toNat % 16 : Nat) : Int) [(48 : UInt8), 49, 50, 51, 52, 53, 54, 55, 56, 57, 97, 98, 99, 100, 101, 102].length = true := inB_true.2 ⟨by omega, by simp only [List.length_cons, List.length_nil]; omega⟩
        refine .inl ⟨(acc ++ [Px.hd (b.toNat / 16), Px.hd (b.toNat % 16)], ((i + 1 : Nat) : Int)), ?_, by simp only; omega, ?_⟩
        · have hv := hdig71 (b.toNat / 16) (by omega)
          have hm := hdig71 (b.toNat % 16) (by omega)
          have c3 : decide ((acc.length + [Px.hd (b.toNat / 16), Px.hd (b.toNat % 16)].length) * (1 : Nat) ≤ (140737488355328 : Nat)) = true := decide_eq_true (by simp only [List.length_cons, List.length_nil]; omega)
          simp only [Tree.get_ite, Tree.get_leaf, ltI_eq, hx, hin, decide_true, cond_true, Int.toNat_natCast, hbv, vshr_u8, and_u8, c1, c2, e1]
          rw [Int.toNat_natCast] at hv hm
          rw [hv, hm, c3]
          rfl
        · unfold lam71_0
          have hd : (eqI p7 p6.length && leI 0 ((i + 1 : Nat) : Int) && leI ((i + 1 : Nat) : Int) p7 && decide ((acc ++ [Px.hd (b.toNat / 16), Px.hd (b.toNat % 16)]).length + 2 * (p6.length - (((i + 1 : Nat) : Int)).toNat) ≤ 140737488355328)) = true := by
            simp only [eqI_eq, leI_eq, Bool.and_eq_true, decide_eq_true_eq, Int.toNat_natCast, List.length_append, List.length_cons, List.length_nil]
            omega
          rw [Tree.get_ite, hd, Int.toNat_natCast, List.append_assoc]
          exact h
      · refine .inr ?_
        have : p6.drop i = [] := List.drop_of_length_le (by omega)
        rw [this] at h
        simp only [Px.hexs, List.append_nil] at h
        simp only [ltI_eq, Tree.get_ite, Tree.get_leaf, hx, decide_false, cond_false]
        injection h with h; rw [← h]
    · cases h
  · unfold lam71_0 at h
    rcases Tree.get_ite_some h with ⟨_, h⟩ | ⟨_, h⟩
    · injection h with h; injection h with h1 _; rw [← h1]; intro hh; cases hh
    · cases h
noncomputable def rd71_0 (σ : St E.A) : Tree (Out' E) :=
  let c := clean E (L71_0 .normal) σ
  if c.sl.length = 24 then
  match c.sl.getD 3 .undef, c.sl.getD 6 .undef, c.sl.getD 7 .undef, c.sl.getD 8 .undef with
  | .lf (.own 0 0 .u8 x3), .lf (.sl .u8 p6), .lf (.int .i64 p7), .lf (.int .i64 x8) => lam71_0 p6 p7 (x3, x8)
  | _, _, _, _ => .fail
  else .fail
theorem ll71_0 (hL : Laws E) (σ : St E.A) (e : Ex) (σ' : St E.A) (h : (rd71_0 σ).get = some (e, σ')) : LoopOK E (lb Go.Proofs.Tryz.f71 0) σ e σ' := by
  refine LoopOK.of_clean hL (L71_0 .normal) ?_
  unfold rd71_0 at h
  simp only at h
  split at h
  · rename_i hlen
    split at h
    · rename_i x3 p6 p7 x8 h0 h1 h2 h3
      refine LoopOK.lens 3 (fun g0 => ?_)
      rw [h0] at g0
      refine LoopOK.lens 6 (fun g1 => ?_)
      rw [h1] at g1
      obtain ⟨fuel, hi, ho⟩ := m71_0 g0 g1 h
      have hl := loop_at (Γ := G71) (Λ := fun _ _ => .fail) (n := 1) (body := lb Go.Proofs.Tryz.f71 0) hL (hG71 hL) (S := S71_0 p6 p7) (t := t71_0 p6 p7) (Lv := L71_0) (LamOK.none (by kernel_rfl)) (h71_0 p6 p7) hi ho
      refine LoopOK.fit hlen ?_ ?_ rfl rfl hl
      · exact ⟨h0, h1, h2, h3, trivial⟩
      · exact trivial
    · cases h
  · cases h
noncomputable def Lam71 : Lam E
  | 0, σ => rd71_0 σ
  | _, _ => .fail
noncomputable def w71 (a0 : List UInt8) : Tree (RV E.A × List (Obj E.A)) :=
 .ite (eqI (↑a0.length : Int) (↑a0.length : Int) && leI (0 : Int) (0 : Int) && leI (0 : Int) (↑a0.length : Int) && decide (([] : List UInt8).length + (2 : Nat) * (a0.length - Int.toNat (0 : Int)) ≤ (140737488355328 : Nat)))
 (.leaf (.lf (.str ([] ++ Px.hexs (List.drop (Int.toNat (0 : Int)) a0))), []))
 (.fail)
theorem e71 (a0 : List UInt8) : execFun E G71 ((Lam71)) false Go.Proofs.Tryz.f71 [.lf (.sl .u8 a0)] [] some = (w71 a0).get := by kernel_rfl
noncomputable def raw71 : Spec E := fun args os => match args, os with
  | [.lf (.sl .u8 a0)], [] => w71 a0
  | _, _ => .fail
theorem validraw71 (hL : Laws E) : Valid E 71 raw71 :=
  valid_of_body hL (hG71 hL) (Λ := (Lam71)) (fn := Go.Proofs.Tryz.f71) (keep := false) (by kernel_rfl) (by kernel_rfl) (by kernel_rfl) ((LamOK.of (m := 1) (by kernel_rfl) (fun j hj σ e σ' hg => by
      match j, hj with
      | 0, _ => exact ll71_0 hL σ e σ' hg
      ))) (fun args os r os' h => by
    unfold raw71 at h
    split at h
    · exact (e71 _).trans h
    · cases h)
theorem eq71 (p : List UInt8) (h : p.length ≤ 1000000000) : (w71 p).get = some (.lf (.str (Px.hexs p)), []) := by
  unfold w71
  have c1 : (eqI (↑p.length : Int) (↑p.length : Int) && leI (0 : Int) (0 : Int) && leI (0 : Int) (↑p.length : Int) && decide (([] : List UInt8).length + (2 : Nat) * (p.length - Int.toNat (0 : Int)) ≤ (140737488355328 : Nat))) = true := by
    simp only [eqI_eq, leI_eq, Bool.and_eq_true, decide_eq_true_eq, List.length_nil]
    exact ⟨⟨⟨trivial, by omega⟩, by omega⟩, by omega⟩
  rw [Tree.get_ite, c1]
  rfl
noncomputable def spec71 : Spec E := fun args os => match args, os with
  | [.lf (.sl .u8 p)], [] => .ite (decide (p.length ≤ 1000000000)) (.leaf (.lf (.str (Px.hexs p)), [])) .fail
  | _, _ => .fail
theorem valid71 (hL : Laws E) : Valid E 71 spec71 := (validraw71 hL).less (fun args os x g1 g2 h => by
  unfold spec71 at h
  split at h
  · rename_i p
    rcases Tree.get_ite_some h with ⟨h1, h⟩ | ⟨_, h⟩
    · exact (eq71 p (of_decide_eq_true h1)).trans h
    · cases h
  · cases h)
end Go.Vx

namespace Go.Vx
open Go
noncomputable def G44 (n : Nat) : FuncId → Option (Spec E)
  | 68 => some spec68
  | 69 => some spec69
  | 70 => some spec70
  | 71 => some spec71
  | 72 => some spec72
  | 73 => some (spec73N n)
  | _ => none
theorem hG44 (hL : Laws E) (n : Nat) (hN : Valid E 73 (spec73N n)) : ∀ f spec, (G44 n) f = some spec → Valid E f spec := by
  intro f spec h
  unfold G44 at h
  split at h
  · injection h with h; subst h; exact valid68 hL
  · injection h with h; subst h; exact valid69 hL
  · injection h with h; subst h; exact valid70 hL
  · injection h with h; subst h; exact valid71 hL
  · injection h with h; subst h; exact valid72 hL
  · injection h with h; subst h; exact hN
  · cases h
noncomputable def w44 (n : Nat) (a0 : Int) (a1 : Int) (a2 : Int) (a3 : List UInt8) (a4 : List Val) (a5 : List (List UInt8)) (xs : List UInt8) : Tree (RV E.A × List (Obj E.A)) :=
 .ite (eqI a0 (0 : Int))
 (.ite (decide ((xs ++ [(110 : UInt8), (117 : UInt8), (108 : UInt8), (108 : UInt8)]).length ≤ (1000000000 : Nat)))
  (.leaf (.tup [], [.wb 80 (.own 0 0 .u8 (xs ++ [(110 : UInt8), (117 : UInt8), (108 : UInt8), (108 : UInt8)]))]))
  (.fail))
 (.ite (eqI a0 (1 : Int))
  (.ite (decide ((xs ++ bif eqI a1 (1 : Int) then [(116 : UInt8), (114 : UInt8), (117 : UInt8), (101 : UInt8)] else [(102 : UInt8), (97 : UInt8), (108 : UInt8), (115 : UInt8), (101 : UInt8)]).length ≤ (1000000000 : Nat)))
   (.leaf (.tup [], [.wb 80 (.own 0 0 .u8 (xs ++ bif eqI a1 (1 : Int) then [(116 : UInt8), (114 : UInt8), (117 : UInt8), (101 : UInt8)] else [(102 : UInt8), (97 : UInt8), (108 : UInt8), (115 : UInt8), (101 : UInt8)]))]))
   (.fail))
  (.ite (eqI a0 (2 : Int))
   (.ite (decide ((xs ++ Go.Lib.itoa a1).length ≤ (1000000000 : Nat)))
    (.leaf (.tup [], [.wb 80 (.own 0 0 .u8 (xs ++ Go.Lib.itoa a1))]))
    (.fail))
   (.ite (eqI a0 (3 : Int))
    (.ite (decide ([(47 : UInt8)].length + a3.length ≤ (2 : Nat) ^ (60 : Nat)))
     (.ite (decide ((xs ++ ([(47 : UInt8)] ++ a3)).length ≤ (1000000000 : Nat)))
      (.leaf (.tup [], [.wb 80 (.own 0 0 .u8 (xs ++ ([(47 : UInt8)] ++ a3)))]))
      (.fail))
     (.fail))
    (.ite (eqI a0 (4 : Int))
     (.ite (decide (a3.length ≤ (1000000000 : Nat)))
      (.ite (decide ([(60 : UInt8)].length + (Px.hexs a3).length ≤ (2 : Nat) ^ (60 : Nat)))
       (.ite (decide (([(60 : UInt8)] ++ Px.hexs a3).length + [(62 : UInt8)].length ≤ (2 : Nat) ^ (60 : Nat)))
        (.ite (decide ((xs ++ ([(60 : UInt8)] ++ Px.hexs a3 ++ [(62 : UInt8)])).length ≤ (1000000000 : Nat)))
         (.leaf (.tup [], [.wb 80 (.own 0 0 .u8 (xs ++ ([(60 : UInt8)] ++ Px.hexs a3 ++ [(62 : UInt8)])))]))
         (.fail))
        (.fail))
       (.fail))
      (.fail))
     (.ite (eqI a0 (7 : Int))
      (.ite (decide ((Go.Lib.itoa a1).length + [(32 : UInt8)].length ≤ (2 : Nat) ^ (60 : Nat)))
       (.ite (decide ((Go.Lib.itoa a1 ++ [(32 : UInt8)]).length + (Go.Lib.itoa a2).length ≤ (2 : Nat) ^ (60 : Nat)))
        (.ite (decide ((Go.Lib.itoa a1 ++ [(32 : UInt8)] ++ Go.Lib.itoa a2).length + [(32 : UInt8), (82 : UInt8)].length ≤ (2 : Nat) ^ (60 : Nat)))
         (.ite (decide ((xs ++ (Go.Lib.itoa a1 ++ [(32 : UInt8)] ++ Go.Lib.itoa a2 ++ [(32 : UInt8), (82 : UInt8)])).length ≤ (1000000000 : Nat)))
          (.leaf (.tup [], [.wb 80 (.own 0 0 .u8 (xs ++ (Go.Lib.itoa a1 ++ [(32 : UInt8)] ++ Go.Lib.itoa a2 ++ [(32 : UInt8), (82 : UInt8)])))]))
          (.fail))
         (.fail))
        (.fail))
       (.fail))
      (.ite (Px.okAll' n a0 a4 a5 xs)
       (.leaf (.tup [], [.wb 80 (.own 0 0 .u8 (xs ++ Px.layA' a0 a4 a5))]))
       (.fail)))))))
theorem e44 (n : Nat) (a0 : Int) (a1 : Int) (a2 : Int) (a3 : List UInt8) (a4 : List Val) (a5 : List (List UInt8)) (xs : List UInt8) : execFun E (G44 n) (fun _ _ => .fail) false Go.Proofs.Tryz.f44 [.agg [.int .u8 a0, .int .i64 a1, .int .i64 a2, .str a3, .sl .val a4, .sl .str a5], .lf (.ptr 0 0 0)] [.wb 80 (.own 0 0 .u8 xs)] some = (w44 n a0 a1 a2 a3 a4 a5 xs).get := by kernel_rfl
noncomputable def w44_1 (n : Nat) (a0 : Int) (a1 : Int) (a2 : Int) (a3 : List UInt8) (a4 : List Val) (a5 : List (List UInt8)) : Tree (RV E.A × List (Obj E.A)) :=
 .ite (eqI a0 (0 : Int))
 (.leaf (.tup [], [.wb 80 (.own 0 0 .u8 ([(110 : UInt8), (117 : UInt8), (108 : UInt8), (108 : UInt8)]))]))
 (.ite (eqI a0 (1 : Int))
  (.ite (decide ((bif eqI a1 (1 : Int) then [(116 : UInt8), (114 : UInt8), (117 : UInt8), (101 : UInt8)] else [(102 : UInt8), (97 : UInt8), (108 : UInt8), (115 : UInt8), (101 : UInt8)]).length ≤ (1000000000 : Nat)))
   (.leaf (.tup [], [.wb 80 (.own 0 0 .u8 (bif eqI a1 (1 : Int) then [(116 : UInt8), (114 : UInt8), (117 : UInt8), (101 : UInt8)] else [(102 : UInt8), (97 : UInt8), (108 : UInt8), (115 : UInt8), (101 : UInt8)]))]))
   (.fail))
  (.ite (eqI a0 (2 : Int))
   (.ite (decide ((Go.Lib.itoa a1).length ≤ (1000000000 : Nat)))
    (.leaf (.tup [], [.wb 80 (.own 0 0 .u8 (Go.Lib.itoa a1))]))
    (.fail))
   (.ite (eqI a0 (3 : Int))
    (.ite (decide ([(47 : UInt8)].length + a3.length ≤ (2 : Nat) ^ (60 : Nat)))
     (.ite (decide (([(47 : UInt8)] ++ a3).length ≤ (1000000000 : Nat)))
      (.leaf (.tup [], [.wb 80 (.own 0 0 .u8 ([(47 : UInt8)] ++ a3))]))
      (.fail))
     (.fail))
    (.ite (eqI a0 (4 : Int))
     (.ite (decide (a3.length ≤ (1000000000 : Nat)))
      (.ite (decide ([(60 : UInt8)].length + (Px.hexs a3).length ≤ (2 : Nat) ^ (60 : Nat)))
       (.ite (decide (([(60 : UInt8)] ++ Px.hexs a3).length + [(62 : UInt8)].length ≤ (2 : Nat) ^ (60 : Nat)))
        (.ite (decide (([(60 : UInt8)] ++ Px.hexs a3 ++ [(62 : UInt8)]).length ≤ (1000000000 : Nat)))
         (.leaf (.tup [], [.wb 80 (.own 0 0 .u8 ([(60 : UInt8)] ++ Px.hexs a3 ++ [(62 : UInt8)]))]))
         (.fail))
        (.fail))
       (.fail))
      (.fail))
     (.ite (eqI a0 (7 : Int))
      (.ite (decide ((Go.Lib.itoa a1).length + [(32 : UInt8)].length ≤ (2 : Nat) ^ (60 : Nat)))
       (.ite (decide ((Go.Lib.itoa a1 ++ [(32 : UInt8)]).length + (Go.Lib.itoa a2).length ≤ (2 : Nat) ^ (60 : Nat)))
        (.ite (decide ((Go.Lib.itoa a1 ++ [(32 : UInt8)] ++ Go.Lib.itoa a2).length + [(32 : UInt8), (82 : UInt8)].length ≤ (2 : Nat) ^ (60 : Nat)))
         (.ite (decide ((Go.Lib.itoa a1 ++ [(32 : UInt8)] ++ Go.Lib.itoa a2 ++ [(32 : UInt8), (82 : UInt8)]).length ≤ (1000000000 : Nat)))
          (.leaf (.tup [], [.wb 80 (.own 0 0 .u8 (Go.Lib.itoa a1 ++ [(32 : UInt8)] ++ Go.Lib.itoa a2 ++ [(32 : UInt8), (82 : UInt8)]))]))
          (.fail))
         (.fail))
        (.fail))
       (.fail))
      (.ite (Px.okAll' n a0 a4 a5 [])
       (.leaf (.tup [], [.wb 80 (.own 0 0 .u8 (Px.layA' a0 a4 a5))]))
       (.fail)))))))
theorem e44_1 (n : Nat) (a0 : Int) (a1 : Int) (a2 : Int) (a3 : List UInt8) (a4 : List Val) (a5 : List (List UInt8)) : execFun E (G44 n) (fun _ _ => .fail) false Go.Proofs.Tryz.f44 [.agg [.int .u8 a0, .int .i64 a1, .int .i64 a2, .str a3, .sl .val a4, .sl .str a5], .lf (.ptr 0 0 0)] [.wb 80 .nil] some = (w44_1 n a0 a1 a2 a3 a4 a5).get := by kernel_rfl
noncomputable def raw44 (n : Nat) : Spec E := fun args os => match args, os with
  | [.agg [.int .u8 a0, .int .i64 a1, .int .i64 a2, .str a3, .sl .val a4, .sl .str a5], .lf (.ptr 0 0 0)], [.wb 80 (.own 0 0 .u8 xs)] => w44 n a0 a1 a2 a3 a4 a5 xs
  | [.agg [.int .u8 a0, .int .i64 a1, .int .i64 a2, .str a3, .sl .val a4, .sl .str a5], .lf (.ptr 0 0 0)], [.wb 80 .nil] => w44_1 n a0 a1 a2 a3 a4 a5
  | _, _ => .fail
theorem validraw44 (hL : Laws E) (n : Nat) (hN : Valid E 73 (spec73N n)) : Valid E 44 (raw44 n) :=
  valid_of_body hL (hG44 hL n hN) (Λ := fun _ _ => .fail) (fn := Go.Proofs.Tryz.f44) (keep := false) (by kernel_rfl) (by kernel_rfl) (by kernel_rfl) (LamOK.none (by kernel_rfl)) (fun args os r os' h => by
    unfold raw44 at h
    split at h
    · exact (e44 _ _ _ _ _ _ _ _).trans h
    · exact (e44_1 _ _ _ _ _ _ _).trans h
    · cases h)
theorem app_le {xs a b : List UInt8} (h : (xs ++ a).length ≤ 1000000000) (hb : b.length ≤ a.length) : b.length ≤ 1000000000 := by rw [List.length_append] at h; omega
theorem eq44 {n : Nat} {a0 a1 a2 : Int} {a3 : List UInt8} {a4 : List Val} {a5 : List (List UInt8)} {xs : List UInt8} (h : Px.okLay (n + 1) (.mk a0 a1 a2 a3 a4 a5) xs = true) :
    (w44 n a0 a1 a2 a3 a4 a5 xs).get = some (.tup [], [.wb 80 (.own 0 0 K.u8 (xs ++ Px.layV (.mk a0 a1 a2 a3 a4 a5)))]) := by
  unfold Px.okLay at h
  rw [Bool.and_eq_true, Bool.and_eq_true, Px.fitV, Bool.and_eq_true, Px.dl, Nat.ble_eq (y := 1000000000), Px.layV] at h
  obtain ⟨h1, ⟨h2, h3⟩, h4⟩ := h
  have h1 : Px.dls a4 + 1 ≤ n + 1 := Nat.le_of_ble_eq_true h1
  rw [Px.layV]
  unfold w44
  simp only [Tree.get_ite, Tree.get_leaf, Px.okAll'_eq, Px.layA'_eq]
  cases q0 : eqI a0 0 <;> rw [q0] at h4 <;> simp only [cond_true, cond_false] at h4 ⊢
  rotate_left
  · have h5 : (xs ++ ([110, 117, 108, 108] : List UInt8)).length ≤ 1000000000 := h4
    rw [decide_eq_true h5]; rfl
  cases q1 : eqI a0 1 <;> rw [q1] at h4 <;> simp only [cond_true, cond_false] at h4 ⊢
  rotate_left
  · have h5 : (xs ++ cond (eqI a1 1) ([116, 114, 117, 101] : List UInt8) [102, 97, 108, 115, 101]).length ≤ 1000000000 := h4
    rw [decide_eq_true h5]; rfl
  cases q2 : eqI a0 2 <;> rw [q2] at h4 <;> simp only [cond_true, cond_false] at h4 ⊢
  rotate_left
  · rw [decide_eq_true h4]; rfl
  cases q3 : eqI a0 3 <;> rw [q3] at h4 <;> simp only [cond_true, cond_false] at h4 ⊢
  rotate_left
  · rw [decide_eq_true h4, decide_eq_true (by simp only [List.length_append, List.length_cons, List.length_nil] at h4 ⊢; omega)]; rfl
  cases q4 : eqI a0 4 <;> rw [q4] at h4 <;> simp only [cond_true, cond_false] at h4 ⊢
  rotate_left
  · have hl := Px.hexs_len a3
    have h5 := h4
    simp only [List.length_append, List.length_cons, List.length_nil] at h5
    rw [decide_eq_true h4, decide_eq_true (by omega), decide_eq_true (by simp only [List.length_append, List.length_cons, List.length_nil]; omega), decide_eq_true (by simp only [List.length_append, List.length_cons, List.length_nil]; omega)]; rfl
  cases q7 : eqI a0 7 <;> rw [q7] at h4 <;> simp only [cond_true, cond_false] at h4 ⊢
  rotate_left
  · have h5 := h4
    simp only [List.length_append, List.length_cons, List.length_nil] at h5
    rw [decide_eq_true h4, decide_eq_true (by simp only [List.length_append, List.length_cons, List.length_nil]; omega), decide_eq_true (by simp only [List.length_append, List.length_cons, List.length_nil]; omega), decide_eq_true (by simp only [List.length_append, List.length_cons, List.length_nil]; omega)]; rfl
  have hk : Px.okAll n a0 a4 a5 xs = true := by
    unfold Px.okAll
    rw [Bool.and_eq_true, Bool.and_eq_true, Bool.and_eq_true, Nat.ble_eq (y := 1000000000), Nat.ble_eq (y := n)]
    exact ⟨by omega, h3, h2, h4⟩
  rw [hk]
  rfl
theorem eq44_1 {n : Nat} {a0 a1 a2 : Int} {a3 : List UInt8} {a4 : List Val} {a5 : List (List UInt8)} (h : Px.okLay (n + 1) (.mk a0 a1 a2 a3 a4 a5) [] = true) :
    (w44_1 n a0 a1 a2 a3 a4 a5).get = some (.tup [], [.wb 80 (.own 0 0 K.u8 (Px.layV (.mk a0 a1 a2 a3 a4 a5)))]) := by
  unfold Px.okLay at h
  rw [Bool.and_eq_true, Bool.and_eq_true, Px.fitV, Bool.and_eq_true, Px.dl, Nat.ble_eq (y := 1000000000), Px.layV, List.nil_append] at h
  obtain ⟨h1, ⟨h2, h3⟩, h4⟩ := h
  have h1 : Px.dls a4 + 1 ≤ n + 1 := Nat.le_of_ble_eq_true h1
  rw [Px.layV]
  unfold w44_1
  simp only [Tree.get_ite, Tree.get_leaf, Px.okAll'_eq, Px.layA'_eq]
  cases q0 : eqI a0 0 <;> rw [q0] at h4 <;> simp only [cond_true, cond_false] at h4 ⊢
  rotate_left
  · rfl
  cases q1 : eqI a0 1 <;> rw [q1] at h4 <;> simp only [cond_true, cond_false] at h4 ⊢
  rotate_left
  · have h5 : (cond (eqI a1 1) ([116, 114, 117, 101] : List UInt8) [102, 97, 108, 115, 101]).length ≤ 1000000000 := h4
    rw [decide_eq_true h5]; rfl
  cases q2 : eqI a0 2 <;> rw [q2] at h4 <;> simp only [cond_true, cond_false] at h4 ⊢
  rotate_left
  · rw [decide_eq_true h4]; rfl
  cases q3 : eqI a0 3 <;> rw [q3] at h4 <;> simp only [cond_true, cond_false] at h4 ⊢
  rotate_left
  · rw [decide_eq_true h4, decide_eq_true (by simp only [List.length_append, List.length_cons, List.length_nil] at h4 ⊢; omega)]; rfl
  cases q4 : eqI a0 4 <;> rw [q4] at h4 <;> simp only [cond_true, cond_false] at h4 ⊢
  rotate_left
  · have hl := Px.hexs_len a3
    have h5 := h4
    simp only [List.length_append, List.length_cons, List.length_nil] at h5
    rw [decide_eq_true h4, decide_eq_true (by omega), decide_eq_true (by simp only [List.length_append, List.length_cons, List.length_nil]; omega), decide_eq_true (by simp only [List.length_append, List.length_cons, List.length_nil]; omega)]; rfl
  cases q7 : eqI a0 7 <;> rw [q7] at h4 <;> simp only [cond_true, cond_false] at h4 ⊢
  rotate_left
  · have h5 := h4
    simp only [List.length_append, List.length_cons, List.length_nil] at h5
    rw [decide_eq_true h4, decide_eq_true (by simp only [List.length_append, List.length_cons, List.length_nil]; omega), decide_eq_true (by simp only [List.length_append, List.length_cons, List.length_nil]; omega), decide_eq_true (by simp only [List.length_append, List.length_cons, List.length_nil]; omega)]; rfl
  have hk : Px.okAll n a0 a4 a5 [] = true := by
    unfold Px.okAll
    rw [Bool.and_eq_true, Bool.and_eq_true, Bool.and_eq_true, Nat.ble_eq (y := 1000000000), Nat.ble_eq (y := n)]
    exact ⟨by omega, h3, h2, h4⟩
  rw [hk]
  rfl
theorem valid44N (hL : Laws E) : ∀ n, Valid E 44 (spec44N n)
  | 0 => Valid.never (fun args os => by
      have key : ∀ v xs, Px.okLay' 0 v xs = false := fun v xs => by rw [Px.okLay'_eq]; rfl
      unfold spec44N
      split
      · rw [Tree.get_ite, key]; rfl
      · rw [Tree.get_ite, key]; rfl
      · rfl)
  | n + 1 => (validraw44 hL n (valid73N hL n (valid44N hL n))).less (fun args os x u1 u2 h => by
      clear u1 u2
      unfold spec44N at h
      split at h
      · rename_i a0 a1 a2 a3 a4 a5 xs
        rcases Tree.get_ite_some h with ⟨h1, h'⟩ | ⟨_, h'⟩
        · rw [Px.okLay'_eq] at h1
          rw [Px.layV'_eq] at h'
          exact (eq44 h1).trans h'
        · cases h'
      · rename_i a0 a1 a2 a3 a4 a5
        rcases Tree.get_ite_some h with ⟨h1, h'⟩ | ⟨_, h'⟩
        · rw [Px.okLay'_eq] at h1
          rw [Px.layV'_eq] at h'
          exact (eq44_1 h1).trans h'
        · cases h'
      · cases h)
noncomputable def spec44 : Spec E := fun args os => match args, os with
  | [.agg [.int .u8 a0, .int .i64 a1, .int .i64 a2, .str a3, .sl .val a4, .sl .str a5], .lf (.ptr 0 0 0)], [.wb 80 .nil] =>
    .ite (Px.okLay' 1000000 (.mk a0 a1 a2 a3 a4 a5) []) (.leaf (.tup [], [.wb 80 (.own 0 0 K.u8 (Px.layV' (.mk a0 a1 a2 a3 a4 a5)))])) .fail
  | _, _ => .fail
theorem valid44 (hL : Laws E) : Valid E 44 spec44 := (valid44N hL 1000000).less (fun args os x u1 u2 h => by
  clear u1 u2
  unfold spec44 at h
  split at h
  · exact h
  · cases h)
end Go.Vx

namespace Go.Vx
open Go
noncomputable def G27 : FuncId → Option (Spec E)
  | 19 => some spec19
  | 44 => some spec44
  | 45 => some spec45
  | _ => none
theorem hG27 (hL : Laws E) : ∀ f spec, G27 f = some spec → Valid E f spec := by
  intro f spec h
  unfold G27 at h
  split at h
  · injection h with h; subst h; exact valid19 hL
  · injection h with h; subst h; exact valid44 hL
  · injection h with h; subst h; exact valid45 hL
  · cases h
noncomputable def w27 (a0Kind : Int) (a0Num : Int) (a0Gen : Int) (a0Text : List UInt8) (a0List : List Val) (a0Keys : List (List UInt8)) : Tree (RV E.A × List (Obj E.A)) :=
 .ite (!Px.okV (0 : Int) (Val.mk a0Kind a0Num a0Gen a0Text a0List a0Keys))
 (.leaf (.lf (.sl .u8 []), []))
 (.ite (Px.okLay' (1000000 : Nat) (Val.mk a0Kind a0Num a0Gen a0Text a0List a0Keys) [])
  (.leaf (.lf (.sl .u8 (Px.layV' (Val.mk a0Kind a0Num a0Gen a0Text a0List a0Keys))), []))
  (.fail))
theorem e27 (a0Kind : Int) (a0Num : Int) (a0Gen : Int) (a0Text : List UInt8) (a0List : List Val) (a0Keys : List (List UInt8)) : execFun E G27 (fun _ _ => .fail) false Go.Proofs.Tryz.f27 [.agg [.int .u8 a0Kind, .int .i64 a0Num, .int .i64 a0Gen, .str a0Text, .sl .val a0List, .sl .str a0Keys]] [] some = (w27 a0Kind a0Num a0Gen a0Text a0List a0Keys).get := by kernel_rfl
noncomputable def spec27 : Spec E := fun args os => match args, os with
  | [.agg [.int .u8 a0Kind, .int .i64 a0Num, .int .i64 a0Gen, .str a0Text, .sl .val a0List, .sl .str a0Keys]], [] => w27 a0Kind a0Num a0Gen a0Text a0List a0Keys
  | _, _ => .fail
theorem valid27 (hL : Laws E) : Valid E 27 spec27 :=
  valid_of_body hL (hG27 hL) (Λ := fun _ _ => .fail) (fn := Go.Proofs.Tryz.f27) (keep := false) (by kernel_rfl) (by kernel_rfl) (by kernel_rfl) (LamOK.none (by kernel_rfl)) (fun args os r os' h => by
    unfold spec27 at h
    split at h
    · exact (e27 _ _ _ _ _ _).trans h
    · cases h)
end Go.Vx
namespace Go.Vx
open Go
end Go.Vx
namespace Px
/-- a number's digits -/
def dec (n : Nat) : List UInt8 := if h : n < 10 then [UInt8.ofNat (48 + n)] else dec (n / 10) ++ [UInt8.ofNat (48 + n % 10)]
termination_by n
decreasing_by omega
end Px
namespace Go.Vx
open Go
noncomputable def spec29N (n : Nat) : Spec E := fun args os => match args, os with
  | [.lf (.int .u64 a0)], [] => .ite (leI 0 a0 && ltI a0 n && ltI a0 18446744073709551616) (.leaf (.lf (.str (Px.dec a0.toNat)), [])) .fail
  | _, _ => .fail
noncomputable def G29 (n : Nat) : FuncId → Option (Spec E)
  | 29 => some (spec29N n)
  | _ => none
theorem hG29 (hL : Laws E) (n : Nat) (hN : Valid E 29 (spec29N n)) : ∀ f spec, (G29 n) f = some spec → Valid E f spec := by
  intro f spec h
  unfold G29 at h
  split at h
  · injection h with h; subst h; exact hN
  · cases h
noncomputable def w29 (n : Nat) (a0 : Int) : Tree (RV E.A × List (Obj E.A)) :=
 .ite (ltI a0 (10 : Int))
 (.ite (leI (0 : Int) a0 && leI a0 (IntKind.u64.wrap (a0 + (1 : Int))) && leI (IntKind.u64.wrap (a0 + (1 : Int))) (↑[(48 : UInt8), (49 : UInt8), (50 : UInt8), (51 : UInt8), (52 : UInt8), (53 : UInt8), (54 : UInt8), (55 : UInt8), (56 : UInt8), (57 : UInt8)].length : Int))
  (.leaf (.lf (.str (List.drop a0.toNat (List.take (IntKind.u64.wrap (a0 + (1 : Int))).toNat [(48 : UInt8), (49 : UInt8), (50 : UInt8), (51 : UInt8), (52 : UInt8), (53 : UInt8), (54 : UInt8), (55 : UInt8), (56 : UInt8), (57 : UInt8)]))), []))
  (.fail))
 (.ite (leI (0 : Int) (IntKind.u64.wrap (a0.tdiv (10 : Int))) && ltI (IntKind.u64.wrap (a0.tdiv (10 : Int))) (↑n : Int) && ltI (IntKind.u64.wrap (a0.tdiv (10 : Int))) (18446744073709551616 : Int))
  (.ite (leI (0 : Int) (a0.tmod (10 : Int)) && ltI (a0.tmod (10 : Int)) (↑n : Int) && ltI (a0.tmod (10 : Int)) (18446744073709551616 : Int))
   (.ite (decide ((Px.dec (IntKind.u64.wrap (a0.tdiv (10 : Int))).toNat).length + (Px.dec (a0.tmod (10 : Int)).toNat).length ≤ (2 : Nat) ^ (60 : Nat)))
    (.leaf (.lf (.str (Px.dec (IntKind.u64.wrap (a0.tdiv (10 : Int))).toNat ++ Px.dec (a0.tmod (10 : Int)).toNat)), []))
    (.fail))
   (.fail))
  (.fail))
theorem e29 (n : Nat) (a0 : Int) : execFun E (G29 n) (fun _ _ => .fail) false Go.Proofs.Tryz.f29 [.lf (.int .u64 a0)] [] some = (w29 n a0).get := by kernel_rfl
noncomputable def raw29 (n : Nat) : Spec E := fun args os => match args, os with
  | [.lf (.int .u64 a0)], [] => w29 n a0
  | _, _ => .fail
theorem validraw29 (hL : Laws E) (n : Nat) (hN : Valid E 29 (spec29N n)) : Valid E 29 (raw29 n) :=
  valid_of_body hL (hG29 hL n hN) (Λ := fun _ _ => .fail) (fn := Go.Proofs.Tryz.f29) (keep := false) (by kernel_rfl) (by kernel_rfl) (by kernel_rfl) (LamOK.none (by kernel_rfl)) (fun args os r os' h => by
    unfold raw29 at h
    split at h
    · exact (e29 _ _).trans h
    · cases h)
theorem dec_len : ∀ (k m : Nat), m < 10 ^ (k + 1) → (Px.dec m).length ≤ k + 1
  | 0, m, h => by
    unfold Px.dec
    rw [dif_pos (by simpa using h)]; simp
  | k + 1, m, h => by
    unfold Px.dec
    split
    · simp
    · have := dec_len k (m / 10) (by rw [Nat.pow_succ] at h; omega)
      simp; omega
theorem digit (a : Nat) (h : a < 10) : List.drop a (List.take (a + 1) [(48 : UInt8), 49, 50, 51, 52, 53, 54, 55, 56, 57]) = [UInt8.ofNat (48 + a)] := by
  match a, h with
  | 0, _ => rfl
  | 1, _ => rfl
  | 2, _ => rfl
  | 3, _ => rfl
  | 4, _ => rfl
  | 5, _ => rfl
  | 6, _ => rfl
  | 7, _ => rfl
  | 8, _ => rfl
  | 9, _ => rfl
theorem eq29 (n a : Nat) (h : a < n + 1) (hb : a < 18446744073709551616) : (w29 n (a : Int)).get = some (.lf (.str (Px.dec a)), []) := by
  unfold w29
  simp only [Tree.get_ite, Tree.get_leaf, leI_eq, ltI_eq]
  by_cases h10 : a < 10
  · have e1 : IntKind.u64.wrap ((a : Int) + 1) = ((a + 1 : Nat) : Int) := by rw [wu64] <;> omega
    have c1 : decide ((a : Int) < 10) = true := decide_eq_true (by omega)
    rw [c1, e1]
    have c2 : (decide ((0 : Int) ≤ (a : Int)) && decide ((a : Int) ≤ ((a + 1 : Nat) : Int)) && decide (((a + 1 : Nat) : Int) ≤ (([(48 : UInt8), 49, 50, 51, 52, 53, 54, 55, 56, 57].length : Nat) : Int))) = true := by
      simp; omega
    rw [c2]
    show some _ = _
    rw [Int.toNat_natCast, Int.toNat_natCast, digit a h10]
    unfold Px.dec
    rw [dif_pos h10]
  · have c1 : decide ((a : Int) < 10) = false := decide_eq_false (by omega)
    have e1 : IntKind.u64.wrap ((a : Int).tdiv 10) = ((a / 10 : Nat) : Int) := by
      rw [show (a : Int).tdiv 10 = ((a / 10 : Nat) : Int) from rfl, wu64] <;> omega
    have e2 : (a : Int).tmod 10 = ((a % 10 : Nat) : Int) := rfl
    rw [c1, e1, e2]
    have c2 : (decide ((0 : Int) ≤ ((a / 10 : Nat) : Int)) && decide (((a / 10 : Nat) : Int) < (n : Int)) && decide (((a / 10 : Nat) : Int) < 18446744073709551616)) = true := by simp only [Bool.and_eq_true, decide_eq_true_eq]; omega
    have c3 : (decide ((0 : Int) ≤ ((a % 10 : Nat) : Int)) && decide (((a % 10 : Nat) : Int) < (n : Int)) && decide (((a % 10 : Nat) : Int) < 18446744073709551616)) = true := by simp only [Bool.and_eq_true, decide_eq_true_eq]; omega
    rw [c2, c3]
    simp only [Int.toNat_natCast]
    have l1 := dec_len 19 (a / 10) (by omega)
    have l2 := dec_len 0 (a % 10) (by omega)
    have c4 : decide ((Px.dec (a / 10)).length + (Px.dec (a % 10)).length ≤ 2 ^ 60) = true := decide_eq_true (by omega)
    simp only [cond_false, cond_true]
    rw [c4]
    show some _ = _
    have e3 : Px.dec a = Px.dec (a / 10) ++ Px.dec (a % 10) := by
      have h5 : Px.dec (a % 10) = [UInt8.ofNat (48 + a % 10)] := by rw [Px.dec.eq_1, dif_pos (by omega)]
      rw [h5, Px.dec.eq_1 a, dif_neg h10]
    rw [e3]
noncomputable def spec29 : Spec E := fun args os => match args, os with
  | [.lf (.int .u64 a0)], [] => .ite (leI 0 a0 && ltI a0 18446744073709551616) (.leaf (.lf (.str (Px.dec a0.toNat)), [])) .fail
  | _, _ => .fail
theorem valid29N (hL : Laws E) : ∀ n, Valid E 29 (spec29N n)
  | 0 => Valid.never (fun args os => by
      unfold spec29N
      split
      · rename_i a0
        have e : (leI 0 a0 && ltI a0 ((0 : Nat) : Int) && ltI a0 18446744073709551616) = false := by
          rw [Bool.eq_false_iff]; simp only [leI_eq, ltI_eq, ne_eq, Bool.and_eq_true, decide_eq_true_eq]; omega
        rw [Tree.get_ite, e]; rfl
      · rfl)
  | n + 1 => (validraw29 hL n (valid29N hL n)).less (fun args os x g1 g2 h => by
      unfold spec29N at h
      split at h
      · rename_i a0
        rcases Tree.get_ite_some h with ⟨h1, h⟩ | ⟨_, h⟩
        · simp only [leI_eq, ltI_eq, Bool.and_eq_true, decide_eq_true_eq] at h1
          obtain ⟨⟨h2, h3⟩, h4⟩ := h1
          obtain ⟨a, rfl⟩ : ∃ a : Nat, a0 = (a : Int) := ⟨a0.toNat, by omega⟩
          rw [Int.toNat_natCast] at h
          exact (eq29 n a (by omega) (by omega)).trans h
        · cases h
      · cases h)
theorem valid29 (hL : Laws E) : Valid E 29 spec29 := Valid.forN (valid29N hL) (fun args os x h => by
  unfold spec29 at h
  split at h
  · rename_i a0
    rcases Tree.get_ite_some h with ⟨h1, h⟩ | ⟨_, h⟩
    · simp only [leI_eq, ltI_eq, Bool.and_eq_true, decide_eq_true_eq] at h1
      have h2 := h1
      refine ⟨a0.toNat + 1, ?_⟩
      show (Tree.ite _ _ _).get = _
      have e : (leI 0 a0 && ltI a0 ((a0.toNat + 1 : Nat) : Int) && ltI a0 18446744073709551616) = true := by
        simp only [leI_eq, ltI_eq, Bool.and_eq_true, decide_eq_true_eq]; omega
      rw [Tree.get_ite, e]
      exact h
    · cases h
  · cases h)
end Go.Vx
namespace Go.Vx
open Go
noncomputable def G28 : FuncId → Option (Spec E)
  | 29 => some spec29
  | _ => none
theorem hG28 (hL : Laws E) : ∀ f spec, G28 f = some spec → Valid E f spec := by
  intro f spec h
  unfold G28 at h
  split at h
  · injection h with h; subst h; exact valid29 hL
  · cases h
noncomputable def w28 (a0 : Int) : Tree (RV E.A × List (Obj E.A)) :=
 .ite (ltI a0 (0 : Int))
 (.ite (leI (0 : Int) (IntKind.u64.wrap (IntKind.u64.wrap (IntKind.i64.wrap ((0 : Int) - IntKind.i64.wrap (a0 + (1 : Int)))) + (1 : Int))) && ltI (IntKind.u64.wrap (IntKind.u64.wrap (IntKind.i64.wrap ((0 : Int) - IntKind.i64.wrap (a0 + (1 : Int)))) + (1 : Int))) (18446744073709551616 : Int))
  (.ite (decide ([(45 : UInt8)].length + (Px.dec (IntKind.u64.wrap (IntKind.u64.wrap (IntKind.i64.wrap ((0 : Int) - IntKind.i64.wrap (a0 + (1 : Int)))) + (1 : Int))).toNat).length ≤ (2 : Nat) ^ (60 : Nat)))
   (.leaf (.lf (.str ([(45 : UInt8)] ++ Px.dec (IntKind.u64.wrap (IntKind.u64.wrap (IntKind.i64.wrap ((0 : Int) - IntKind.i64.wrap (a0 + (1 : Int)))) + (1 : Int))).toNat)), []))
   (.fail))
  (.fail))
 (.ite (leI (0 : Int) (IntKind.u64.wrap a0) && ltI (IntKind.u64.wrap a0) (18446744073709551616 : Int))
  (.leaf (.lf (.str (Px.dec (IntKind.u64.wrap a0).toNat)), []))
  (.fail))
theorem e28 (a0 : Int) : execFun E G28 (fun _ _ => .fail) false Go.Proofs.Tryz.f28 [.lf (.int .i64 a0)] [] some = (w28 a0).get := by kernel_rfl
noncomputable def raw28 : Spec E := fun args os => match args, os with
  | [.lf (.int .i64 a0)], [] => w28 a0
  | _, _ => .fail
theorem validraw28 (hL : Laws E) : Valid E 28 raw28 :=
  valid_of_body hL (hG28 hL) (Λ := fun _ _ => .fail) (fn := Go.Proofs.Tryz.f28) (keep := false) (by kernel_rfl) (by kernel_rfl) (by kernel_rfl) (LamOK.none (by kernel_rfl)) (fun args os r os' h => by
    unfold raw28 at h
    split at h
    · exact (e28 _).trans h
    · cases h)
theorem dec_digits : ∀ n : Nat, Px.dec n = Lib.decDigits n := by
  intro n
  induction n using Nat.strongRecOn with
  | ind n ih =>
    rw [Px.dec, Lib.decDigits]
    split
    · rfl
    · rw [ih (n / 10) (by omega)]
theorem eq28 {a : Int} (h : inRb .i64 a = true) : (w28 a).get = some (.lf (.str (Lib.itoa a)), []) := by
  have hr : -9223372036854775808 ≤ a ∧ a ≤ 9223372036854775807 := by rw [inRb_iff] at h; exact h
  obtain ⟨h1, h2⟩ := hr
  unfold w28
  simp only [Tree.get_ite, Tree.get_leaf]
  by_cases hn : a < 0
  · have e0 : ltI a 0 = true := by rw [ltI_eq]; exact decide_eq_true hn
    have e1 : IntKind.i64.wrap (a + 1) = a + 1 := wi64 _ (by omega) (by omega)
    have e2 : IntKind.i64.wrap (0 - (a + 1)) = 0 - (a + 1) := wi64 _ (by omega) (by omega)
    have e3 : IntKind.u64.wrap (0 - (a + 1)) = 0 - (a + 1) := by rw [wu64] <;> omega
    have e4 : IntKind.u64.wrap (0 - (a + 1) + 1) = -a := by rw [wu64] <;> omega
    have e5 : (leI 0 (-a) && ltI (-a) 18446744073709551616) = true := by rw [leI_eq, ltI_eq, Bool.and_eq_true, decide_eq_true_eq, decide_eq_true_eq]; omega
    have e6 : (-a).toNat = a.natAbs := by omega
    have hl := dec_len 19 a.natAbs (by omega)
    rw [e0, e1, e2, e3, e4, e5, e6, decide_eq_true (show ([(45 : UInt8)].length + (Px.dec a.natAbs).length ≤ 2 ^ 60) by simp only [List.length_cons, List.length_nil]; omega), dec_digits]
    unfold Lib.itoa
    rw [if_pos hn]
    rfl
  · have e0 : ltI a 0 = false := by rw [ltI_eq]; exact decide_eq_false hn
    have e1 : IntKind.u64.wrap a = a := by rw [wu64] <;> omega
    have e5 : (leI 0 a && ltI a 18446744073709551616) = true := by rw [leI_eq, ltI_eq, Bool.and_eq_true, decide_eq_true_eq, decide_eq_true_eq]; omega
    rw [e0, e1, e5]
    simp only [cond_false, cond_true]
    rw [dec_digits]
    unfold Lib.itoa
    rw [if_neg hn]
noncomputable def spec28 : Spec E := fun args os => match args, os with
  | [.lf (.int .i64 a0)], [] => .leaf (.lf (.str (Lib.itoa a0)), [])
  | _, _ => .fail
theorem valid28 (hL : Laws E) : Valid E 28 spec28 := (validraw28 hL).lessI (fun args os x hi h => by
  unfold spec28 at h
  split at h
  · rename_i a
    have hr : inRb .i64 a = true := by
      rw [List.all_cons, Bool.and_eq_true] at hi
      exact hi.1
    exact (eq28 hr).trans h
  · cases h)
end Go.Vx
namespace Go.Vx
open Go
noncomputable def G6 : FuncId → Option (Spec E)
  | 10 => some spec10
  | 14 => some spec14
  | 24 => some spec24
  | 27 => some spec27
  | 28 => some spec28
  | 29 => some spec29
  | _ => none
theorem hG6 (hL : Laws E) : ∀ f spec, G6 f = some spec → Valid E f spec := by
  intro f spec h
  unfold G6 at h
  split at h
  · injection h with h; subst h; exact valid10 hL
  · injection h with h; subst h; exact valid14 hL
  · injection h with h; subst h; exact valid24 hL
  · injection h with h; subst h; exact valid27 hL
  · injection h with h; subst h; exact valid28 hL
  · injection h with h; subst h; exact valid29 hL
  · cases h
def L6_0 : Ex → Live
  | .normal => ⟨[0, 2, 8, 12, 57, 58], []⟩
  | .exit 0 => ⟨[0, 2, 8, 12], []⟩
  | .ret => ⟨[6], []⟩
  | _ => ⟨[], []⟩
noncomputable def S6_0 (p0 : Int) (p2 : Int) (p12 : List UInt8) (p57 : Int) (x : (List UInt8) × Int) : St E.A := at' E 99 [(0, .lf (.int .i64 p0)), (2, .lf (.int .u8 p2)), (8, .lf (.str x.1)), (12, .lf (.str p12)), (57, .lf (.int .u8 p57)), (58, .lf (.int .u8 x.2))] []
noncomputable def t6_0 (p0 : Int) (p2 : Int) (p12 : List UInt8) (p57 : Int) (x : (List UInt8) × Int) : Tree ((List UInt8) × Int ⊕ Out' E) :=
 .ite (ltI x.snd p57)
 (.ite (decide ([(48 : UInt8)].length + x.fst.length ≤ (2 : Nat) ^ (60 : Nat)))
  (.leaf (.inl (([(48 : UInt8)] ++ x.fst), (IntKind.u8.wrap (x.snd + (1 : Int))))))
  (.fail))
 (.leaf (.inr (.exit 0, at' E 99 [(0, .lf (.int .i64 p0)), (2, .lf (.int .u8 p2)), (8, .lf (.str x.fst)), (12, .lf (.str p12))] [])))
theorem h6_0 (p0 : Int) (p2 : Int) (p12 : List UInt8) (p57 : Int) (x : (List UInt8) × Int) (k : Ex → St E.A → Option Unit) :
    exec E G6 (fun _ _ => .fail) 1 (lb Go.Proofs.Tryz.f6 0) (S6_0 p0 p2 p12 p57 x) (fun e σ1 => k e (clean E (L6_0 e) σ1)) = (t6_0 p0 p2 p12 p57 x).run (Sum.elim (fun x' => k .normal (S6_0 p0 p2 p12 p57 x')) (fun o => k o.1 o.2)) := by kernel_rfl
noncomputable def lam6_0 (p0 : Int) (p2 : Int) (p12 : List UInt8) (p57 : Int) (x : (List UInt8) × Int) : Tree (Out' E) :=
  .ite (leI 0 x.2 && leI x.2 p57 && leI p57 100 && decide (x.1.length ≤ 1000000))
   (.leaf (.exit 0, at' E 99 [(0, .lf (.int .i64 p0)), (2, .lf (.int .u8 p2)), (8, .lf (.str (List.replicate (p57 - x.2).toNat 48 ++ x.1))), (12, .lf (.str p12))] [])) .fail
theorem k6_0 {p0 p2 : Int} {p12 : List UInt8} : ∀ (m : Nat) (i : Int) (s : List UInt8), 0 ≤ i → i + m ≤ 100 → s.length + m ≤ 2000000 →
    iter (t6_0 p0 p2 p12 (i + m)) (m + 1) (s, i) = some (Ex.exit 0, at' E 99 [(0, .lf (.int .i64 p0)), (2, .lf (.int .u8 p2)), (8, .lf (.str (List.replicate m 48 ++ s))), (12, .lf (.str p12))] [])
  | 0, i, s, _, _, _ => by
    have e1 : ltI i (i + ((0 : Nat) : Int)) = false := by rw [ltI_eq]; exact decide_eq_false (by omega)
    have hs : (t6_0 p0 p2 p12 (i + ((0 : Nat) : Int)) (s, i)).get = some (.inr (Ex.exit 0, at' E 99 [(0, .lf (.int .i64 p0)), (2, .lf (.int .u8 p2)), (8, .lf (.str s)), (12, .lf (.str p12))] [])) := by
      unfold t6_0
      simp only [Tree.get_ite, Tree.get_leaf, e1, cond_false]
    rw [iter, hs]
    rfl
  | m + 1, i, s, h0, h1, h2 => by
    have e1 : ltI i (i + ((m + 1 : Nat) : Int)) = true := by rw [ltI_eq]; exact decide_eq_true (by omega)
    have e3 : IntKind.u8.wrap (i + 1) = i + 1 := by rw [wu8] <;> omega
    have hs : (t6_0 p0 p2 p12 (i + ((m + 1 : Nat) : Int)) (s, i)).get = some (.inl ([48] ++ s, i + 1)) := by
      unfold t6_0
      simp only [Tree.get_ite, Tree.get_leaf, e1, e3, cond_true]
      rw [decide_eq_true (by simp only [List.length_cons, List.length_nil]; omega)]
      rfl
    rw [iter, hs]
    have ih := k6_0 (p0 := p0) (p2 := p2) (p12 := p12) m (i + 1) ([48] ++ s) (by omega) (by omega) (by simp only [List.length_append, List.length_cons, List.length_nil]; omega)
    have e4 : i + 1 + (m : Int) = i + ((m + 1 : Nat) : Int) := by omega
    rw [e4] at ih
    refine Eq.trans ih ?_
    rw [← List.append_assoc, ← List.replicate_succ']
theorem m6_0 {p0 p2 : Int} {p12 : List UInt8} {p57 : Int} {x : (List UInt8) × Int} {e : Ex} {σ : St E.A} (_ : okLenR (E := E) (.lf (.str x.1)) = true) (_ : okLenR (E := E) (.lf (.str p12)) = true)
    (h : (lam6_0 p0 p2 p12 p57 x).get = some (e, σ)) : ∃ fuel, iter (t6_0 p0 p2 p12 p57) fuel x = some (e, σ) ∧ e ≠ .normal := by
  obtain ⟨s, i⟩ := x
  unfold lam6_0 at h
  rcases Tree.get_ite_some h with ⟨h1, h'⟩ | ⟨_, h'⟩
  · simp only [leI_eq, Bool.and_eq_true, decide_eq_true_eq] at h1
    obtain ⟨⟨⟨h2, h3⟩, h4⟩, h5⟩ := h1
    obtain ⟨m, rfl⟩ : ∃ m : Nat, p57 = i + (m : Int) := ⟨(p57 - i).toNat, by omega⟩
    simp only at h' h2 h3 h4 h5
    have e1 : (i + (m : Int) - i).toNat = m := by omega
    rw [e1] at h'
    refine ⟨_, (k6_0 m i s h2 h4 (by omega)).trans h', ?_⟩
    · injection h' with h'; injection h' with h6 _; rw [← h6]; intro hh; cases hh
  · cases h'
noncomputable def rd6_0 (σ : St E.A) : Tree (Out' E) :=
  let c := clean E (L6_0 .normal) σ
  if c.sl.length = 99 then
  match c.sl.getD 0 .undef, c.sl.getD 2 .undef, c.sl.getD 8 .undef, c.sl.getD 12 .undef, c.sl.getD 57 .undef, c.sl.getD 58 .undef with
  | .lf (.int .i64 p0), .lf (.int .u8 p2), .lf (.str x8), .lf (.str p12), .lf (.int .u8 p57), .lf (.int .u8 x58) => lam6_0 p0 p2 p12 p57 (x8, x58)
  | _, _, _, _, _, _ => .fail
  else .fail
theorem ll6_0 (hL : Laws E) (σ : St E.A) (e : Ex) (σ' : St E.A) (h : (rd6_0 σ).get = some (e, σ')) : LoopOK E (lb Go.Proofs.Tryz.f6 0) σ e σ' := by
  refine LoopOK.of_clean hL (L6_0 .normal) ?_
  unfold rd6_0 at h
  simp only at h
  split at h
  · rename_i hlen
    split at h
    · rename_i p0 p2 x8 p12 p57 x58 h0 h1 h2 h3 h4 h5
      refine LoopOK.lens 8 (fun g0 => ?_)
      rw [h2] at g0
      refine LoopOK.lens 12 (fun g1 => ?_)
      rw [h3] at g1
      obtain ⟨fuel, hi, ho⟩ := m6_0 g0 g1 h
      have hl := loop_at (Γ := G6) (Λ := fun _ _ => .fail) (n := 1) (body := lb Go.Proofs.Tryz.f6 0) hL (hG6 hL) (S := S6_0 p0 p2 p12 p57) (t := t6_0 p0 p2 p12 p57) (Lv := L6_0) (LamOK.none (by kernel_rfl)) (h6_0 p0 p2 p12 p57) hi ho
      refine LoopOK.fit hlen ?_ ?_ rfl rfl hl
      · exact ⟨h0, h1, h2, h3, h4, h5, trivial⟩
      · exact trivial
    · cases h
  · cases h
noncomputable def Lam6 : Lam E
  | 0, σ => rd6_0 σ
  | _, _ => .fail
noncomputable def w6 (a0 : Int) (a1 : Int) (a2 : Int) : Tree (RV E.A × List (Obj E.A)) :=
 .ite (Px.okLay' (1000000 : Nat) (Val.mk (2 : Int) a0 (0 : Int) [] [] []) [])
 (.ite (Px.okAt (Px.layV' (Val.mk (2 : Int) a0 (0 : Int) [] [] [])) (0 : Int))
  (.ite (!decide (Px.layV' (Val.mk (2 : Int) a0 (0 : Int) [] [] []) = Go.Lib.itoa a0))
   (.leaf (.lf (.bool false), []))
   (.ite (!eqI (Px.oParse (Px.layV' (Val.mk (2 : Int) a0 (0 : Int) [] [] []))).snd.snd (0 : Int))
    (.leaf (.lf (.bool false), []))
    (.ite (!eqI (Px.oParse (Px.layV' (Val.mk (2 : Int) a0 (0 : Int) [] [] []))).snd.fst (↑(Px.layV' (Val.mk (2 : Int) a0 (0 : Int) [] [] [])).length : Int))
     (.leaf (.lf (.bool false), []))
     (.ite (!eqI (Px.vn (Px.oParse (Px.layV' (Val.mk (2 : Int) a0 (0 : Int) [] [] []))).fst) a0)
      (.leaf (.lf (.bool false), []))
      (.ite (ltI a0 (0 : Int))
       (.ite (leI (0 : Int) (1 : Int) && leI (1 : Int) (↑(Go.Lib.itoa a0).length : Int) && leI (↑(Go.Lib.itoa a0).length : Int) (↑(Go.Lib.itoa a0).length : Int))
        (.ite (leI (0 : Int) (0 : Int) && leI (0 : Int) (a1.tmod (9 : Int)) && leI (a1.tmod (9 : Int)) (100 : Int) && decide ((List.drop (Int.toNat (1 : Int)) (List.take (↑(Go.Lib.itoa a0).length : Int).toNat (Go.Lib.itoa a0))).length ≤ (1000000 : Nat)))
         (.ite (decide ([(45 : UInt8)].length + (List.replicate (a1.tmod (9 : Int) - (0 : Int)).toNat (48 : UInt8) ++ List.drop (Int.toNat (1 : Int)) (List.take (↑(Go.Lib.itoa a0).length : Int).toNat (Go.Lib.itoa a0))).length ≤ (2 : Nat) ^ (60 : Nat)))
          (.ite (Px.okAt ([(45 : UInt8)] ++ (List.replicate (a1.tmod (9 : Int) - (0 : Int)).toNat (48 : UInt8) ++ List.drop (Int.toNat (1 : Int)) (List.take (↑(Go.Lib.itoa a0).length : Int).toNat (Go.Lib.itoa a0)))) (0 : Int))
           (.ite (leI (0 : Int) (IntKind.u64.wrap a2) && ltI (IntKind.u64.wrap a2) (18446744073709551616 : Int))
            (.ite (decide ([(57 : UInt8), (50 : UInt8), (50 : UInt8), (51 : UInt8), (51 : UInt8), (55 : UInt8), (50 : UInt8), (48 : UInt8), (51 : UInt8), (54 : UInt8), (56 : UInt8), (53 : UInt8), (52 : UInt8), (55 : UInt8), (55 : UInt8), (53 : UInt8), (56 : UInt8), (48 : UInt8), (56 : UInt8)].length + (Px.dec (IntKind.u64.wrap a2).toNat).length ≤ (2 : Nat) ^ (60 : Nat)))
             (.ite (Px.okAt ([(57 : UInt8), (50 : UInt8), (50 : UInt8), (51 : UInt8), (51 : UInt8), (55 : UInt8), (50 : UInt8), (48 : UInt8), (51 : UInt8), (54 : UInt8), (56 : UInt8), (53 : UInt8), (52 : UInt8), (55 : UInt8), (55 : UInt8), (53 : UInt8), (56 : UInt8), (48 : UInt8), (56 : UInt8)] ++ Px.dec (IntKind.u64.wrap a2).toNat) (0 : Int))
              (.ite (eqI (Px.oParse ([(45 : UInt8)] ++ (List.replicate (a1.tmod (9 : Int) - (0 : Int)).toNat (48 : UInt8) ++ List.drop (Int.toNat (1 : Int)) (List.take (↑(Go.Lib.itoa a0).length : Int).toNat (Go.Lib.itoa a0))))).snd.snd (0 : Int))
               (.ite (eqI (Px.vn (Px.oParse ([(45 : UInt8)] ++ (List.replicate (a1.tmod (9 : Int) - (0 : Int)).toNat (48 : UInt8) ++ List.drop (Int.toNat (1 : Int)) (List.take (↑(Go.Lib.itoa a0).length : Int).toNat (Go.Lib.itoa a0))))).fst) a0)
                (.ite (eqI (Px.vk (Px.oParse ([(45 : UInt8)] ++ (List.replicate (a1.tmod (9 : Int) - (0 : Int)).toNat (48 : UInt8) ++ List.drop (Int.toNat (1 : Int)) (List.take (↑(Go.Lib.itoa a0).length : Int).toNat (Go.Lib.itoa a0))))).fst) (2 : Int))
                 (.leaf (.lf (.bool (eqI (Px.oParse ([(57 : UInt8), (50 : UInt8), (50 : UInt8), (51 : UInt8), (51 : UInt8), (55 : UInt8), (50 : UInt8), (48 : UInt8), (51 : UInt8), (54 : UInt8), (56 : UInt8), (53 : UInt8), (52 : UInt8), (55 : UInt8), (55 : UInt8), (53 : UInt8), (56 : UInt8), (48 : UInt8), (56 : UInt8)] ++ Px.dec (IntKind.u64.wrap a2).toNat)).snd.snd (2 : Int))), []))
                 (.leaf (.lf (.bool false), [])))
                (.leaf (.lf (.bool false), [])))
               (.leaf (.lf (.bool false), [])))
              (.fail))
             (.fail))
            (.fail))
           (.fail))
          (.fail))
         (.fail))
        (.fail))
       (.ite (leI (0 : Int) (0 : Int) && leI (0 : Int) (a1.tmod (9 : Int)) && leI (a1.tmod (9 : Int)) (100 : Int) && decide ((Go.Lib.itoa a0).length ≤ (1000000 : Nat)))
        (.ite (decide ([(43 : UInt8)].length + (List.replicate (a1.tmod (9 : Int) - (0 : Int)).toNat (48 : UInt8) ++ Go.Lib.itoa a0).length ≤ (2 : Nat) ^ (60 : Nat)))
         (.ite (Px.okAt ([(43 : UInt8)] ++ (List.replicate (a1.tmod (9 : Int) - (0 : Int)).toNat (48 : UInt8) ++ Go.Lib.itoa a0)) (0 : Int))
          (.ite (leI (0 : Int) (IntKind.u64.wrap a2) && ltI (IntKind.u64.wrap a2) (18446744073709551616 : Int))
           (.ite (decide ([(57 : UInt8), (50 : UInt8), (50 : UInt8), (51 : UInt8), (51 : UInt8), (55 : UInt8), (50 : UInt8), (48 : UInt8), (51 : UInt8), (54 : UInt8), (56 : UInt8), (53 : UInt8), (52 : UInt8), (55 : UInt8), (55 : UInt8), (53 : UInt8), (56 : UInt8), (48 : UInt8), (56 : UInt8)].length + (Px.dec (IntKind.u64.wrap a2).toNat).length ≤ (2 : Nat) ^ (60 : Nat)))
            (.ite (Px.okAt ([(57 : UInt8), (50 : UInt8), (50 : UInt8), (51 : UInt8), (51 : UInt8), (55 : UInt8), (50 : UInt8), (48 : UInt8), (51 : UInt8), (54 : UInt8), (56 : UInt8), (53 : UInt8), (52 : UInt8), (55 : UInt8), (55 : UInt8), (53 : UInt8), (56 : UInt8), (48 : UInt8), (56 : UInt8)] ++ Px.dec (IntKind.u64.wrap a2).toNat) (0 : Int))
             (.ite (eqI (Px.oParse ([(43 : UInt8)] ++ (List.replicate (a1.tmod (9 : Int) - (0 : Int)).toNat (48 : UInt8) ++ Go.Lib.itoa a0))).snd.snd (0 : Int))
              (.ite (eqI (Px.vn (Px.oParse ([(43 : UInt8)] ++ (List.replicate (a1.tmod (9 : Int) - (0 : Int)).toNat (48 : UInt8) ++ Go.Lib.itoa a0))).fst) a0)
               (.ite (eqI (Px.vk (Px.oParse ([(43 : UInt8)] ++ (List.replicate (a1.tmod (9 : Int) - (0 : Int)).toNat (48 : UInt8) ++ Go.Lib.itoa a0))).fst) (2 : Int))
                (.leaf (.lf (.bool (eqI (Px.oParse ([(57 : UInt8), (50 : UInt8), (50 : UInt8), (51 : UInt8), (51 : UInt8), (55 : UInt8), (50 : UInt8), (48 : UInt8), (51 : UInt8), (54 : UInt8), (56 : UInt8), (53 : UInt8), (52 : UInt8), (55 : UInt8), (55 : UInt8), (53 : UInt8), (56 : UInt8), (48 : UInt8), (56 : UInt8)] ++ Px.dec (IntKind.u64.wrap a2).toNat)).snd.snd (2 : Int))), []))
                (.leaf (.lf (.bool false), [])))
               (.leaf (.lf (.bool false), [])))
              (.leaf (.lf (.bool false), [])))
             (.fail))
            (.fail))
           (.fail))
          (.fail))
         (.fail))
        (.fail)))))))
  (.fail))
 (.fail)
theorem e6 (a0 : Int) (a1 : Int) (a2 : Int) : execFun E G6 ((Lam6)) false Go.Proofs.Tryz.f6 [.lf (.int .i64 a0), .lf (.int .u8 a1), .lf (.int .u8 a2)] [] some = (w6 a0 a1 a2).get := by kernel_rfl
noncomputable def spec6 : Spec E := fun args os => match args, os with
  | [.lf (.int .i64 a0), .lf (.int .u8 a1), .lf (.int .u8 a2)], [] => w6 a0 a1 a2
  | _, _ => .fail
theorem valid6 (hL : Laws E) : Valid E 6 spec6 :=
  valid_of_body hL (hG6 hL) (Λ := (Lam6)) (fn := Go.Proofs.Tryz.f6) (keep := false) (by kernel_rfl) (by kernel_rfl) (by kernel_rfl) ((LamOK.of (m := 1) (by kernel_rfl) (fun j hj σ e σ' hg => by
      match j, hj with
      | 0, _ => exact ll6_0 hL σ e σ' hg
      ))) (fun args os r os' h => by
    unfold spec6 at h
    split at h
    · exact (e6 _ _ _).trans h
    · cases h)
end Go.Vx
namespace Px
open Go.Vx Go
/-! ### blanks -/
theorem skipN_stop : ∀ (l : List UInt8) (c : Bool), skipN false (l.drop (skipN c l)) = 0
  | [], c => by cases c <;> rfl
  | b :: r, true => by
    rw [skipN, List.drop_succ_cons]
    exact skipN_stop r _
  | b :: r, false => by
    rw [skipN]
    cases q1 : eqI (b.toNat : Int) 37
    · simp only [cond_false]
      cases q2 : blank (b.toNat : Int)
      · simp only [cond_false, List.drop_zero]
        rw [skipN, q1, q2]; rfl
      · simp only [cond_true, List.drop_succ_cons]
        exact skipN_stop r false
    · simp only [cond_true, List.drop_succ_cons]
      exact skipN_stop r true
theorem skipI_eq {p : List UInt8} {i : Int} (h : okAt p i = true) : skipI p i = i + (skipN false (p.drop i.toNat) : Int) := by
  obtain ⟨h0, h1, _⟩ := okAt_iff.1 h
  have e : (ltI i 0 || ltI (p.length : Int) i) = false := by
    rw [Bool.or_eq_false_iff, ltI_eq, ltI_eq]; exact ⟨decide_eq_false (by omega), decide_eq_false (by omega)⟩
  unfold skipI
  rw [e]; rfl
theorem skipI_idem {p : List UInt8} {i : Int} (h : okAt p i = true) : skipI p (skipI p i) = skipI p i := by
  have h1 := ok_skip h
  rw [skipI_eq h1]
  have e : p.drop (skipI p i).toNat = (p.drop i.toNat).drop (skipN false (p.drop i.toNat)) := by
    rw [List.drop_drop, skipI_eq h]
    congr 1
    have := (okAt_iff.1 h).1
    omega
  rw [e, skipN_stop]
  omega
/-! ### bytes at a place -/
theorem pre_byte {p : List UInt8} {s : Int} {c : UInt8} (h0 : 0 ≤ s) (h1 : s < p.length) : preAt p s [c] = eqI (rByte p s) (c.toNat : Int) := by
  obtain ⟨n, rfl⟩ : ∃ j : Nat, s = (j : Int) := ⟨s.toNat, by omega⟩
  have hn : n < p.length := by omega
  unfold preAt hasPre rByte
  rw [Int.toNat_natCast, drop_cons p 0 n hn, u8_eq]
  refine decide_eq_decide.2 ?_
  simp
theorem pre_end {p : List UInt8} {s : Int} {c : UInt8} {r : List UInt8} (h : (p.length : Int) ≤ s) : preAt p s (c :: r) = false := by
  unfold preAt hasPre
  rw [List.drop_eq_nil_of_le (by omega)]
  rfl
theorem word_end {p : List UInt8} {s : Int} (h : (p.length : Int) ≤ s) : wordS p s = [] := by
  unfold wordS
  rw [List.drop_eq_nil_of_le (by omega)]
  rfl
theorem word_stop {p : List UInt8} {s : Int} (h0 : 0 ≤ s) (h1 : s < p.length) (h : stopB (p.getD s.toNat 0) = true) : wordS p s = [] := by
  obtain ⟨n, rfl⟩ : ∃ j : Nat, s = (j : Int) := ⟨s.toNat, by omega⟩
  have hn : n < p.length := by omega
  rw [Int.toNat_natCast] at h
  unfold wordS
  rw [Int.toNat_natCast, drop_cons p 0 n hn, wordN, h]
  rfl
theorem plain_hash {s : List UInt8} (h : plain s = true) : leI 0 (Lib.indexByte s 35) = false := by
  unfold plain at h
  rw [Bool.and_eq_true, Bool.not_eq_true', Bool.not_eq_true'] at h
  have h2 := h.2
  unfold anyBad at h2
  rw [List.any_eq_false] at h2
  have : Lib.indexByte s 35 = -1 := indexByte_none (fun b hb hh => by
    subst hh
    exact h2 35 hb (by decide))
  rw [this]; rfl
theorem oName_eq (p : List UInt8) (i : Int) : (eqI (oName p i).2.1 0 = plain (wordS p i)) ∧ (plain (wordS p i) = true → oName p i = (wordS p i, 0, wordE p i)) := by
  unfold oName
  cases q : plain (wordS p i)
  · refine ⟨?_, fun h => by cases h⟩
    cases leI 0 (Lib.indexByte (wordS p i) 35) <;> rfl
  · rw [plain_hash q]
    exact ⟨rfl, fun _ => rfl⟩
/-! ### generations cut -/
mutual
def clamp : Val → Val | .mk k n g t l ks => .mk k n (min g 100000) t (clamps l) ks
def clamps : List Val → List Val | [] => [] | v :: r => clamp v :: clamps r
end
theorem clamps_app : ∀ (l : List Val) (v : Val), clamps (l ++ [v]) = clamps l ++ [clamp v]
  | [], v => by rw [List.nil_append, clamps, clamps, clamps]; rfl
  | a :: l, v => by rw [List.cons_append, clamps, clamps, clamps_app l v]; rfl
theorem clamps_len : ∀ l : List Val, (clamps l).length = l.length
  | [] => by rw [clamps]
  | v :: r => by rw [clamps, List.length_cons, List.length_cons, clamps_len r]
theorem loc_clamp (k n g : Int) (t : List UInt8) (l : Nat) (ks : List (List UInt8)) : locB k n (min g 100000) t l ks = locB k n g t l ks := by
  have e1 : eqI (min g 100000) 0 = eqI g 0 := by rw [eqI_eq, eqI_eq]; exact decide_eq_decide.2 (by omega)
  have e2 : (leI 0 (min g 100000) && leI (min g 100000) 65535) = (leI 0 g && leI g 65535) := by
    rw [Bool.eq_iff_iff]
    simp only [leI_eq, Bool.and_eq_true, decide_eq_true_eq]
    omega
  unfold locB bareB
  rw [e1, e2]
mutual
theorem rR_clamp : ∀ v : Val, rR (clamp v) = rR v
  | .mk k n g t l ks => by rw [clamp, rR, rR, clamps_len, loc_clamp, rRs_clamp l]
theorem rRs_clamp : ∀ l : List Val, rRs (clamps l) = rRs l
  | [] => by rw [clamps]
  | v :: r => by rw [clamps, rRs, rRs, rR_clamp v, rRs_clamp r]
end
mutual
theorem dl_clamp : ∀ v : Val, dl (clamp v) = dl v
  | .mk k n g t l ks => by rw [clamp, dl, dl, dls_clamp l]
theorem dls_clamp : ∀ l : List Val, dls (clamps l) = dls l
  | [] => by rw [clamps]
  | v :: r => by rw [clamps, dls, dls, dl_clamp v, dls_clamp r]
end
theorem loc_gen {k n g : Int} {t : List UInt8} {l : Nat} {ks : List (List UInt8)} (h : locB k n g t l ks = true) : min g 100000 = g := by
  unfold locB at h
  rw [Bool.and_eq_true, Bool.and_eq_true] at h
  obtain ⟨_, hb, hc⟩ := h
  cases q : eqI k 7
  · unfold bareB at hb
    rw [q] at hb
    simp only [Bool.false_or, Bool.and_eq_true, eqI_eq, decide_eq_true_eq] at hb
    have := hb.2.1
    omega
  · have hk := eqI_of q
    subst hk
    have hc : (leI 1 n && (leI n 2147483647 && (leI 0 g && leI g 65535))) = true := hc
    simp only [leI_eq, Bool.and_eq_true, decide_eq_true_eq] at hc
    omega
mutual
theorem clamp_id : ∀ v : Val, rR v = true → clamp v = v
  | .mk k n g t l ks, h => by
    rw [rR, Bool.and_eq_true] at h
    rw [clamp, loc_gen h.1, clamps_id l h.2]
theorem clamps_id : ∀ l : List Val, rRs l = true → clamps l = l
  | [], _ => by rw [clamps]
  | v :: r, h => by
    rw [rRs, Bool.and_eq_true] at h
    rw [clamps, clamp_id v h.1, clamps_id r h.2]
end
theorem okV_clamp (v : Val) : okV 0 (clamp v) = okV 0 v := by
  unfold okV
  rw [rR_clamp, dl_clamp]
end Px
namespace Px
open Go.Vx Go
/-! ### lists -/
theorem rList_deep {val : Int → Val × Int × Bool} {p : List UInt8} {kind : Int} {e : List UInt8} : ∀ (f : Nat) (i : Int) (ls : List Val) (ks : List (List UInt8)),
    (rListGo val p kind e f i ls ks).2.2 = true → dls ls ≤ dl (rListGo val p kind e f i ls ks).1
  | 0, i, ls, ks, h => by cases h
  | f + 1, i, ls, ks, h => by
    have app : ∀ (l : List Val) (v : Val), dls l ≤ dls (l ++ [v]) := by
      intro l
      induction l with
      | nil => intro v; exact Nat.zero_le _
      | cons a l ih => intro v; rw [List.cons_append, dls, dls]; have := ih v; omega
    rw [rListGo] at h ⊢
    cases q1 : preAt p (skipI p i) e
    · rw [q1] at h
      simp only [cond_false] at h ⊢
      cases q2 : eqI kind 6
      · rw [q2] at h
        simp only [cond_false] at h ⊢
        cases q : (val (skipI p i)).2.2
        · rw [q] at h; cases h
        · rw [q] at h
          simp only [cond_true] at h ⊢
          exact Nat.le_trans (app _ _) (rList_deep f _ _ _ h)
      · rw [q2] at h
        simp only [cond_true] at h ⊢
        cases q3 : preAt p (skipI p i) [47]
        · rw [q3] at h; cases h
        · rw [q3] at h
          simp only [cond_true] at h ⊢
          cases q4 : plain (wordS p (skipI p i + 1))
          · rw [q4] at h; cases h
          · rw [q4] at h
            simp only [cond_true] at h ⊢
            cases q : (val (wordE p (skipI p i + 1))).2.2
            · rw [q] at h; cases h
            · rw [q] at h
              simp only [cond_true] at h ⊢
              exact Nat.le_trans (app _ _) (rList_deep f _ _ _ h)
    · simp only [cond_true]
      rw [dl]; exact Nat.le_refl _
theorem dls_last : ∀ (l : List Val) (v : Val), dl v + 1 ≤ dls (l ++ [v])
  | [], v => by rw [List.nil_append, dls, dls]; omega
  | a :: l, v => by rw [List.cons_append, dls]; have := dls_last l v; omega
/-- what is read so is read alike; what isn't is too deep, or nothing -/
def RelA (p : List UInt8) (val : Int → Val × Int × Int) (val' : Int → Val × Int × Bool) : Prop :=
  ∀ j, okAt p j = true → eqI (val j).2.1 0 = true → val' j = (clamp (val j).1, (val j).2.2, true)
def RelB (p : List UInt8) (m : Nat) (val : Int → Val × Int × Int) (val' : Int → Val × Int × Bool) : Prop :=
  ∀ j, okAt p j = true → eqI (val j).2.1 0 = false → (val' j).2.2 = true → m ≤ dl (val' j).1
theorem list_rel {val : Int → Val × Int × Int} {val' : Int → Val × Int × Bool} {p : List UInt8} {m : Nat} (kind : Int) (e : List UInt8) (hA : RelA p val val') (hB : RelB p m val val')
    (hv : ∀ j, okAt p j = true → Onward p j (val j).2.1 (val j).2.2) : ∀ (f : Nat) (i : Int) (ls : List Val) (ks : List (List UInt8)), okAt p i = true →
    (eqI (oListGo val p kind e f i ls ks).2.1 0 = true → rListGo val' p kind e f i (clamps ls) ks = (clamp (oListGo val p kind e f i ls ks).1, (oListGo val p kind e f i ls ks).2.2, true)) ∧
    (eqI (oListGo val p kind e f i ls ks).2.1 0 = false → (rListGo val' p kind e f i (clamps ls) ks).2.2 = true → m + 1 ≤ dl (rListGo val' p kind e f i (clamps ls) ks).1)
  | 0, i, ls, ks, _ => ⟨fun h => (by cases h), fun _ h => (by cases h)⟩
  | f + 1, i, ls, ks, hi => by
    have h1 := ok_skip hi
    rw [oListGo, rListGo, skipI_idem hi]
    cases q1 : preAt p (skipI p i) e
    · simp only [cond_false]
      cases q2 : eqI kind 6
      · simp only [cond_false]
        cases q : eqI (val (skipI p i)).2.1 0
        · simp only [cond_false]
          refine ⟨fun h => (by rw [q] at h; cases h), fun _ h => ?_⟩
          cases q' : (val' (skipI p i)).2.2
          · rw [q'] at h; cases h
          · rw [q'] at h
            simp only [cond_true] at h ⊢
            have hm := hB _ h1 q q'
            have := rList_deep f _ _ _ h
            have := dls_last (clamps ls) (val' (skipI p i)).1
            omega
        · have ha := hA _ h1 q
          have ho := (hv _ h1)
          have ih := list_rel kind e hA hB hv f (val (skipI p i)).2.2 (ls ++ [(val (skipI p i)).1]) ks ho.1
          rw [clamps_app] at ih
          rw [ha]
          simp only [cond_true]
          exact ih
      · simp only [cond_true]
        cases q3 : preAt p (skipI p i) [47]
        · exact ⟨fun h => (by cases h), fun _ h => (by cases h)⟩
        · have h3 : okAt p (skipI p i + 1) = true := ok_pre h1 q3
          obtain ⟨n1, n2⟩ := oName_eq p (skipI p i + 1)
          simp only [cond_true, n1]
          cases q4 : plain (wordS p (skipI p i + 1))
          · simp only [cond_false]
            refine ⟨fun h => ?_, fun _ h => (by cases h)⟩
            rw [n1, q4] at h; cases h
          · rw [n2 q4]
            have h4 := ok_word h3
            simp only [cond_true]
            cases q : eqI (val (wordE p (skipI p i + 1))).2.1 0
            · simp only [cond_false]
              refine ⟨fun h => (by rw [q] at h; cases h), fun _ h => ?_⟩
              cases q' : (val' (wordE p (skipI p i + 1))).2.2
              · rw [q'] at h; cases h
              · rw [q'] at h
                simp only [cond_true] at h ⊢
                have hm := hB _ h4 q q'
                have := rList_deep f _ _ _ h
                have := dls_last (clamps ls) (val' (wordE p (skipI p i + 1))).1
                omega
            · have ha := hA _ h4 q
              have ho := hv _ h4
              have ih := list_rel kind e hA hB hv f (val (wordE p (skipI p i + 1))).2.2 (ls ++ [(val (wordE p (skipI p i + 1))).1]) (ks ++ [wordS p (skipI p i + 1)]) ho.1
              rw [clamps_app] at ih
              rw [ha]
              simp only [cond_true]
              exact ih
    · refine ⟨fun _ => ?_, fun h => by cases h⟩
      simp only [cond_true]
      rw [clamp, show min (0 : Int) 100000 = 0 by decide]
/-! ### words and strings -/
theorem text_rel (p : List UInt8) (i : Int) : (eqI (oText p i).2.1 0 = true → rText p i = (clamp (oText p i).1, (oText p i).2.2, true)) ∧ (eqI (oText p i).2.1 0 = false → (rText p i).2.2 = false) := by
  unfold oText rText
  cases q1 : ltI (i + (gtN (p.drop i.toNat) : Int)) p.length <;> cases q2 : textIs (gtL (p.drop i.toNat))
  · exact ⟨fun h => (by cases h), fun _ => rfl⟩
  · exact ⟨fun h => (by cases h), fun _ => rfl⟩
  · exact ⟨fun h => (by cases h), fun _ => rfl⟩
  · refine ⟨fun _ => ?_, fun h => by cases h⟩
    simp only [Bool.and_self, cond_true]
    rw [clamp, clamps, show min (0 : Int) 100000 = 0 by decide]
theorem word_rel (p : List UInt8) (i : Int) : (eqI (oWord p i).2.1 0 = true → rWord p i = (clamp (oWord p i).1, (oWord p i).2.2, true)) ∧ (eqI (oWord p i).2.1 0 = false → (rWord p i).2.2 = false) := by
  unfold oWord rWord
  cases q1 : decide (wordS p i = wNull)
  · cases q2 : decide (wordS p i = wTrue)
    · cases q3 : decide (wordS p i = wFalse)
      · cases q4 : numOk (wordS p i)
        · refine ⟨fun h => absurd (eqI_of h) (numE_ne q4), fun _ => rfl⟩
        · refine ⟨fun _ => ?_, fun h => by cases h⟩
          simp only [cond_true, cond_false]
          unfold refV
          cases isRef p (wordE p i) (wordS p i)
          · simp only [cond_false]
            rw [clamp, clamps, show min (0 : Int) 100000 = 0 by decide]
          · simp only [cond_true]
            rw [clamp, clamps, show min (min (numV (genS p (wordE p i))) 2147483647) 100000 = min (numV (genS p (wordE p i))) 100000 by omega]
      · refine ⟨fun _ => ?_, fun h => by cases h⟩
        simp only [cond_true, cond_false]
        rw [clamp, clamps, show min (0 : Int) 100000 = 0 by decide]
    · refine ⟨fun _ => ?_, fun h => by cases h⟩
      simp only [cond_true, cond_false]
      rw [clamp, clamps, show min (0 : Int) 100000 = 0 by decide]
  · refine ⟨fun _ => ?_, fun h => by cases h⟩
    simp only [cond_true]
    show _ = (clamp v0, _, _)
    unfold v0
    rw [clamp, clamps, show min (0 : Int) 100000 = 0 by decide]
theorem word_none {p : List UInt8} {i : Int} (h : wordS p i = []) : eqI (oWord p i).2.1 0 = false ∧ (rWord p i).2.2 = false := by
  unfold oWord rWord
  rw [h]
  exact ⟨rfl, rfl⟩
end Px
namespace Px
open Go.Vx Go
/-! ### values -/
theorem pre_two {p : List UInt8} {s : Int} {a b : UInt8} (h0 : 0 ≤ s) (h1 : s < p.length) (h : preAt p s [a, b] = true) : eqI (rByte p s) (a.toNat : Int) = true := by
  obtain ⟨n, rfl⟩ : ∃ j : Nat, s = (j : Int) := ⟨s.toNat, by omega⟩
  have hn : n < p.length := by omega
  unfold preAt hasPre at h
  unfold rByte
  rw [Int.toNat_natCast, drop_cons p 0 n hn] at h
  have h := of_decide_eq_true h
  rw [List.length_cons, List.take_succ_cons] at h
  injection h with h _
  rw [Int.toNat_natCast, h, eqI_eq]
  exact decide_eq_true rfl
theorem stop_byte {p : List UInt8} {s : Int} {c : UInt8} (h : eqI (rByte p s) (c.toNat : Int) = true) : p.getD s.toNat 0 = c := by
  unfold rByte at h
  rw [u8_eq] at h
  exact of_decide_eq_true h
theorem value_rel : ∀ m : Nat, (∀ p, RelA p (oValueF m p) (rValueF (m + 8) p)) ∧ (∀ p, RelB p m (oValueF m p) (rValueF (m + 8) p))
  | 0 => ⟨fun p j _ h => (by cases h), fun p j _ _ _ => Nat.zero_le _⟩
  | m + 1 => by
    obtain ⟨ihA, ihB⟩ := value_rel m
    have key : ∀ (p : List UInt8) (i : Int), okAt p i = true →
        (eqI (oValueF (m + 1) p i).2.1 0 = true → rValueF (m + 8 + 1) p i = (clamp (oValueF (m + 1) p i).1, (oValueF (m + 1) p i).2.2, true)) ∧
        (eqI (oValueF (m + 1) p i).2.1 0 = false → (rValueF (m + 8 + 1) p i).2.2 = true → m + 1 ≤ dl (rValueF (m + 8 + 1) p i).1) := by
      intro p i hi
      have h1 := ok_skip hi
      obtain ⟨s0, s1, s2⟩ := okAt_iff.1 h1
      have hv : ∀ j, okAt p j = true → Onward p j (oValueF m p j).2.1 (oValueF m p j).2.2 := fun j hj => oValueF_on m hj
      rw [oValueF, rValueF, skipI_idem hi, skipI_idem hi, skipI_idem hi, skipI_idem hi]
      by_cases he : (p.length : Int) ≤ skipI p i
      · rw [pre_end he, pre_end he, pre_end he, pre_end he, pre_end he, show leI (p.length : Int) (skipI p i) = true by rw [leI_eq]; exact decide_eq_true he]
        simp only [cond_false, cond_true]
        have hw := (word_none (word_end he)).1
        exact ⟨fun h => (by rw [hw] at h; cases h), fun _ h => (by cases h)⟩
      · have hlt : skipI p i < p.length := by omega
        rw [show leI (p.length : Int) (skipI p i) = false by rw [leI_eq]; exact decide_eq_false he, pre_byte s0 hlt, pre_byte s0 hlt, pre_byte s0 hlt, pre_byte s0 hlt]
        simp only [cond_false]
        have c91 : (((91 : UInt8).toNat : Nat) : Int) = 91 := rfl
        have c60 : (((60 : UInt8).toNat : Nat) : Int) = 60 := rfl
        have c40 : (((40 : UInt8).toNat : Nat) : Int) = 40 := rfl
        have c47 : (((47 : UInt8).toNat : Nat) : Int) = 47 := rfl
        rw [c91, c60, c40, c47]
        have h2 : okAt p (skipI p i + 1) = true := okAt_iff.2 ⟨by omega, by omega, s2⟩
        cases q1 : preAt p (skipI p i) [60, 60]
        · simp only [cond_false]
          cases q2 : eqI (rByte p (skipI p i)) 91
          · simp only [cond_false]
            cases q3 : eqI (rByte p (skipI p i)) 60
            · simp only [cond_false]
              cases q4 : eqI (rByte p (skipI p i)) 40
              · simp only [cond_false]
                cases q5 : eqI (rByte p (skipI p i)) 47
                · simp only [cond_false]
                  obtain ⟨w1, w2⟩ := word_rel p (skipI p i)
                  exact ⟨w1, fun h h' => (by rw [w2 h] at h'; cases h')⟩
                · simp only [cond_true]
                  obtain ⟨n1, n2⟩ := oName_eq p (skipI p i + 1)
                  rw [n1]
                  cases q6 : plain (wordS p (skipI p i + 1))
                  · simp only [cond_false]
                    exact ⟨fun h => (by rw [n1, q6] at h; cases h), fun _ h => (by cases h)⟩
                  · rw [n2 q6]
                    simp only [cond_true]
                    refine ⟨fun _ => ?_, fun h => (by cases h)⟩
                    rw [clamp, clamps, show min (0 : Int) 100000 = 0 by decide]
              · simp only [cond_true]
                have hb := stop_byte (c := 40) q4
                have q5 : eqI (rByte p (skipI p i)) 47 = false := by
                  unfold rByte; rw [hb]; rfl
                rw [q5]
                simp only [cond_false]
                have hw := (word_none (word_stop s0 hlt (by rw [hb]; rfl))).2
                exact ⟨fun h => (by cases h), fun _ h => (by rw [hw] at h; cases h)⟩
            · simp only [cond_true]
              obtain ⟨w1, w2⟩ := text_rel p (skipI p i + 1)
              exact ⟨w1, fun h h' => (by rw [w2 h] at h'; cases h')⟩
          · simp only [cond_true]
            exact list_rel 5 [93] (ihA p) (ihB p) hv (p.length + 2) (skipI p i + 1) [] [] h2
        · simp only [cond_true]
          have h3 : okAt p (skipI p i + 2) = true := ok_pre h1 q1
          exact list_rel 6 [62, 62] (ihA p) (ihB p) hv (p.length + 2) (skipI p i + 2) [] [] h3
    exact ⟨fun p j hj => (key p j hj).1, fun p j hj => (key p j hj).2⟩
/-! ### errors -/
def errB (e : Int) : Prop := e = 0 ∨ e = 2 ∨ e = 14
theorem numE_err (s : List UInt8) : errB (numE s) := by
  unfold numE
  cases numOk s
  · cases dotted s
    · exact .inr (.inl rfl)
    · exact .inr (.inr rfl)
  · exact .inl rfl
theorem oName_err (p : List UInt8) (i : Int) : errB (oName p i).2.1 := by
  unfold oName
  cases leI 0 (Lib.indexByte (wordS p i) 35)
  · cases plain (wordS p i)
    · exact .inr (.inl rfl)
    · exact .inl rfl
  · exact .inr (.inr rfl)
theorem oText_err (p : List UInt8) (i : Int) : errB (oText p i).2.1 := by
  unfold oText
  cases (ltI (i + (gtN (p.drop i.toNat) : Int)) p.length && textIs (gtL (p.drop i.toNat)))
  · exact .inr (.inl rfl)
  · exact .inl rfl
theorem oWord_err (p : List UInt8) (i : Int) : errB (oWord p i).2.1 := by
  unfold oWord
  cases decide (wordS p i = wNull)
  · cases decide (wordS p i = wTrue)
    · cases decide (wordS p i = wFalse)
      · cases numOk (wordS p i)
        · exact numE_err _
        · exact .inl rfl
      · exact .inl rfl
    · exact .inl rfl
  · exact .inl rfl
theorem oList_err {val : Int → Val × Int × Int} {p : List UInt8} (kind : Int) (e : List UInt8) (hv : ∀ j, errB (val j).2.1) : ∀ (f : Nat) (i : Int) (ls : List Val) (ks : List (List UInt8)), errB (oListGo val p kind e f i ls ks).2.1
  | 0, i, ls, ks => .inr (.inl rfl)
  | f + 1, i, ls, ks => by
    rw [oListGo]
    cases preAt p (skipI p i) e
    · simp only [cond_false]
      cases eqI kind 6
      · simp only [cond_false]
        cases eqI (val (skipI p i)).2.1 0
        · exact hv _
        · exact oList_err kind e hv f _ _ _
      · simp only [cond_true]
        cases preAt p (skipI p (skipI p i)) [47]
        · exact .inr (.inl rfl)
        · simp only [cond_true]
          cases eqI (oName p (skipI p (skipI p i) + 1)).2.1 0
          · exact oName_err _ _
          · simp only [cond_true]
            cases eqI (val (oName p (skipI p (skipI p i) + 1)).2.2).2.1 0
            · exact hv _
            · exact oList_err kind e hv f _ _ _
    · exact .inl rfl
theorem oValue_err : ∀ (m : Nat) (p : List UInt8) (i : Int), errB (oValueF m p i).2.1
  | 0, p, i => .inr (.inl rfl)
  | m + 1, p, i => by
    have hv : ∀ j, errB (oValueF m p j).2.1 := fun j => oValue_err m p j
    rw [oValueF]
    cases preAt p (skipI p i) [60, 60]
    · simp only [cond_false]
      cases preAt p (skipI p (skipI p i)) [91]
      · simp only [cond_false]
        cases preAt p (skipI p (skipI p (skipI p i))) [60]
        · simp only [cond_false]
          cases preAt p (skipI p (skipI p (skipI p (skipI p i)))) [40]
          · simp only [cond_false]
            cases preAt p (skipI p (skipI p (skipI p (skipI p (skipI p i))))) [47]
            · exact oWord_err _ _
            · simp only [cond_true]
              cases eqI (oName p (skipI p (skipI p (skipI p (skipI p (skipI p i)))) + 1)).2.1 0
              · exact oName_err _ _
              · exact .inl rfl
          · exact .inr (.inr rfl)
        · exact oText_err _ _
      · exact oList_err 5 _ hv _ _ _ _
    · exact oList_err 6 _ hv _ _ _ _
/-! ### not too many parts -/
theorem smallL_app : ∀ (l : List Val) (v : Val), smallL l = true → smallV v = true → smallL (l ++ [v]) = true
  | [], v, _, hv => by rw [List.nil_append, smallL, hv]; rfl
  | a :: l, v, h, hv => by
    rw [smallL, Bool.and_eq_true] at h
    rw [List.cons_append, smallL, h.1, smallL_app l v h.2 hv]; rfl
theorem rList_small {val : Int → Val × Int × Bool} {p : List UInt8} (kind : Int) {e : List UInt8} (hs : ∀ j, okAt p j = true → (val j).2.2 = true → smallV (val j).1 = true) (hv : ∀ j, okAt p j = true → Further p j (val j).2.2 (val j).2.1) :
    ∀ (f : Nat) (i : Int) (ls : List Val) (ks : List (List UInt8)), okAt p i = true → (ls.length : Int) ≤ i → (ks.length : Int) ≤ i → smallL ls = true → (rListGo val p kind e f i ls ks).2.2 = true → smallV (rListGo val p kind e f i ls ks).1 = true
  | 0, i, ls, ks, _, _, _, _, h => by cases h
  | f + 1, i, ls, ks, hi, hl, hk, hsm, h => by
    have h1 := ok_skip hi
    have g1 := skip_ge hi
    obtain ⟨i0, i1, i2⟩ := okAt_iff.1 hi
    have len1 : ∀ (v : Val), (((ls ++ [v]).length : Nat) : Int) = (ls.length : Int) + 1 := fun v => by rw [List.length_append]; simp
    have len2 : ∀ (v : List UInt8), (((ks ++ [v]).length : Nat) : Int) = (ks.length : Int) + 1 := fun v => by rw [List.length_append]; simp
    rw [rListGo] at h ⊢
    cases q1 : preAt p (skipI p i) e
    · rw [q1] at h
      simp only [cond_false] at h ⊢
      cases q2 : eqI kind 6
      · rw [q2] at h
        simp only [cond_false] at h ⊢
        cases q : (val (skipI p i)).2.2
        · rw [q] at h; cases h
        · rw [q] at h
          simp only [cond_true] at h ⊢
          have hx := hv _ h1 q
          exact rList_small kind hs hv f _ _ _ hx.1 (by rw [len1]; omega) (by omega) (smallL_app _ _ hsm (hs _ h1 q)) h
      · rw [q2] at h
        simp only [cond_true] at h ⊢
        cases q3 : preAt p (skipI p i) [47]
        · rw [q3] at h; cases h
        · rw [q3] at h
          have h3 : okAt p (skipI p i + 1) = true := ok_pre h1 q3
          simp only [cond_true] at h ⊢
          cases q4 : plain (wordS p (skipI p i + 1))
          · rw [q4] at h; cases h
          · rw [q4] at h
            have h4 := ok_word h3
            have g4 := word_ge h3
            simp only [cond_true] at h ⊢
            cases q : (val (wordE p (skipI p i + 1))).2.2
            · rw [q] at h; cases h
            · rw [q] at h
              simp only [cond_true] at h ⊢
              have hx := hv _ h4 q
              exact rList_small kind hs hv f _ _ _ hx.1 (by rw [len1]; omega) (by rw [len2]; omega) (smallL_app _ _ hsm (hs _ h4 q)) h
    · simp only [cond_true]
      have e1 : Nat.ble ls.length 1000000 = true := Nat.ble_eq ▸ (by omega : ls.length ≤ 1000000)
      have e2 : Nat.ble ks.length 1000000 = true := Nat.ble_eq ▸ (by omega : ks.length ≤ 1000000)
      rw [smallV, hsm, e1, e2]
      rfl
theorem rWord_small (p : List UInt8) (i : Int) : smallV (rWord p i).1 = true := by
  unfold rWord
  cases decide (wordS p i = wNull) <;> cases decide (wordS p i = wTrue) <;> cases decide (wordS p i = wFalse) <;> cases numOk (wordS p i) <;> first | rfl | skip
  simp only [cond_true, cond_false]
  unfold refV
  cases isRef p (wordE p i) (wordS p i) <;> rfl
theorem rText_small (p : List UInt8) (i : Int) : smallV (rText p i).1 = true := by
  unfold rText
  cases textIs (gtL (p.drop i.toNat)) <;> rfl
theorem rValue_small : ∀ (m : Nat) (p : List UInt8) (i : Int), okAt p i = true → (rValueF m p i).2.2 = true → smallV (rValueF m p i).1 = true
  | 0, p, i, _, h => by cases h
  | m + 1, p, i, hi, h => by
    have h1 := ok_skip hi
    obtain ⟨s0, s1, s2⟩ := okAt_iff.1 h1
    have hs : ∀ j, okAt p j = true → (rValueF m p j).2.2 = true → smallV (rValueF m p j).1 = true := fun j hj => rValue_small m p j hj
    have hv : ∀ j, okAt p j = true → Further p j (rValueF m p j).2.2 (rValueF m p j).2.1 := fun j hj => rValueF_on m hj
    rw [rValueF] at h ⊢
    cases q0 : leI (p.length : Int) (skipI p i)
    · rw [q0] at h
      rw [leI_eq, decide_eq_false_iff_not] at q0
      have h2 : okAt p (skipI p i + 1) = true := okAt_iff.2 ⟨by omega, by omega, s2⟩
      simp only [cond_false] at h ⊢
      cases q1 : preAt p (skipI p i) [60, 60]
      · rw [q1] at h
        simp only [cond_false] at h ⊢
        cases q2 : eqI (rByte p (skipI p i)) 91
        · rw [q2] at h
          simp only [cond_false] at h ⊢
          cases q3 : eqI (rByte p (skipI p i)) 60
          · rw [q3] at h
            simp only [cond_false] at h ⊢
            cases q4 : eqI (rByte p (skipI p i)) 47
            · exact rWord_small _ _
            · rfl
          · exact rText_small _ _
        · rw [q2] at h
          simp only [cond_true] at h ⊢
          exact rList_small 5 hs hv _ _ [] [] h2 (by simp only [List.length_nil]; omega) (by simp only [List.length_nil]; omega) rfl h
      · rw [q1] at h
        have h3 : okAt p (skipI p i + 2) = true := ok_pre h1 q1
        simp only [cond_true] at h ⊢
        exact rList_small 6 hs hv _ _ [] [] h3 (by simp only [List.length_nil]; omega) (by simp only [List.length_nil]; omega) rfl h
    · rfl
theorem rSmall_ok {p : List UInt8} (h : okAt p 0 = true) : rSmall p = true := by
  unfold rSmall
  cases q : (rValue p 0 0).2.2
  · rfl
  · exact rValue_small _ p 0 h q
/-! ### the two readings -/
theorem parse_rel {p : List UInt8} (h : okAt p 0 = true) :
    ((rParse p).2.2 = true → oParse p = ((rParse p).1, (rParse p).2.1, 0) ∧ okV 0 (rParse p).1 = true ∧ smallV (rParse p).1 = true) ∧
    ((rParse p).2.2 = false → (oParse p).1 = v0 ∧ (oParse p).2.1 = 0 ∧ ((oParse p).2.2 = 2 ∨ (oParse p).2.2 = 14)) := by
  have eo : oValue p 0 0 = oValueF 33 p 0 := rfl
  have er : rValue p 0 0 = rValueF (33 + 8) p 0 := rfl
  have hA := (value_rel 33).1 p 0 h
  have hB := (value_rel 33).2 p 0 h
  have hs := rValue_small (33 + 8) p 0 h
  unfold oParse rParse
  rw [eo, er]
  cases q : eqI (oValueF 33 p 0).2.1 0 with
  | true =>
    have ha := hA q
    rw [ha]
    rw [ha] at hs
    have hs := hs rfl
    simp only [cond_true, okV_clamp]
    cases qk : okV 0 (oValueF 33 p 0).1 with
    | true =>
      have hr : rR (oValueF 33 p 0).1 = true := by
        unfold okV at qk
        rw [Bool.and_eq_true] at qk
        exact qk.1
      rw [clamp_id _ hr] at hs ⊢
      refine ⟨fun _ => ⟨rfl, qk, hs⟩, fun h => (by cases h)⟩
    | false => exact ⟨fun h => (by cases h), fun _ => (by simp)⟩
  | false =>
    simp only [cond_false]
    have herr := oValue_err 33 p 0
    have hne : (oValueF 33 p 0).2.1 ≠ 0 := fun hh => by rw [hh] at q; cases q
    have he : (oValueF 33 p 0).2.1 = 2 ∨ (oValueF 33 p 0).2.1 = 14 := by
      rcases herr with h | h | h
      · exact absurd h hne
      · exact .inl h
      · exact .inr h
    cases qr : (rValueF (33 + 8) p 0).2.2 with
    | false => exact ⟨fun h => (by cases h), fun _ => (by first | exact ⟨rfl, rfl, he⟩ | simpa using he)⟩
    | true =>
      have hd := hB q qr
      have hk : okV 0 (rValueF (33 + 8) p 0).1 = false := by
        unfold okV
        rw [show leI ((dl (rValueF (33 + 8) p 0).1 : Int) + 0) 32 = false by rw [leI_eq]; exact decide_eq_false (by omega)]
        simp
      simp only [cond_true, hk, cond_false]
      exact ⟨fun h => (by cases h), fun _ => (by first | exact ⟨rfl, rfl, he⟩ | simpa using he)⟩
end Px
namespace Px
open Go.Vx Go
/-- at a place of bytes so much is left -/
def At (p : List UInt8) (i : Int) (r : List UInt8) : Prop := okAt p i = true ∧ p.drop i.toNat = r
def sk (l : List UInt8) : List UInt8 := l.drop (skipN false l)
def wd (l : List UInt8) : List UInt8 := l.take (wordN l)
def wr (l : List UInt8) : List UInt8 := l.drop (wordN l)
theorem At.len {p : List UInt8} {i : Int} {r : List UInt8} (h : At p i r) : (p.length : Int) = i + r.length := by
  obtain ⟨h1, h2⟩ := h
  obtain ⟨h3, h4, _⟩ := okAt_iff.1 h1
  rw [← h2, List.length_drop]; omega
theorem At.mk {p : List UInt8} {i : Int} {r : List UInt8} (h : okAt p i = true) (hr : p.drop i.toNat = r) : At p i r := ⟨h, hr⟩
theorem At.start {p : List UInt8} (h : p.length ≤ 1000000) : At p 0 p := ⟨okAt_iff.2 ⟨by omega, by omega, h⟩, rfl⟩
theorem At.step {p : List UInt8} {i : Int} {a r : List UInt8} (h : At p i (a ++ r)) : At p (i + (a.length : Int)) r := by
  have hl := h.len
  obtain ⟨h1, h2⟩ := h
  obtain ⟨h3, h4, h5⟩ := okAt_iff.1 h1
  rw [List.length_append] at hl
  refine ⟨okAt_iff.2 ⟨by omega, by omega, h5⟩, ?_⟩
  have e : (i + (a.length : Int)).toNat = i.toNat + a.length := by omega
  rw [e, ← List.drop_drop, h2, List.drop_left]
theorem At.skip {p : List UInt8} {i : Int} {r : List UInt8} (h : At p i r) : At p (skipI p i) (sk r) ∧ skipI p i = i + (skipN false r : Int) := by
  have e := skipI_eq h.1
  rw [h.2] at e
  have hle := skipN_le r false
  have ha : At p i (r.take (skipN false r) ++ r.drop (skipN false r)) := by rw [List.take_append_drop]; exact h
  have hs := ha.step
  rw [List.length_take, Nat.min_eq_left hle] at hs
  rw [e]
  exact ⟨hs, rfl⟩
theorem At.word {p : List UInt8} {i : Int} {r : List UInt8} (h : At p i r) : wordS p i = wd r ∧ At p (wordE p i) (wr r) ∧ wordE p i = i + (wordN r : Int) := by
  have e : wordE p i = i + (wordN r : Int) := by unfold wordE; rw [h.2]
  have hle := wordN_le r
  have ha : At p i (r.take (wordN r) ++ r.drop (wordN r)) := by rw [List.take_append_drop]; exact h
  have hs := ha.step
  rw [List.length_take, Nat.min_eq_left hle] at hs
  refine ⟨?_, by rw [e]; exact hs, e⟩
  unfold wordS wd; rw [h.2]
theorem At.pre {p : List UInt8} {i : Int} {r : List UInt8} (h : At p i r) (s : List UInt8) : preAt p i s = hasPre r s := by unfold preAt; rw [h.2]
theorem pre_self (s r : List UInt8) : hasPre (s ++ r) s = true := decide_eq_true (by rw [List.take_left' rfl])
theorem pre_ne {b c : UInt8} {r s : List UInt8} (h : b ≠ c) : hasPre (b :: r) (c :: s) = false := decide_eq_false (by
  intro hh
  rw [List.length_cons, List.take_succ_cons] at hh
  injection hh with h1 _
  exact h h1)
theorem pre_nil {c : UInt8} {s : List UInt8} : hasPre [] (c :: s) = false := rfl
/-! ### blanks -/
/-- a byte that is neither a blank nor begins a comment -/
def solid (b : UInt8) : Bool := !(eqI (b.toNat : Int) 37) && !(blank (b.toNat : Int))
theorem skip_solid {b : UInt8} {r : List UInt8} (h : solid b = true) : skipN false (b :: r) = 0 := by
  unfold solid at h
  rw [Bool.and_eq_true, Bool.not_eq_true', Bool.not_eq_true'] at h
  rw [skipN, h.1, h.2]; rfl
theorem sk_solid {b : UInt8} {r : List UInt8} (h : solid b = true) : sk (b :: r) = b :: r := by unfold sk; rw [skip_solid h]; rfl
/-- nothing blank ahead -/
def firm (l : List UInt8) : Prop := skipN false l = 0
theorem firm_nil : firm [] := rfl
theorem firm_cons {b : UInt8} {r : List UInt8} (h : solid b = true) : firm (b :: r) := skip_solid h
theorem At.firm {p : List UInt8} {i : Int} {r : List UInt8} (h : At p i r) (hf : firm r) : skipI p i = i := by
  have := h.skip.2
  unfold Px.firm at hf
  rw [hf] at this; omega
/-! ### words -/
/-- a word ends here -/
def ends (l : List UInt8) : Prop := wordN l = 0
theorem ends_nil : ends [] := rfl
theorem ends_cons {b : UInt8} {r : List UInt8} (h : stopB b = true) : ends (b :: r) := by unfold ends; rw [wordN, h]; rfl
theorem word_app : ∀ {w r : List UInt8}, (∀ b ∈ w, stopB b = false) → ends r → wordN (w ++ r) = w.length
  | [], r, _, h => h
  | b :: w, r, hw, h => by
    rw [List.cons_append, wordN, hw b List.mem_cons_self, cond_false, word_app (fun c hc => hw c (List.mem_cons_of_mem _ hc)) h, List.length_cons]
theorem wd_app {w r : List UInt8} (hw : ∀ b ∈ w, stopB b = false) (h : ends r) : wd (w ++ r) = w ∧ wr (w ++ r) = r := by
  unfold wd wr
  rw [word_app hw h]
  exact ⟨List.take_left' rfl, List.drop_left' rfl⟩
/-! ### a value that begins with none of the marks -/
theorem value_word {m : Nat} {p : List UInt8} {i : Int} {b : UInt8} {r : List UInt8} (h : At p i (b :: r)) (hs : solid b = true) (h1 : b ≠ 60) (h2 : b ≠ 91) (h3 : b ≠ 40) (h4 : b ≠ 47) : oValueF (m + 1) p i = oWord p i := by
  have hf := h.firm (firm_cons hs)
  rw [oValueF, hf, hf, hf, hf, hf, h.pre, h.pre, h.pre, h.pre, h.pre, pre_ne h1, pre_ne h1, pre_ne h2, pre_ne h3, pre_ne h4]
  rfl
/-! ### digits -/
theorem dv_app : ∀ (l m : List UInt8) (a : Nat), dv a (l ++ m) = dv (dv a l) m
  | [], m, a => rfl
  | b :: l, m, a => by rw [List.cons_append, dv, dv]; exact dv_app l m _
theorem dig_of {d : Nat} (h : d < 10) : isDig (UInt8.ofNat (48 + d)) = true ∧ dg (UInt8.ofNat (48 + d)) = d := by
  have e : (UInt8.ofNat (48 + d)).toNat = 48 + d := by rw [UInt8.toNat_ofNat']; omega
  exact ⟨(isDig_iff _).2 (by omega), by rw [dg_eq, e]; omega⟩
theorem digits_all (u : Nat) : allDig (Lib.decDigits u) = true := by
  induction u using Nat.strongRecOn with
  | ind u ih =>
    rw [Lib.decDigits]
    split
    · rename_i h
      unfold allDig; rw [List.all_cons, (dig_of h).1]; rfl
    · have := ih (u / 10) (by omega)
      unfold allDig at this ⊢
      rw [List.all_append, this, List.all_cons, (dig_of (Nat.mod_lt u (by decide))).1]; rfl
theorem digits_ne (u : Nat) : Lib.decDigits u ≠ [] := by
  rw [Lib.decDigits]
  split
  · intro h; cases h
  · intro h; rw [List.append_eq_nil_iff] at h; cases h.2
theorem digits_dv (u : Nat) : dv 0 (Lib.decDigits u) = u := by
  induction u using Nat.strongRecOn with
  | ind u ih =>
    rw [Lib.decDigits]
    split
    · rename_i h
      rw [dv, dv, (dig_of h).2]; omega
    · rw [dv_app, ih (u / 10) (by omega), dv, dv, (dig_of (Nat.mod_lt u (by decide))).2]; omega
theorem zeros_all (z : Nat) {l : List UInt8} (h : allDig l = true) : allDig (List.replicate z 48 ++ l) = true := by
  unfold allDig at h ⊢
  rw [List.all_append, h, Bool.and_true, List.all_eq_true]
  intro b hb
  rw [List.eq_of_mem_replicate hb]; rfl
theorem zeros_dv : ∀ (z : Nat) (l : List UInt8), dv 0 (List.replicate z 48 ++ l) = dv 0 l
  | 0, l => rfl
  | z + 1, l => by
    rw [List.replicate_succ, List.cons_append, dv]
    have : dg 48 = 0 := by rw [dg_eq]; rfl
    rw [this]
    exact zeros_dv z l
theorem numRun_of {l : List UInt8} (h : dv 0 l ≤ 9223372036854775808) : numRun 0 l = some (dv 0 l) := by
  cases hr : numRun 0 l with
  | none => have := numRun_none l 0 hr; omega
  | some u => rw [numRun_some l 0 u hr]
theorem dig_sign {l : List UInt8} (h : allDig l = true) : minusB l = false ∧ plusB l = false := by
  cases l with
  | nil => exact ⟨rfl, rfl⟩
  | cons b r =>
    unfold allDig at h
    rw [List.all_cons, Bool.and_eq_true, isDig_iff] at h
    constructor
    · unfold minusB; rw [Bool.eq_false_iff, ne_eq, Nat.beq_eq]; omega
    · unfold plusB; rw [Bool.eq_false_iff, ne_eq, Nat.beq_eq]; omega
theorem bare_digits {l : List UInt8} (h : allDig l = true) : bare1 l = l := by
  unfold bare1; rw [(dig_sign h).1, (dig_sign h).2]; rfl
/-- digits, with a sign or none -/
theorem num_plain {l : List UInt8} (h : allDig l = true) (hn : l ≠ []) (hv : dv 0 l ≤ 9223372036854775807) : numOk l = true ∧ numV l = (dv 0 l : Int) := by
  have e : refNum l = ((dv 0 l : Int), true) := by
    unfold refNum
    rw [bare_digits h, (digs_iff l).2 ⟨hn, h⟩, cond_true, numRun_of (by omega), (dig_sign h).1]
    have b1 : Nat.blt 9223372036854775808 (dv 0 l) = false := by rw [Bool.eq_false_iff]; intro hh; have := Nat.le_of_ble_eq_true hh; omega
    have b2 : Nat.beq (dv 0 l) 9223372036854775808 = false := by rw [Bool.eq_false_iff, ne_eq, Nat.beq_eq]; omega
    simp only [b1, b2]; rfl
  unfold numOk numV
  rw [e]; exact ⟨rfl, rfl⟩
theorem num_plus {l : List UInt8} (h : allDig l = true) (hn : l ≠ []) (hv : dv 0 l ≤ 9223372036854775807) : numOk (43 :: l) = true ∧ numV (43 :: l) = (dv 0 l : Int) := by
  have e : refNum (43 :: l) = ((dv 0 l : Int), true) := by
    unfold refNum
    rw [show bare1 (43 :: l) = l from rfl, (digs_iff l).2 ⟨hn, h⟩, cond_true, numRun_of (by omega), show minusB (43 :: l) = false from rfl]
    have b1 : Nat.blt 9223372036854775808 (dv 0 l) = false := by rw [Bool.eq_false_iff]; intro hh; have := Nat.le_of_ble_eq_true hh; omega
    have b2 : Nat.beq (dv 0 l) 9223372036854775808 = false := by rw [Bool.eq_false_iff, ne_eq, Nat.beq_eq]; omega
    simp only [b1, b2]; rfl
  unfold numOk numV
  rw [e]; exact ⟨rfl, rfl⟩
theorem num_minus {l : List UInt8} (h : allDig l = true) (hn : l ≠ []) (hv : dv 0 l ≤ 9223372036854775808) : numOk (45 :: l) = true ∧ numV (45 :: l) = -(dv 0 l : Int) := by
  have e : refNum (45 :: l) = (-(dv 0 l : Int), true) := by
    unfold refNum
    rw [show bare1 (45 :: l) = l from rfl, (digs_iff l).2 ⟨hn, h⟩, cond_true, numRun_of hv, show minusB (45 :: l) = true from rfl]
    have b1 : Nat.blt 9223372036854775808 (dv 0 l) = false := by rw [Bool.eq_false_iff]; intro hh; have := Nat.le_of_ble_eq_true hh; omega
    simp only [b1]; simp
  unfold numOk numV
  rw [e]; exact ⟨rfl, rfl⟩
theorem num_far {l : List UInt8} (h : allDig l = true) (hn : l ≠ []) (hv : 9223372036854775808 < dv 0 l) : numOk l = false ∧ numE l = 2 := by
  have e : (refNum l).2 = false := by
    unfold refNum
    rw [bare_digits h, (digs_iff l).2 ⟨hn, h⟩, cond_true]
    cases hr : numRun 0 l with
    | none => rfl
    | some u =>
      have := numRun_some l 0 u hr
      subst this
      have b1 : Nat.blt 9223372036854775808 (dv 0 l) = true := Nat.ble_eq ▸ hv
      simp only [b1]; rfl
  have hd := (digs_iff l).2 ⟨hn, h⟩
  have hb : digs (bare1 l) = true := by rw [bare_digits h]; exact hd
  have e2 : numOk l = false := e
  refine ⟨e2, ?_⟩
  unfold numE dotted
  rw [e2, (trim_sign hb).1, bare_digits h, replace_same (digs_no hd (by decide : isDig 46 = false)), decide_eq_true rfl]
  simp
theorem itoa_num {n : Int} (h : inRb .i64 n = true) : numOk (Lib.itoa n) = true ∧ numV (Lib.itoa n) = n := by
  have hr : -9223372036854775808 ≤ n ∧ n ≤ 9223372036854775807 := by rw [inRb_iff] at h; exact h
  unfold Lib.itoa
  split
  · have := num_minus (digits_all n.natAbs) (digits_ne _) (by rw [digits_dv]; omega)
    rw [digits_dv] at this
    exact ⟨this.1, by rw [this.2]; omega⟩
  · have := num_plain (digits_all n.toNat) (digits_ne _) (by rw [digits_dv]; omega)
    rw [digits_dv] at this
    exact ⟨this.1, by rw [this.2]; omega⟩
/-! ### a word of digits, alone -/
theorem dig_stop {b : UInt8} (h : isDig b = true) : stopB b = false ∧ solid b = true ∧ b ≠ 60 ∧ b ≠ 91 ∧ b ≠ 40 ∧ b ≠ 47 := by
  have := all_u8 (q := fun b => !isDig b || (!stopB b && (solid b && (!decide (b = 60) && (!decide (b = 91) && (!decide (b = 40) && !decide (b = 47))))))) (by kernel_rfl) b
  rw [h] at this
  simpa using this
/-- the bytes of a number: digits, and a sign ahead -/
def numB (b : UInt8) : Bool := isDig b || decide (b = 43) || decide (b = 45)
theorem numB_stop {b : UInt8} (h : numB b = true) : stopB b = false ∧ solid b = true ∧ b ≠ 60 ∧ b ≠ 91 ∧ b ≠ 40 ∧ b ≠ 47 := by
  unfold numB at h
  rw [Bool.or_eq_true, Bool.or_eq_true, decide_eq_true_eq, decide_eq_true_eq] at h
  rcases h with (h | rfl) | rfl
  · exact dig_stop h
  · exact ⟨rfl, rfl, by decide, by decide, by decide, by decide⟩
  · exact ⟨rfl, rfl, by decide, by decide, by decide, by decide⟩
theorem all_numB {l : List UInt8} (h : allDig l = true) : ∀ b ∈ l, numB b = true := fun b hb => by
  unfold numB; rw [List.all_eq_true.1 h b hb]; rfl
theorem itoa_numB (n : Int) : ∀ b ∈ Lib.itoa n, numB b = true := by
  intro b hb
  unfold Lib.itoa at hb
  split at hb
  · rcases List.mem_cons.1 hb with rfl | hb
    · rfl
    · exact all_numB (digits_all _) b hb
  · exact all_numB (digits_all _) b hb
theorem itoa_ne (n : Int) : Lib.itoa n ≠ [] := by
  unfold Lib.itoa
  split
  · intro h; cases h
  · exact digits_ne _
theorem num_words {w : List UInt8} (h : ∀ b ∈ w, numB b = true) : w ≠ wNull ∧ w ≠ wTrue ∧ w ≠ wFalse ∧ w ≠ [82] := by
  refine ⟨fun hh => ?_, fun hh => ?_, fun hh => ?_, fun hh => ?_⟩ <;> subst hh
  · exact absurd (h 110 List.mem_cons_self) (by decide)
  · exact absurd (h 116 List.mem_cons_self) (by decide)
  · exact absurd (h 102 List.mem_cons_self) (by decide)
  · exact absurd (h 82 List.mem_cons_self) (by decide)
/-- what a number is read as, and what is not one -/
theorem word_num {m : Nat} {p : List UInt8} {i : Int} {w r : List UInt8} (h : At p i (w ++ r)) (hw : ∀ b ∈ w, numB b = true) (hn : w ≠ []) (he : ends r) :
    oValueF (m + 1) p i = cond (numOk w) (refV 2147483647 p (i + (w.length : Int)) w, 0, refE p (i + (w.length : Int)) w) (v0, numE w, i) := by
  have hst : ∀ b ∈ w, stopB b = false := fun b hb => (numB_stop (hw b hb)).1
  obtain ⟨h1, h2, h3⟩ := h.word
  rw [(wd_app hst he).1] at h1
  rw [word_app hst he] at h3
  obtain ⟨n1, n2, n3, _⟩ := num_words hw
  have hv : oValueF (m + 1) p i = oWord p i := by
    cases w with
    | nil => exact absurd rfl hn
    | cons b w =>
      obtain ⟨_, hs, g1, g2, g3, g4⟩ := numB_stop (hw b List.mem_cons_self)
      exact value_word h hs g1 g2 g3 g4
  rw [hv]
  unfold oWord
  rw [h1, h3, decide_eq_false n1, decide_eq_false n2, decide_eq_false n3]
  rfl
end Px
namespace Px
open Go.Vx Go
theorem genS_nil {p : List UInt8} {j : Int} (h : At p j []) : genS p j = [] := by
  unfold genS
  have h1 := h.skip.1
  have : sk [] = [] := rfl
  rw [this] at h1
  exact h1.word.1
theorem isRef_nil {p : List UInt8} {j : Int} {w : List UInt8} (h : At p j []) : isRef p j w = false := by
  unfold isRef
  rw [genS_nil h]
  have : numOk [] = false := rfl
  rw [this]
  simp
theorem okV_int (n : Int) : okV 0 (.mk 2 n 0 [] [] []) = true := rfl
theorem parse_num {w : List UInt8} (hl : w.length ≤ 1000000) (hw : ∀ b ∈ w, numB b = true) (hn : w ≠ []) (hk : numOk w = true) : oParse w = (.mk 2 (numV w) 0 [] [] [], (w.length : Int), 0) := by
  have ha : At w 0 (w ++ []) := by rw [List.append_nil]; exact At.start hl
  have hv : oValue w 0 0 = _ := word_num (m := 32) ha hw hn ends_nil
  have hs := ha.step
  have he : oValue w 0 0 = (.mk 2 (numV w) 0 [] [] [], 0, (w.length : Int)) := by
    rw [hv, hk, cond_true]
    unfold refV refE
    rw [isRef_nil hs, Int.zero_add]
    rfl
  unfold oParse
  rw [he]
  simp only
  rw [okV_int]
  rfl
theorem parse_far {w : List UInt8} (hl : w.length ≤ 1000000) (hw : ∀ b ∈ w, numB b = true) (hn : w ≠ []) (hk : numOk w = false) (hE : numE w = 2) : (oParse w).2.2 = 2 := by
  have ha : At w 0 (w ++ []) := by rw [List.append_nil]; exact At.start hl
  have hv : oValue w 0 0 = _ := word_num (m := 32) ha hw hn ends_nil
  have he : oValue w 0 0 = (v0, 2, 0) := by rw [hv, hk, cond_false, hE]
  unfold oParse
  rw [he]
  rfl
theorem layV_int (n : Int) : layV (.mk 2 n 0 [] [] []) = Lib.itoa n := by rw [layV]; rfl
end Px
namespace Go.Vx
open Go
theorem far_dv (l : List UInt8) : 9223372036854775808 ≤ Px.dv 9223372036854775808 l := Px.dv_ge l _
theorem sp6 (n z m : Int) (hn : inRb .i64 n = true) (hz : inRb .u8 z = true) (hm : inRb .u8 m = true) : (spec6 [.lf (.int .i64 n), .lf (.int .u8 z), .lf (.int .u8 m)] []).get = some (.lf (.bool true), []) := by
  show (w6 n z m).get = _
  have hr : -9223372036854775808 ≤ n ∧ n ≤ 9223372036854775807 := by rw [inRb_iff] at hn; exact hn
  have hz' : 0 ≤ z ∧ z ≤ 255 := by rw [inRb_iff] at hz; exact hz
  have hm' : 0 ≤ m ∧ m ≤ 255 := by rw [inRb_iff] at hm; exact hm
  have hil := itoa_len hn
  obtain ⟨hok, hnv⟩ := Px.itoa_num hn
  have hp := Px.parse_num (w := Lib.itoa n) (by omega) (Px.itoa_numB n) (Px.itoa_ne n) hok
  rw [hnv] at hp
  have c1 : Px.okLay 1000000 (Val.mk 2 n 0 [] [] []) [] = true := by
    unfold Px.okLay
    rw [Px.layV_int, List.nil_append, show Nat.ble (Lib.itoa n).length 1000000000 = true from Nat.ble_eq ▸ (by omega)]
    rfl
  have c2 : Px.okAt (Lib.itoa n) 0 = true := Px.okAt_iff.2 ⟨by omega, by omega, by omega⟩
  -- the noughts
  obtain ⟨k, hk⟩ : ∃ k : Nat, z.tmod 9 = (k : Int) ∧ k < 9 := by
    obtain ⟨a, rfl⟩ : ∃ a : Nat, z = (a : Int) := ⟨z.toNat, by omega⟩
    exact ⟨a % 9, rfl, by omega⟩
  obtain ⟨hk, hk9⟩ := hk
  -- beyond 64 bits
  have u1 : IntKind.u64.wrap m = m := by rw [wu64] <;> omega
  have d1 := dec_len 19 m.toNat (by omega)
  have fl : ([57, 50, 50, 51, 51, 55, 50, 48, 51, 54, 56, 53, 52, 55, 55, 53, 56, 48, 56] : List UInt8).length = 19 := rfl
  have hda : Px.allDig (([57, 50, 50, 51, 51, 55, 50, 48, 51, 54, 56, 53, 52, 55, 55, 53, 56, 48, 56] : List UInt8) ++ Px.dec m.toNat) = true := by
    have := Px.digits_all m.toNat
    unfold Px.allDig at this ⊢
    rw [List.all_append, dec_digits, this]; rfl
  have hdv : 9223372036854775808 < Px.dv 0 (([57, 50, 50, 51, 51, 55, 50, 48, 51, 54, 56, 53, 52, 55, 55, 53, 56, 48, 56] : List UInt8) ++ Px.dec m.toNat) := by
    have e : Px.dv 0 ([57, 50, 50, 51, 51, 55, 50, 48, 51, 54, 56, 53, 52, 55, 55, 53, 56, 48, 56] : List UInt8) = 9223372036854775808 := by kernel_rfl
    rw [Px.dv_app, e, dec_digits]
    have hne := Px.digits_ne m.toNat
    cases hd : Lib.decDigits m.toNat with
    | nil => exact absurd hd hne
    | cons b r => have := Px.dv_ge10 b r 9223372036854775808; omega
  have hne : (([57, 50, 50, 51, 51, 55, 50, 48, 51, 54, 56, 53, 52, 55, 55, 53, 56, 48, 56] : List UInt8) ++ Px.dec m.toNat) ≠ [] := fun h => by cases h
  obtain ⟨f1, f2⟩ := Px.num_far hda hne hdv
  have hfl : (([57, 50, 50, 51, 51, 55, 50, 48, 51, 54, 56, 53, 52, 55, 55, 53, 56, 48, 56] : List UInt8) ++ Px.dec m.toNat).length ≤ 40 := by rw [List.length_append, fl]; omega
  have hfar := Px.parse_far (by omega) (Px.all_numB hda) hne f1 f2
  have c3 : Px.okAt (([57, 50, 50, 51, 51, 55, 50, 48, 51, 54, 56, 53, 52, 55, 55, 53, 56, 48, 56] : List UInt8) ++ Px.dec m.toNat) 0 = true := Px.okAt_iff.2 ⟨by omega, by omega, by omega⟩
  have c4 : decide (([57, 50, 50, 51, 51, 55, 50, 48, 51, 54, 56, 53, 52, 55, 55, 53, 56, 48, 56] : List UInt8).length + (Px.dec m.toNat).length ≤ 2 ^ 60) = true := decide_eq_true (by rw [fl]; omega)
  have c5 : (leI 0 m && ltI m 18446744073709551616) = true := by rw [leI_eq, ltI_eq, Bool.and_eq_true, decide_eq_true_eq, decide_eq_true_eq]; omega
  have c6 : decide (Lib.itoa n = Lib.itoa n) = true := decide_eq_true rfl
  have c7 : ∀ a : Int, eqI a a = true := fun a => by rw [eqI_eq]; exact decide_eq_true rfl
  have c8 : (leI 0 0 && leI 0 (k : Int) && leI (k : Int) 100) = true := by rw [leI_eq, leI_eq, leI_eq, Bool.and_eq_true, Bool.and_eq_true, decide_eq_true_eq, decide_eq_true_eq, decide_eq_true_eq]; omega
  have c9 : ((k : Int) - 0).toNat = k := by omega
  unfold w6
  simp only [Tree.get_ite, Tree.get_leaf, Px.okLay'_eq, Px.layV'_eq, Px.layV_int, c1, c2, c6, hp, c7, hk, u1, c3, c4, c5, hfar, c9, cond_true, Bool.not_true, cond_false, Int.toNat_natCast, List.take_length]
  have ev : ∀ k n : Int, Px.vn (Val.mk k n 0 [] [] []) = n := fun _ _ => rfl
  have ek : ∀ k n : Int, Px.vk (Val.mk k n 0 [] [] []) = k := fun _ _ => rfl
  by_cases hneg : n < 0
  · have e0 : ltI n 0 = true := by rw [ltI_eq]; exact decide_eq_true hneg
    have ei : Lib.itoa n = 45 :: Lib.decDigits n.natAbs := by unfold Lib.itoa; rw [if_pos hneg]
    have ed : List.drop (Int.toNat 1) (Lib.itoa n) = Lib.decDigits n.natAbs := by rw [ei]; rfl
    rw [ei, List.length_cons] at hil
    have e1 : (leI 0 1 && leI 1 ((Lib.itoa n).length : Int) && leI ((Lib.itoa n).length : Int) ((Lib.itoa n).length : Int)) = true := by
      rw [ei]
      simp only [leI_eq, Bool.and_eq_true, decide_eq_true_eq, List.length_cons]; omega
    have ha : Px.allDig (List.replicate k 48 ++ Lib.decDigits n.natAbs) = true := Px.zeros_all k (Px.digits_all _)
    have hne2 : List.replicate k 48 ++ Lib.decDigits n.natAbs ≠ [] := fun h => Px.digits_ne _ (List.append_eq_nil_iff.1 h).2
    have hd : Px.dv 0 (List.replicate k 48 ++ Lib.decDigits n.natAbs) = n.natAbs := by rw [Px.zeros_dv, Px.digits_dv]
    obtain ⟨g1, g2⟩ := Px.num_minus ha hne2 (by rw [hd]; omega)
    rw [hd] at g2
    have hlen : (45 :: (List.replicate k 48 ++ Lib.decDigits n.natAbs)).length ≤ 40 := by rw [List.length_cons, List.length_append, List.length_replicate]; omega
    have hq := Px.parse_num (w := 45 :: (List.replicate k 48 ++ Lib.decDigits n.natAbs)) (by omega) (fun b hb => by
      rcases List.mem_cons.1 hb with rfl | hb
      · rfl
      · exact Px.all_numB ha b hb) (fun h => by cases h) g1
    have g3 : -(n.natAbs : Int) = n := by omega
    rw [g2, g3] at hq
    have e2 : Px.okAt (45 :: (List.replicate k 48 ++ Lib.decDigits n.natAbs)) 0 = true := Px.okAt_iff.2 ⟨by omega, by omega, by omega⟩
    rw [e0, e1, ed]
    simp only [cond_true]
    have h10 : ([(45 : UInt8)].length + (List.replicate k (48 : UInt8) ++ Lib.decDigits n.natAbs).length ≤ 2 ^ 60) := by rw [List.length_append, List.length_replicate]; simp only [List.length_cons, List.length_nil]; omega
    have h11 : (Lib.decDigits n.natAbs).length ≤ 1000000 := by omega
    rw [c8, decide_eq_true h11, decide_eq_true h10]
    simp only [Bool.and_true, cond_true, cond_false, decide_true, Bool.not_true, List.singleton_append, e2, hq, c7, ev, ek]
  · have e0 : ltI n 0 = false := by rw [ltI_eq]; exact decide_eq_false hneg
    have ei : Lib.itoa n = Lib.decDigits n.toNat := by unfold Lib.itoa; rw [if_neg hneg]
    rw [ei] at hil
    have ha : Px.allDig (List.replicate k 48 ++ Lib.decDigits n.toNat) = true := Px.zeros_all k (Px.digits_all _)
    have hne2 : List.replicate k 48 ++ Lib.decDigits n.toNat ≠ [] := fun h => Px.digits_ne _ (List.append_eq_nil_iff.1 h).2
    have hd : Px.dv 0 (List.replicate k 48 ++ Lib.decDigits n.toNat) = n.toNat := by rw [Px.zeros_dv, Px.digits_dv]
    obtain ⟨g1, g2⟩ := Px.num_plus ha hne2 (by rw [hd]; omega)
    rw [hd] at g2
    have hlen : (43 :: (List.replicate k 48 ++ Lib.decDigits n.toNat)).length ≤ 40 := by rw [List.length_cons, List.length_append, List.length_replicate]; omega
    have hq := Px.parse_num (w := 43 :: (List.replicate k 48 ++ Lib.decDigits n.toNat)) (by omega) (fun b hb => by
      rcases List.mem_cons.1 hb with rfl | hb
      · rfl
      · exact Px.all_numB ha b hb) (fun h => by cases h) g1
    have g3 : (n.toNat : Int) = n := by omega
    rw [g2, g3] at hq
    have e2 : Px.okAt (43 :: (List.replicate k 48 ++ Lib.decDigits n.toNat)) 0 = true := Px.okAt_iff.2 ⟨by omega, by omega, by omega⟩
    rw [e0, ei]
    simp only [cond_false]
    have h10 : ([(43 : UInt8)].length + (List.replicate k (48 : UInt8) ++ Lib.decDigits n.toNat).length ≤ 2 ^ 60) := by rw [List.length_append, List.length_replicate]; simp only [List.length_cons, List.length_nil]; omega
    have h11 : (Lib.decDigits n.toNat).length ≤ 1000000 := by omega
    rw [c8, decide_eq_true h11, decide_eq_true h10]
    simp only [Bool.and_true, cond_true, cond_false, decide_true, Bool.not_true, List.singleton_append, e2, hq, c7, ev, ek]
end Go.Vx
namespace Go.Vx
open Go Go.RowKit
/-- Nobody's own at the beginning. -/
def Gh.none : Gh := { blk := fun _ => Option.none, tok := fun _ => Option.none, ver := zero0, cur := zero0, oth := fun _ _ => False, bl := fun _ => (0, 0, 0) }
theorem none_pur (b o : Nat) : Gh.none.pur b o := by
  refine ⟨⟨fun _ h => ?_, fun _ _ _ h => ?_⟩, fun h => h⟩
  · cases h
  · cases h
theorem none_hrel {Key : Type} [DecidableEq Key] {E : Env Key} {w : World} (hg : ∀ g cs, E.gl g = some cs → Glob E Gh.none w cs g) : HRel E (fun i => ([] : List (Obj E.A))[i]?) Gh.none w where
  ob i o h := by simp at h
  lt _ _ h := by cases h
  inj _ _ _ h := by cases h
  tokb _ _ _ _ h := by cases h
  tokj _ _ _ _ _ _ _ _ h := by cases h
  gl := hg
  othf _ _ h := h.elim
theorem none_below {G' : Gh} {w w' : World} (h : Fr Gh.none w G' w') : Below w.heap.size w w' :=
  ⟨h.os, h.tape, h.output, h.size, fun k hk => (h.blk k hk ⟨fun _ h => (by cases h), fun _ _ _ h => (by cases h)⟩).1⟩
/-- The call, out of the contract. -/
theorem calls_of_valid {Key : Type} [DecidableEq Key] {E : Env Key} {f : FuncId} {spec : Spec E} (hV : Valid E f spec) {args : List (RV E.A)} {w : World} {vals : Array Value} {fn : Func} (hf : E.P.funcs[f]? = some fn) (hb : fn.body.isSome = true) (hnm : (fn.name == "runtime.NumGoroutine") = false) {b : Bool}
    (hs : (spec args []).get = some (.lf (.bool b), [])) (ha : ARel E Gh.none w args vals)
    (hg : ∀ g cs, E.gl g = some cs → Glob E Gh.none w cs g) :
    Calls E.P f vals w fun e w' => e = .returned (.bool b) ∧ Below w.heap.size w w' := by
  unfold Valid at hV
  have h := hV args [] _ _ hs Gh.none w vals ha (none_hrel hg) rfl rfl
  have hcf : (callFunc f vals).run E.P w = .ok (.enter f vals) w := by
    obtain ⟨c, hc⟩ := Option.isSome_iff_exists.1 hb
    unfold callFunc
    have hne : ¬ fn.name = "runtime.NumGoroutine" := by simpa using hnm
    simp [hf, hc, hne]
  rw [hcf] at h
  refine Calls.mono (show Calls E.P f vals w _ from h) ?_
  rintro e w' ⟨v, G', rfl, hbk⟩
  refine ⟨?_, none_below hbk.fr⟩
  cases hbk.val with
  | lf h => cases h; rfl
def IsRow (k : IntKind) (w : World) (a : Option Addr) (len cap : Nat) (zs : List Int) : Prop :=
  (a = Option.none ∧ len = 0 ∧ cap = 0 ∧ zs = []) ∨
  ∃ x, a = some x ∧ len ≤ cap ∧ cap ≤ maxLen ∧ zs.length = cap ∧ (∀ i, i < zs.length → w.cell? (x.add i) = some (.int k (zs.getD i 0))) ∧ ∀ n ∈ zs, (Lit.int k n).wf = true
theorem IsRow.len {k : IntKind} {w : World} {a : Option Addr} {len cap : Nat} {zs : List Int} (h : IsRow k w a len cap zs) : min len zs.length = len ∧ len ≤ big := by
  rcases h with ⟨_, rfl, _, rfl⟩ | ⟨_, _, h1, h2, h3, _⟩
  · exact ⟨rfl, by decide⟩
  · exact ⟨by omega, by unfold big; unfold maxLen at h2; omega⟩
theorem arel1 {w : World} {l0 : Leaf E.A} {v0 : Value} (h0 : Rep E Gh.none w l0 v0) : ARel E Gh.none w [.lf l0] #[v0] := by
  refine ⟨rfl, fun j r hj => ?_⟩
  match j with
  | 0 => injection hj with hj; subst hj; exact .lf h0
  | j + 1 => cases hj
theorem arel2 {w : World} {l0 l1 : Leaf E.A} {v0 v1 : Value} (h0 : Rep E Gh.none w l0 v0) (h1 : Rep E Gh.none w l1 v1) : ARel E Gh.none w [.lf l0, .lf l1] #[v0, v1] := by
  refine ⟨rfl, fun j r hj => ?_⟩
  match j with
  | 0 => injection hj with hj; subst hj; exact .lf h0
  | 1 => injection hj with hj; subst hj; exact .lf h1
  | j + 2 => cases hj
theorem arel3 {w : World} {l0 l1 l2 : Leaf E.A} {v0 v1 v2 : Value} (h0 : Rep E Gh.none w l0 v0) (h1 : Rep E Gh.none w l1 v1) (h2 : Rep E Gh.none w l2 v2) : ARel E Gh.none w [.lf l0, .lf l1, .lf l2] #[v0, v1, v2] := by
  refine ⟨rfl, fun j r hj => ?_⟩
  match j with
  | 0 => injection hj with hj; subst hj; exact .lf h0
  | 1 => injection hj with hj; subst hj; exact .lf h1
  | 2 => injection hj with hj; subst hj; exact .lf h2
  | j + 3 => cases hj
theorem arel4 {w : World} {l0 l1 l2 l3 : Leaf E.A} {v0 v1 v2 v3 : Value} (h0 : Rep E Gh.none w l0 v0) (h1 : Rep E Gh.none w l1 v1) (h2 : Rep E Gh.none w l2 v2) (h3 : Rep E Gh.none w l3 v3) :
    ARel E Gh.none w [.lf l0, .lf l1, .lf l2, .lf l3] #[v0, v1, v2, v3] := by
  refine ⟨rfl, fun j r hj => ?_⟩
  match j with
  | 0 => injection hj with hj; subst hj; exact .lf h0
  | 1 => injection hj with hj; subst hj; exact .lf h1
  | 2 => injection hj with hj; subst hj; exact .lf h2
  | 3 => injection hj with hj; subst hj; exact .lf h3
  | j + 4 => cases hj
theorem wf_inRb {k : IntKind} {n : Int} (h : (Lit.int k n).wf = true) : inRb k n = true := by
  simpa [Lit.wf, inRb] using h
theorem row_ok {α : Type} {zs : List Int} {len eb : Nat} (f : Int → α) (h : min len zs.length = len ∧ len ≤ big) (y : len * eb ≤ 140737488355328) : ((zs.take len).map f).length ≤ big ∧ ((zs.take len).map f).length * eb ≤ 140737488355328 := by
  rw [List.length_map, List.length_take, h.1]
  exact ⟨h.2, y⟩
theorem row_in {k : IntKind} {w : World} {a : Option Addr} {len cap : Nat} {zs : List Int} (h : IsRow k w a len cap zs) : ∀ z ∈ (zs.take len).map (fun z : Int => z), inRb k z = true := by
  intro z hz
  rw [List.map_id'] at hz
  have hm := List.mem_of_mem_take hz
  rcases h with ⟨_, _, _, rfl⟩ | ⟨_, _, _, _, _, _, h⟩
  · cases hm
  · exact wf_inRb (h z hm)
theorem sized_row {H : Type} {P : Program} {ts : List TypeId} {ds : List (DataW H)} (h : (DataW.weightsEach P ts ds).all (· ≤ reachBytes) = true) {j : Nat} {t e : TypeId} {k : IntKind} {zs : List Int} {len eb : Nat}
    (ht : ts[j]? = some t) (hd : ds[j]? = some (.slice (Go.ChangeShapes.lits k (zs.take len)) (Go.ChangeShapes.lits k (zs.drop len)))) (hu : P.underlying t = some (.slice e)) (hb : P.bytesOf e = eb) (hl : len ≤ zs.length) : len * eb ≤ 140737488355328 := by
  have h1 := sized_slice h ht hd hu
  have h2 := reachBytes_lt
  rw [hb] at h1
  have e1 : (Go.ChangeShapes.lits (H := H) k (zs.take len)).length = len := by simp [Go.ChangeShapes.lits]; omega
  rw [e1] at h1
  have : len * eb ≤ (len + (Go.ChangeShapes.lits (H := H) k (zs.drop len)).length) * eb := Nat.mul_le_mul_right _ (Nat.le_add_right _ _)
  omega
theorem rep_row {K0 : K} {ik : IntKind} (f : Int → E.A K0) (hs : E.sz K0 = 1) (henc : ∀ z, inRb ik z = true → E.enc K0 (f z) = [.int ik z]) {w : World}
    {a : Option Addr} {len cap : Nat} {zs : List Int} (h : IsRow ik w a len cap zs) : Rep E Gh.none w (.sl K0 ((zs.take len).map f)) (.slice a len cap) := by
  rcases h with ⟨rfl, rfl, rfl, rfl⟩ | ⟨x, rfl, hl, hm, hz, hc, hw⟩
  · exact .sl0 K0 _ _ (by decide)
  · rcases Nat.eq_zero_or_pos len with h0 | h0
    · subst h0; exact .sl0 K0 _ _ hm
    · have hx : x.spot = Option.none := by
        have := hc 0 (by omega)
        rw [show x.add 0 = x from rfl] at this
        unfold World.cell? at this
        split at this
        · cases hq : x.spot with
          | none => rfl
          | some q => rw [hq] at this; simp at this
        · cases this
      obtain ⟨b, off, sp⟩ := x
      obtain rfl : sp = Option.none := hx
      have e : ((zs.take len).map f).length = len := by simp; omega
      have hrep := Rep.sl (E := E) (G := Gh.none) (w := w) K0 ((zs.take len).map f) b off cap (fun i _ => .int ik (zs.getD i 0)) (by rw [e]; exact hl) hm
        (fun i j hi hj => by
          rw [hs] at hj ⊢
          obtain rfl : j = 0 := by omega
          refine ⟨?_, none_pur _ _⟩
          have := hc i (by rw [e] at hi; omega)
          simp only [Addr.add] at this
          split at this
          · rename_i h; subst h; simpa using this
          · simpa using this)
        (fun i y hy j l hl' => by
          rw [List.getElem?_map, Option.map_eq_some_iff] at hy
          obtain ⟨z, hz1, rfl⟩ := hy
          have hlt : i < len := by
            have := (List.getElem?_eq_some_iff.1 hz1).1
            simp at this; omega
          rw [List.getElem?_take_of_lt hlt] at hz1
          have hmem : z ∈ zs := List.mem_of_getElem? hz1
          rw [henc z (wf_inRb (hw z hmem))] at hl'
          match j with
          | 0 =>
            injection hl' with hl'
            subst hl'
            have : zs.getD i 0 = z := by rw [List.getD, hz1]; rfl
            rw [this]
            exact .int (wf_inRb (hw z hmem))
          | j + 1 => cases hl')
      rw [e] at hrep
      exact hrep
theorem enc_u8 (z : Int) (h : inRb .u8 z = true) : E.enc .u8 (UInt8.ofNat z.toNat) = [.int .u8 z] := by
  show [Leaf.int IntKind.u8 ((UInt8.ofNat z.toNat).toNat : Int)] = _
  simp only [inRb, Bool.and_eq_true, decide_eq_true_eq] at h
  have h1 : (0 : Int) ≤ z := h.1
  have h2 : z ≤ 255 := h.2
  have : ((UInt8.ofNat z.toNat).toNat : Int) = z := by simp; omega
  rw [this]; rfl
theorem int_of_shaped {P : Program} {w : World} {g : Nat} {t : TypeId} {zero : Array Value} {k : IntKind} (h : w.ShapedOpen P) (hg : g < P.globals.size)
    (h0 : ((begin P (fun _ _ => 0) default).world.heap[g]?).bind Obj.row? = some (zero, t)) (hz : zero.size = 1) (hb : P.buildable t = true) (hc : P.cellTypes P.depth t = some [t]) (hu : P.underlying t = some (.int k)) :
    ∃ m, k.has m ∧ w.cell? ⟨g, 0, none⟩ = some (.int k m) := by
  obtain ⟨cs, hh, hs, hr⟩ := h.1 g zero t hg h0
  obtain ⟨ts, hts, _, hall⟩ := hr hb
  rw [hc] at hts
  cases hts
  have h1 : 0 < cs.size := by omega
  obtain ⟨u, hu', hok⟩ := hall 0 cs[0] (by simp [h1])
  have : u = t := by simpa using hu'.symm
  subst this
  have hcell : w.cell? ⟨g, 0, none⟩ = some cs[0] := by simp [World.cell?, hh, h1]
  rw [hcell]
  unfold Cell.ok at hok
  rw [hu] at hok
  cases hv : cs[0] <;> rw [hv] at hok <;> simp at hok
  case int k' n => exact ⟨n, hok.2, by rw [hok.1]⟩
theorem shape_of_shaped {P : Program} {w : World} {g : Nat} {t : TypeId} {zero : Array Value} {n : Nat} (h : w.ShapedOpen P) (hg : g < P.globals.size)
    (h0 : ((begin P (fun _ _ => 0) default).world.heap[g]?).bind Obj.row? = some (zero, t)) (hz : zero.size = n) : ∃ t, w.shape? g = some (t, n) := by
  obtain ⟨cs, hh, hs, _⟩ := h.1 g zero t hg h0
  refine ⟨t, ?_⟩
  unfold World.shape?
  rw [hh]
  simp [hs, hz]
/-- A variable of the program's that holds these numbers. -/
theorem glob_of_cells {w : World} {ik : IntKind} {n g : Nat} (f : Nat → Int) (hf : ∀ i, i < n → inRb ik (f i) = true) (hc : ∀ i, i < n → w.cell? ⟨g, i, none⟩ = some (.int ik (f i))) (hs : ∃ t, w.shape? g = some (t, n)) (hga : E.ga g = none) :
    Glob E Gh.none w ((List.range n).map fun c => .int ik (f c)) g := by
  refine ⟨.pp _ g 0 (fun j => .int ik (f j)) (List.all_eq_true.2 fun l hl => ?_) (fun j hj => ⟨?_, none_pur _ _⟩) (fun j l hl => ?_), ?_, fun k hk => ?_⟩
  · obtain ⟨c, _, rfl⟩ := List.mem_map.1 hl
    rfl
  · rw [Nat.zero_add]
    exact hc j (by simpa using hj)
  · rw [List.getElem?_map, Option.map_eq_some_iff] at hl
    obtain ⟨z, hz, rfl⟩ := hl
    have hj : j < n := by
      have := (List.getElem?_eq_some_iff.1 hz).1
      simpa using this
    rw [List.getElem?_range hj] at hz
    injection hz with hz; subst hz
    exact .int (hf j hj)
  · rw [List.length_map, List.length_range]; exact hs
  · rw [hga] at hk; cases hk
theorem glob_of_tab {w : World} (h : Lib.TabIs E.P w "internal/strconv.uint64pow10" .u64 Lib.pow10Tab) (hs : ∃ t, w.shape? 2 = some (t, 20)) : Glob E Gh.none w ((Go.Lib.pow10Tab).map fun z => .int .u64 z) 2 := by
  have hg : E.P.globalNamed "internal/strconv.uint64pow10" = some 2 := by kernel_rfl
  have e : ((Go.Lib.pow10Tab).map fun z => (Leaf.int (A := E.A) .u64 z)) = (List.range 20).map fun c => .int .u64 (Lib.pow10Tab.getD c 0) := by kernel_rfl
  rw [e]
  refine glob_of_cells (fun c => Lib.pow10Tab.getD c 0) (fun i hi => ?_) (fun i hi => h.cell hg i hi) hs rfl
  have : (List.range 20).all (fun i => inRb .u64 (Lib.pow10Tab.getD i 0)) = true := by decide
  exact List.all_eq_true.1 this i (List.mem_range.2 hi)
theorem first_of_reads {w : World} (h : Lib.VarReads E.P w "unicode/utf8.first" Lib.firstData) (c : Nat) (hc : c < 256) : w.cell? ⟨3, c, none⟩ = some (.int .u8 (Lib.firstT c : Int)) := by
  obtain ⟨g, t, cs, fuel, p, hg, hty, hvar, hd⟩ := h
  obtain rfl := Option.some.inj ((show E.P.globalNamed "unicode/utf8.first" = some 3 from by kernel_rfl).symm.trans hg)
  obtain rfl := Option.some.inj ((show (E.P.globals[3]?).map (·.type) = some 170 from by kernel_rfl).symm.trans hty)
  have hcs := Lib.cells_of_tab (t := 170) (e := 5) (n := 256) (by kernel_rfl) (by kernel_rfl) (by kernel_rfl) (by kernel_rfl) hd
  have := World.var?_cell hg hvar c
  rw [this, ← Array.getElem?_toList, hcs]
  simp [Lib.firstTab, hc]
theorem accept_of_reads {w : World} (h : Lib.VarReads E.P w "unicode/utf8.acceptRanges" Lib.acceptData) (i : Nat) (hi : i < 16) :
    w.cell? ⟨4, 2 * i, none⟩ = some (.int .u8 (Lib.accLo i : Int)) ∧ w.cell? ⟨4, 2 * i + 1, none⟩ = some (.int .u8 (Lib.accHi i : Int)) := by
  obtain ⟨g, t, cs, fuel, p, hg, hty, hvar, hd⟩ := h
  obtain rfl := Option.some.inj ((show E.P.globalNamed "unicode/utf8.acceptRanges" = some 4 from by kernel_rfl).symm.trans hg)
  obtain rfl := Option.some.inj ((show (E.P.globals[4]?).map (·.type) = some 173 from by kernel_rfl).symm.trans hty)
  obtain ⟨fuel', d, q, hdi, he⟩ := Lib.array_elem (n := 16) (e := 172) (by kernel_rfl) hd i hi
  simp only [List.getElem?_map, List.getElem?_range hi, Option.map_some, Option.some.injEq] at hdi
  subst hdi
  have c2 : E.P.cellsOf 172 = 2 := by kernel_rfl
  have c5 : E.P.cellsOf 5 = 1 := by kernel_rfl
  have u5 : E.P.underlying 5 = some (.int .u8) := by kernel_rfl
  rw [c2] at he
  have hcs := Lib.ints_of_struct Go.Proofs.Tryz.underlying172 (fun j f hj => by
    match j, hj with
    | 0, hj => simp at hj; subst hj; exact ⟨u5, rfl, c5⟩
    | 1, hj => simp at hj; subst hj; exact ⟨u5, rfl, c5⟩
    | j + 2, hj => simp at hj) (c2.trans rfl) he
  have e0 := congrArg (·[0]?) hcs
  have e1 := congrArg (·[1]?) hcs
  simp only [List.getElem?_take, List.getElem?_drop] at e0 e1
  constructor
  · rw [World.var?_cell hg hvar (2 * i), ← Array.getElem?_toList]
    simpa [Nat.mul_comm] using e0
  · rw [World.var?_cell hg hvar (2 * i + 1), ← Array.getElem?_toList]
    simpa [Nat.mul_comm] using e1
theorem err_ty (u : TypeId) (hu : E.P.typeName? 3 u = some "*errors.errorString") : u = 181 := by
  have e : some "*errors.errorString" = some ("*" ++ "errors.errorString") := by decide +kernel
  rw [e] at hu
  exact typeName_ptr_named (P := E.P) (nm := "errors.errorString") (tp := 181) (by decide +kernel) (by decide +kernel) (by decide +kernel) u hu
theorem err_of_laid {P : Program} {w : World} {n : String} {d : DataW Unit} {g ti : Nat} {ms : Array (String × TypeId)} {e : TypeId} (hg : P.globalNamed n = some g) (hty : (P.globals[g]?).map (·.type) = some ti) (hms : P.underlying ti = some (.interface ms))
    (hnm : ∀ u, P.typeName? 3 u = some "*errors.errorString" → u = 181) (hpt : P.underlying 181 = some (.pointer e)) (h : laidMet P [(n, .iface "*errors.errorString" (.ptr d))] w) :
    ∃ v : Value, w.cell? ⟨g, 0, none⟩ = some (.iface 181 v) ∧ v.oneCell' = true := by
  obtain ⟨ps, ⟨g', t', cs, fuel, p, q, h1, h2, hvar, hd, hq, rfl⟩, _, hall⟩ := h
  obtain rfl := Option.some.inj (hg.symm.trans h1)
  obtain rfl := Option.some.inj (hty.symm.trans h2)
  obtain ⟨fuel', u, v, hcs, hn, _⟩ := iface_of_trod hms hd
  have hc0 : w.cell? ⟨g, 0, none⟩ = some (.iface u v) := by
    rw [World.var?_cell hg hvar 0, ← Array.getElem?_toList, hcs]; rfl
  have hsz : cs.size = 1 := by rw [← Array.length_toList, hcs]; rfl
  have hok := (hall g 0 (by rw [hsz]; simp [MemPlace.row])).2 u v hc0
  obtain rfl := hnm u hn
  obtain ⟨a, rfl⟩ := WideShapes.okWide_pointer hpt hok
  exact ⟨_, hc0, rfl⟩
theorem glob_of_err {w : World} {g : Nat} (h : ∃ v : Value, w.cell? ⟨g, 0, none⟩ = some (.iface 181 v) ∧ v.oneCell' = true) (hs : ∃ t, w.shape? g = some (t, 1)) (hga : E.ga g = none) : Glob E Gh.none w [.ifc 181 .dead] g := by
  obtain ⟨v, hc, hv⟩ := h
  refine ⟨.pp _ g 0 (fun _ => .iface 181 v) rfl (fun j hj => ⟨?_, none_pur _ _⟩) (fun j l hl => ?_), hs, fun k hk => by rw [hga] at hk; cases hk⟩
  · have hj' : j < 1 := hj
    obtain rfl : j = 0 := by omega
    exact hc
  · match j, hl with
    | 0, hl => injection hl with hl; subst hl; exact .ifc (.dead hv)
    | j + 1, hl => cases hl
def errS : DataW Unit := .agg [.lit (.string [105, 110, 118, 97, 108, 105, 100, 32, 115, 121, 110, 116, 97, 120])]
def errR : DataW Unit := .agg [.lit (.string [118, 97, 108, 117, 101, 32, 111, 117, 116, 32, 111, 102, 32, 114, 97, 110, 103, 101])]
theorem gl_of_laid {w : World} {laid : List (String × DataW Unit)} (hf : laid.filter (fun x => x.1 == "internal/strconv.uint64pow10") = [("internal/strconv.uint64pow10", Lib.tabData .u64 Lib.pow10Tab)])
    (hf2 : laid.filter (fun x => x.1 == "unicode/utf8.first") = [("unicode/utf8.first", Lib.firstData)]) (hf3 : laid.filter (fun x => x.1 == "unicode/utf8.acceptRanges") = [("unicode/utf8.acceptRanges", Lib.acceptData)])
    (hf5 : laid.filter (fun x => x.1 == "strconv.ErrSyntax") = [("strconv.ErrSyntax", .iface "*errors.errorString" (.ptr errS))]) (hf6 : laid.filter (fun x => x.1 == "strconv.ErrRange") = [("strconv.ErrRange", .iface "*errors.errorString" (.ptr errR))])
    (h : laidMetH E.P laid w) (hs : w.ShapedOpen E.P) :
    ∀ g cs, E.gl g = some cs → Glob E Gh.none w cs g := by
  intro g cs hg
  match g, hg with
  | 0, hg => cases hg
  | 1, hg =>
    injection hg with hg; subst hg
    obtain ⟨m, hm, hc⟩ := int_of_shaped (g := 1) (t := 3) (k := .i64) (zero := #[.int .i64 0]) hs (by decide +kernel) (by kernel_rfl) rfl (by kernel_rfl) (by kernel_rfl) (by kernel_rfl)
    refine ⟨.pp _ 1 0 (fun _ => .int .i64 m) rfl (fun j hj => ⟨?_, none_pur _ _⟩) (fun j l hl => ?_), shape_of_shaped (g := 1) (t := 3) (zero := #[.int .i64 0]) hs (by decide +kernel) (by kernel_rfl) rfl, fun k hk => ?_⟩
    · have hj' : j < 1 := hj
      obtain rfl : j = 0 := by omega
      exact hc
    · match j, hl with
      | 0, hl => injection hl with hl; subst hl; exact .dead rfl
      | j + 1, hl => cases hl
    · injection hk with hk; subst hk
      refine ⟨m, ?_, hc, none_pur _ _⟩
      unfold IntKind.has at hm
      unfold inRb
      simpa using hm
  | 2, hg =>
    injection hg with hg; subst hg
    have h1 := laidMetH.filter (fun x => x.1 == "internal/strconv.uint64pow10") h
    rw [hf] at h1
    have h2 : laidMet E.P [("internal/strconv.uint64pow10", Lib.tabData .u64 Lib.pow10Tab)] w := h1
    have h3 : Lib.TabIs E.P w "internal/strconv.uint64pow10" .u64 Lib.pow10Tab := Lib.tabIs_of_head (g := 2) (t := 150) (e := 54) (n := 20) (by kernel_rfl) (by kernel_rfl) (by kernel_rfl) (by kernel_rfl) (by kernel_rfl) (by kernel_rfl) h2
    exact glob_of_tab h3 (shape_of_shaped (g := 2) (t := 150) (zero := Array.replicate 20 (.int .u64 0)) hs (by decide +kernel) (by kernel_rfl) Array.size_replicate)
  | 3, hg =>
    injection hg with hg; subst hg
    have h1 := laidMetH.filter (fun x => x.1 == "unicode/utf8.first") h
    rw [hf2] at h1
    have h2 : laidMet E.P [("unicode/utf8.first", Lib.firstData)] w := h1
    have h3 := Lib.laidMet.reads h2 (List.mem_singleton.2 rfl)
    refine glob_of_cells (fun c => (Lib.firstT c : Int)) (fun i hi => ?_) (first_of_reads h3) (shape_of_shaped (g := 3) (t := 170) (zero := Array.replicate 256 (.int .u8 0)) hs (by decide +kernel) (by kernel_rfl) Array.size_replicate) rfl
    have : (List.range 256).all (fun i => inRb .u8 (Lib.firstT i : Int)) = true := by decide +kernel
    exact List.all_eq_true.1 this i (List.mem_range.2 hi)
  | 4, hg =>
    injection hg with hg; subst hg
    have h1 := laidMetH.filter (fun x => x.1 == "unicode/utf8.acceptRanges") h
    rw [hf3] at h1
    have h2 : laidMet E.P [("unicode/utf8.acceptRanges", Lib.acceptData)] w := h1
    have h3 := Lib.laidMet.reads h2 (List.mem_singleton.2 rfl)
    refine glob_of_cells (fun c => if c % 2 = 0 then (Lib.accLo (c / 2) : Int) else (Lib.accHi (c / 2) : Int)) (fun i hi => ?_) (fun i hi => ?_) (shape_of_shaped (g := 4) (t := 173) (zero := Array.replicate 32 (.int .u8 0)) hs (by decide +kernel) (by kernel_rfl) Array.size_replicate) rfl
    · have : (List.range 32).all (fun c => inRb .u8 (if c % 2 = 0 then (Lib.accLo (c / 2) : Int) else (Lib.accHi (c / 2) : Int))) = true := by decide +kernel
      exact List.all_eq_true.1 this i (List.mem_range.2 hi)
    · obtain ⟨k1, k2⟩ := accept_of_reads h3 (i / 2) (by omega)
      rcases Nat.mod_two_eq_zero_or_one i with e | e
      · rw [if_pos e]
        rw [show 2 * (i / 2) = i by omega] at k1
        exact k1
      · rw [if_neg (by omega)]
        rw [show 2 * (i / 2) + 1 = i by omega] at k2
        exact k2
  | 5, hg =>
    injection hg with hg; subst hg
    have h1 := laidMetH.filter (fun x => x.1 == "strconv.ErrSyntax") h
    rw [hf5] at h1
    have h2 : laidMet E.P [("strconv.ErrSyntax", .iface "*errors.errorString" (.ptr errS))] w := h1
    exact glob_of_err (err_of_laid (g := 5) (ti := 103) (e := 183) (by kernel_rfl) (by kernel_rfl) Go.Proofs.Tryz.underlying103 err_ty (by kernel_rfl) h2) (shape_of_shaped (g := 5) (t := 103) (zero := #[.nilIface]) hs (by decide +kernel) (by kernel_rfl) rfl) rfl
  | 6, hg =>
    injection hg with hg; subst hg
    have h1 := laidMetH.filter (fun x => x.1 == "strconv.ErrRange") h
    rw [hf6] at h1
    have h2 : laidMet E.P [("strconv.ErrRange", .iface "*errors.errorString" (.ptr errR))] w := h1
    exact glob_of_err (err_of_laid (g := 6) (ti := 103) (e := 183) (by kernel_rfl) (by kernel_rfl) Go.Proofs.Tryz.underlying103 err_ty (by kernel_rfl) h2) (shape_of_shaped (g := 6) (t := 103) (zero := #[.nilIface]) hs (by decide +kernel) (by kernel_rfl) rfl) rfl
  | g + 7, hg => cases hg
variable {H : Type} {enc : TypeId × Value → H}
/-- From the contract to the row, the world's shape kept. -/
theorem returns_shaped {a : Assume} {C : Checked} {os : Os} {f : FuncId} {fn : Func} {s : ChangeSpec} {conds : List PathCond} {apart fresh handsOn again : Bool} {X : World → Array Value → Prop}
    (hX : ∀ (w w' : World) (args : Array Value), w.heap = w'.heap → X w args → X w' args)
    (own : ownKnob C.prog.godebug = none) (started : os.Started) (noInit : C.prog.inits.idxOf? f = none) (hfn : C.prog.funcs[f]? = some fn)
    (witness : ∃ (w : World) (tape : Tape) (i : Input), w.os = os ∧ (w.forCall tape i).Shaped C.prog ∧ i.vars = [] ∧ Input.okWide C.prog (w.forCall tape i) .any w.heap.size f i ∧
      ((s.pre enc C.prog fn conds apart (w.forCall tape i).memory i.args ∧ X (w.forCall tape i).memory i.args) ∧ sizedMet enc C.prog fn (OpenSpec.ofChange s) apart (w.forCall tape i).memory i.args) ∧ a.holds C.prog (lone (Frame.enter C.prog f i.args .normal) [] (w.forCall tape i)))
    (contract : ∀ (W : World) (base : Nat) (args : Array Value) (ds gs : List (DataW H)) (before : List MemPlace),
      (∀ (j : Nat) t v, fn.params[j]? = some t → args[j]? = some v → Value.okWide C.prog W .any base t v) →
      DataW.Whole enc C.prog fn.params.toList s.vars apart W args.toList ds gs before →
      conds.all (PathCond.test C.prog ⟨fn.params.toList, ds, s.plain.varTypes C.prog, gs⟩) = true →
      (DataW.weightsEach C.prog (fn.params.toList ++ s.plain.varTypes C.prog) (ds ++ gs)).all (· ≤ reachBytes) = true → X W args → W.ShapedOpen C.prog →
      Calls C.prog f args W fun e W' => ∃ v, e = .returned v ∧ s.post enc C.prog fn apart fresh handsOn again W args v W') :
    ReturnsInHanded a C os f .any (fun w args => (s.pre enc C.prog fn conds apart w args ∧ X w args) ∧ sizedMet enc C.prog fn (OpenSpec.ofChange s) apart w args) (s.post enc C.prog fn apart fresh handsOn again) := by
  refine returnsInHanded_of_calls own started noInit witness ?_
  intro w tape i _ hsh _ hok hpre _
  obtain ⟨_, _, _, fn', hfn', _, _, _, _, hval⟩ := hok
  have e : fn' = fn := Option.some.inj (hfn'.symm.trans hfn)
  subst e
  obtain ⟨⟨⟨ds, gs, before, hw, hc⟩, hx⟩, hz⟩ := hpre
  have hw' := DataW.Whole.of_heap (w' := w.forCall tape i) (by rfl) hw
  refine (contract (w.forCall tape i) w.heap.size i.args ds gs before hval hw' hc (hz.weights hw) (hX _ _ _ (by rfl) hx) hsh).mono fun e W' ⟨v, he, hp⟩ => ?_
  subst he
  exact ChangeSpec.post_blind hp
end Go.Vx
