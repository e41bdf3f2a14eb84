/-
  Part 6 of the proof: the second reading of the model, its laws, and the functions' contracts. Lemmas alone.
-/
import Derived.Test.YtjnmckakmljejaaGreatDoorA1
import Derived.Test.YtjnmckakmljejaaGreatDoorA3
import Derived.Test.YtjnmckakmljejaaGreatDoorA5
set_option linter.unusedSectionVars false
set_option linter.unusedVariables false
set_option linter.unusedSimpArgs false
noncomputable section
namespace Go.Vx
open Go
def G46 : FuncId → Option (Spec E) := fun _ => none
theorem hG46 (hL : Laws E) : ∀ f spec, G46 f = some spec → Valid E f spec := by
 intro f spec h
 cases h
def w46 (a0Kind : Int) (a0Num : Int) (a0Gen : Int) (a0Text : List UInt8) (a0List : List Val) (a0Keys : List (List UInt8)) : Tree (RV E.A × List (Obj E.A)) := .ite (eqI a0Num 0) (.ite (eqI a0Kind 0) (.ite (eqI a0Gen 0) (.ite (decide (a0Text = [])) (.leaf (.lf (.bool (eqI (IntKind.i64.wrap ((↑a0List.length : Int) + (↑a0Keys.length : Int))) (0 : Int))), [])) (.leaf (.lf (.bool false), []))) (.leaf (.lf (.bool false), []))) (.ite (eqI a0Kind 1) (.ite (eqI a0Kind 1) (.ite (eqI a0Gen 0) (.ite (decide (a0Text = [])) (.leaf (.lf (.bool (eqI (IntKind.i64.wrap ((↑a0List.length : Int) + (↑a0Keys.length : Int))) (0 : Int))), [])) (.leaf (.lf (.bool false), []))) (.leaf (.lf (.bool false), []))) (.ite (eqI a0Kind 3) (.ite (eqI a0Kind 3) (.ite (eqI a0Gen 0) (.leaf (.lf (.bool (eqI (IntKind.i64.wrap ((↑a0List.length : Int) + (↑a0Keys.length : Int))) (0 : Int))), [])) (.leaf (.lf (.bool false), []))) (.ite (eqI a0Kind 5) (.ite (eqI a0Gen 0) (.ite (decide (a0Text = [])) (.leaf (.lf (.bool (eqI (↑a0Keys.length : Int) 0)), [])) (.leaf (.lf (.bool false), []))) (.leaf (.lf (.bool false), []))) (.ite (eqI a0Kind 6) (.ite (eqI a0Gen 0) (.ite (decide (a0Text = [])) (.leaf (.lf (.bool (eqI (↑a0Keys.length : Int) (↑a0List.length : Int))), [])) (.leaf (.lf (.bool false), []))) (.leaf (.lf (.bool false), []))) (.ite (eqI a0Kind 7) (.ite (decide (a0Text = [])) (.leaf (.lf (.bool (eqI (IntKind.i64.wrap ((↑a0List.length : Int) + (↑a0Keys.length : Int))) (0 : Int))), [])) (.leaf (.lf (.bool false), []))) (.leaf (.lf (.bool false), [])))))) (.ite (eqI a0Kind 4) (.ite (eqI a0Gen 0) (.leaf (.lf (.bool (eqI (IntKind.i64.wrap ((↑a0List.length : Int) + (↑a0Keys.length : Int))) (0 : Int))), [])) (.leaf (.lf (.bool false), []))) (.ite (eqI a0Kind 5) (.ite (eqI a0Gen 0) (.ite (decide (a0Text = [])) (.leaf (.lf (.bool (eqI (↑a0Keys.length : Int) 0)), [])) (.leaf (.lf (.bool false), []))) (.leaf (.lf (.bool false), []))) (.ite (eqI a0Kind 6) (.ite (eqI a0Gen 0) (.ite (decide (a0Text = [])) (.leaf (.lf (.bool (eqI (↑a0Keys.length : Int) (↑a0List.length : Int))), [])) (.leaf (.lf (.bool false), []))) (.leaf (.lf (.bool false), []))) (.ite (eqI a0Kind 7) (.ite (decide (a0Text = [])) (.leaf (.lf (.bool (eqI (IntKind.i64.wrap ((↑a0List.length : Int) + (↑a0Keys.length : Int))) (0 : Int))), [])) (.leaf (.lf (.bool false), []))) (.leaf (.lf (.bool false), [])))))))) (.ite (eqI a0Kind 2) (.ite (eqI a0Gen 0) (.ite (decide (a0Text = [])) (.leaf (.lf (.bool (eqI (IntKind.i64.wrap ((↑a0List.length : Int) + (↑a0Keys.length : Int))) (0 : Int))), [])) (.leaf (.lf (.bool false), []))) (.leaf (.lf (.bool false), []))) (.ite (eqI a0Kind 3) (.ite (eqI a0Kind 3) (.ite (eqI a0Gen 0) (.leaf (.lf (.bool (eqI (IntKind.i64.wrap ((↑a0List.length : Int) + (↑a0Keys.length : Int))) (0 : Int))), [])) (.leaf (.lf (.bool false), []))) (.ite (eqI a0Kind 5) (.ite (eqI a0Gen 0) (.ite (decide (a0Text = [])) (.leaf (.lf (.bool (eqI (↑a0Keys.length : Int) 0)), [])) (.leaf (.lf (.bool false), []))) (.leaf (.lf (.bool false), []))) (.ite (eqI a0Kind 6) (.ite (eqI a0Gen 0) (.ite (decide (a0Text = [])) (.leaf (.lf (.bool (eqI (↑a0Keys.length : Int) (↑a0List.length : Int))), [])) (.leaf (.lf (.bool false), []))) (.leaf (.lf (.bool false), []))) (.ite (eqI a0Kind 7) (.ite (decide (a0Text = [])) (.leaf (.lf (.bool (eqI (IntKind.i64.wrap ((↑a0List.length : Int) + (↑a0Keys.length : Int))) (0 : Int))), [])) (.leaf (.lf (.bool false), []))) (.leaf (.lf (.bool false), [])))))) (.ite (eqI a0Kind 4) (.ite (eqI a0Gen 0) (.leaf (.lf (.bool (eqI (IntKind.i64.wrap ((↑a0List.length : Int) + (↑a0Keys.length : Int))) (0 : Int))), [])) (.leaf (.lf (.bool false), []))) (.ite (eqI a0Kind 5) (.ite (eqI a0Gen 0) (.ite (decide (a0Text = [])) (.leaf (.lf (.bool (eqI (↑a0Keys.length : Int) 0)), [])) (.leaf (.lf (.bool false), []))) (.leaf (.lf (.bool false), []))) (.ite (eqI a0Kind 6) (.ite (eqI a0Gen 0) (.ite (decide (a0Text = [])) (.leaf (.lf (.bool (eqI (↑a0Keys.length : Int) (↑a0List.length : Int))), [])) (.leaf (.lf (.bool false), []))) (.leaf (.lf (.bool false), []))) (.ite (eqI a0Kind 7) (.ite (decide (a0Text = [])) (.leaf (.lf (.bool (eqI (IntKind.i64.wrap ((↑a0List.length : Int) + (↑a0Keys.length : Int))) (0 : Int))), [])) (.leaf (.lf (.bool false), []))) (.leaf (.lf (.bool false), [])))))))))) (.ite (eqI a0Kind 0) (.leaf (.lf (.bool false), [])) (.ite (eqI a0Kind 1) (.ite (eqI a0Kind 1) (.ite (eqI a0Gen 0) (.ite (decide (a0Text = [])) (.leaf (.lf (.bool (eqI (IntKind.i64.wrap ((↑a0List.length : Int) + (↑a0Keys.length : Int))) (0 : Int))), [])) (.leaf (.lf (.bool false), []))) (.leaf (.lf (.bool false), []))) (.ite (eqI a0Kind 3) (.ite (eqI a0Kind 3) (.leaf (.lf (.bool false), [])) (.ite (eqI a0Kind 5) (.leaf (.lf (.bool false), [])) (.ite (eqI a0Kind 6) (.leaf (.lf (.bool false), [])) (.ite (eqI a0Kind 7) (.ite (decide (a0Text = [])) (.leaf (.lf (.bool (eqI (IntKind.i64.wrap ((↑a0List.length : Int) + (↑a0Keys.length : Int))) (0 : Int))), [])) (.leaf (.lf (.bool false), []))) (.leaf (.lf (.bool false), [])))))) (.ite (eqI a0Kind 4) (.leaf (.lf (.bool false), [])) (.ite (eqI a0Kind 5) (.leaf (.lf (.bool false), [])) (.ite (eqI a0Kind 6) (.leaf (.lf (.bool false), [])) (.ite (eqI a0Kind 7) (.ite (decide (a0Text = [])) (.leaf (.lf (.bool (eqI (IntKind.i64.wrap ((↑a0List.length : Int) + (↑a0Keys.length : Int))) (0 : Int))), [])) (.leaf (.lf (.bool false), []))) (.leaf (.lf (.bool false), [])))))))) (.ite (eqI a0Kind 2) (.ite (eqI a0Gen 0) (.ite (decide (a0Text = [])) (.leaf (.lf (.bool (eqI (IntKind.i64.wrap ((↑a0List.length : Int) + (↑a0Keys.length : Int))) (0 : Int))), [])) (.leaf (.lf (.bool false), []))) (.leaf (.lf (.bool false), []))) (.ite (eqI a0Kind 3) (.ite (eqI a0Kind 3) (.leaf (.lf (.bool false), [])) (.ite (eqI a0Kind 5) (.leaf (.lf (.bool false), [])) (.ite (eqI a0Kind 6) (.leaf (.lf (.bool false), [])) (.ite (eqI a0Kind 7) (.ite (decide (a0Text = [])) (.leaf (.lf (.bool (eqI (IntKind.i64.wrap ((↑a0List.length : Int) + (↑a0Keys.length : Int))) (0 : Int))), [])) (.leaf (.lf (.bool false), []))) (.leaf (.lf (.bool false), [])))))) (.ite (eqI a0Kind 4) (.leaf (.lf (.bool false), [])) (.ite (eqI a0Kind 5) (.leaf (.lf (.bool false), [])) (.ite (eqI a0Kind 6) (.leaf (.lf (.bool false), [])) (.ite (eqI a0Kind 7) (.ite (decide (a0Text = [])) (.leaf (.lf (.bool (eqI (IntKind.i64.wrap ((↑a0List.length : Int) + (↑a0Keys.length : Int))) (0 : Int))), [])) (.leaf (.lf (.bool false), []))) (.leaf (.lf (.bool false), []))))))))))
theorem e46 (a0Kind : Int) (a0Num : Int) (a0Gen : Int) (a0Text : List UInt8) (a0List : List Val) (a0Keys : List (List UInt8)) : execFun E G46 (fun _ _ => .fail) false Go.Proofs.Tryz.f46 [.agg [.int .u8 a0Kind, .int .i64 a0Num, .int .i64 a0Gen, .str a0Text, .sl .val a0List, .sl .str a0Keys]] [] some = (w46 a0Kind a0Num a0Gen a0Text a0List a0Keys).get := by kernel_rfl
def raw46 : Spec E := fun args os => match args, os with | [.agg [.int .u8 a0Kind, .int .i64 a0Num, .int .i64 a0Gen, .str a0Text, .sl .val a0List, .sl .str a0Keys]], [] => w46 a0Kind a0Num a0Gen a0Text a0List a0Keys | _, _ => .fail
theorem validraw46 (hL : Laws E) : Valid E 46 raw46 :=
 valid_of_body hL (hG46 hL) (Λ := fun _ _ => .fail) (fn := Go.Proofs.Tryz.f46) (keep := false) (by kernel_rfl) (by kernel_rfl) (by kernel_rfl) (LamOK.none (by kernel_rfl)) (fun args os r os' h => by
  unfold raw46 at h
  split at h
  ·exact (e46 _ _ _ _ _ _).trans h
  ·cases h)
theorem eq46 (k a1 a2 : Int) (a3 : List UInt8) (a4 : List Val) (a5 : List (List UInt8)) (hk : 0 ≤ k) (h4 : a4.length ≤ 1000000) (h5 : a5.length ≤ 1000000) : (w46 k a1 a2 a3 a4 a5).get = some (.lf (.bool (Px.rBareB k a1 a2 a3 a4.length a5.length)), []) := by
 have e0 : IntKind.i64.wrap ((a4.length : Int) + (a5.length : Int)) = (a4.length : Int) + (a5.length : Int) := wi64 _ (by omega) (by omega)
 have es := Px.sum0 h4 h5
 by_cases h7 : k ≤ 7
 ·have : k = 0 ∨ k = 1 ∨ k = 2 ∨ k = 3 ∨ k = 4 ∨ k = 5 ∨ k = 6 ∨ k = 7 := by omega
  unfold w46 Px.rBareB Px.bareB
  simp only [Tree.get_ite, Tree.get_leaf, es]
  rcases this with rfl | rfl | rfl | rfl | rfl | rfl | rfl | rfl
  all_goals cases eqI a1 0 <;> cases eqI a2 0 <;> cases decide (a3 = []) <;> cases eqI (a4.length : Int) 0 <;> cases eqI (a5.length : Int) 0 <;> cases eqI (a5.length : Int) (a4.length : Int) <;> rfl
 ·have f : ∀ j : Int, j ≤ 7 → eqI k j = false := fun j hj => by rw [eqI_eq]; exact decide_eq_false (by omega)
  have f7 : leI k 7 = false := by rw [leI_eq]; exact decide_eq_false h7
  unfold w46 Px.rBareB
  simp only [Tree.get_ite, Tree.get_leaf, f 0 (by decide), f 1 (by decide), f 2 (by decide), f 3 (by decide), f 4 (by decide), f 5 (by decide), f 6 (by decide), f 7 (by decide), f7, cond_false, Bool.false_and]
  cases eqI a1 0 <;> cases eqI a2 0 <;> rfl
def spec46 : Spec E := fun args os => match args, os with | [.agg [.int .u8 k, .int .i64 a1, .int .i64 a2, .str a3, .sl .val a4, .sl .str a5]], [] => .ite (Nat.ble a4.length 1000000 && Nat.ble a5.length 1000000) (.leaf (.lf (.bool (Px.rBareB k a1 a2 a3 a4.length a5.length)), [])) .fail | _, _ => .fail
theorem valid46 (hL : Laws E) : Valid E 46 spec46 := (validraw46 hL).lessI (fun args os x hi h => by
 unfold spec46 at h
 split at h
 ·rename_i k a1 a2 a3 a4 a5
  have hk : inRb .u8 k = true := by
   simp only [List.all_cons, List.all_nil, okIntR, okInt, Bool.and_true, Bool.and_eq_true] at hi
   exact hi.1
  simp only [inRb, Bool.and_eq_true, decide_eq_true_eq] at hk
  have hk : (0 : Int) ≤ k := hk.1
  rcases Tree.get_ite_some h with ⟨h1, h'⟩ | ⟨_, h'⟩
  ·simp only [Bool.and_eq_true, Nat.ble_eq] at h1
   exact (eq46 k a1 a2 a3 a4 a5 hk h1.1 h1.2).trans h'
  ·cases h'
 ·cases h)
end Go.Vx
namespace Go.Vx
open Go
def spec47N (n : Nat) : Spec E := fun args os => match args, os with | [.agg [.int .u8 a0, .int .i64 a1, .int .i64 a2, .str a3, .sl .val a4, .sl .str a5], .lf (.int .i64 d)], [] => .ite (Nat.blt (Px.depthL a4) n && leI 0 d && leI d 1000) (.leaf (.lf (.int .i64 (Px.deepV d.toNat (Val.mk a0 a1 a2 a3 a4 a5) : Int)), [])) .fail | _, _ => .fail
def G47 (n : Nat) : FuncId → Option (Spec E) | 47 => some (spec47N n) | _ => none
theorem hG47 (hL : Laws E) (n : Nat) (hN : Valid E 47 (spec47N n)) : ∀ f spec, (G47 n) f = some spec → Valid E f spec := by
 intro f spec h
 unfold G47 at h
 split at h
 ·injection h with h; subst h; exact hN
 ·cases h
def L47_0 : Ex → Live | .normal => ⟨[1, 5, 9, 10, 11], []⟩ | .exit 0 => ⟨[5], []⟩ | .ret => ⟨[4], []⟩ | _ => ⟨[], []⟩
def S47_0 (p1 : Int) (p9 : List Val) (p10 : Int) (x : Int × Int) : St E.A := at' E 26 [(1, .lf (.int .i64 p1)), (5, .lf (.int .i64 x.1)), (9, .lf (.sl .val p9)), (10, .lf (.int .i64 p10)), (11, .lf (.int .i64 x.2))] []
def t47_0 (n : Nat) (p1 : Int) (p9 : List Val) (p10 : Int) (x : Int × Int) : Tree (Int × Int ⊕ Out' E) := .ite (ltI x.2 p10) (.ite (inB x.2 p9.length) (.ite (ltI 0 p1) (.ite ((Px.depthL (Px.vl (p9.getD x.2.toNat (Val.mk 0 0 0 [] [] [])))).blt n && leI 0 (IntKind.i64.wrap (p1 - (1 : Int))) && leI (IntKind.i64.wrap (p1 - (1 : Int))) (1000 : Int)) (.leaf (.inl ((if true = true then Max.max x.1 (IntKind.i64.wrap ((1 : Int) + (↑(Px.deepV (IntKind.i64.wrap (p1 - (1 : Int))).toNat (Val.mk (Px.vk (p9.getD x.2.toNat (Val.mk 0 0 0 [] [] []))) (Px.vn (p9.getD x.2.toNat (Val.mk 0 0 0 [] [] []))) (Px.vg (p9.getD x.2.toNat (Val.mk 0 0 0 [] [] []))) (Px.vt (p9.getD x.2.toNat (Val.mk 0 0 0 [] [] []))) (Px.vl (p9.getD x.2.toNat (Val.mk 0 0 0 [] [] []))) (Px.vs (p9.getD x.2.toNat (Val.mk 0 0 0 [] [] []))))) : Int))) else Min.min x.1 (IntKind.i64.wrap ((1 : Int) + (↑(Px.deepV (IntKind.i64.wrap (p1 - (1 : Int))).toNat (Val.mk (Px.vk (p9.getD x.2.toNat (Val.mk 0 0 0 [] [] []))) (Px.vn (p9.getD x.2.toNat (Val.mk 0 0 0 [] [] []))) (Px.vg (p9.getD x.2.toNat (Val.mk 0 0 0 [] [] []))) (Px.vt (p9.getD x.2.toNat (Val.mk 0 0 0 [] [] []))) (Px.vl (p9.getD x.2.toNat (Val.mk 0 0 0 [] [] []))) (Px.vs (p9.getD x.2.toNat (Val.mk 0 0 0 [] [] []))))) : Int)))), (IntKind.i64.wrap (x.2 + (1 : Int)))))) .fail) (.leaf (.inl (x.1, (IntKind.i64.wrap (x.2 + (1 : Int))))))) .fail) (.leaf (.inr (.exit 0, at' E 26 [(5, .lf (.int .i64 x.1))] [])))
theorem h47_0 (n : Nat) (p1 : Int) (p9 : List Val) (p10 : Int) (x : Int × Int) (k : Ex → St E.A → Option Unit) :
  exec E (G47 n) (fun _ _ => .fail) 1 (lb Go.Proofs.Tryz.f47 0) (S47_0 p1 p9 p10 x) (fun e σ1 => k e (clean E (L47_0 e) σ1)) = (t47_0 n p1 p9 p10 x).run (Sum.elim (fun x' => k .normal (S47_0 p1 p9 p10 x')) (fun o => k o.1 o.2)) := by kernel_rfl
def lam47_0 (n : Nat) (p1 : Int) (p9 : List Val) (p10 : Int) (x : Int × Int) : Tree (Out' E) := .ite (eqI p10 p9.length && leI 0 x.2 && leI x.2 p10 && Nat.ble (Px.depthL p9) n && leI 0 p1 && leI p1 1000 && leI 0 x.1 && leI x.1 1000) (.leaf (.exit 0, at' E 26 [(5, .lf (.int .i64 ((Nat.max x.1.toNat (Px.deepL' p1.toNat (p9.drop x.2.toNat)) : Nat) : Int)))] [])) .fail
theorem run_deep {O : Type} (s : Nat) (fin : Nat → O) : ∀ (l : List Val) (i m : Nat), rangeRun (fun _ m v => (.inl (Nat.max m (min (Px.dl v + 1) s)) : Nat ⊕ O)) fin i m l = fin (Nat.max m (Px.deepL s l))
 | [], i, m => by
  rw [rangeRun]
  unfold Px.deepL
  rw [Px.dls]
  congr 1
  show m = max m (min 0 s)
  omega
 | v :: r, i, m => by
  refine (run_deep s fin r (i + 1) (Nat.max m (min (Px.dl v + 1) s))).trans ?_
  unfold Px.deepL
  rw [Px.dls]
  congr 1
  show max (max m (min (Px.dl v + 1) s)) (min (Px.dls r) s) = max m (min (max (Px.dl v + 1) (Px.dls r)) s)
  omega
theorem m47_0 {n : Nat} {p1 : Int} {p9 : List Val} {p10 : Int} {x : Int × Int} {e : Ex} {σ : St E.A} (g : okLenR (E := E) (.lf (.sl .val p9)) = true)
  (h : (lam47_0 n p1 p9 p10 x).get = some (e, σ)) : ∃ fuel, iter (t47_0 n p1 p9 p10) fuel x = some (e, σ) ∧ e ≠ .normal := by
 have hb : p9.length ≤ big := of_decide_eq_true g
 obtain ⟨a, z⟩ := x
 unfold lam47_0 at h
 have h' := Tree.get_ite_some h
 clear h
 rcases h' with ⟨h1, h⟩ | ⟨_, h⟩
 ·simp only [eqI_eq, leI_eq, Bool.and_eq_true, decide_eq_true_eq, Nat.ble_eq] at h1
  obtain ⟨⟨⟨⟨⟨⟨⟨rfl, k1⟩, k2⟩, k3⟩, k4⟩, k5⟩, k6⟩, k7⟩ := h1
  obtain ⟨i, rfl⟩ : ∃ j : Nat, z = (j : Int) := ⟨z.toNat, by omega⟩
  obtain ⟨m, rfl⟩ : ∃ j : Nat, a = (j : Int) := ⟨a.toNat, by omega⟩
  obtain ⟨s, rfl⟩ : ∃ j : Nat, p1 = (j : Int) := ⟨p1.toNat, by omega⟩
  have key := range_iter (O := Out' E) (t := t47_0 n (s : Int) p9 p9.length) (l := p9) Px.v0 (fun (m : Nat) (i : Int) => ((m : Int), i))
   (fun _ m v => (.inl (Nat.max m (min (Px.dl v + 1) s)) : Nat ⊕ Out' E)) (fun m => (Ex.exit 0, at' E 26 [(5, .lf (.int .i64 (m : Int)))] [])) (fun _ m => m ≤ 1000)
   (fun i m hi ho => by
    have hd : (Px.depthL (Px.vl (p9.getD i Px.v0))).blt n = true := by
     have h1 := Px.depth_get hi
     rw [Px.depth_vl] at h1
     exact Nat.ble_eq ▸ Nat.le_trans h1 k3
    have hz : (Val.mk 0 0 0 [] [] []) = Px.v0 := rfl
    refine ⟨?_, fun a' ha => ?_⟩
    ·unfold t47_0
     simp only [Tree.get_ite, Tree.get_leaf, ltI_nat hi, inB_nat hi, cond_true, i64_succ hi hb, Int.toNat_natCast, hz, hd, Px.v_eta, Bool.true_and]
     by_cases hs : s = 0
     ·subst hs
      rw [show ltI 0 ((0 : Nat) : Int) = false from rfl, cond_false]
      show _ = some (Sum.inl (((max m (min _ 0) : Nat) : Int), _))
      rw [show max m (min (Px.dl (p9.getD i Px.v0) + 1) 0) = m by omega]
     ·have ew : IntKind.i64.wrap ((s : Int) - 1) = ((s - 1 : Nat) : Int) := by rw [wi64] <;> omega
      rw [show ltI 0 (s : Int) = true by rw [ltI_eq]; exact decide_eq_true (by omega), ew]
      rw [show leI 0 ((s - 1 : Nat) : Int) = true by rw [leI_eq]; exact decide_eq_true (by omega), show leI ((s - 1 : Nat) : Int) 1000 = true by rw [leI_eq]; exact decide_eq_true (by omega)]
      simp only [cond_true, Bool.and_self, Int.toNat_natCast, if_true]
      unfold Px.deepV
      have ew2 : IntKind.i64.wrap (1 + ((min (Px.dl (p9.getD i Px.v0)) (s - 1) : Nat) : Int)) = ((1 + min (Px.dl (p9.getD i Px.v0)) (s - 1) : Nat) : Int) := by rw [wi64] <;> omega
      rw [ew2]
      show some (Sum.inl (max (m : Int) _, _)) = some (Sum.inl (((max m (min _ s) : Nat) : Int), _))
      rw [show max (m : Int) ((1 + min (Px.dl (p9.getD i Px.v0)) (s - 1) : Nat) : Int) = ((max m (min (Px.dl (p9.getD i Px.v0) + 1) s) : Nat) : Int) by omega]
    ·injection ha with ha
     subst ha
     show max m (min _ s) ≤ 1000
     omega)
   (fun a ho => by unfold t47_0; simp only [Tree.get_ite, Tree.get_leaf, ltI_self, cond_false])
   (p9.length - i) i m (by omega) (by omega)
  rw [run_deep] at key
  rw [Px.deepL'_eq] at h
  simp only [Int.toNat_natCast] at h
  injection h with h
  injection h with h1 h2
  subst h1
  refine ⟨_, key.trans ?_, fun hh => by cases hh⟩
  rw [← h2]
 ·cases h
def rd47_0 (n : Nat) (σ : St E.A) : Tree (Out' E) :=
 let c := clean E (L47_0 .normal) σ
 if c.sl.length = 26 then
 match c.sl.getD 1 .undef, c.sl.getD 5 .undef, c.sl.getD 9 .undef, c.sl.getD 10 .undef, c.sl.getD 11 .undef with
 | .lf (.int .i64 p1), .lf (.int .i64 x5), .lf (.sl .val p9), .lf (.int .i64 p10), .lf (.int .i64 x11) => lam47_0 n p1 p9 p10 (x5, x11)
 | _, _, _, _, _ => .fail
 else .fail
theorem ll47_0 (hL : Laws E) (n : Nat) (hN : Valid E 47 (spec47N n)) (σ : St E.A) (e : Ex) (σ' : St E.A) (h : (rd47_0 n σ).get = some (e, σ')) : LoopOK E (lb Go.Proofs.Tryz.f47 0) σ e σ' := by
 refine LoopOK.of_clean hL (L47_0 .normal) ?_
 unfold rd47_0 at h
 simp only at h
 split at h
 ·rename_i hlen
  split at h
  ·rename_i p1 x5 p9 p10 x11 h0 h1 h2 h3 h4
   refine LoopOK.lens 9 (fun g0 => ?_)
   rw [h2] at g0
   obtain ⟨fuel, hi, ho⟩ := m47_0 g0 h
   have hl := loop_at (Γ := (G47 n)) (Λ := fun _ _ => .fail) (n := 1) (body := lb Go.Proofs.Tryz.f47 0) hL (hG47 hL n hN) (S := S47_0 p1 p9 p10) (t := t47_0 n p1 p9 p10) (Lv := L47_0) (LamOK.none (by kernel_rfl)) (h47_0 n p1 p9 p10) hi ho
   refine LoopOK.fit hlen ?_ ?_ rfl rfl hl
   ·exact ⟨h0, h1, h2, h3, h4, trivial⟩
   ·exact trivial
  ·cases h
 ·cases h
def Lam47 (n : Nat) : Lam E | 0, σ => rd47_0 n σ | _, _ => .fail
def w47 (n : Nat) (a0Kind : Int) (a0Num : Int) (a0Gen : Int) (a0Text : List UInt8) (a0List : List Val) (a0Keys : List (List UInt8)) (a1 : Int) : Tree (RV E.A × List (Obj E.A)) := .ite (eqI (↑a0List.length : Int) (↑a0List.length : Int) && leI 0 0 && leI 0 (↑a0List.length : Int) && (Px.depthL a0List).ble n && leI 0 a1 && leI a1 1000 && leI 0 0 && leI 0 1000) (.leaf (.lf (.int .i64 ((↑((Int.toNat (0 : Int)).max (Px.deepL' a1.toNat (List.drop (Int.toNat (0 : Int)) a0List))) : Int))), [])) .fail
theorem e47 (n : Nat) (a0Kind : Int) (a0Num : Int) (a0Gen : Int) (a0Text : List UInt8) (a0List : List Val) (a0Keys : List (List UInt8)) (a1 : Int) : execFun E (G47 n) ((Lam47 n)) false Go.Proofs.Tryz.f47 [.agg [.int .u8 a0Kind, .int .i64 a0Num, .int .i64 a0Gen, .str a0Text, .sl .val a0List, .sl .str a0Keys], .lf (.int .i64 a1)] [] some = (w47 n a0Kind a0Num a0Gen a0Text a0List a0Keys a1).get := by kernel_rfl
def raw47 (n : Nat) : Spec E := fun args os => match args, os with | [.agg [.int .u8 a0Kind, .int .i64 a0Num, .int .i64 a0Gen, .str a0Text, .sl .val a0List, .sl .str a0Keys], .lf (.int .i64 a1)], [] => w47 n a0Kind a0Num a0Gen a0Text a0List a0Keys a1 | _, _ => .fail
theorem validraw47 (hL : Laws E) (n : Nat) (hN : Valid E 47 (spec47N n)) : Valid E 47 (raw47 n) :=
 valid_of_body hL (hG47 hL n hN) (Λ := (Lam47 n)) (fn := Go.Proofs.Tryz.f47) (keep := false) (by kernel_rfl) (by kernel_rfl) (by kernel_rfl) ((LamOK.of (m := 1) (by kernel_rfl) (fun j hj σ e σ' hg => by
   match j, hj with
   | 0, _ => exact ll47_0 hL n hN σ e σ' hg
   ))) (fun args os r os' h => by
  unfold raw47 at h
  split at h
  ·exact (e47 _ _ _ _ _ _ _ _).trans h
  ·cases h)
theorem eq47 {n : Nat} (k a1 a2 : Int) (a3 : List UInt8) {a4 : List Val} (a5 : List (List UInt8)) {d : Int} (hn : Nat.ble (Px.depthL a4) n = true) (d0 : 0 ≤ d) (d1 : d ≤ 1000) :
  (w47 n k a1 a2 a3 a4 a5 d).get = some (.lf (.int .i64 (Px.deepV d.toNat (Val.mk k a1 a2 a3 a4 a5) : Int)), []) := by
 have g : (eqI (a4.length : Int) (a4.length : Int) && leI 0 0 && leI 0 (a4.length : Int) && (Px.depthL a4).ble n && leI 0 d && leI d 1000 && leI 0 0 && leI 0 1000) = true := by
  simp [eqI_eq, leI_eq, hn]
  omega
 unfold w47 Px.deepV
 rw [Tree.get_ite, g, cond_true, Tree.get_leaf, Px.deepL'_eq, Px.dl]
 unfold Px.deepL
 show some (RV.lf (Leaf.int IntKind.i64 ((max 0 (min (Px.dls a4) d.toNat) : Nat) : Int)), []) = _
 rw [show max 0 (min (Px.dls a4) d.toNat) = min (Px.dls a4) d.toNat by omega]
theorem valid47N (hL : Laws E) : ∀ n, Valid E 47 (spec47N n)
 | 0 => Valid.never (fun args os => by
   unfold spec47N
   split
   ·rfl
   ·rfl)
 | n + 1 => (validraw47 hL n (valid47N hL n)).less (fun args os x u1 u2 h => by
   clear u1 u2
   unfold spec47N at h
   split at h
   ·rename_i a0 a1 a2 a3 a4 a5 d
    rcases Tree.get_ite_some h with ⟨h1, h'⟩ | ⟨_, h'⟩
    ·simp only [Bool.and_eq_true, leI_eq, decide_eq_true_eq] at h1
     exact (eq47 a0 a1 a2 a3 a5 h1.1.1 h1.1.2 h1.2).trans h'
    ·cases h'
   ·cases h)
def spec47 : Spec E := fun args os => match args, os with | [.agg [.int .u8 a0, .int .i64 a1, .int .i64 a2, .str a3, .sl .val a4, .sl .str a5], .lf (.int .i64 d)], [] => .ite (leI 0 d && leI d 1000) (.leaf (.lf (.int .i64 (Px.deepV d.toNat (Val.mk a0 a1 a2 a3 a4 a5) : Int)), [])) .fail | _, _ => .fail
theorem valid47 (hL : Laws E) : Valid E 47 spec47 := Valid.forN (valid47N hL) (fun args os x h => by
 unfold spec47 at h
 split at h
 ·rename_i a0 a1 a2 a3 a4 a5 d
  refine ⟨Px.depthL a4 + 1, ?_⟩
  rcases Tree.get_ite_some h with ⟨h1, h'⟩ | ⟨_, h'⟩
  ·unfold spec47N
   have : Nat.blt (Px.depthL a4) (Px.depthL a4 + 1) = true := Nat.ble_eq ▸ Nat.le_refl _
   rw [Tree.get_ite, this, Bool.true_and, h1]
   exact h'
  ·cases h'
 ·cases h)
end Go.Vx
namespace Go.Vx
open Go
def G74 : FuncId → Option (Spec E) := fun _ => none
theorem hG74 (hL : Laws E) : ∀ f spec, G74 f = some spec → Valid E f spec := by
 intro f spec h
 cases h
def L74_0 : Ex → Live | .normal => ⟨[0, 6, 7, 8], []⟩ | .exit 0 => ⟨[], []⟩ | .ret => ⟨[2], []⟩ | _ => ⟨[], []⟩
def S74_0 (p0 : Int) (p6 : List UInt8) (p7 : Int) (x : Int) : St E.A := at' E 16 [(0, .lf (.int .u8 p0)), (6, .lf (.sl .u8 p6)), (7, .lf (.int .i64 p7)), (8, .lf (.int .i64 x))] []
def t74_0 (p0 : Int) (p6 : List UInt8) (p7 : Int) (x : Int) : Tree ((Int) ⊕ Out' E) := .ite (ltI x p7) (.ite (inB x p6.length) (.ite (eqI p0 (↑(p6.getD x.toNat (0 : UInt8)).toNat : Int)) (.leaf (.inr (.ret, at' E 16 [(2, .lf (.bool true))] []))) (.leaf (.inl ((IntKind.i64.wrap (x + (1 : Int))))))) .fail) (.leaf (.inr (.exit 0, at' E 16 [] [])))
theorem h74_0 (p0 : Int) (p6 : List UInt8) (p7 : Int) (x : Int) (k : Ex → St E.A → Option Unit) :
  exec E G74 (fun _ _ => .fail) 1 (lb Go.Proofs.Tryz.f74 0) (S74_0 p0 p6 p7 x) (fun e σ1 => k e (clean E (L74_0 e) σ1)) = (t74_0 p0 p6 p7 x).run (Sum.elim (fun x' => k .normal (S74_0 p0 p6 p7 x')) (fun o => k o.1 o.2)) := by kernel_rfl
end Go.Vx
namespace Px
open Go.Vx Go
def anyIs' : Int → List UInt8 → Bool := (Classical.choice (sealed anyIs)).1
theorem anyIs'_eq : anyIs' = anyIs := (Classical.choice (sealed anyIs)).2
end Px
namespace Go.Vx
open Go
def lam74_0 (p0 : Int) (p6 : List UInt8) (p7 : Int) (x : Int) : Tree (Out' E) := .ite (eqI p7 p6.length && leI 0 x && leI x p7) (.ite (Px.anyIs' p0 (p6.drop x.toNat)) (.leaf (.ret, at' E 16 [(2, .lf (.bool true))] [])) (.leaf (.exit 0, at' E 16 [] []))) .fail
theorem m74_0 {p0 : Int} {p6 : List UInt8} {p7 : Int} {x : Int} {e : Ex} {σ : St E.A} (g : okLenR (E := E) (.lf (.sl .u8 p6)) = true)
  (h : (lam74_0 p0 p6 p7 x).get = some (e, σ)) : ∃ fuel, iter (t74_0 p0 p6 p7) fuel x = some (e, σ) ∧ e ≠ .normal := by
 have hb : p6.length ≤ big := of_decide_eq_true g
 unfold lam74_0 at h
 have h' := Tree.get_ite_some h
 clear h
 rcases h' with ⟨h1, h⟩ | ⟨_, h⟩
 ·simp only [eqI_eq, leI_eq, Bool.and_eq_true, decide_eq_true_eq] at h1
  obtain ⟨⟨rfl, k1⟩, k2⟩ := h1
  obtain ⟨i, rfl⟩ : ∃ j : Nat, x = (j : Int) := ⟨x.toNat, by omega⟩
  have key := scan_iter (t := t74_0 p0 p6 p6.length) (l := p6) 0 (fun i b => cond (eqI p0 (b.toNat : Int)) (some (Ex.ret, at' E 16 [(2, .lf (.bool true))] [])) none) (Ex.exit 0, at' E 16 [] [])
   (fun i hi => by
    unfold t74_0
    simp only [Tree.get_ite, Tree.get_leaf, ltI_nat hi, inB_nat hi, cond_true, i64_succ hi hb, Int.toNat_natCast]
    cases eqI p0 ((p6.getD i 0).toNat : Int) <;> rfl)
   (by unfold t74_0; simp only [Tree.get_ite, Tree.get_leaf, ltI_self, cond_false])
   (p6.length - i) i (by omega)
  rw [scan_any (fun (b : UInt8) => eqI p0 (b.toNat : Int))] at key
  rw [Tree.get_ite, Tree.get_leaf, Tree.get_leaf, Int.toNat_natCast, Px.anyIs'_eq] at h
  refine ⟨_, key.trans ?_, ?_⟩
  ·rw [← h]; exact some_cond _ _ _
  ·intro hh; subst hh
   cases q : Px.anyIs p0 (p6.drop i) <;> rw [q] at h <;> cases h
 ·cases h
def rd74_0 (σ : St E.A) : Tree (Out' E) :=
 let c := clean E (L74_0 .normal) σ
 if c.sl.length = 16 then
 match c.sl.getD 0 .undef, c.sl.getD 6 .undef, c.sl.getD 7 .undef, c.sl.getD 8 .undef with
 | .lf (.int .u8 p0), .lf (.sl .u8 p6), .lf (.int .i64 p7), .lf (.int .i64 x8) => lam74_0 p0 p6 p7 (x8)
 | _, _, _, _ => .fail
 else .fail
theorem ll74_0 (hL : Laws E) (σ : St E.A) (e : Ex) (σ' : St E.A) (h : (rd74_0 σ).get = some (e, σ')) : LoopOK E (lb Go.Proofs.Tryz.f74 0) σ e σ' := by
 refine LoopOK.of_clean hL (L74_0 .normal) ?_
 unfold rd74_0 at h
 simp only at h
 split at h
 ·rename_i hlen
  split at h
  ·rename_i p0 p6 p7 x8 h0 h1 h2 h3
   refine LoopOK.lens 6 (fun g0 => ?_)
   rw [h1] at g0
   obtain ⟨fuel, hi, ho⟩ := m74_0 g0 h
   have hl := loop_at (Γ := G74) (Λ := fun _ _ => .fail) (n := 1) (body := lb Go.Proofs.Tryz.f74 0) hL (hG74 hL) (S := S74_0 p0 p6 p7) (t := t74_0 p0 p6 p7) (Lv := L74_0) (LamOK.none (by kernel_rfl)) (h74_0 p0 p6 p7) hi ho
   refine LoopOK.fit hlen ?_ ?_ rfl rfl hl
   ·exact ⟨h0, h1, h2, h3, trivial⟩
   ·exact trivial
  ·cases h
 ·cases h
def Lam74 : Lam E | 0, σ => rd74_0 σ | _, _ => .fail
def w74 (a0 : Int) : Tree (RV E.A × List (Obj E.A)) := .ite (Px.anyIs' a0 (List.drop (Int.toNat (0 : Int)) ([40, 41, 60, 62, 91, 93, 123, 125, 47, 37] : List UInt8))) (.leaf (.lf (.bool true), [])) (.leaf (.lf (.bool false), []))
theorem e74 (a0 : Int) : execFun E G74 ((Lam74)) false Go.Proofs.Tryz.f74 [.lf (.int .u8 a0)] [] some = (w74 a0).get := by kernel_rfl
def raw74 : Spec E := fun args os => match args, os with | [.lf (.int .u8 a0)], [] => w74 a0 | _, _ => .fail
theorem validraw74 (hL : Laws E) : Valid E 74 raw74 :=
 valid_of_body hL (hG74 hL) (Λ := (Lam74)) (fn := Go.Proofs.Tryz.f74) (keep := false) (by kernel_rfl) (by kernel_rfl) (by kernel_rfl) ((LamOK.of (m := 1) (by kernel_rfl) (fun j hj σ e σ' hg => by
   match j, hj with
   | 0, _ => exact ll74_0 hL σ e σ' hg
   ))) (fun args os r os' h => by
  unfold raw74 at h
  split at h
  ·exact (e74 _).trans h
  ·cases h)
theorem eq74 (b : UInt8) : (w74 (b.toNat : Int)).get = some (.lf (.bool (Px.mark b)), []) := by
 unfold w74
 rw [Px.anyIs'_eq]
 have e : ∀ l : List UInt8, Px.anyIs (b.toNat : Int) l = leI 0 (Lib.indexByte l b) := Px.anyIs_index b
 simp only [e]
 show cond (Px.mark b) _ _ = _
 cases Px.mark b <;> rfl
def spec74 : Spec E := fun args os => match args, os with | [.lf (.int .u8 c)], [] => .ite (inRb .u8 c) (.leaf (.lf (.bool (Px.mark (UInt8.ofNat c.toNat))), [])) .fail | _, _ => .fail
theorem valid74 (hL : Laws E) : Valid E 74 spec74 := (validraw74 hL).less (fun args os x u1 u2 h => by
 clear u1 u2
 unfold spec74 at h
 split at h
 ·rename_i c
  rcases Tree.get_ite_some h with ⟨h1, h⟩ | ⟨_, h⟩
  ·simp only [inRb, Bool.and_eq_true, decide_eq_true_eq] at h1
   have hc : ((UInt8.ofNat c.toNat).toNat : Int) = c := by
    have a0 : (0 : Int) ≤ c := h1.1
    have a1 : c ≤ 255 := h1.2
    rw [UInt8.toNat_ofNat']; omega
   have := eq74 (UInt8.ofNat c.toNat)
   rw [hc] at this
   exact this.trans h
  ·cases h
 ·cases h)
end Go.Vx
namespace Go.Vx
open Go
def G48 : FuncId → Option (Spec E) | 74 => some spec74 | _ => none
theorem hG48 (hL : Laws E) : ∀ f spec, G48 f = some spec → Valid E f spec := by
 intro f spec h
 unfold G48 at h
 split at h
 ·injection h with h; subst h; exact valid74 hL
 ·cases h
def L48_0 : Ex → Live | .normal => ⟨[0, 3], []⟩ | .exit 0 => ⟨[0], []⟩ | .ret => ⟨[2], []⟩ | _ => ⟨[], []⟩
def S48_0 (p0 : List UInt8) (x : Int) : St E.A := at' E 34 [(0, .lf (.str p0)), (3, .lf (.int .i64 x))] []
def t48_0 (p0 : List UInt8) (x : Int) : Tree ((Int) ⊕ Out' E) := .ite (ltI x (↑p0.length : Int)) (.ite (inB x p0.length) (.ite (ltI (↑(p0.getD x.toNat (0 : UInt8)).toNat : Int) (33 : Int)) (.leaf (.inr (.ret, at' E 34 [(2, .lf (.bool false))] []))) (.ite (inB x p0.length) (.ite (ltI 126 (↑(p0.getD x.toNat (0 : UInt8)).toNat : Int)) (.leaf (.inr (.ret, at' E 34 [(2, .lf (.bool false))] []))) (.ite (inB x p0.length) (.ite (eqI (↑(p0.getD x.toNat (0 : UInt8)).toNat : Int) (35 : Int)) (.leaf (.inr (.ret, at' E 34 [(2, .lf (.bool false))] []))) (.ite (inB x p0.length) (.ite (inRb IntKind.u8 (↑(p0.getD x.toNat (0 : UInt8)).toNat : Int)) (.ite (Px.mark (UInt8.ofNat (↑(p0.getD x.toNat (0 : UInt8)).toNat : Int).toNat)) (.leaf (.inr (.ret, at' E 34 [(2, .lf (.bool false))] []))) (.leaf (.inl ((IntKind.i64.wrap (x + (1 : Int))))))) .fail) .fail)) .fail)) .fail)) .fail) (.leaf (.inr (.exit 0, at' E 34 [(0, .lf (.str p0))] [])))
theorem h48_0 (p0 : List UInt8) (x : Int) (k : Ex → St E.A → Option Unit) :
  exec E G48 (fun _ _ => .fail) 1 (lb Go.Proofs.Tryz.f48 0) (S48_0 p0 x) (fun e σ1 => k e (clean E (L48_0 e) σ1)) = (t48_0 p0 x).run (Sum.elim (fun x' => k .normal (S48_0 p0 x')) (fun o => k o.1 o.2)) := by kernel_rfl
def lam48_0 (p0 : List UInt8) (x : Int) : Tree (Out' E) := .ite (leI 0 x && leI x p0.length) (.ite (Px.anyBad' (p0.drop x.toNat)) (.leaf (.ret, at' E 34 [(2, .lf (.bool false))] [])) (.leaf (.exit 0, at' E 34 [(0, .lf (.str p0))] []))) .fail
theorem m48_0 {p0 : List UInt8} {x : Int} {e : Ex} {σ : St E.A} (g : okLenR (E := E) (.lf (.str p0)) = true)
  (h : (lam48_0 p0 x).get = some (e, σ)) : ∃ fuel, iter (t48_0 p0) fuel x = some (e, σ) ∧ e ≠ .normal := by
 have hb : p0.length ≤ big := of_decide_eq_true g
 unfold lam48_0 at h
 have h' := Tree.get_ite_some h
 clear h
 rcases h' with ⟨h1, h⟩ | ⟨_, h⟩
 ·simp only [eqI_eq, leI_eq, Bool.and_eq_true, decide_eq_true_eq] at h1
  obtain ⟨k1, k2⟩ := h1
  obtain ⟨i, rfl⟩ : ∃ j : Nat, x = (j : Int) := ⟨x.toNat, by omega⟩
  have key := scan_iter (t := t48_0 p0) (l := p0) 0 (fun i b => cond (Px.badB b) (some (Ex.ret, at' E 34 [(2, .lf (.bool false))] [])) none) (Ex.exit 0, at' E 34 [(0, .lf (.str p0))] [])
   (fun i hi => by
    unfold t48_0
    simp only [Tree.get_ite, Tree.get_leaf, ltI_nat hi, inB_nat hi, cond_true, i64_succ hi hb, Int.toNat_natCast, inRb_u8, ltI_33]
    rw [UInt8.ofNat_toNat]
    unfold Px.badB
    cases leI ((p0.getD i 0).toNat : Int) 32 <;> cases ltI 126 ((p0.getD i 0).toNat : Int) <;> cases eqI ((p0.getD i 0).toNat : Int) 35 <;> cases Px.mark (p0.getD i 0) <;> rfl)
   (by unfold t48_0; simp only [Tree.get_ite, Tree.get_leaf, ltI_self, cond_false])
   (p0.length - i) i (by omega)
  rw [scan_any (fun (b : UInt8) => Px.badB b)] at key
  have hany : ∀ l : List UInt8, (l.any fun (b : UInt8) => Px.badB b) = Px.anyBad l := fun _ => rfl
  rw [hany] at key
  rw [Tree.get_ite, Tree.get_leaf, Tree.get_leaf, Int.toNat_natCast, Px.anyBad'_eq] at h
  refine ⟨_, key.trans ?_, ?_⟩
  ·rw [← h]; exact some_cond _ _ _
  ·intro hh; subst hh
   cases q : Px.anyBad (p0.drop i) <;> rw [q] at h <;> cases h
 ·cases h
def rd48_0 (σ : St E.A) : Tree (Out' E) :=
 let c := clean E (L48_0 .normal) σ
 if c.sl.length = 34 then
 match c.sl.getD 0 .undef, c.sl.getD 3 .undef with
 | .lf (.str p0), .lf (.int .i64 x3) => lam48_0 p0 (x3)
 | _, _ => .fail
 else .fail
theorem ll48_0 (hL : Laws E) (σ : St E.A) (e : Ex) (σ' : St E.A) (h : (rd48_0 σ).get = some (e, σ')) : LoopOK E (lb Go.Proofs.Tryz.f48 0) σ e σ' := by
 refine LoopOK.of_clean hL (L48_0 .normal) ?_
 unfold rd48_0 at h
 simp only at h
 split at h
 ·rename_i hlen
  split at h
  ·rename_i p0 x3 h0 h1
   refine LoopOK.lens 0 (fun g0 => ?_)
   rw [h0] at g0
   obtain ⟨fuel, hi, ho⟩ := m48_0 g0 h
   have hl := loop_at (Γ := G48) (Λ := fun _ _ => .fail) (n := 1) (body := lb Go.Proofs.Tryz.f48 0) hL (hG48 hL) (S := S48_0 p0) (t := t48_0 p0) (Lv := L48_0) (LamOK.none (by kernel_rfl)) (h48_0 p0) hi ho
   refine LoopOK.fit hlen ?_ ?_ rfl rfl hl
   ·exact ⟨h0, h1, trivial⟩
   ·exact trivial
  ·cases h
 ·cases h
def Lam48 : Lam E | 0, σ => rd48_0 σ | _, _ => .fail
def w48 (a0 : List UInt8) : Tree (RV E.A × List (Obj E.A)) := .ite (Px.anyBad' (List.drop (Int.toNat (0 : Int)) a0)) (.leaf (.lf (.bool false), [])) (.leaf (.lf (.bool (!decide (a0 = []))), []))
theorem e48 (a0 : List UInt8) : execFun E G48 ((Lam48)) false Go.Proofs.Tryz.f48 [.lf (.str a0)] [] some = (w48 a0).get := by kernel_rfl
def raw48 : Spec E := fun args os => match args, os with | [.lf (.str a0)], [] => w48 a0 | _, _ => .fail
theorem validraw48 (hL : Laws E) : Valid E 48 raw48 :=
 valid_of_body hL (hG48 hL) (Λ := (Lam48)) (fn := Go.Proofs.Tryz.f48) (keep := false) (by kernel_rfl) (by kernel_rfl) (by kernel_rfl) ((LamOK.of (m := 1) (by kernel_rfl) (fun j hj σ e σ' hg => by
   match j, hj with
   | 0, _ => exact ll48_0 hL σ e σ' hg
   ))) (fun args os r os' h => by
  unfold raw48 at h
  split at h
  ·exact (e48 _).trans h
  ·cases h)
theorem eq48 (s : List UInt8) : (w48 s).get = some (.lf (.bool (Px.plain s)), []) := by
 have g : (leI 0 0 && leI 0 (s.length : Int)) = true := by
  simp [eqI_eq, leI_eq]
 unfold w48
 simp only [Tree.get_ite, Tree.get_leaf, Px.anyBad'_eq]
 first | rw [g] | skip
 unfold Px.plain
 cases s with
 | nil => rfl
 | cons a r =>
  show cond (Px.anyBad (a :: r)) _ _ = _
  cases Px.anyBad (a :: r) <;> rfl
def spec48 : Spec E := fun args os => match args, os with | [.lf (.str s)], [] => .leaf (.lf (.bool (Px.plain s)), []) | _, _ => .fail
theorem valid48 (hL : Laws E) : Valid E 48 spec48 := (validraw48 hL).less (fun args os x u1 u2 h => by
 clear u1 u2
 unfold spec48 at h
 split at h
 ·rename_i s
  exact (eq48 s).trans h
 ·cases h)
end Go.Vx
namespace Go.Vx
open Go
def spec31N (n : Nat) : Spec E := fun args os => match args, os with | [.agg [.int .u8 a0, .int .i64 a1, .int .i64 a2, .str a3, .sl .val a4, .sl .str a5]], [] => .ite (Nat.blt (Px.depthL a4) n && Px.smallV (Val.mk a0 a1 a2 a3 a4 a5)) (.leaf (.lf (.bool (Px.okV 0 (Val.mk a0 a1 a2 a3 a4 a5))), [])) .fail | _, _ => .fail
def G31 (n : Nat) : FuncId → Option (Spec E) | 46 => some spec46 | 47 => some spec47 | 48 => some spec48 | 31 => some (spec31N n) | _ => none
theorem hG31 (hL : Laws E) (n : Nat) (hN : Valid E 31 (spec31N n)) : ∀ f spec, (G31 n) f = some spec → Valid E f spec := by
 intro f spec h
 unfold G31 at h
 split at h
 ·injection h with h; subst h; exact valid46 hL
 ·injection h with h; subst h; exact valid47 hL
 ·injection h with h; subst h; exact valid48 hL
 ·injection h with h; subst h; exact hN
 ·cases h
def L31_1 : Ex → Live | .normal => ⟨[1, 4, 55, 56, 57, 68, 69, 70], [128]⟩ | .exit 3 => ⟨[1, 55, 56, 57], [128]⟩ | .ret => ⟨[2], []⟩ | _ => ⟨[], []⟩
def S31_1 (p4 : List UInt8) (p55 : List (List UInt8)) (p56 : Int) (p57 : Int) (p68 : List (List UInt8)) (p69 : Int) (x : Int × Int × Int × Int × (List UInt8) × (List Val) × (List (List UInt8))) : St E.A := at' E 90 [(1, .lf (.ptr 128 0 0)), (4, .lf (.str p4)), (55, .lf (.sl .str p55)), (56, .lf (.int .i64 p56)), (57, .lf (.int .i64 p57)), (68, .lf (.sl .str p68)), (69, .lf (.int .i64 p69)), (70, .lf (.int .i64 x.1))] [(128, some (.cells 36 [.int .u8 x.2.1, .int .i64 x.2.2.1, .int .i64 x.2.2.2.1, .str x.2.2.2.2.1, .sl .val x.2.2.2.2.2.1, .sl .str x.2.2.2.2.2.2]))]
def t31_1 (n : Nat) (p4 : List UInt8) (p55 : List (List UInt8)) (p56 : Int) (p57 : Int) (p68 : List (List UInt8)) (p69 : Int) (x : Int × Int × Int × Int × (List UInt8) × (List Val) × (List (List UInt8))) : Tree (Int × Int × Int × Int × (List UInt8) × (List Val) × (List (List UInt8)) ⊕ Out' E) := .ite (ltI x.1 p69) (.ite (inB x.1 p68.length) (.ite (decide (p68.getD x.1.toNat [] = p4)) (.leaf (.inr (.ret, at' E 90 [(2, .lf (.bool false))] []))) (.leaf (.inl ((IntKind.i64.wrap (x.1 + (1 : Int))), x.2.1, x.2.2.1, x.2.2.2.1, x.2.2.2.2.1, x.2.2.2.2.2.1, x.2.2.2.2.2.2)))) .fail) (.leaf (.inr (.exit 3, at' E 90 [(1, .lf (.ptr 128 0 0)), (55, .lf (.sl .str p55)), (56, .lf (.int .i64 p56)), (57, .lf (.int .i64 p57))] [(128, some (.cells 36 [.int .u8 x.2.1, .int .i64 x.2.2.1, .int .i64 x.2.2.2.1, .str x.2.2.2.2.1, .sl .val x.2.2.2.2.2.1, .sl .str x.2.2.2.2.2.2]))])))
theorem h31_1 (n : Nat) (p4 : List UInt8) (p55 : List (List UInt8)) (p56 : Int) (p57 : Int) (p68 : List (List UInt8)) (p69 : Int) (x : Int × Int × Int × Int × (List UInt8) × (List Val) × (List (List UInt8))) (k : Ex → St E.A → Option Unit) :
  exec E (G31 n) (fun _ _ => .fail) 2 (lb Go.Proofs.Tryz.f31 1) (S31_1 p4 p55 p56 p57 p68 p69 x) (fun e σ1 => k e (clean E (L31_1 e) σ1)) = (t31_1 n p4 p55 p56 p57 p68 p69 x).run (Sum.elim (fun x' => k .normal (S31_1 p4 p55 p56 p57 p68 p69 x')) (fun o => k o.1 o.2)) := by kernel_rfl
def lam31_1 (n : Nat) (p4 : List UInt8) (p55 : List (List UInt8)) (p56 : Int) (p57 : Int) (p68 : List (List UInt8)) (p69 : Int) (x : Int × Int × Int × Int × (List UInt8) × (List Val) × (List (List UInt8))) : Tree (Out' E) := .ite (eqI p69 p68.length && leI 0 x.1 && leI x.1 p69) (.ite (Px.anyKey' p4 (p68.drop x.1.toNat)) (.leaf (.ret, at' E 90 [(2, .lf (.bool false))] [])) (.leaf (.exit 3, at' E 90 [(1, .lf (.ptr 128 0 0)), (55, .lf (.sl .str p55)), (56, .lf (.int .i64 p56)), (57, .lf (.int .i64 p57))] [(128, some (.cells 36 [.int .u8 x.2.1, .int .i64 x.2.2.1, .int .i64 x.2.2.2.1, .str x.2.2.2.2.1, .sl .val x.2.2.2.2.2.1, .sl .str x.2.2.2.2.2.2]))]))) .fail
theorem m31_1 {n : Nat} {p4 : List UInt8} {p55 : List (List UInt8)} {p56 : Int} {p57 : Int} {p68 : List (List UInt8)} {p69 : Int} {x : Int × Int × Int × Int × (List UInt8) × (List Val) × (List (List UInt8))} {e : Ex} {σ : St E.A} (_ : okLenR (E := E) (.lf (.str p4)) = true) (_ : okLenR (E := E) (.lf (.sl .str p55)) = true) (g : okLenR (E := E) (.lf (.sl .str p68)) = true) (_ : okLenO (E := E) (.cells 36 [.int .u8 x.2.1, .int .i64 x.2.2.1, .int .i64 x.2.2.2.1, .str x.2.2.2.2.1, .sl .val x.2.2.2.2.2.1, .sl .str x.2.2.2.2.2.2]) = true)
  (h : (lam31_1 n p4 p55 p56 p57 p68 p69 x).get = some (e, σ)) : ∃ fuel, iter (t31_1 n p4 p55 p56 p57 p68 p69) fuel x = some (e, σ) ∧ e ≠ .normal := by
 have hb : p68.length ≤ big := of_decide_eq_true g
 obtain ⟨z, a0, a1, a2, a3, a4, a5⟩ := x
 unfold lam31_1 at h
 have h' := Tree.get_ite_some h
 clear h
 rcases h' with ⟨h1, h⟩ | ⟨_, h⟩
 ·simp only [eqI_eq, leI_eq, Bool.and_eq_true, decide_eq_true_eq] at h1
  obtain ⟨⟨rfl, k1⟩, k2⟩ := h1
  obtain ⟨i, rfl⟩ : ∃ j : Nat, z = (j : Int) := ⟨z.toNat, by omega⟩
  have key := range_iter (O := Out' E) (t := t31_1 n p4 p55 p56 p57 p68 p68.length) (l := p68) [] (fun (_ : Unit) (i : Int) => (i, a0, a1, a2, a3, a4, a5))
   (fun _ _ b => cond (decide (b = p4)) (.inr (Ex.ret, at' E 90 [(2, .lf (.bool false))] [])) (.inl ())) (fun _ => (Ex.exit 3, at' E 90 [(1, .lf (.ptr 128 0 0)), (55, .lf (.sl .str p55)), (56, .lf (.int .i64 p56)), (57, .lf (.int .i64 p57))] [(128, some (.cells 36 [.int .u8 a0, .int .i64 a1, .int .i64 a2, .str a3, .sl .val a4, .sl .str a5]))])) (fun _ _ => True)
   (fun i a hi ho => by
    refine ⟨?_, fun _ _ => trivial⟩
    unfold t31_1
    simp only [Tree.get_ite, Tree.get_leaf, ltI_nat hi, inB_nat hi, cond_true, i64_succ hi hb, Int.toNat_natCast]
    cases decide (p68.getD i [] = p4) <;> rfl)
   (fun a ho => by unfold t31_1; simp only [Tree.get_ite, Tree.get_leaf, ltI_self, cond_false])
   (p68.length - i) i () (by omega) trivial
  rw [Px.scan_rets (fun b => decide (b = p4)) _ _ _ _ _ rfl] at key
  have hany : ∀ l : List (List UInt8), (l.any fun b => decide (b = p4)) = Px.anyKey p4 l := fun _ => rfl
  rw [hany] at key
  rw [Tree.get_ite, Tree.get_leaf, Tree.get_leaf, Int.toNat_natCast, Px.anyKey'_eq] at h
  refine ⟨_, key.trans ?_, ?_⟩
  ·rw [← h]; exact some_cond _ _ _
  ·intro hh; subst hh
   cases q : Px.anyKey p4 (p68.drop i) <;> rw [q] at h <;> cases h
 ·cases h
def rd31_1 (n : Nat) (σ : St E.A) : Tree (Out' E) :=
 let c := clean E (L31_1 .normal) σ
 if c.sl.length = 90 then
 match c.sl.getD 1 .undef, c.sl.getD 4 .undef, c.sl.getD 55 .undef, c.sl.getD 56 .undef, c.sl.getD 57 .undef, c.sl.getD 68 .undef, c.sl.getD 69 .undef, c.sl.getD 70 .undef, c.ob 128 with
 | .lf (.ptr 128 0 0), .lf (.str p4), .lf (.sl .str p55), .lf (.int .i64 p56), .lf (.int .i64 p57), .lf (.sl .str p68), .lf (.int .i64 p69), .lf (.int .i64 x70), some (.cells 36 [.int .u8 o128a, .int .i64 o128b, .int .i64 o128c, .str o128d, .sl .val o128e, .sl .str o128f]) => lam31_1 n p4 p55 p56 p57 p68 p69 (x70, o128a, o128b, o128c, o128d, o128e, o128f)
 | _, _, _, _, _, _, _, _, _ => .fail
 else .fail
theorem ll31_1 (hL : Laws E) (n : Nat) (hN : Valid E 31 (spec31N n)) (σ : St E.A) (e : Ex) (σ' : St E.A) (h : (rd31_1 n σ).get = some (e, σ')) : LoopOK E (lb Go.Proofs.Tryz.f31 1) σ e σ' := by
 refine LoopOK.of_clean hL (L31_1 .normal) ?_
 unfold rd31_1 at h
 simp only at h
 split at h
 ·rename_i hlen
  split at h
  ·rename_i p4 p55 p56 p57 p68 p69 x70 o128a o128b o128c o128d o128e o128f h0 h1 h2 h3 h4 h5 h6 h7 h8
   refine LoopOK.lens 4 (fun g0 => ?_)
   rw [h1] at g0
   refine LoopOK.lens 55 (fun g1 => ?_)
   rw [h2] at g1
   refine LoopOK.lens 68 (fun g2 => ?_)
   rw [h5] at g2
   refine LoopOK.lensO 128 (fun gg => ?_)
   have g3 := gg _ h8
   obtain ⟨fuel, hi, ho⟩ := m31_1 g0 g1 g2 g3 h
   have hl := loop_at (Γ := (G31 n)) (Λ := fun _ _ => .fail) (n := 2) (body := lb Go.Proofs.Tryz.f31 1) hL (hG31 hL n hN) (S := S31_1 p4 p55 p56 p57 p68 p69) (t := t31_1 n p4 p55 p56 p57 p68 p69) (Lv := L31_1) (LamOK.none (by kernel_rfl)) (h31_1 n p4 p55 p56 p57 p68 p69) hi ho
   refine LoopOK.fit hlen ?_ ?_ rfl rfl hl
   ·exact ⟨h0, h1, h2, h3, h4, h5, h6, h7, trivial⟩
   ·exact ⟨h8, trivial⟩
  ·cases h
 ·cases h
def L31_0 : Ex → Live | .normal => ⟨[1, 55, 56, 57], [128]⟩ | .exit 1 => ⟨[1], [128]⟩ | .ret => ⟨[2], []⟩ | _ => ⟨[], []⟩
def S31_0 (p55 : List (List UInt8)) (p56 : Int) (x : Int × Int × Int × Int × (List UInt8) × (List Val) × (List (List UInt8))) : St E.A := at' E 90 [(1, .lf (.ptr 128 0 0)), (55, .lf (.sl .str p55)), (56, .lf (.int .i64 p56)), (57, .lf (.int .i64 x.1))] [(128, some (.cells 36 [.int .u8 x.2.1, .int .i64 x.2.2.1, .int .i64 x.2.2.2.1, .str x.2.2.2.2.1, .sl .val x.2.2.2.2.2.1, .sl .str x.2.2.2.2.2.2]))]
def Lm31_0 (n : Nat) : Lam E | 1, σ => rd31_1 n σ | _, _ => .fail
def t31_0 (n : Nat) (p55 : List (List UInt8)) (p56 : Int) (x : Int × Int × Int × Int × (List UInt8) × (List Val) × (List (List UInt8))) : Tree (Int × Int × Int × Int × (List UInt8) × (List Val) × (List (List UInt8)) ⊕ Out' E) := .ite (ltI x.1 p56) (.ite (inB x.1 p55.length) (.ite (!Px.plain (p55.getD x.1.toNat [])) (.leaf (.inr (.ret, at' E 90 [(2, .lf (.bool false))] []))) (.ite (leI 0 (↑(0 : Nat) : Int) && leI (↑(0 : Nat) : Int) x.1 && leI x.1 (↑x.2.2.2.2.2.2.length : Int)) (.ite (eqI (↑(List.drop (↑(0 : Nat) : Int).toNat (List.take x.1.toNat x.2.2.2.2.2.2)).length : Int) (↑(List.drop (↑(0 : Nat) : Int).toNat (List.take x.1.toNat x.2.2.2.2.2.2)).length : Int) && leI 0 0 && leI 0 (↑(List.drop (↑(0 : Nat) : Int).toNat (List.take x.1.toNat x.2.2.2.2.2.2)).length : Int)) (.ite (Px.anyKey' (p55.getD x.1.toNat []) (List.drop (Int.toNat (0 : Int)) (List.drop (↑(0 : Nat) : Int).toNat (List.take x.1.toNat x.2.2.2.2.2.2)))) (.leaf (.inr (.ret, at' E 90 [(2, .lf (.bool false))] []))) (.leaf (.inl ((IntKind.i64.wrap (x.1 + (1 : Int))), x.2.1, x.2.2.1, x.2.2.2.1, x.2.2.2.2.1, x.2.2.2.2.2.1, x.2.2.2.2.2.2)))) .fail) .fail)) .fail) (.leaf (.inr (.exit 1, at' E 90 [(1, .lf (.ptr 128 0 0))] [(128, some (.cells 36 [.int .u8 x.2.1, .int .i64 x.2.2.1, .int .i64 x.2.2.2.1, .str x.2.2.2.2.1, .sl .val x.2.2.2.2.2.1, .sl .str x.2.2.2.2.2.2]))])))
theorem h31_0 (n : Nat) (p55 : List (List UInt8)) (p56 : Int) (x : Int × Int × Int × Int × (List UInt8) × (List Val) × (List (List UInt8))) (k : Ex → St E.A → Option Unit) :
  exec E (G31 n) ((Lm31_0 n)) 1 (lb Go.Proofs.Tryz.f31 0) (S31_0 p55 p56 x) (fun e σ1 => k e (clean E (L31_0 e) σ1)) = (t31_0 n p55 p56 x).run (Sum.elim (fun x' => k .normal (S31_0 p55 p56 x')) (fun o => k o.1 o.2)) := by kernel_rfl
def lam31_0 (n : Nat) (p55 : List (List UInt8)) (p56 : Int) (x : Int × Int × Int × Int × (List UInt8) × (List Val) × (List (List UInt8))) : Tree (Out' E) := .ite (eqI p56 p55.length && Px.likeS p55 x.2.2.2.2.2.2 && leI 0 x.1 && leI x.1 p56) (.ite (Px.keysGo' (p55.take x.1.toNat) (p55.drop x.1.toNat)) (.leaf (.exit 1, at' E 90 [(1, .lf (.ptr 128 0 0))] [(128, some (.cells 36 [.int .u8 x.2.1, .int .i64 x.2.2.1, .int .i64 x.2.2.2.1, .str x.2.2.2.2.1, .sl .val x.2.2.2.2.2.1, .sl .str x.2.2.2.2.2.2]))])) (.leaf (.ret, at' E 90 [(2, .lf (.bool false))] []))) .fail
theorem m31_0 {n : Nat} {p55 : List (List UInt8)} {p56 : Int} {x : Int × Int × Int × Int × (List UInt8) × (List Val) × (List (List UInt8))} {e : Ex} {σ : St E.A} (g : okLenR (E := E) (.lf (.sl .str p55)) = true) (_ : okLenO (E := E) (.cells 36 [.int .u8 x.2.1, .int .i64 x.2.2.1, .int .i64 x.2.2.2.1, .str x.2.2.2.2.1, .sl .val x.2.2.2.2.2.1, .sl .str x.2.2.2.2.2.2]) = true)
  (h : (lam31_0 n p55 p56 x).get = some (e, σ)) : ∃ fuel, iter (t31_0 n p55 p56) fuel x = some (e, σ) ∧ e ≠ .normal := by
 have hb : p55.length ≤ big := of_decide_eq_true g
 obtain ⟨z, a0, a1, a2, a3, a4, a5⟩ := x
 unfold lam31_0 at h
 have h' := Tree.get_ite_some h
 clear h
 rcases h' with ⟨h1, h⟩ | ⟨_, h⟩
 ·simp only [eqI_eq, leI_eq, Bool.and_eq_true, decide_eq_true_eq, Px.likeS] at h1
  obtain ⟨⟨⟨rfl, rfl⟩, k1⟩, k2⟩ := h1
  obtain ⟨i, rfl⟩ : ∃ j : Nat, z = (j : Int) := ⟨z.toNat, by omega⟩
  have key := range_iter (O := Out' E) (t := t31_0 n p55 p55.length) (l := p55) [] (fun (_ : Unit) (i : Int) => (i, a0, a1, a2, a3, a4, p55))
   (fun i _ b => cond (!Px.plain b || Px.dupB b (p55.take i)) (.inr (Ex.ret, at' E 90 [(2, .lf (.bool false))] [])) (.inl ())) (fun _ => (Ex.exit 1, at' E 90 [(1, .lf (.ptr 128 0 0))] [(128, some (.cells 36 [.int .u8 a0, .int .i64 a1, .int .i64 a2, .str a3, .sl .val a4, .sl .str p55]))])) (fun _ _ => True)
   (fun i a hi ho => by
    refine ⟨?_, fun _ _ => trivial⟩
    have e1 : (leI 0 ((0 : Nat) : Int) && leI ((0 : Nat) : Int) (i : Int) && leI (i : Int) (p55.length : Int)) = true := by
     simp only [leI_eq, Bool.and_eq_true, decide_eq_true_eq]; omega
    have e2 : ∀ l : List (List UInt8), (eqI (l.length : Int) (l.length : Int) && leI 0 0 && leI 0 (l.length : Int)) = true := by
     intro l; simp [eqI_eq, leI_eq]
    have e3 : Int.toNat (0 : Int) = 0 := rfl
    unfold t31_0
    simp only [Tree.get_ite, Tree.get_leaf, ltI_nat hi, inB_nat hi, cond_true, i64_succ hi hb, Int.toNat_natCast, e1, List.drop_zero, e2, e3, Px.anyKey'_eq, Px.dup_any]
    cases Px.plain (p55.getD i []) <;> cases Px.dupB (p55.getD i []) (p55.take i) <;> rfl)
   (fun a ho => by unfold t31_0; simp only [Tree.get_ite, Tree.get_leaf, ltI_self, cond_false])
   (p55.length - i) i () (by omega) trivial
  rw [Px.run_scan, Px.scan_keys _ _ _ _ _ rfl] at key
  rw [Tree.get_ite, Tree.get_leaf, Tree.get_leaf, Int.toNat_natCast, Px.keysGo'_eq] at h
  refine ⟨_, key.trans ?_, ?_⟩
  ·rw [← h]; exact some_cond _ _ _
  ·intro hh; subst hh
   cases q : Px.keysGo (p55.take i) (p55.drop i) <;> rw [q] at h <;> cases h
 ·cases h
def rd31_0 (n : Nat) (σ : St E.A) : Tree (Out' E) :=
 let c := clean E (L31_0 .normal) σ
 if c.sl.length = 90 then
 match c.sl.getD 1 .undef, c.sl.getD 55 .undef, c.sl.getD 56 .undef, c.sl.getD 57 .undef, c.ob 128 with
 | .lf (.ptr 128 0 0), .lf (.sl .str p55), .lf (.int .i64 p56), .lf (.int .i64 x57), some (.cells 36 [.int .u8 o128a, .int .i64 o128b, .int .i64 o128c, .str o128d, .sl .val o128e, .sl .str o128f]) => lam31_0 n p55 p56 (x57, o128a, o128b, o128c, o128d, o128e, o128f)
 | _, _, _, _, _ => .fail
 else .fail
theorem ll31_0 (hL : Laws E) (n : Nat) (hN : Valid E 31 (spec31N n)) (σ : St E.A) (e : Ex) (σ' : St E.A) (h : (rd31_0 n σ).get = some (e, σ')) : LoopOK E (lb Go.Proofs.Tryz.f31 0) σ e σ' := by
 refine LoopOK.of_clean hL (L31_0 .normal) ?_
 unfold rd31_0 at h
 simp only at h
 split at h
 ·rename_i hlen
  split at h
  ·rename_i p55 p56 x57 o128a o128b o128c o128d o128e o128f h0 h1 h2 h3 h4
   refine LoopOK.lens 55 (fun g0 => ?_)
   rw [h1] at g0
   refine LoopOK.lensO 128 (fun gg => ?_)
   have g1 := gg _ h4
   obtain ⟨fuel, hi, ho⟩ := m31_0 g0 g1 h
   have hl := loop_at (Γ := (G31 n)) (Λ := (Lm31_0 n)) (n := 1) (body := lb Go.Proofs.Tryz.f31 0) hL (hG31 hL n hN) (S := S31_0 p55 p56) (t := t31_0 n p55 p56) (Lv := L31_0) ((LamOK.of (m := 1) (by kernel_rfl) (fun j hj σ e σ' hg => by
   match j, hj with
   | 0, _ => exact (show (loopAt (lb Go.Proofs.Tryz.f31 0) 0).getD .skip = lb Go.Proofs.Tryz.f31 1 from by kernel_rfl) ▸ ll31_1 hL n hN σ e σ' hg
   ))) (h31_0 n p55 p56) hi ho
   refine LoopOK.fit hlen ?_ ?_ rfl rfl hl
   ·exact ⟨h0, h1, h2, h3, trivial⟩
   ·exact ⟨h4, trivial⟩
  ·cases h
 ·cases h
def L31_2 : Ex → Live | .normal => ⟨[80, 81, 82], []⟩ | .exit 5 => ⟨[], []⟩ | .ret => ⟨[2], []⟩ | _ => ⟨[], []⟩
def S31_2 (p80 : List Val) (p81 : Int) (x : Int) : St E.A := at' E 90 [(80, .lf (.sl .val p80)), (81, .lf (.int .i64 p81)), (82, .lf (.int .i64 x))] []
def t31_2 (n : Nat) (p80 : List Val) (p81 : Int) (x : Int) : Tree ((Int) ⊕ Out' E) := .ite (ltI x p81) (.ite (inB x p80.length) (.ite ((Px.depthL (Px.vl (p80.getD x.toNat (Val.mk 0 0 0 [] [] [])))).blt n && Px.smallV (Val.mk (Px.vk (p80.getD x.toNat (Val.mk 0 0 0 [] [] []))) (Px.vn (p80.getD x.toNat (Val.mk 0 0 0 [] [] []))) (Px.vg (p80.getD x.toNat (Val.mk 0 0 0 [] [] []))) (Px.vt (p80.getD x.toNat (Val.mk 0 0 0 [] [] []))) (Px.vl (p80.getD x.toNat (Val.mk 0 0 0 [] [] []))) (Px.vs (p80.getD x.toNat (Val.mk 0 0 0 [] [] []))))) (.ite (!Px.okV (0 : Int) (Val.mk (Px.vk (p80.getD x.toNat (Val.mk 0 0 0 [] [] []))) (Px.vn (p80.getD x.toNat (Val.mk 0 0 0 [] [] []))) (Px.vg (p80.getD x.toNat (Val.mk 0 0 0 [] [] []))) (Px.vt (p80.getD x.toNat (Val.mk 0 0 0 [] [] []))) (Px.vl (p80.getD x.toNat (Val.mk 0 0 0 [] [] []))) (Px.vs (p80.getD x.toNat (Val.mk 0 0 0 [] [] []))))) (.leaf (.inr (.ret, at' E 90 [(2, .lf (.bool false))] []))) (.leaf (.inl ((IntKind.i64.wrap (x + (1 : Int))))))) .fail) .fail) (.leaf (.inr (.exit 5, at' E 90 [] [])))
theorem h31_2 (n : Nat) (p80 : List Val) (p81 : Int) (x : Int) (k : Ex → St E.A → Option Unit) :
  exec E (G31 n) (fun _ _ => .fail) 3 (lb Go.Proofs.Tryz.f31 2) (S31_2 p80 p81 x) (fun e σ1 => k e (clean E (L31_2 e) σ1)) = (t31_2 n p80 p81 x).run (Sum.elim (fun x' => k .normal (S31_2 p80 p81 x')) (fun o => k o.1 o.2)) := by kernel_rfl
def lam31_2 (n : Nat) (p80 : List Val) (p81 : Int) (x : Int) : Tree (Out' E) := .ite (eqI p81 p80.length && leI 0 x && leI x p81 && Nat.ble (Px.depthL p80) n && Px.smallL p80) (.ite (Px.allOk' 0 (p80.drop x.toNat)) (.leaf (.exit 5, at' E 90 [] [])) (.leaf (.ret, at' E 90 [(2, .lf (.bool false))] []))) .fail
theorem scan_all31 {O : Type} (q : Val → Bool) (o fin : O) : ∀ (l : List Val) (i : Nat), scan (fun _ b => cond (!q b) (some o) none) fin i l = cond (l.all q) fin o
 | [], i => rfl
 | b :: l, i => by
  rw [scan, List.all_cons, scan_all31 q o fin l (i + 1)]
  cases q b <;> rfl
theorem m31_2 {n : Nat} {p80 : List Val} {p81 : Int} {x : Int} {e : Ex} {σ : St E.A} (g : okLenR (E := E) (.lf (.sl .val p80)) = true)
  (h : (lam31_2 n p80 p81 x).get = some (e, σ)) : ∃ fuel, iter (t31_2 n p80 p81) fuel x = some (e, σ) ∧ e ≠ .normal := by
 have hb : p80.length ≤ big := of_decide_eq_true g
 unfold lam31_2 at h
 have h' := Tree.get_ite_some h
 clear h
 rcases h' with ⟨h1, h⟩ | ⟨_, h⟩
 ·simp only [eqI_eq, leI_eq, Bool.and_eq_true, decide_eq_true_eq, Nat.ble_eq] at h1
  obtain ⟨⟨⟨⟨rfl, k1⟩, k2⟩, k3⟩, k4⟩ := h1
  obtain ⟨i, rfl⟩ : ∃ j : Nat, x = (j : Int) := ⟨x.toNat, by omega⟩
  have key := scan_iter (t := t31_2 n p80 p80.length) (l := p80) Px.v0 (fun i b => cond (!Px.okV 0 b) (some (Ex.ret, at' E 90 [(2, .lf (.bool false))] [])) none) (Ex.exit 5, at' E 90 [] [])
   (fun i hi => by
    have hd : (Px.depthL (Px.vl (p80.getD i Px.v0))).blt n = true := by
     have h1 := Px.depth_get hi
     rw [Px.depth_vl] at h1
     exact Nat.ble_eq ▸ Nat.le_trans h1 k3
    have hz : (Val.mk 0 0 0 [] [] []) = Px.v0 := rfl
    unfold t31_2
    simp only [Tree.get_ite, Tree.get_leaf, ltI_nat hi, inB_nat hi, cond_true, i64_succ hi hb, Int.toNat_natCast, hz, hd, Px.v_eta, Px.small_get k4 hi, Bool.and_self]
    cases Px.okV 0 (p80.getD i Px.v0) <;> rfl)
   (by unfold t31_2; simp only [Tree.get_ite, Tree.get_leaf, ltI_self, cond_false])
   (p80.length - i) i (by omega)
  rw [scan_all31 (fun v => Px.okV 0 v)] at key
  have hall : ∀ l : List Val, (l.all fun v => Px.okV 0 v) = Px.allOk 0 l := fun _ => rfl
  rw [hall] at key
  rw [Tree.get_ite, Tree.get_leaf, Tree.get_leaf, Int.toNat_natCast, Px.allOk'_eq] at h
  refine ⟨_, key.trans ?_, ?_⟩
  ·rw [← h]; exact some_cond _ _ _
  ·intro hh; subst hh
   cases q : Px.allOk 0 (p80.drop i) <;> rw [q] at h <;> cases h
 ·cases h
def rd31_2 (n : Nat) (σ : St E.A) : Tree (Out' E) :=
 let c := clean E (L31_2 .normal) σ
 if c.sl.length = 90 then
 match c.sl.getD 80 .undef, c.sl.getD 81 .undef, c.sl.getD 82 .undef with
 | .lf (.sl .val p80), .lf (.int .i64 p81), .lf (.int .i64 x82) => lam31_2 n p80 p81 (x82)
 | _, _, _ => .fail
 else .fail
theorem ll31_2 (hL : Laws E) (n : Nat) (hN : Valid E 31 (spec31N n)) (σ : St E.A) (e : Ex) (σ' : St E.A) (h : (rd31_2 n σ).get = some (e, σ')) : LoopOK E (lb Go.Proofs.Tryz.f31 2) σ e σ' := by
 refine LoopOK.of_clean hL (L31_2 .normal) ?_
 unfold rd31_2 at h
 simp only at h
 split at h
 ·rename_i hlen
  split at h
  ·rename_i p80 p81 x82 h0 h1 h2
   refine LoopOK.lens 80 (fun g0 => ?_)
   rw [h0] at g0
   obtain ⟨fuel, hi, ho⟩ := m31_2 g0 h
   have hl := loop_at (Γ := (G31 n)) (Λ := fun _ _ => .fail) (n := 3) (body := lb Go.Proofs.Tryz.f31 2) hL (hG31 hL n hN) (S := S31_2 p80 p81) (t := t31_2 n p80 p81) (Lv := L31_2) (LamOK.none (by kernel_rfl)) (h31_2 n p80 p81) hi ho
   refine LoopOK.fit hlen ?_ ?_ rfl rfl hl
   ·exact ⟨h0, h1, h2, trivial⟩
   ·exact trivial
  ·cases h
 ·cases h
def Lam31 (n : Nat) : Lam E | 0, σ => rd31_0 n σ | 1, σ => rd31_1 n σ | 2, σ => rd31_2 n σ | _, _ => .fail
def w31 (n : Nat) (a0Kind : Int) (a0Num : Int) (a0Gen : Int) (a0Text : List UInt8) (a0List : List Val) (a0Keys : List (List UInt8)) : Tree (RV E.A × List (Obj E.A)) := .ite (a0List.length.ble (1000000 : Nat) && a0Keys.length.ble (1000000 : Nat)) (.ite (!Px.rBareB a0Kind a0Num a0Gen a0Text a0List.length a0Keys.length) (.leaf (.lf (.bool false), [])) (.ite (ltI 32 (↑(Px.deepV (Int.toNat (100 : Int)) (Val.mk a0Kind a0Num a0Gen a0Text a0List a0Keys)) : Int)) (.leaf (.lf (.bool false), [])) (.ite (eqI a0Kind 1) (.ite (eqI a0Num 0) (.leaf (.lf (.bool true), [])) (.leaf (.lf (.bool (eqI a0Num 1)), []))) (.ite (eqI a0Kind 3) (.leaf (.lf (.bool (Px.plain a0Text)), [])) (.ite (eqI a0Kind 7) (.ite (ltI 0 a0Num) (.ite (ltI a0Num 2147483648) (.ite (leI 0 a0Gen) (.leaf (.lf (.bool (ltI a0Gen 65536)), [])) (.leaf (.lf (.bool false), []))) (.leaf (.lf (.bool false), []))) (.leaf (.lf (.bool false), []))) (.ite (eqI (↑a0Keys.length : Int) (↑a0Keys.length : Int) && Px.likeS a0Keys a0Keys && leI 0 0 && leI 0 (↑a0Keys.length : Int)) (.ite (Px.keysGo' (List.take (Int.toNat (0 : Int)) a0Keys) (List.drop (Int.toNat (0 : Int)) a0Keys)) (.ite (eqI (↑a0List.length : Int) (↑a0List.length : Int) && leI 0 0 && leI 0 (↑a0List.length : Int) && (Px.depthL a0List).ble n && Px.smallL a0List) (.ite (Px.allOk' (0 : Int) (List.drop (Int.toNat (0 : Int)) a0List)) (.leaf (.lf (.bool true), [])) (.leaf (.lf (.bool false), []))) .fail) (.leaf (.lf (.bool false), []))) .fail)))))) .fail
theorem e31 (n : Nat) (a0Kind : Int) (a0Num : Int) (a0Gen : Int) (a0Text : List UInt8) (a0List : List Val) (a0Keys : List (List UInt8)) : execFun E (G31 n) ((Lam31 n)) false Go.Proofs.Tryz.f31 [.agg [.int .u8 a0Kind, .int .i64 a0Num, .int .i64 a0Gen, .str a0Text, .sl .val a0List, .sl .str a0Keys]] [] some = (w31 n a0Kind a0Num a0Gen a0Text a0List a0Keys).get := by kernel_rfl
def raw31 (n : Nat) : Spec E := fun args os => match args, os with | [.agg [.int .u8 a0Kind, .int .i64 a0Num, .int .i64 a0Gen, .str a0Text, .sl .val a0List, .sl .str a0Keys]], [] => w31 n a0Kind a0Num a0Gen a0Text a0List a0Keys | _, _ => .fail
theorem validraw31 (hL : Laws E) (n : Nat) (hN : Valid E 31 (spec31N n)) : Valid E 31 (raw31 n) :=
 valid_of_body hL (hG31 hL n hN) (Λ := (Lam31 n)) (fn := Go.Proofs.Tryz.f31) (keep := false) (by kernel_rfl) (by kernel_rfl) (by kernel_rfl) ((LamOK.of (m := 3) (by kernel_rfl) (fun j hj σ e σ' hg => by
   match j, hj with
   | 0, _ => exact ll31_0 hL n hN σ e σ' hg
   | 1, _ => exact ll31_1 hL n hN σ e σ' hg
   | 2, _ => exact ll31_2 hL n hN σ e σ' hg
   ))) (fun args os r os' h => by
  unfold raw31 at h
  split at h
  ·exact (e31 _ _ _ _ _ _ _).trans h
  ·cases h)
theorem eq31 {n : Nat} (k a1 a2 : Int) (a3 : List UInt8) {a4 : List Val} (a5 : List (List UInt8)) (hn : Nat.ble (Px.depthL a4) n = true) (hs : Px.smallV (Val.mk k a1 a2 a3 a4 a5) = true) :
  (w31 n k a1 a2 a3 a4 a5).get = some (.lf (.bool (Px.okV 0 (Val.mk k a1 a2 a3 a4 a5))), []) := by
 rw [Px.smallV, Bool.and_eq_true, Bool.and_eq_true] at hs
 obtain ⟨s1, s2, s3⟩ := hs
 have g1 : (eqI (a5.length : Int) (a5.length : Int) && Px.likeS a5 a5 && leI 0 0 && leI 0 (a5.length : Int)) = true := by
  unfold Px.likeS; simp [eqI_eq, leI_eq]
 have g2 : (eqI (a4.length : Int) (a4.length : Int) && leI 0 0 && leI 0 (a4.length : Int) && (Px.depthL a4).ble n && Px.smallL a4) = true := by
  rw [hn, s3]; simp [eqI_eq, leI_eq]
 have e0 : Int.toNat (0 : Int) = 0 := rfl
 have l0 : ltI 0 a1 = leI 1 a1 := by rw [ltI_eq, leI_eq]; exact decide_eq_decide.2 (by omega)
 have l1 : ltI a1 2147483648 = leI a1 2147483647 := by rw [ltI_eq, leI_eq]; exact decide_eq_decide.2 (by omega)
 have l2 : ltI a2 65536 = leI a2 65535 := by rw [ltI_eq, leI_eq]; exact decide_eq_decide.2 (by omega)
 unfold w31
 simp only [Tree.get_ite, Tree.get_leaf, s1, s2, Bool.and_self, cond_true, g1, g2, e0, List.take_zero, List.drop_zero, Px.keysGo'_eq, Px.allOk'_eq, l0, l1, l2]
 cases qb : Px.rBareB k a1 a2 a3 a4.length a5.length with
 | false =>
  have : Px.locB k a1 a2 a3 a4.length a5 = false := by
   unfold Px.rBareB at qb
   unfold Px.locB
   cases q7 : leI k 7 with
   | false => rfl
   | true =>
    rw [q7, Bool.true_and] at qb
    cases qq : Px.bareB k a1 a2 a3 a4.length a5.length with
    | false => rfl
    | true =>
     rw [qq, Bool.true_and] at qb
     cases q6 : eqI k 6 with
     | false => rw [q6] at qb; cases qb
     | true =>
      rw [q6, cond_true] at qb
      have hk := Px.eqI_of q6
      subst hk
      rw [qb]
      show (true && (true && (Px.keysGo [] a5 && false))) = false
      simp
  rw [Px.okV_mk, this]; rfl
 | true =>
  simp only [Bool.not_true, cond_false]
  by_cases hd : Px.dls a4 ≤ 32
  ·have e1 : ltI 32 ((Px.deepV (Int.toNat 100) (Val.mk k a1 a2 a3 a4 a5) : Nat) : Int) = false := by
    unfold Px.deepV
    rw [Px.dl, ltI_eq]; exact decide_eq_false (by omega)
   have e2 : leI ((Px.dls a4 : Int) + 0) 32 = true := by rw [leI_eq]; exact decide_eq_true (by omega)
   have e3 : Px.allOk 0 a4 = Px.rRs a4 := by
    rw [Px.allOk_eq 0 (by omega), show leI ((Px.dls a4 : Int) + (0 - 1)) 32 = true by rw [leI_eq]; exact decide_eq_true (by omega), Bool.and_true]
   rw [e1, cond_false, Px.okV_mk, e2, Bool.and_true, e3]
   unfold Px.rBareB at qb
   rw [Bool.and_eq_true, Bool.and_eq_true] at qb
   obtain ⟨q7, qb, q6⟩ := qb
   have el : Px.locB k a1 a2 a3 a4.length a5 = cond (eqI k 1) (eqI a1 0 || eqI a1 1) (cond (eqI k 3) (Px.plain a3) (cond (eqI k 7) (leI 1 a1 && (leI a1 2147483647 && (leI 0 a2 && leI a2 65535))) (cond (eqI k 6) (Px.keysGo [] a5 && eqI (a5.length : Int) (a4.length : Int)) true))) := by
    unfold Px.locB; rw [q7, qb]; rfl
   rw [el]
   have flat : eqI k 5 = false → eqI k 6 = false → Px.rRs a4 = true := fun h5 h6 => by
    have h4 : a4 = [] := List.length_eq_zero_iff.1 (Px.bare_list qb h5 h6)
    rw [h4]; rfl
   cases q1 : eqI k 1 with
   | true =>
    have hk := Px.eqI_of q1
    rw [flat (by rw [hk]; rfl) (by rw [hk]; rfl)]
    simp only [cond_true, Bool.and_true]
    cases eqI a1 0 <;> rfl
   | false =>
    cases q3 : eqI k 3 with
    | true =>
     have hk := Px.eqI_of q3
     rw [flat (by rw [hk]; rfl) (by rw [hk]; rfl)]
     simp only [cond_true, cond_false, Bool.and_true]
    | false =>
     cases q77 : eqI k 7 with
     | true =>
      have hk := Px.eqI_of q77
      rw [flat (by rw [hk]; rfl) (by rw [hk]; rfl)]
      simp only [cond_true, cond_false, Bool.and_true]
      cases leI 1 a1 <;> cases leI a1 2147483647 <;> cases leI 0 a2 <;> rfl
     | false =>
      simp only [cond_false]
      cases qk : eqI k 6 with
      | true =>
       rw [qk, cond_true] at q6
       rw [q6, Bool.and_true, cond_true]
       cases Px.keysGo [] a5 <;> cases Px.rRs a4 <;> rfl
      | false =>
       have h5 : a5 = [] := by
        unfold Px.bareB at qb
        rw [qk] at qb
        simp only [Bool.false_or, Bool.and_eq_true, eqI_eq, decide_eq_true_eq] at qb
        exact List.length_eq_zero_iff.1 (by omega)
       rw [h5]
       show cond true (cond (Px.rRs a4) _ _) _ = _
       cases Px.rRs a4 <;> rfl
  ·have e1 : ltI 32 ((Px.deepV (Int.toNat 100) (Val.mk k a1 a2 a3 a4 a5) : Nat) : Int) = true := by
    unfold Px.deepV
    rw [Px.dl, ltI_eq]
    have : Int.toNat (100 : Int) = 100 := rfl
    exact decide_eq_true (by omega)
   rw [e1, cond_true, Px.okV_mk, show leI ((Px.dls a4 : Int) + 0) 32 = false by rw [leI_eq]; exact decide_eq_false (by omega)]
   simp
theorem valid31N (hL : Laws E) : ∀ n, Valid E 31 (spec31N n)
 | 0 => Valid.never (fun args os => by
   unfold spec31N
   split
   ·rfl
   ·rfl)
 | n + 1 => (validraw31 hL n (valid31N hL n)).less (fun args os x u1 u2 h => by
   clear u1 u2
   unfold spec31N at h
   split at h
   ·rename_i a0 a1 a2 a3 a4 a5
    rcases Tree.get_ite_some h with ⟨h1, h'⟩ | ⟨_, h'⟩
    ·rw [Bool.and_eq_true] at h1
     exact (eq31 a0 a1 a2 a3 a5 h1.1 h1.2).trans h'
    ·cases h'
   ·cases h)
def spec31 : Spec E := fun args os => match args, os with | [.agg [.int .u8 a0, .int .i64 a1, .int .i64 a2, .str a3, .sl .val a4, .sl .str a5]], [] => .ite (Px.smallV (Val.mk a0 a1 a2 a3 a4 a5)) (.leaf (.lf (.bool (Px.okV 0 (Val.mk a0 a1 a2 a3 a4 a5))), [])) .fail | _, _ => .fail
theorem valid31 (hL : Laws E) : Valid E 31 spec31 := Valid.forN (valid31N hL) (fun args os x h => by
 unfold spec31 at h
 split at h
 ·rename_i a0 a1 a2 a3 a4 a5
  refine ⟨Px.depthL a4 + 1, ?_⟩
  rcases Tree.get_ite_some h with ⟨h1, h'⟩ | ⟨_, h'⟩
  ·unfold spec31N
   have : Nat.blt (Px.depthL a4) (Px.depthL a4 + 1) = true := Nat.ble_eq ▸ Nat.le_refl _
   rw [Tree.get_ite, this, Bool.true_and, h1]
   exact h'
  ·cases h'
 ·cases h)
end Go.Vx
namespace Go.Vx
open Go
def G13 : FuncId → Option (Spec E) | 35 => some spec35 | _ => none
theorem hG13 (hL : Laws E) : ∀ f spec, G13 f = some spec → Valid E f spec := by
 intro f spec h
 unfold G13 at h
 split at h
 ·injection h with h; subst h; exact valid35 hL
 ·cases h
def L13_1 : Ex → Live | .normal => ⟨[0, 1], []⟩ | .exit 2 => ⟨[0, 1], []⟩ | .ret => ⟨[4], []⟩ | _ => ⟨[], []⟩
def S13_1 (p0 : List UInt8) (x : Int) : St E.A := at' E 53 [(0, .lf (.sl .u8 p0)), (1, .lf (.int .i64 x))] []
def t13_1 (p0 : List UInt8) (x : Int) : Tree ((Int) ⊕ Out' E) := .ite (ltI x (↑p0.length : Int)) (.ite (inB x p0.length) (.ite (!eqI (↑(p0.getD x.toNat (0 : UInt8)).toNat : Int) (10 : Int)) (.ite (inB x p0.length) (.ite (!eqI (↑(p0.getD x.toNat (0 : UInt8)).toNat : Int) (13 : Int)) (.leaf (.inl ((IntKind.i64.wrap (x + (1 : Int)))))) (.leaf (.inr (.exit 2, at' E 53 [(0, .lf (.sl .u8 p0)), (1, .lf (.int .i64 x))] [])))) .fail) (.leaf (.inr (.exit 2, at' E 53 [(0, .lf (.sl .u8 p0)), (1, .lf (.int .i64 x))] [])))) .fail) (.leaf (.inr (.exit 2, at' E 53 [(0, .lf (.sl .u8 p0)), (1, .lf (.int .i64 x))] [])))
theorem h13_1 (p0 : List UInt8) (x : Int) (k : Ex → St E.A → Option Unit) :
  exec E G13 (fun _ _ => .fail) 2 (lb Go.Proofs.Tryz.f13 1) (S13_1 p0 x) (fun e σ1 => k e (clean E (L13_1 e) σ1)) = (t13_1 p0 x).run (Sum.elim (fun x' => k .normal (S13_1 p0 x')) (fun o => k o.1 o.2)) := by kernel_rfl
def lam13_1 (p0 : List UInt8) (x : Int) : Tree (Out' E) := .ite (leI 0 x && leI x p0.length) (.leaf (.exit 2, at' E 53 [(0, .lf (.sl .u8 p0)), (1, .lf (.int .i64 (x + (Px.lineN (p0.drop x.toNat) : Int))))] [])) .fail
theorem m13_1 {p0 : List UInt8} {x : Int} {e : Ex} {σ : St E.A} (g : okLenR (E := E) (.lf (.sl .u8 p0)) = true)
  (h : (lam13_1 p0 x).get = some (e, σ)) : ∃ fuel, iter (t13_1 p0) fuel x = some (e, σ) ∧ e ≠ .normal := by
 have hb : p0.length ≤ big := of_decide_eq_true g
 unfold lam13_1 at h
 have h' := Tree.get_ite_some h
 clear h
 rcases h' with ⟨h1, h⟩ | ⟨_, h⟩
 ·simp only [leI_eq, Bool.and_eq_true, decide_eq_true_eq] at h1
  obtain ⟨i, rfl⟩ : ∃ j : Nat, x = (j : Int) := ⟨x.toNat, by omega⟩
  have key := range_iter (t := t13_1 p0) (l := p0) (0 : UInt8) (fun (_ : Unit) i => i) (fun i _ b => cond (Px.nl b) (.inr (Ex.exit 2, at' E 53 [(0, .lf (.sl .u8 p0)), (1, .lf (.int .i64 (i : Int)))] [])) (.inl ()))
   (fun _ => (Ex.exit 2, at' E 53 [(0, .lf (.sl .u8 p0)), (1, .lf (.int .i64 (p0.length : Int)))] [])) (fun _ _ => True)
   (fun i a hi _ => ⟨by
    simp only [t13_1, Tree.get_ite, Tree.get_leaf, ltI_nat hi, inB_nat hi, cond_true, i64_succ hi hb, Int.toNat_natCast, Px.nl]
    cases eqI ((p0.getD i 0).toNat : Int) 10 <;> cases eqI ((p0.getD i 0).toNat : Int) 13 <;> rfl, fun _ _ => trivial⟩)
   (fun a _ => by simp only [t13_1, Tree.get_ite, Tree.get_leaf, ltI_self, cond_false])
   (p0.length - i) i () (by omega) trivial
  rw [run_line (fun j => (Ex.exit 2, at' E 53 [(0, .lf (.sl .u8 p0)), (1, .lf (.int .i64 j))] [])) p0.length _ _ (by simp; omega)] at key
  rw [Int.toNat_natCast] at h
  refine ⟨_, key.trans h, ?_⟩
  injection h with h; injection h with h1 _; rw [← h1]; intro hh; cases hh
 ·cases h
def rd13_1 (σ : St E.A) : Tree (Out' E) :=
 let c := clean E (L13_1 .normal) σ
 if c.sl.length = 53 then
 match c.sl.getD 0 .undef, c.sl.getD 1 .undef with
 | .lf (.sl .u8 p0), .lf (.int .i64 x1) => lam13_1 p0 (x1)
 | _, _ => .fail
 else .fail
theorem ll13_1 (hL : Laws E) (σ : St E.A) (e : Ex) (σ' : St E.A) (h : (rd13_1 σ).get = some (e, σ')) : LoopOK E (lb Go.Proofs.Tryz.f13 1) σ e σ' := by
 refine LoopOK.of_clean hL (L13_1 .normal) ?_
 unfold rd13_1 at h
 simp only at h
 split at h
 ·rename_i hlen
  split at h
  ·rename_i p0 x1 h0 h1
   refine LoopOK.lens 0 (fun g0 => ?_)
   rw [h0] at g0
   obtain ⟨fuel, hi, ho⟩ := m13_1 g0 h
   have hl := loop_at (Γ := G13) (Λ := fun _ _ => .fail) (n := 2) (body := lb Go.Proofs.Tryz.f13 1) hL (hG13 hL) (S := S13_1 p0) (t := t13_1 p0) (Lv := L13_1) (LamOK.none (by kernel_rfl)) (h13_1 p0) hi ho
   refine LoopOK.fit hlen ?_ ?_ rfl rfl hl
   ·exact ⟨h0, h1, trivial⟩
   ·exact trivial
  ·cases h
 ·cases h
def L13_0 : Ex → Live | .normal => ⟨[0, 1], []⟩ | .exit 0 => ⟨[1], []⟩ | .ret => ⟨[4], []⟩ | _ => ⟨[], []⟩
def S13_0 (p0 : List UInt8) (x : Int) : St E.A := at' E 53 [(0, .lf (.sl .u8 p0)), (1, .lf (.int .i64 x))] []
def Lm13_0 : Lam E | 1, σ => rd13_1 σ | _, _ => .fail
def t13_0 (p0 : List UInt8) (x : Int) : Tree ((Int) ⊕ Out' E) := .ite (ltI x (↑p0.length : Int)) (.ite (inB x p0.length) (.ite (eqI (↑(p0.getD x.toNat (0 : UInt8)).toNat : Int) (37 : Int)) (.ite (leI 0 x && leI x (↑p0.length : Int)) (.leaf (.inl ((x + (↑(Px.lineN (List.drop x.toNat p0)) : Int))))) .fail) (.ite (inB x p0.length) (.ite (Px.blank (↑(p0.getD x.toNat (0 : UInt8)).toNat : Int)) (.leaf (.inl ((IntKind.i64.wrap (x + (1 : Int)))))) (.leaf (.inr (.ret, at' E 53 [(4, .lf (.int .i64 x))] [])))) .fail)) .fail) (.leaf (.inr (.exit 0, at' E 53 [(1, .lf (.int .i64 x))] [])))
theorem h13_0 (p0 : List UInt8) (x : Int) (k : Ex → St E.A → Option Unit) :
  exec E G13 ((Lm13_0)) 1 (lb Go.Proofs.Tryz.f13 0) (S13_0 p0 x) (fun e σ1 => k e (clean E (L13_0 e) σ1)) = (t13_0 p0 x).run (Sum.elim (fun x' => k .normal (S13_0 p0 x')) (fun o => k o.1 o.2)) := by kernel_rfl
def lam13_0 (p0 : List UInt8) (x : Int) : Tree (Out' E) := .ite (leI 0 x && leI x p0.length) (.ite (ltI (x + (Px.skipN false (p0.drop x.toNat) : Int)) p0.length) (.leaf (.ret, at' E 53 [(4, .lf (.int .i64 (x + (Px.skipN false (p0.drop x.toNat) : Int))))] [])) (.leaf (.exit 0, at' E 53 [(1, .lf (.int .i64 (x + (Px.skipN false (p0.drop x.toNat) : Int))))] []))) .fail
theorem lam13_at (p0 : List UInt8) (i : Nat) (hi : i ≤ p0.length) : (lam13_0 p0 (i : Int)).get = cond (ltI ((i + Px.skipN false (p0.drop i) : Nat) : Int) p0.length)
  (some (.ret, at' E 53 [(4, .lf (.int .i64 ((i + Px.skipN false (p0.drop i) : Nat) : Int)))] [])) (some (.exit 0, at' E 53 [(1, .lf (.int .i64 ((i + Px.skipN false (p0.drop i) : Nat) : Int)))] [])) := by
 unfold lam13_0
 have h1 : (leI 0 (i : Int) && leI (i : Int) p0.length) = true := by simp only [leI_eq, Bool.and_eq_true, decide_eq_true_eq]; omega
 rw [Tree.get_ite, h1, cond_true, Int.toNat_natCast, ← Int.natCast_add]
 rfl
theorem skip37 {b : UInt8} {r : List UInt8} (h : eqI (b.toNat : Int) 37 = true) : Px.skipN false (b :: r) = Px.lineN (b :: r) + Px.skipN false ((b :: r).drop (Px.lineN (b :: r))) ∧ 0 < Px.lineN (b :: r) := by
 have hn : Px.nl b = false := by
  cases hh : Px.nl b with
  | false => rfl
  | true => rw [(Px.nl_blank hh).2] at h; cases h
 simp only [Px.skipN, Px.lineN, h, hn, cond_true, cond_false, List.drop_succ_cons]
 rw [Px.skipN_line r]; omega
theorem m13_0 {p0 : List UInt8} {x : Int} {e : Ex} {σ : St E.A} (g : okLenR (E := E) (.lf (.sl .u8 p0)) = true)
  (h : (lam13_0 p0 x).get = some (e, σ)) : ∃ fuel, iter (t13_0 p0) fuel x = some (e, σ) ∧ e ≠ .normal := by
 have hb : p0.length ≤ big := of_decide_eq_true g
 refine ⟨(p0.length - x).toNat + 1, iter_tree (lam := lam13_0 p0) (m := fun x => (p0.length - x).toNat) (fun x o h => ?_) _ x (e, σ) h (by omega), ?_⟩
 ·have hx : 0 ≤ x ∧ x ≤ p0.length := by
   unfold lam13_0 at h
   rcases Tree.get_ite_some h with ⟨h1, _⟩ | ⟨_, h⟩
   ·simpa only [leI_eq, Bool.and_eq_true, decide_eq_true_eq] using h1
   ·cases h
  obtain ⟨i, rfl⟩ : ∃ j : Nat, x = (j : Int) := ⟨x.toNat, by omega⟩
  have hi : i ≤ p0.length := by omega
  rw [lam13_at p0 i hi] at h
  by_cases hl : i < p0.length
  ·have hd := drop_cons p0 0 i hl
   cases h37 : eqI ((p0.getD i 0).toNat : Int) 37 with
   | true =>
    obtain ⟨s1, s2⟩ := skip37 (r := p0.drop (i + 1)) h37
    rw [← hd] at s1 s2
    have hle := Px.lineN_le (p0.drop i)
    rw [List.length_drop] at hle
    have hg : (leI 0 (i : Int) && leI (i : Int) p0.length) = true := by simp only [leI_eq, Bool.and_eq_true, decide_eq_true_eq]; omega
    refine .inl ⟨((i + Px.lineN (p0.drop i) : Nat) : Int), ?_, by first | omega | (simp only; omega), ?_⟩
    ·simp only [t13_0, Tree.get_ite, Tree.get_leaf, ltI_nat hl, inB_nat hl, cond_true, Int.toNat_natCast, h37, hg, Int.natCast_add]
    ·rw [lam13_at p0 _ (by omega)]
     rw [s1, List.drop_drop, ← Nat.add_assoc] at h
     exact h
   | false =>
    cases hbl : Px.blank ((p0.getD i 0).toNat : Int) with
    | true =>
     have s1 : Px.skipN false (p0.drop i) = Px.skipN false (p0.drop (i + 1)) + 1 := by
      rw [hd]; simp only [Px.skipN, h37, hbl, cond_true, cond_false]
     refine .inl ⟨((i + 1 : Nat) : Int), ?_, by first | omega | (simp only; omega), ?_⟩
     ·simp only [t13_0, Tree.get_ite, Tree.get_leaf, ltI_nat hl, inB_nat hl, cond_true, cond_false, Int.toNat_natCast, h37, hbl, i64_succ hl hb]
     ·rw [lam13_at p0 _ (by omega)]
      rw [s1, show i + (Px.skipN false (p0.drop (i + 1)) + 1) = i + 1 + Px.skipN false (p0.drop (i + 1)) by omega] at h
      exact h
    | false =>
     have s1 : Px.skipN false (p0.drop i) = 0 := by
      rw [hd]; simp only [Px.skipN, h37, hbl, cond_false]
     refine .inr ?_
     rw [s1, Nat.add_zero, ltI_nat hl, cond_true] at h
     injection h with h
     subst h
     simp only [t13_0, Tree.get_ite, Tree.get_leaf, ltI_nat hl, inB_nat hl, cond_true, cond_false, Int.toNat_natCast, h37, hbl]
  ·have he : i = p0.length := by omega
   subst he
   refine .inr ?_
   rw [List.drop_length, show Px.skipN false [] = 0 from rfl, Nat.add_zero, ltI_self, cond_false] at h
   injection h with h
   subst h
   simp only [t13_0, Tree.get_ite, Tree.get_leaf, ltI_self, cond_false]
 ·unfold lam13_0 at h
  rcases Tree.get_ite_some h with ⟨_, h⟩ | ⟨_, h⟩
  ·rcases Tree.get_ite_some h with ⟨_, h⟩ | ⟨_, h⟩ <;> (injection h with h; injection h with h1 _; rw [← h1]; intro hh; cases hh)
  ·cases h
def rd13_0 (σ : St E.A) : Tree (Out' E) :=
 let c := clean E (L13_0 .normal) σ
 if c.sl.length = 53 then
 match c.sl.getD 0 .undef, c.sl.getD 1 .undef with
 | .lf (.sl .u8 p0), .lf (.int .i64 x1) => lam13_0 p0 (x1)
 | _, _ => .fail
 else .fail
theorem ll13_0 (hL : Laws E) (σ : St E.A) (e : Ex) (σ' : St E.A) (h : (rd13_0 σ).get = some (e, σ')) : LoopOK E (lb Go.Proofs.Tryz.f13 0) σ e σ' := by
 refine LoopOK.of_clean hL (L13_0 .normal) ?_
 unfold rd13_0 at h
 simp only at h
 split at h
 ·rename_i hlen
  split at h
  ·rename_i p0 x1 h0 h1
   refine LoopOK.lens 0 (fun g0 => ?_)
   rw [h0] at g0
   obtain ⟨fuel, hi, ho⟩ := m13_0 g0 h
   have hl := loop_at (Γ := G13) (Λ := (Lm13_0)) (n := 1) (body := lb Go.Proofs.Tryz.f13 0) hL (hG13 hL) (S := S13_0 p0) (t := t13_0 p0) (Lv := L13_0) ((LamOK.of (m := 1) (by kernel_rfl) (fun j hj σ e σ' hg => by
   match j, hj with
   | 0, _ => exact (show (loopAt (lb Go.Proofs.Tryz.f13 0) 0).getD .skip = lb Go.Proofs.Tryz.f13 1 from by kernel_rfl) ▸ ll13_1 hL σ e σ' hg
   ))) (h13_0 p0) hi ho
   refine LoopOK.fit hlen ?_ ?_ rfl rfl hl
   ·exact ⟨h0, h1, trivial⟩
   ·exact trivial
  ·cases h
 ·cases h
def Lam13 : Lam E | 0, σ => rd13_0 σ | 1, σ => rd13_1 σ | _, _ => .fail
def w13 (a0 : List UInt8) (a1 : Int) : Tree (RV E.A × List (Obj E.A)) := .ite (ltI a1 0) (.leaf (.lf (.int .i64 ((↑a0.length : Int))), [])) (.ite (ltI (↑a0.length : Int) a1) (.leaf (.lf (.int .i64 ((↑a0.length : Int))), [])) (.ite (leI 0 a1 && leI a1 (↑a0.length : Int)) (.ite (ltI (a1 + (↑(Px.skipN false (List.drop a1.toNat a0)) : Int)) (↑a0.length : Int)) (.leaf (.lf (.int .i64 (a1 + (↑(Px.skipN false (List.drop a1.toNat a0)) : Int))), [])) (.leaf (.lf (.int .i64 (a1 + (↑(Px.skipN false (List.drop a1.toNat a0)) : Int))), []))) .fail))
theorem e13 (a0 : List UInt8) (a1 : Int) : execFun E G13 ((Lam13)) false Go.Proofs.Tryz.f13 [.lf (.sl .u8 a0), .lf (.int .i64 a1)] [] some = (w13 a0 a1).get := by kernel_rfl
def raw13 : Spec E := fun args os => match args, os with | [.lf (.sl .u8 a0), .lf (.int .i64 a1)], [] => w13 a0 a1 | _, _ => .fail
theorem validraw13 (hL : Laws E) : Valid E 13 raw13 :=
 valid_of_body hL (hG13 hL) (Λ := (Lam13)) (fn := Go.Proofs.Tryz.f13) (keep := false) (by kernel_rfl) (by kernel_rfl) (by kernel_rfl) ((LamOK.of (m := 2) (by kernel_rfl) (fun j hj σ e σ' hg => by
   match j, hj with
   | 0, _ => exact ll13_0 hL σ e σ' hg
   | 1, _ => exact ll13_1 hL σ e σ' hg
   ))) (fun args os r os' h => by
  unfold raw13 at h
  split at h
  ·exact (e13 _ _).trans h
  ·cases h)
theorem eq13 (p : List UInt8) (i : Nat) (hi : i ≤ p.length) : (w13 p (i : Int)).get = some (.lf (.int .i64 ((i + Px.skipN false (p.drop i) : Nat) : Int)), []) := by
 have e0 : ltI (i : Int) 0 = false := by rw [ltI_eq]; exact decide_eq_false (by omega)
 have e1 : ltI (p.length : Int) (i : Int) = false := by rw [ltI_eq]; exact decide_eq_false (by omega)
 have h1 : (leI 0 (i : Int) && leI (i : Int) p.length) = true := by simp only [leI_eq, Bool.and_eq_true, decide_eq_true_eq]; omega
 unfold w13
 simp only [Tree.get_ite, Tree.get_leaf, e0, e1, h1, cond_true, cond_false, Int.toNat_natCast, Int.natCast_add]
 cases ltI ((i : Int) + (Px.skipN false (p.drop i) : Int)) (p.length : Int) <;> rfl
theorem eqI13 (p : List UInt8) (i : Int) : (w13 p i).get = some (.lf (.int .i64 (Px.skipI p i)), []) := by
 unfold Px.skipI
 cases c1 : ltI i 0 with
 | true => unfold w13; rw [Tree.get_ite, c1]; rfl
 | false =>
  cases c2 : ltI (p.length : Int) i with
  | true => unfold w13; rw [Tree.get_ite, c1, cond_false, Tree.get_ite, c2]; rfl
  | false =>
   rw [ltI_eq, decide_eq_false_iff_not] at c1 c2
   obtain ⟨j, rfl⟩ : ∃ j : Nat, i = (j : Int) := ⟨i.toNat, by omega⟩
   rw [eq13 p j (by omega), Int.toNat_natCast, ← Int.natCast_add]
   rfl
def spec13 : Spec E := fun args os => match args, os with | [.lf (.sl .u8 p), .lf (.int .i64 i)], [] => .leaf (.lf (.int .i64 (Px.skipI p i)), []) | _, _ => .fail
theorem valid13 (hL : Laws E) : Valid E 13 spec13 := (validraw13 hL).less (fun args os x _ _ h => by
 unfold spec13 at h
 split at h
 ·exact (eqI13 _ _).trans h
 ·cases h)
end Go.Vx
namespace Go.Vx
open Go
def G56 : FuncId → Option (Spec E) := fun _ => none
theorem hG56 (hL : Laws E) : ∀ f spec, G56 f = some spec → Valid E f spec := by
 intro f spec h
 cases h
def w56 (a0 : List UInt8) (a1 : Int) (a2 : List UInt8) : Tree (RV E.A × List (Obj E.A)) := .ite (leI (↑a2.length : Int) (IntKind.i64.wrap ((↑a0.length : Int) - a1))) (.ite (leI 0 a1 && leI a1 (IntKind.i64.wrap (a1 + (↑a2.length : Int))) && leI (IntKind.i64.wrap (a1 + (↑a2.length : Int))) (↑a0.length : Int)) (.leaf (.lf (.bool (decide (List.drop a1.toNat (List.take (IntKind.i64.wrap (a1 + (↑a2.length : Int))).toNat a0) = a2))), [])) .fail) (.leaf (.lf (.bool false), []))
theorem e56 (a0 : List UInt8) (a1 : Int) (a2 : List UInt8) : execFun E G56 (fun _ _ => .fail) false Go.Proofs.Tryz.f56 [.lf (.sl .u8 a0), .lf (.int .i64 a1), .lf (.str a2)] [] some = (w56 a0 a1 a2).get := by kernel_rfl
def raw56 : Spec E := fun args os => match args, os with | [.lf (.sl .u8 a0), .lf (.int .i64 a1), .lf (.str a2)], [] => w56 a0 a1 a2 | _, _ => .fail
theorem validraw56 (hL : Laws E) : Valid E 56 raw56 :=
 valid_of_body hL (hG56 hL) (Λ := fun _ _ => .fail) (fn := Go.Proofs.Tryz.f56) (keep := false) (by kernel_rfl) (by kernel_rfl) (by kernel_rfl) (LamOK.none (by kernel_rfl)) (fun args os r os' h => by
  unfold raw56 at h
  split at h
  ·exact (e56 _ _ _).trans h
  ·cases h)
theorem eq56 (p : List UInt8) (i : Int) (s : List UInt8) (h : Px.okAt p i = true) (hs : s.length ≤ 1000) : (w56 p i s).get = some (.lf (.bool (Px.preAt p i s)), []) := by
 obtain ⟨h0, h1, hp⟩ := Px.okAt_iff.1 h
 obtain ⟨n, rfl⟩ : ∃ j : Nat, i = (j : Int) := ⟨i.toNat, by omega⟩
 have hn : n ≤ p.length := by omega
 have e1 : IntKind.i64.wrap ((p.length : Int) - (n : Int)) = ((p.length - n : Nat) : Int) := by rw [wi64] <;> omega
 have e2 : IntKind.i64.wrap ((n : Int) + (s.length : Int)) = ((n + s.length : Nat) : Int) := by rw [wi64] <;> omega
 have e3 : List.drop n (List.take (n + s.length) p) = (p.drop n).take s.length := by
  rw [List.drop_take]; congr 1; omega
 unfold w56 Px.preAt Px.hasPre
 rw [Tree.get_ite, Tree.get_ite, Tree.get_leaf, Tree.get_leaf, e1, e2]
 simp only [Int.toNat_natCast, e3]
 by_cases hl : s.length ≤ p.length - n
 ·have g1 : leI (s.length : Int) ((p.length - n : Nat) : Int) = true := by rw [leI_eq]; exact decide_eq_true (by omega)
  have g2 : (leI 0 (n : Int) && leI (n : Int) ((n + s.length : Nat) : Int) && leI ((n + s.length : Nat) : Int) (p.length : Int)) = true := by
   simp only [leI_eq, Bool.and_eq_true, decide_eq_true_eq]; omega
  rw [g1, g2]; rfl
 ·have g1 : leI (s.length : Int) ((p.length - n : Nat) : Int) = false := by rw [leI_eq]; exact decide_eq_false (by omega)
  have g2 : decide ((p.drop n).take s.length = s) = false := decide_eq_false (fun hh => by
   have := congrArg List.length hh
   rw [List.length_take, List.length_drop] at this
   omega)
  rw [g1, g2]; rfl
def spec56 : Spec E := fun args os => match args, os with | [.lf (.sl .u8 p), .lf (.int .i64 i), .lf (.str s)], [] => .ite (Px.okAt p i && Nat.ble s.length 1000) (.leaf (.lf (.bool (Px.preAt p i s)), [])) .fail | _, _ => .fail
theorem valid56 (hL : Laws E) : Valid E 56 spec56 := (validraw56 hL).less (fun args os x u1 u2 h => by
 clear u1 u2
 unfold spec56 at h
 split at h
 ·rename_i p i s
  rcases Tree.get_ite_some h with ⟨h1, h'⟩ | ⟨_, h'⟩
  ·simp only [Bool.and_eq_true, Nat.ble_eq] at h1
   exact (eq56 p i s h1.1 h1.2).trans h'
  ·cases h'
 ·cases h)
end Go.Vx
namespace Go.Vx
open Go
def G60 : FuncId → Option (Spec E) | 35 => some spec35 | 74 => some spec74 | _ => none
theorem hG60 (hL : Laws E) : ∀ f spec, G60 f = some spec → Valid E f spec := by
 intro f spec h
 unfold G60 at h
 split at h
 ·injection h with h; subst h; exact valid35 hL
 ·injection h with h; subst h; exact valid74 hL
 ·cases h
def L60_0 : Ex → Live | .normal => ⟨[0, 1, 6], []⟩ | .exit 0 => ⟨[0, 1, 6], []⟩ | .ret => ⟨[4, 5], []⟩ | _ => ⟨[], []⟩
def S60_0 (p0 : List UInt8) (p1 : Int) (x : Int) : St E.A := at' E 36 [(0, .lf (.sl .u8 p0)), (1, .lf (.int .i64 p1)), (6, .lf (.int .i64 x))] []
def t60_0 (p0 : List UInt8) (p1 : Int) (x : Int) : Tree ((Int) ⊕ Out' E) := .ite (ltI x (↑p0.length : Int)) (.ite (inB x p0.length) (.ite (!Px.blank (↑(p0.getD x.toNat (0 : UInt8)).toNat : Int)) (.ite (inB x p0.length) (.ite (inRb IntKind.u8 (↑(p0.getD x.toNat (0 : UInt8)).toNat : Int)) (.ite (!Px.mark (UInt8.ofNat (↑(p0.getD x.toNat (0 : UInt8)).toNat : Int).toNat)) (.leaf (.inl ((IntKind.i64.wrap (x + (1 : Int)))))) (.leaf (.inr (.exit 0, at' E 36 [(0, .lf (.sl .u8 p0)), (1, .lf (.int .i64 p1)), (6, .lf (.int .i64 x))] [])))) .fail) .fail) (.leaf (.inr (.exit 0, at' E 36 [(0, .lf (.sl .u8 p0)), (1, .lf (.int .i64 p1)), (6, .lf (.int .i64 x))] [])))) .fail) (.leaf (.inr (.exit 0, at' E 36 [(0, .lf (.sl .u8 p0)), (1, .lf (.int .i64 p1)), (6, .lf (.int .i64 x))] [])))
theorem h60_0 (p0 : List UInt8) (p1 : Int) (x : Int) (k : Ex → St E.A → Option Unit) :
  exec E G60 (fun _ _ => .fail) 1 (lb Go.Proofs.Tryz.f60 0) (S60_0 p0 p1 x) (fun e σ1 => k e (clean E (L60_0 e) σ1)) = (t60_0 p0 p1 x).run (Sum.elim (fun x' => k .normal (S60_0 p0 p1 x')) (fun o => k o.1 o.2)) := by kernel_rfl
def lam60_0 (p0 : List UInt8) (p1 : Int) (x : Int) : Tree (Out' E) := .ite (leI 0 x && leI x p0.length) (.leaf (.exit 0, at' E 36 [(0, .lf (.sl .u8 p0)), (1, .lf (.int .i64 p1)), (6, .lf (.int .i64 (x + (Px.wordN' (p0.drop x.toNat) : Int))))] [])) .fail
theorem m60_0 {p0 : List UInt8} {p1 : Int} {x : Int} {e : Ex} {σ : St E.A} (g : okLenR (E := E) (.lf (.sl .u8 p0)) = true)
  (h : (lam60_0 p0 p1 x).get = some (e, σ)) : ∃ fuel, iter (t60_0 p0 p1) fuel x = some (e, σ) ∧ e ≠ .normal := by
 have hb : p0.length ≤ big := of_decide_eq_true g
 unfold lam60_0 at h
 have h' := Tree.get_ite_some h
 clear h
 rcases h' with ⟨h1, h⟩ | ⟨_, h⟩
 ·simp only [leI_eq, Bool.and_eq_true, decide_eq_true_eq] at h1
  obtain ⟨k1, k2⟩ := h1
  obtain ⟨i, rfl⟩ : ∃ j : Nat, x = (j : Int) := ⟨x.toNat, by omega⟩
  have key := scan_iter (t := t60_0 p0 p1) (l := p0) 0 (fun i b => cond (Px.stopB b) (some (Ex.exit 0, at' E 36 [(0, .lf (.sl .u8 p0)), (1, .lf (.int .i64 p1)), (6, .lf (.int .i64 (i : Int)))] [])) none) (Ex.exit 0, at' E 36 [(0, .lf (.sl .u8 p0)), (1, .lf (.int .i64 p1)), (6, .lf (.int .i64 (p0.length : Int)))] [])
   (fun i hi => by
    unfold t60_0
    simp only [Tree.get_ite, Tree.get_leaf, ltI_nat hi, inB_nat hi, cond_true, i64_succ hi hb, Int.toNat_natCast, inRb_u8, Px.stopB_eq]
    rw [UInt8.ofNat_toNat]
    cases Px.blank ((p0.getD i 0).toNat : Int) <;> cases Px.mark (p0.getD i 0) <;> rfl)
   (by unfold t60_0; simp only [Tree.get_ite, Tree.get_leaf, ltI_self, cond_false])
   (p0.length - i) i (by omega)
  rw [Px.scan_word (fun z => (Ex.exit 0, at' E 36 [(0, .lf (.sl .u8 p0)), (1, .lf (.int .i64 p1)), (6, .lf (.int .i64 z))] [])) p0.length (p0.drop i) i (by rw [List.length_drop]; omega)] at key
  injection h with h
  injection h with h1 h2
  subst h1
  refine ⟨_, key.trans ?_, fun hh => by cases hh⟩
  rw [← h2, Px.wordN'_eq, Int.toNat_natCast]
 ·cases h
def rd60_0 (σ : St E.A) : Tree (Out' E) :=
 let c := clean E (L60_0 .normal) σ
 if c.sl.length = 36 then
 match c.sl.getD 0 .undef, c.sl.getD 1 .undef, c.sl.getD 6 .undef with
 | .lf (.sl .u8 p0), .lf (.int .i64 p1), .lf (.int .i64 x6) => lam60_0 p0 p1 (x6)
 | _, _, _ => .fail
 else .fail
theorem ll60_0 (hL : Laws E) (σ : St E.A) (e : Ex) (σ' : St E.A) (h : (rd60_0 σ).get = some (e, σ')) : LoopOK E (lb Go.Proofs.Tryz.f60 0) σ e σ' := by
 refine LoopOK.of_clean hL (L60_0 .normal) ?_
 unfold rd60_0 at h
 simp only at h
 split at h
 ·rename_i hlen
  split at h
  ·rename_i p0 p1 x6 h0 h1 h2
   refine LoopOK.lens 0 (fun g0 => ?_)
   rw [h0] at g0
   obtain ⟨fuel, hi, ho⟩ := m60_0 g0 h
   have hl := loop_at (Γ := G60) (Λ := fun _ _ => .fail) (n := 1) (body := lb Go.Proofs.Tryz.f60 0) hL (hG60 hL) (S := S60_0 p0 p1) (t := t60_0 p0 p1) (Lv := L60_0) (LamOK.none (by kernel_rfl)) (h60_0 p0 p1) hi ho
   refine LoopOK.fit hlen ?_ ?_ rfl rfl hl
   ·exact ⟨h0, h1, h2, trivial⟩
   ·exact trivial
  ·cases h
 ·cases h
def Lam60 : Lam E | 0, σ => rd60_0 σ | _, _ => .fail
def w60 (a0 : List UInt8) (a1 : Int) : Tree (RV E.A × List (Obj E.A)) := .ite (leI 0 a1 && leI a1 (↑a0.length : Int)) (.ite (leI 0 a1 && leI a1 (a1 + (↑(Px.wordN' (List.drop a1.toNat a0)) : Int)) && leI (a1 + (↑(Px.wordN' (List.drop a1.toNat a0)) : Int)) (↑a0.length : Int)) (.leaf (.tup [(false, [.str (List.drop a1.toNat (List.take (a1 + (↑(Px.wordN' (List.drop a1.toNat a0)) : Int)).toNat a0))]), (false, [.int .i64 (a1 + (↑(Px.wordN' (List.drop a1.toNat a0)) : Int))])], [])) .fail) .fail
theorem e60 (a0 : List UInt8) (a1 : Int) : execFun E G60 ((Lam60)) false Go.Proofs.Tryz.f60 [.lf (.sl .u8 a0), .lf (.int .i64 a1)] [] some = (w60 a0 a1).get := by kernel_rfl
def raw60 : Spec E := fun args os => match args, os with | [.lf (.sl .u8 a0), .lf (.int .i64 a1)], [] => w60 a0 a1 | _, _ => .fail
theorem validraw60 (hL : Laws E) : Valid E 60 raw60 :=
 valid_of_body hL (hG60 hL) (Λ := (Lam60)) (fn := Go.Proofs.Tryz.f60) (keep := false) (by kernel_rfl) (by kernel_rfl) (by kernel_rfl) ((LamOK.of (m := 1) (by kernel_rfl) (fun j hj σ e σ' hg => by
   match j, hj with
   | 0, _ => exact ll60_0 hL σ e σ' hg
   ))) (fun args os r os' h => by
  unfold raw60 at h
  split at h
  ·exact (e60 _ _).trans h
  ·cases h)
theorem eq60 (p : List UInt8) (i : Int) (h0 : 0 ≤ i) (h1 : i ≤ p.length) : (w60 p i).get = some (.tup [(false, [.str (Px.wordS p i)]), (false, [.int .i64 (Px.wordE p i)])], []) := by
 obtain ⟨n, rfl⟩ : ∃ j : Nat, i = (j : Int) := ⟨i.toNat, by omega⟩
 have hn : n ≤ p.length := by omega
 have hw := Px.wordN_le (p.drop n)
 rw [List.length_drop] at hw
 have g : (leI 0 (n : Int) && leI (n : Int) (p.length : Int)) = true := by simp only [leI_eq, Bool.and_eq_true, decide_eq_true_eq]; omega
 have g2 : (leI 0 (n : Int) && leI (n : Int) ((n : Int) + (Px.wordN (p.drop n) : Int)) && leI ((n : Int) + (Px.wordN (p.drop n) : Int)) (p.length : Int)) = true := by
  simp only [leI_eq, Bool.and_eq_true, decide_eq_true_eq]; omega
 have e : ((n : Int) + (Px.wordN (p.drop n) : Int)).toNat = n + Px.wordN (p.drop n) := by omega
 unfold w60 Px.wordS Px.wordE
 simp only [Tree.get_ite, Tree.get_leaf, Px.wordN'_eq, Int.toNat_natCast, g, g2, cond_true, e, Px.take_word p hn]
def spec60 : Spec E := fun args os => match args, os with | [.lf (.sl .u8 p), .lf (.int .i64 i)], [] => .ite (inB i (p.length + 1)) (.leaf (.tup [(false, [.str (Px.wordS p i)]), (false, [.int .i64 (Px.wordE p i)])], [])) .fail | _, _ => .fail
theorem valid60 (hL : Laws E) : Valid E 60 spec60 := (validraw60 hL).less (fun args os x u1 u2 h => by
 clear u1 u2
 unfold spec60 at h
 split at h
 ·rename_i p i
  rcases Tree.get_ite_some h with ⟨h1, h⟩ | ⟨_, h⟩
  ·exact (eq60 p i (Px.le_of_inB h1).1 (Px.le_of_inB h1).2).trans h
  ·cases h
 ·cases h)
end Go.Vx
namespace Go.Vx
open Go
def G59 : FuncId → Option (Spec E) | 48 => some spec48 | 60 => some spec60 | _ => none
theorem hG59 (hL : Laws E) : ∀ f spec, G59 f = some spec → Valid E f spec := by
 intro f spec h
 unfold G59 at h
 split at h
 ·injection h with h; subst h; exact valid48 hL
 ·injection h with h; subst h; exact valid60 hL
 ·cases h
def w59 (a0 : List UInt8) (a1 : Int) : Tree (RV E.A × List (Obj E.A)) := .ite (inB a1 (a0.length + (1 : Nat))) (.leaf (.tup [(false, [.str (Px.wordS a0 a1)]), (false, [.int .i64 (Px.wordE a0 a1)]), (false, [.bool (Px.plain (Px.wordS a0 a1))])], [])) .fail
theorem e59 (a0 : List UInt8) (a1 : Int) : execFun E G59 (fun _ _ => .fail) false Go.Proofs.Tryz.f59 [.lf (.sl .u8 a0), .lf (.int .i64 a1)] [] some = (w59 a0 a1).get := by kernel_rfl
def spec59 : Spec E := fun args os => match args, os with | [.lf (.sl .u8 a0), .lf (.int .i64 a1)], [] => w59 a0 a1 | _, _ => .fail
theorem valid59 (hL : Laws E) : Valid E 59 spec59 :=
 valid_of_body hL (hG59 hL) (Λ := fun _ _ => .fail) (fn := Go.Proofs.Tryz.f59) (keep := false) (by kernel_rfl) (by kernel_rfl) (by kernel_rfl) (LamOK.none (by kernel_rfl)) (fun args os r os' h => by
  unfold spec59 at h
  split at h
  ·exact (e59 _ _).trans h
  ·cases h)
end Go.Vx
namespace Go.Vx
open Go
def spec37N (n : Nat) : Spec E := fun args os => match args, os with | [.lf (.sl .u8 p), .lf (.int .i64 i), .lf (.int .i64 d)], [] => .ite (Px.okAt p i && leI 0 d && ltI d 42 && leI 42 (d + n)) (.leaf (.tup [(true, [.int .u8 (Px.vk (Px.rValue p d i).1), .int .i64 (Px.vn (Px.rValue p d i).1), .int .i64 (Px.vg (Px.rValue p d i).1), .str (Px.vt (Px.rValue p d i).1), .sl .val (Px.vl (Px.rValue p d i).1), .sl .str (Px.vs (Px.rValue p d i).1)]), (false, [.int .i64 (Px.rValue p d i).2.1]), (false, [.bool (Px.rValue p d i).2.2])], [])) .fail | _, _ => .fail
def G57 (n : Nat) : FuncId → Option (Spec E) | 13 => some spec13 | 56 => some spec56 | 59 => some spec59 | 37 => some (spec37N n) | _ => none
theorem hG57 (hL : Laws E) (n : Nat) (hN : Valid E 37 (spec37N n)) : ∀ f spec, (G57 n) f = some spec → Valid E f spec := by
 intro f spec h
 unfold G57 at h
 split at h
 ·injection h with h; subst h; exact valid13 hL
 ·injection h with h; subst h; exact valid56 hL
 ·injection h with h; subst h; exact valid59 hL
 ·injection h with h; subst h; exact hN
 ·cases h
def L57_0 : Ex → Live | .normal => ⟨[0, 1, 2, 3, 8, 11, 12], [576, 768]⟩ | .ret => ⟨[8, 9, 10], [576]⟩ | _ => ⟨[], []⟩
def S57_0 (p0 : List UInt8) (p2 : Bool) (p3 : Int) (p12 : List UInt8) (x : Int × Int × Int × Int × (List UInt8) × (List Val) × (List (List UInt8)) × Int × Int × Int × (List UInt8) × (List Val) × (List (List UInt8))) : St E.A := at' E 77 [(0, .lf (.sl .u8 p0)), (1, .lf (.int .i64 x.1)), (2, .lf (.bool p2)), (3, .lf (.int .i64 p3)), (8, .lf (.ptr 576 0 0)), (11, .lf (.ptr 768 0 0)), (12, .lf (.str p12))] [(576, some (.cells 36 [.int .u8 x.2.1, .int .i64 x.2.2.1, .int .i64 x.2.2.2.1, .str x.2.2.2.2.1, .own 0 0 .val x.2.2.2.2.2.1, .own 1 0 .str x.2.2.2.2.2.2.1])), (768, some (.cells 36 [.int .u8 x.2.2.2.2.2.2.2.1, .int .i64 x.2.2.2.2.2.2.2.2.1, .int .i64 x.2.2.2.2.2.2.2.2.2.1, .str x.2.2.2.2.2.2.2.2.2.2.1, .own 2 0 .val x.2.2.2.2.2.2.2.2.2.2.2.1, .own 3 0 .str x.2.2.2.2.2.2.2.2.2.2.2.2]))]
def v57 (p : List UInt8) (i d : Int) : Val × Int × Bool := Px.rValue p (IntKind.i64.wrap (d + (1 : Int))) (Px.wordE p (IntKind.i64.wrap (Px.skipI p i + (1 : Int))))
def u57 (p : List UInt8) (i d : Int) : Val × Int × Bool := Px.rValue p (IntKind.i64.wrap (d + (1 : Int))) (Px.skipI p i)
def t57_0 (n : Nat) (p0 : List UInt8) (p2 : Bool) (p3 : Int) (p12 : List UInt8) (x : Int × Int × Int × Int × (List UInt8) × (List Val) × (List (List UInt8)) × Int × Int × Int × (List UInt8) × (List Val) × (List (List UInt8))) : Tree (Int × Int × Int × Int × (List UInt8) × (List Val) × (List (List UInt8)) × Int × Int × Int × (List UInt8) × (List Val) × (List (List UInt8)) ⊕ Out' E) := .ite (Px.okAt p0 (Px.skipI p0 x.1) && p12.length.ble (1000 : Nat)) (.ite (Px.preAt p0 (Px.skipI p0 x.1) p12) (.leaf (.inr (.ret, at' E 77 [(8, .lf (.ptr 576 0 0)), (9, .lf (.int .i64 (IntKind.i64.wrap (Px.skipI p0 x.1 + (↑p12.length : Int))))), (10, .lf (.bool true))] [(576, some (.cells 36 [.int .u8 x.2.2.2.2.2.2.2.1, .int .i64 x.2.2.2.2.2.2.2.2.1, .int .i64 x.2.2.2.2.2.2.2.2.2.1, .str x.2.2.2.2.2.2.2.2.2.2.1, .own 0 0 .val x.2.2.2.2.2.2.2.2.2.2.2.1, .own 1 0 .str x.2.2.2.2.2.2.2.2.2.2.2.2]))]))) (.ite p2 (.ite (Px.okAt p0 (Px.skipI p0 x.1) && [(47 : UInt8)].length.ble (1000 : Nat)) (.ite (!Px.preAt p0 (Px.skipI p0 x.1) [(47 : UInt8)]) (.leaf (.inr (.ret, at' E 77 [(8, .lf (.ptr 576 0 0)), (9, .lf (.int .i64 0)), (10, .lf (.bool false))] [(576, some (.cells 36 [.int .u8 0, .int .i64 0, .int .i64 0, .str [], .own 0 0 .val [], .own 1 0 .str []]))]))) (.ite (inB (IntKind.i64.wrap (Px.skipI p0 x.1 + (1 : Int))) (p0.length + (1 : Nat))) (.ite (!Px.plain (Px.wordS p0 (IntKind.i64.wrap (Px.skipI p0 x.1 + (1 : Int))))) (.leaf (.inr (.ret, at' E 77 [(8, .lf (.ptr 576 0 0)), (9, .lf (.int .i64 0)), (10, .lf (.bool false))] [(576, some (.cells 36 [.int .u8 0, .int .i64 0, .int .i64 0, .str [], .own 0 0 .val [], .own 1 0 .str []]))]))) (.ite (decide ((x.2.2.2.2.2.2.2.2.2.2.2.2.length + [Px.wordS p0 (IntKind.i64.wrap (Px.skipI p0 x.1 + (1 : Int)))].length) * (16 : Nat) ≤ 140737488355328)) (.ite (Px.okAt p0 (Px.wordE p0 (IntKind.i64.wrap (Px.skipI p0 x.1 + (1 : Int)))) && leI 0 (IntKind.i64.wrap (p3 + (1 : Int))) && ltI (IntKind.i64.wrap (p3 + (1 : Int))) (42 : Int) && leI 42 (IntKind.i64.wrap (p3 + (1 : Int)) + (↑n : Int))) (.ite (!(v57 p0 x.1 p3).2.2) (.leaf (.inr (.ret, at' E 77 [(8, .lf (.ptr 576 0 0)), (9, .lf (.int .i64 0)), (10, .lf (.bool false))] [(576, some (.cells 36 [.int .u8 0, .int .i64 0, .int .i64 0, .str [], .own 0 0 .val [], .own 1 0 .str []]))]))) (.ite (decide ((x.2.2.2.2.2.2.2.2.2.2.2.1.length + [Val.mk (Px.vk (v57 p0 x.1 p3).1) (Px.vn (v57 p0 x.1 p3).1) (Px.vg (v57 p0 x.1 p3).1) (Px.vt (v57 p0 x.1 p3).1) (Px.vl (v57 p0 x.1 p3).1) (Px.vs (v57 p0 x.1 p3).1)].length) * (88 : Nat) ≤ 140737488355328)) (.leaf (.inl (((v57 p0 x.1 p3).2.1), x.2.1, x.2.2.1, x.2.2.2.1, x.2.2.2.2.1, x.2.2.2.2.2.1, x.2.2.2.2.2.2.1, x.2.2.2.2.2.2.2.1, x.2.2.2.2.2.2.2.2.1, x.2.2.2.2.2.2.2.2.2.1, x.2.2.2.2.2.2.2.2.2.2.1, (x.2.2.2.2.2.2.2.2.2.2.2.1 ++ [Val.mk (Px.vk (v57 p0 x.1 p3).1) (Px.vn (v57 p0 x.1 p3).1) (Px.vg (v57 p0 x.1 p3).1) (Px.vt (v57 p0 x.1 p3).1) (Px.vl (v57 p0 x.1 p3).1) (Px.vs (v57 p0 x.1 p3).1)]), (x.2.2.2.2.2.2.2.2.2.2.2.2 ++ [Px.wordS p0 (IntKind.i64.wrap (Px.skipI p0 x.1 + (1 : Int)))])))) .fail)) .fail) .fail)) .fail)) .fail) (.ite (Px.okAt p0 (Px.skipI p0 x.1) && leI 0 (IntKind.i64.wrap (p3 + (1 : Int))) && ltI (IntKind.i64.wrap (p3 + (1 : Int))) (42 : Int) && leI 42 (IntKind.i64.wrap (p3 + (1 : Int)) + (↑n : Int))) (.ite (!(u57 p0 x.1 p3).2.2) (.leaf (.inr (.ret, at' E 77 [(8, .lf (.ptr 576 0 0)), (9, .lf (.int .i64 0)), (10, .lf (.bool false))] [(576, some (.cells 36 [.int .u8 0, .int .i64 0, .int .i64 0, .str [], .own 0 0 .val [], .own 1 0 .str []]))]))) (.ite (decide ((x.2.2.2.2.2.2.2.2.2.2.2.1.length + [Val.mk (Px.vk (u57 p0 x.1 p3).1) (Px.vn (u57 p0 x.1 p3).1) (Px.vg (u57 p0 x.1 p3).1) (Px.vt (u57 p0 x.1 p3).1) (Px.vl (u57 p0 x.1 p3).1) (Px.vs (u57 p0 x.1 p3).1)].length) * (88 : Nat) ≤ 140737488355328)) (.leaf (.inl (((u57 p0 x.1 p3).2.1), x.2.1, x.2.2.1, x.2.2.2.1, x.2.2.2.2.1, x.2.2.2.2.2.1, x.2.2.2.2.2.2.1, x.2.2.2.2.2.2.2.1, x.2.2.2.2.2.2.2.2.1, x.2.2.2.2.2.2.2.2.2.1, x.2.2.2.2.2.2.2.2.2.2.1, (x.2.2.2.2.2.2.2.2.2.2.2.1 ++ [Val.mk (Px.vk (u57 p0 x.1 p3).1) (Px.vn (u57 p0 x.1 p3).1) (Px.vg (u57 p0 x.1 p3).1) (Px.vt (u57 p0 x.1 p3).1) (Px.vl (u57 p0 x.1 p3).1) (Px.vs (u57 p0 x.1 p3).1)]), x.2.2.2.2.2.2.2.2.2.2.2.2))) .fail)) .fail))) .fail
theorem h57_0 (n : Nat) (p0 : List UInt8) (p2 : Bool) (p3 : Int) (p12 : List UInt8) (x : Int × Int × Int × Int × (List UInt8) × (List Val) × (List (List UInt8)) × Int × Int × Int × (List UInt8) × (List Val) × (List (List UInt8))) (k : Ex → St E.A → Option Unit) :
  exec E (G57 n) (fun _ _ => .fail) 1 (lb Go.Proofs.Tryz.f57 0) (S57_0 p0 p2 p3 p12 x) (fun e σ1 => k e (clean E (L57_0 e) σ1)) = (t57_0 n p0 p2 p3 p12 x).run (Sum.elim (fun x' => k .normal (S57_0 p0 p2 p3 p12 x')) (fun o => k o.1 o.2)) := by kernel_rfl
def lam57_0 (n : Nat) (p0 : List UInt8) (p2 : Bool) (p3 : Int) (p12 : List UInt8) (x : Int × Int × Int × Int × (List UInt8) × (List Val) × (List (List UInt8)) × Int × Int × Int × (List UInt8) × (List Val) × (List (List UInt8))) : Tree (Out' E) := .ite (Px.okAt p0 x.1 && leI 0 p3 && ltI p3 41 && leI 41 (p3 + n) && Nat.ble 1 p12.length && Nat.ble p12.length 1000 && leI x.2.2.2.2.2.2.2.2.2.2.2.1.length x.1 && leI x.2.2.2.2.2.2.2.2.2.2.2.2.length x.1 && (eqI x.2.2.2.2.2.2.2.1 6 == p2)) (.ite (Px.rListR' p0 p3 x.2.2.2.2.2.2.2.1 p12 x.1 x.2.2.2.2.2.2.2.2.2.2.2.1 x.2.2.2.2.2.2.2.2.2.2.2.2).2.2 (.leaf (.ret, at' E 77 [(8, .lf (.ptr 576 0 0)), (9, .lf (.int .i64 ((Px.rListR' p0 p3 x.2.2.2.2.2.2.2.1 p12 x.1 x.2.2.2.2.2.2.2.2.2.2.2.1 x.2.2.2.2.2.2.2.2.2.2.2.2).2.1))), (10, .lf (.bool true))] [(576, some (.cells 36 [.int .u8 x.2.2.2.2.2.2.2.1, .int .i64 x.2.2.2.2.2.2.2.2.1, .int .i64 x.2.2.2.2.2.2.2.2.2.1, .str x.2.2.2.2.2.2.2.2.2.2.1, .own 0 0 .val (Px.vl (Px.rListR' p0 p3 x.2.2.2.2.2.2.2.1 p12 x.1 x.2.2.2.2.2.2.2.2.2.2.2.1 x.2.2.2.2.2.2.2.2.2.2.2.2).1), .own 1 0 .str (Px.vs (Px.rListR' p0 p3 x.2.2.2.2.2.2.2.1 p12 x.1 x.2.2.2.2.2.2.2.2.2.2.2.1 x.2.2.2.2.2.2.2.2.2.2.2.2).1)]))])) (.leaf (.ret, at' E 77 [(8, .lf (.ptr 576 0 0)), (9, .lf (.int .i64 0)), (10, .lf (.bool false))] [(576, some (.cells 36 [.int .u8 0, .int .i64 0, .int .i64 0, .str [], .own 0 0 .val [], .own 1 0 .str []]))]))) .fail
def out57 (c0 c1 c2 : Int) (c3 : List UInt8) (R : Val × Int × Bool) : Out' E :=
 cond R.2.2 (Ex.ret, at' E 77 [(8, .lf (.ptr 576 0 0)), (9, .lf (.int .i64 (R.2.1))), (10, .lf (.bool true))] [(576, some (.cells 36 [.int .u8 c0, .int .i64 c1, .int .i64 c2, .str c3, .own 0 0 .val (Px.vl R.1), .own 1 0 .str (Px.vs R.1)]))]) (Ex.ret, at' E 77 [(8, .lf (.ptr 576 0 0)), (9, .lf (.int .i64 0)), (10, .lf (.bool false))] [(576, some (.cells 36 [.int .u8 0, .int .i64 0, .int .i64 0, .str [], .own 0 0 .val [], .own 1 0 .str []]))])
theorem k57_0 {n : Nat} {p3 : Int} {p12 p0 : List UInt8} {p2 : Bool} {a0 a1 a2 : Int} {a3 : List UInt8} {a4 : List Val} {a5 : List (List UInt8)} {c0 c1 c2 : Int} {c3 : List UInt8} (hk6 : eqI c0 6 = p2) (d0 : 0 ≤ p3) (d1 : p3 < 41) (d2 : 41 ≤ p3 + n) (he : 1 ≤ p12.length) (he2 : p12.length ≤ 1000) :
  ∀ (f : Nat) (i : Int) (ls : List Val) (ks : List (List UInt8)), Px.okAt p0 i = true → (p0.length : Int) < f + i → (ls.length : Int) ≤ i → (ks.length : Int) ≤ i →
  iter (t57_0 n p0 p2 p3 p12) f (i, a0, a1, a2, a3, a4, a5, c0, c1, c2, c3, ls, ks) = some (out57 c0 c1 c2 c3 (Px.rListGo (Px.rValue p0 (p3 + 1)) p0 c0 p12 f i ls ks))
 | 0, i, ls, ks, h, hf, _, _ => by
  have := Px.okAt_iff.1 h
  omega
 | f + 1, i, ls, ks, h, hf, hl, hk => by
  have h1 := Px.ok_skip h
  have g1 := Px.skip_ge h
  obtain ⟨i0, i1, i2⟩ := Px.okAt_iff.1 h
  obtain ⟨s0, s1, s2⟩ := Px.okAt_iff.1 h1
  have eb : p12.length.ble 1000 = true := Nat.ble_eq ▸ he2
  have e47 : ([(47 : UInt8)].length.ble (1000 : Nat)) = true := rfl
  have ew : IntKind.i64.wrap (p3 + 1) = p3 + 1 := wi64 _ (by omega) (by omega)
  have ew1 : IntKind.i64.wrap (Px.skipI p0 i + 1) = Px.skipI p0 i + 1 := wi64 _ (by omega) (by omega)
  have ew2 : IntKind.i64.wrap (Px.skipI p0 i + (p12.length : Int)) = Px.skipI p0 i + (p12.length : Int) := wi64 _ (by omega) (by omega)
  have eg : ∀ j, Px.okAt p0 j = true → (Px.okAt p0 j && leI 0 (p3 + 1) && ltI (p3 + 1) 42 && leI 42 (p3 + 1 + (n : Int))) = true := by
   intro j hj
   rw [hj]
   simp only [leI_eq, ltI_eq, Bool.and_eq_true, decide_eq_true_eq, true_and]; omega
  have gd : (leI 0 (p3 + 1) && ltI (p3 + 1) 42 && leI 42 (p3 + 1 + (n : Int))) = true := by
   simp only [leI_eq, ltI_eq, Bool.and_eq_true, decide_eq_true_eq]; omega
  have e4 : ∀ v : Val, decide ((ls.length + [v].length) * (88 : Nat) ≤ 140737488355328) = true := fun v => decide_eq_true (by simp only [List.length_cons, List.length_nil]; omega)
  have e5 : ∀ v : List UInt8, decide ((ks.length + [v].length) * (16 : Nat) ≤ 140737488355328) = true := fun v => decide_eq_true (by simp only [List.length_cons, List.length_nil]; omega)
  have len1 : ∀ (v : Val), (((ls ++ [v]).length : Nat) : Int) = (ls.length : Int) + 1 := fun v => by rw [List.length_append]; simp
  have len2 : ∀ (v : List UInt8), (((ks ++ [v]).length : Nat) : Int) = (ks.length : Int) + 1 := fun v => by rw [List.length_append]; simp
  rw [iter, Px.rListGo]
  cases q1 : Px.preAt p0 (Px.skipI p0 i) p12 with
  | true =>
   have hs : (t57_0 n p0 p2 p3 p12 (i, a0, a1, a2, a3, a4, a5, c0, c1, c2, c3, ls, ks)).get = some (.inr (Ex.ret, at' E 77 [(8, .lf (.ptr 576 0 0)), (9, .lf (.int .i64 (Px.skipI p0 i + (p12.length : Int)))), (10, .lf (.bool true))] [(576, some (.cells 36 [.int .u8 c0, .int .i64 c1, .int .i64 c2, .str c3, .own 0 0 .val (ls), .own 1 0 .str (ks)]))])) := by
    unfold t57_0 u57 v57
    simp only [Tree.get_ite, Tree.get_leaf, h1, eb, Bool.and_self, cond_true, q1, ew2]
   rw [hs]
   rfl
  | false =>
   simp only [cond_false]
   cases hc : eqI c0 6 with
   | false =>
    have hp2 : p2 = false := by rw [← hk6, hc]
    simp only [cond_false]
    have hx := Px.rValue_on (p3 + 1) h1
    cases q : (Px.rValue p0 (p3 + 1) (Px.skipI p0 i)).2.2 with
    | false =>
     have hs : (t57_0 n p0 p2 p3 p12 (i, a0, a1, a2, a3, a4, a5, c0, c1, c2, c3, ls, ks)).get = some (.inr (Ex.ret, at' E 77 [(8, .lf (.ptr 576 0 0)), (9, .lf (.int .i64 0)), (10, .lf (.bool false))] [(576, some (.cells 36 [.int .u8 0, .int .i64 0, .int .i64 0, .str [], .own 0 0 .val [], .own 1 0 .str []]))])) := by
      unfold t57_0 u57 v57
      simp only [Tree.get_ite, Tree.get_leaf, h1, eb, Bool.and_self, cond_true, q1, cond_false, hp2, ew, Bool.true_and, gd, q, Bool.not_false]
     rw [hs]
     rfl
    | true =>
     have hx := hx q
     have hs : (t57_0 n p0 p2 p3 p12 (i, a0, a1, a2, a3, a4, a5, c0, c1, c2, c3, ls, ks)).get = some (.inl ((Px.rValue p0 (p3 + 1) (Px.skipI p0 i)).2.1, a0, a1, a2, a3, a4, a5, c0, c1, c2, c3, (ls ++ [(Px.rValue p0 (p3 + 1) (Px.skipI p0 i)).1]), ks)) := by
      unfold t57_0 u57 v57
      simp only [Tree.get_ite, Tree.get_leaf, h1, eb, Bool.and_self, cond_true, q1, cond_false, hp2, ew, Bool.true_and, gd, q, Bool.not_true, e4, Px.v_eta]
     rw [hs]
     simp only [cond_true]
     exact k57_0 hk6 d0 d1 d2 he he2 f _ _ _ hx.1 (by omega) (by rw [len1]; omega) (by omega)
   | true =>
    have hp2 : p2 = true := by rw [← hk6, hc]
    simp only [cond_true]
    cases q3 : Px.preAt p0 (Px.skipI p0 i) [47] with
    | false =>
     have hs : (t57_0 n p0 p2 p3 p12 (i, a0, a1, a2, a3, a4, a5, c0, c1, c2, c3, ls, ks)).get = some (.inr (Ex.ret, at' E 77 [(8, .lf (.ptr 576 0 0)), (9, .lf (.int .i64 0)), (10, .lf (.bool false))] [(576, some (.cells 36 [.int .u8 0, .int .i64 0, .int .i64 0, .str [], .own 0 0 .val [], .own 1 0 .str []]))])) := by
      unfold t57_0 u57 v57
      simp only [Tree.get_ite, Tree.get_leaf, eb, Bool.and_self, cond_true, q1, cond_false, hp2, h1, e47, q3, Bool.not_false]
     rw [hs]
     rfl
    | true =>
     have h3 : Px.okAt p0 (Px.skipI p0 i + 1) = true := Px.ok_pre h1 q3
     have h4 := Px.ok_word h3
     have g4 := Px.word_ge h3
     simp only [cond_true]
     cases q4 : Px.plain (Px.wordS p0 (Px.skipI p0 i + 1)) with
     | false =>
      have hs : (t57_0 n p0 p2 p3 p12 (i, a0, a1, a2, a3, a4, a5, c0, c1, c2, c3, ls, ks)).get = some (.inr (Ex.ret, at' E 77 [(8, .lf (.ptr 576 0 0)), (9, .lf (.int .i64 0)), (10, .lf (.bool false))] [(576, some (.cells 36 [.int .u8 0, .int .i64 0, .int .i64 0, .str [], .own 0 0 .val [], .own 1 0 .str []]))])) := by
       unfold t57_0 u57 v57
       simp only [Tree.get_ite, Tree.get_leaf, eb, Bool.and_self, cond_true, q1, cond_false, hp2, h1, e47, q3, Bool.not_true, ew1, Px.ok_inB h3, q4, Bool.not_false]
      rw [hs]
      rfl
     | true =>
      simp only [cond_true]
      have hx := Px.rValue_on (p3 + 1) h4
      cases q : (Px.rValue p0 (p3 + 1) (Px.wordE p0 (Px.skipI p0 i + 1))).2.2 with
      | false =>
       have hs : (t57_0 n p0 p2 p3 p12 (i, a0, a1, a2, a3, a4, a5, c0, c1, c2, c3, ls, ks)).get = some (.inr (Ex.ret, at' E 77 [(8, .lf (.ptr 576 0 0)), (9, .lf (.int .i64 0)), (10, .lf (.bool false))] [(576, some (.cells 36 [.int .u8 0, .int .i64 0, .int .i64 0, .str [], .own 0 0 .val [], .own 1 0 .str []]))])) := by
        unfold t57_0 u57 v57
        simp only [Tree.get_ite, Tree.get_leaf, eb, Bool.and_self, cond_true, q1, cond_false, hp2, h1, e47, q3, Bool.not_true, ew1, Px.ok_inB h3, q4, e5, ew, eg _ h4, q, Bool.not_false, Bool.true_and]
       rw [hs]
       rfl
      | true =>
       have hx := hx q
       have hs : (t57_0 n p0 p2 p3 p12 (i, a0, a1, a2, a3, a4, a5, c0, c1, c2, c3, ls, ks)).get = some (.inl ((Px.rValue p0 (p3 + 1) (Px.wordE p0 (Px.skipI p0 i + 1))).2.1, a0, a1, a2, a3, a4, a5, c0, c1, c2, c3, (ls ++ [(Px.rValue p0 (p3 + 1) (Px.wordE p0 (Px.skipI p0 i + 1))).1]), (ks ++ [Px.wordS p0 (Px.skipI p0 i + 1)]))) := by
        unfold t57_0 u57 v57
        simp only [Tree.get_ite, Tree.get_leaf, eb, Bool.and_self, cond_true, q1, cond_false, hp2, h1, e47, q3, Bool.not_true, ew1, Px.ok_inB h3, q4, e5, ew, eg _ h4, q, e4, Px.v_eta]
       rw [hs]
       simp only [cond_true]
       exact k57_0 hk6 d0 d1 d2 he he2 f _ _ _ hx.1 (by omega) (by rw [len1]; omega) (by rw [len2]; omega)
theorem m57_0 {n : Nat} {p0 : List UInt8} {p2 : Bool} {p3 : Int} {p12 : List UInt8} {x : Int × Int × Int × Int × (List UInt8) × (List Val) × (List (List UInt8)) × Int × Int × Int × (List UInt8) × (List Val) × (List (List UInt8))} {e : Ex} {σ : St E.A} (_ : okLenR (E := E) (.lf (.sl .u8 p0)) = true) (_ : okLenR (E := E) (.lf (.str p12)) = true) (_ : okLenO (E := E) (.cells 36 [.int .u8 x.2.1, .int .i64 x.2.2.1, .int .i64 x.2.2.2.1, .str x.2.2.2.2.1, .own 0 0 .val (x.2.2.2.2.2.1), .own 1 0 .str (x.2.2.2.2.2.2.1)]) = true) (_ : okLenO (E := E) (.cells 36 [.int .u8 x.2.2.2.2.2.2.2.1, .int .i64 x.2.2.2.2.2.2.2.2.1, .int .i64 x.2.2.2.2.2.2.2.2.2.1, .str x.2.2.2.2.2.2.2.2.2.2.1, .own 2 0 .val (x.2.2.2.2.2.2.2.2.2.2.2.1), .own 3 0 .str (x.2.2.2.2.2.2.2.2.2.2.2.2)]) = true)
  (h : (lam57_0 n p0 p2 p3 p12 x).get = some (e, σ)) : ∃ fuel, iter (t57_0 n p0 p2 p3 p12) fuel x = some (e, σ) ∧ e ≠ .normal := by
 obtain ⟨i, a0, a1, a2, a3, a4, a5, c0, c1, c2, c3, ls, ks⟩ := x
 unfold lam57_0 at h
 have h' := Tree.get_ite_some h
 clear h
 rcases h' with ⟨h1, h⟩ | ⟨_, h⟩
 ·simp only [leI_eq, ltI_eq, Bool.and_eq_true, decide_eq_true_eq, Nat.ble_eq, beq_iff_eq] at h1
  obtain ⟨⟨⟨⟨⟨⟨⟨⟨g1, g2⟩, g3⟩, g4⟩, g5⟩, g6⟩, g7⟩, g8⟩, g9⟩ := h1
  have hi := Px.okAt_iff.1 g1
  have key := k57_0 (n := n) (p2 := p2) (p12 := p12) (p3 := p3) (p0 := p0) (a0 := a0) (a1 := a1) (a2 := a2) (a3 := a3) (a4 := a4) (a5 := a5) (c0 := c0) (c1 := c1) (c2 := c2) (c3 := c3) g9 g2 g3 g4 g5 g6 (p0.length + 2) i ls ks g1 (by omega) g7 g8
  rw [Tree.get_ite, Tree.get_leaf, Tree.get_leaf, Px.rListR'_eq] at h
  refine ⟨_, key.trans ?_, ?_⟩
  ·rw [← h]
   unfold out57
   exact some_cond _ _ _
  ·intro hh; subst hh
   cases q : (Px.rListR p0 p3 c0 p12 i ls ks).2.2 <;> rw [q] at h <;> cases h
 ·cases h
def rd57_0 (n : Nat) (σ : St E.A) : Tree (Out' E) :=
 let c := clean E (L57_0 .normal) σ
 if c.sl.length = 77 then
 match c.sl.getD 0 .undef, c.sl.getD 1 .undef, c.sl.getD 2 .undef, c.sl.getD 3 .undef, c.sl.getD 8 .undef, c.sl.getD 11 .undef, c.sl.getD 12 .undef, c.ob 576, c.ob 768 with
 | .lf (.sl .u8 p0), .lf (.int .i64 x1), .lf (.bool p2), .lf (.int .i64 p3), .lf (.ptr 576 0 0), .lf (.ptr 768 0 0), .lf (.str p12), some (.cells 36 [.int .u8 o576a, .int .i64 o576b, .int .i64 o576c, .str o576d, .own 0 0 .val o576e, .own 1 0 .str o576f]), some (.cells 36 [.int .u8 o768a, .int .i64 o768b, .int .i64 o768c, .str o768d, .own 2 0 .val o768e, .own 3 0 .str o768f]) => lam57_0 n p0 p2 p3 p12 (x1, o576a, o576b, o576c, o576d, o576e, o576f, o768a, o768b, o768c, o768d, o768e, o768f)
 | _, _, _, _, _, _, _, _, _ => .fail
 else .fail
theorem ll57_0 (hL : Laws E) (n : Nat) (hN : Valid E 37 (spec37N n)) (σ : St E.A) (e : Ex) (σ' : St E.A) (h : (rd57_0 n σ).get = some (e, σ')) : LoopOK E (lb Go.Proofs.Tryz.f57 0) σ e σ' := by
 refine LoopOK.of_clean hL (L57_0 .normal) ?_
 unfold rd57_0 at h
 simp only at h
 split at h
 ·rename_i hlen
  split at h
  ·rename_i p0 x1 p2 p3 p12 o576a o576b o576c o576d o576e o576f o768a o768b o768c o768d o768e o768f h0 h1 h2 h3 h4 h5 h6 h7 h8
   refine LoopOK.lens 0 (fun g0 => ?_)
   rw [h0] at g0
   refine LoopOK.lens 12 (fun g1 => ?_)
   rw [h6] at g1
   refine LoopOK.lensO 576 (fun gg => ?_)
   have g2 := gg _ h7
   refine LoopOK.lensO 768 (fun gg => ?_)
   have g3 := gg _ h8
   obtain ⟨fuel, hi, ho⟩ := m57_0 g0 g1 g2 g3 h
   have hl := loop_at (Γ := (G57 n)) (Λ := fun _ _ => .fail) (n := 1) (body := lb Go.Proofs.Tryz.f57 0) hL (hG57 hL n hN) (S := S57_0 p0 p2 p3 p12) (t := t57_0 n p0 p2 p3 p12) (Lv := L57_0) (LamOK.none (by kernel_rfl)) (h57_0 n p0 p2 p3 p12) hi ho
   refine LoopOK.fit hlen ?_ ?_ rfl rfl hl
   ·exact ⟨h0, h1, h2, h3, h4, h5, h6, trivial⟩
   ·exact ⟨h7, h8, trivial⟩
  ·cases h
 ·cases h
def Lam57 (n : Nat) : Lam E | 0, σ => rd57_0 n σ | _, _ => .fail
def w57 (n : Nat) (a0 : List UInt8) (a1 : Int) (a2 : Bool) (a3 : Int) : Tree (RV E.A × List (Obj E.A)) := .ite a2 (.ite (Px.okAt a0 a1 && leI 0 a3 && ltI a3 41 && leI 41 (a3 + (↑n : Int)) && Nat.ble (1 : Nat) [(62 : UInt8), (62 : UInt8)].length && [(62 : UInt8), (62 : UInt8)].length.ble (1000 : Nat) && leI (↑([] : List UInt8).length : Int) a1 && leI (↑([] : List UInt8).length : Int) a1 && eqI 6 6 == a2) (.ite ((Px.rListR' a0 a3 (6 : Int) [(62 : UInt8), (62 : UInt8)] a1 [] []).2.2) (.leaf (.tup [(true, [.int .u8 6, .int .i64 0, .int .i64 0, .str [], .sl .val (Px.vl (Px.rListR' a0 a3 (6 : Int) [(62 : UInt8), (62 : UInt8)] a1 [] []).1), .sl .str (Px.vs (Px.rListR' a0 a3 (6 : Int) [(62 : UInt8), (62 : UInt8)] a1 [] []).1)]), (false, [.int .i64 ((Px.rListR' a0 a3 (6 : Int) [(62 : UInt8), (62 : UInt8)] a1 [] []).2.1)]), (false, [.bool true])], [])) (.leaf (.tup [(true, [.int .u8 0, .int .i64 0, .int .i64 0, .str [], .sl .val [], .sl .str []]), (false, [.int .i64 0]), (false, [.bool false])], []))) .fail) (.ite (Px.okAt a0 a1 && leI 0 a3 && ltI a3 41 && leI 41 (a3 + (↑n : Int)) && Nat.ble (1 : Nat) [(93 : UInt8)].length && [(93 : UInt8)].length.ble (1000 : Nat) && leI (↑([] : List UInt8).length : Int) a1 && leI (↑([] : List UInt8).length : Int) a1 && eqI 5 6 == a2) (.ite ((Px.rListR' a0 a3 (5 : Int) [(93 : UInt8)] a1 [] []).2.2) (.leaf (.tup [(true, [.int .u8 5, .int .i64 0, .int .i64 0, .str [], .sl .val (Px.vl (Px.rListR' a0 a3 (5 : Int) [(93 : UInt8)] a1 [] []).1), .sl .str (Px.vs (Px.rListR' a0 a3 (5 : Int) [(93 : UInt8)] a1 [] []).1)]), (false, [.int .i64 ((Px.rListR' a0 a3 (5 : Int) [(93 : UInt8)] a1 [] []).2.1)]), (false, [.bool true])], [])) (.leaf (.tup [(true, [.int .u8 0, .int .i64 0, .int .i64 0, .str [], .sl .val [], .sl .str []]), (false, [.int .i64 0]), (false, [.bool false])], []))) .fail)
theorem e57 (n : Nat) (a0 : List UInt8) (a1 : Int) (a2 : Bool) (a3 : Int) : execFun E (G57 n) ((Lam57 n)) false Go.Proofs.Tryz.f57 [.lf (.sl .u8 a0), .lf (.int .i64 a1), .lf (.bool a2), .lf (.int .i64 a3)] [] some = (w57 n a0 a1 a2 a3).get := by kernel_rfl
def raw57 (n : Nat) : Spec E := fun args os => match args, os with | [.lf (.sl .u8 a0), .lf (.int .i64 a1), .lf (.bool a2), .lf (.int .i64 a3)], [] => w57 n a0 a1 a2 a3 | _, _ => .fail
theorem validraw57 (hL : Laws E) (n : Nat) (hN : Valid E 37 (spec37N n)) : Valid E 57 (raw57 n) :=
 valid_of_body hL (hG57 hL n hN) (Λ := (Lam57 n)) (fn := Go.Proofs.Tryz.f57) (keep := false) (by kernel_rfl) (by kernel_rfl) (by kernel_rfl) ((LamOK.of (m := 1) (by kernel_rfl) (fun j hj σ e σ' hg => by
   match j, hj with
   | 0, _ => exact ll57_0 hL n hN σ e σ' hg
   ))) (fun args os r os' h => by
  unfold raw57 at h
  split at h
  ·exact (e57 _ _ _ _ _).trans h
  ·cases h)
def spec57N (n : Nat) : Spec E := fun args os => match args, os with | [.lf (.sl .u8 p), .lf (.int .i64 i), .lf (.bool true), .lf (.int .i64 d)], [] => .ite (Px.okAt p i && leI 0 d && ltI d 41 && leI 41 (d + n)) (.leaf (.tup [(true, [.int .u8 (Px.vk (Px.rList p d 6 [62, 62] i).1), .int .i64 (Px.vn (Px.rList p d 6 [62, 62] i).1), .int .i64 (Px.vg (Px.rList p d 6 [62, 62] i).1), .str (Px.vt (Px.rList p d 6 [62, 62] i).1), .sl .val (Px.vl (Px.rList p d 6 [62, 62] i).1), .sl .str (Px.vs (Px.rList p d 6 [62, 62] i).1)]), (false, [.int .i64 (Px.rList p d 6 [62, 62] i).2.1]), (false, [.bool (Px.rList p d 6 [62, 62] i).2.2])], [])) .fail | [.lf (.sl .u8 p), .lf (.int .i64 i), .lf (.bool false), .lf (.int .i64 d)], [] => .ite (Px.okAt p i && leI 0 d && ltI d 41 && leI 41 (d + n)) (.leaf (.tup [(true, [.int .u8 (Px.vk (Px.rList p d 5 [93] i).1), .int .i64 (Px.vn (Px.rList p d 5 [93] i).1), .int .i64 (Px.vg (Px.rList p d 5 [93] i).1), .str (Px.vt (Px.rList p d 5 [93] i).1), .sl .val (Px.vl (Px.rList p d 5 [93] i).1), .sl .str (Px.vs (Px.rList p d 5 [93] i).1)]), (false, [.int .i64 (Px.rList p d 5 [93] i).2.1]), (false, [.bool (Px.rList p d 5 [93] i).2.2])], [])) .fail | _, _ => .fail
theorem tail57 {p : List UInt8} {d i kind : Int} {e : List UInt8} : cond (Px.rList p d kind e i).2.2
   (some ((.tup [(true, [.int .u8 kind, .int .i64 0, .int .i64 0, .str [], .sl .val (Px.vl (Px.rList p d kind e i).1), .sl .str (Px.vs (Px.rList p d kind e i).1)]), (false, [.int .i64 (Px.rList p d kind e i).2.1]), (false, [.bool true])] : RV E.A), ([] : List (Obj E.A))))
   (some (.tup [(true, [.int .u8 0, .int .i64 0, .int .i64 0, .str [], .sl .val [], .sl .str []]), (false, [.int .i64 0]), (false, [.bool false])], [])) = some (.tup [(true, [.int .u8 (Px.vk (Px.rList p d kind e i).1), .int .i64 (Px.vn (Px.rList p d kind e i).1), .int .i64 (Px.vg (Px.rList p d kind e i).1), .str (Px.vt (Px.rList p d kind e i).1), .sl .val (Px.vl (Px.rList p d kind e i).1), .sl .str (Px.vs (Px.rList p d kind e i).1)]), (false, [.int .i64 (Px.rList p d kind e i).2.1]), (false, [.bool (Px.rList p d kind e i).2.2])], []) := by
 rcases Px.rListGo_form (val := Px.rValue p (d + 1)) (p := p) (kind := kind) (e := e) (p.length + 2) i [] [] with ⟨l, k, j, hq⟩ | hq
 ·have hq : Px.rList p d kind e i = _ := hq
  rw [hq]; rfl
 ·have hq : Px.rList p d kind e i = _ := hq
  rw [hq]; rfl
theorem eq57t {n : Nat} {p : List UInt8} {i d : Int} (h : (Px.okAt p i && leI 0 d && ltI d 41 && leI 41 (d + (n : Int))) = true) : (w57 n p i true d).get = some (.tup [(true, [.int .u8 (Px.vk (Px.rList p d 6 [62, 62] i).1), .int .i64 (Px.vn (Px.rList p d 6 [62, 62] i).1), .int .i64 (Px.vg (Px.rList p d 6 [62, 62] i).1), .str (Px.vt (Px.rList p d 6 [62, 62] i).1), .sl .val (Px.vl (Px.rList p d 6 [62, 62] i).1), .sl .str (Px.vs (Px.rList p d 6 [62, 62] i).1)]), (false, [.int .i64 (Px.rList p d 6 [62, 62] i).2.1]), (false, [.bool (Px.rList p d 6 [62, 62] i).2.2])], []) := by
 have hi : Px.okAt p i = true := by
  simp only [Bool.and_eq_true] at h
  exact h.1.1.1
 have h0 := (Px.okAt_iff.1 hi).1
 have e1 : leI (([] : List UInt8).length : Int) i = true := by rw [leI_eq]; exact decide_eq_true h0
 have g : (Px.okAt p i && leI 0 d && ltI d 41 && leI 41 (d + (n : Int)) && Nat.ble 1 [(62 : UInt8), (62 : UInt8)].length && [(62 : UInt8), (62 : UInt8)].length.ble (1000 : Nat) && leI (([] : List UInt8).length : Int) i && leI (([] : List UInt8).length : Int) i && eqI 6 6 == true) = true := by
  rw [h, e1]; rfl
 unfold w57
 rw [Tree.get_ite, cond_true, Tree.get_ite, g, cond_true, Tree.get_ite, Tree.get_leaf, Tree.get_leaf, Px.rListR'_eq]
 exact tail57
theorem eq57f {n : Nat} {p : List UInt8} {i d : Int} (h : (Px.okAt p i && leI 0 d && ltI d 41 && leI 41 (d + (n : Int))) = true) : (w57 n p i false d).get = some (.tup [(true, [.int .u8 (Px.vk (Px.rList p d 5 [93] i).1), .int .i64 (Px.vn (Px.rList p d 5 [93] i).1), .int .i64 (Px.vg (Px.rList p d 5 [93] i).1), .str (Px.vt (Px.rList p d 5 [93] i).1), .sl .val (Px.vl (Px.rList p d 5 [93] i).1), .sl .str (Px.vs (Px.rList p d 5 [93] i).1)]), (false, [.int .i64 (Px.rList p d 5 [93] i).2.1]), (false, [.bool (Px.rList p d 5 [93] i).2.2])], []) := by
 have hi : Px.okAt p i = true := by
  simp only [Bool.and_eq_true] at h
  exact h.1.1.1
 have h0 := (Px.okAt_iff.1 hi).1
 have e1 : leI (([] : List UInt8).length : Int) i = true := by rw [leI_eq]; exact decide_eq_true h0
 have g : (Px.okAt p i && leI 0 d && ltI d 41 && leI 41 (d + (n : Int)) && Nat.ble 1 [(93 : UInt8)].length && [(93 : UInt8)].length.ble (1000 : Nat) && leI (([] : List UInt8).length : Int) i && leI (([] : List UInt8).length : Int) i && eqI 5 6 == false) = true := by
  rw [h, e1]; rfl
 unfold w57
 rw [Tree.get_ite, cond_false, Tree.get_ite, g, cond_true, Tree.get_ite, Tree.get_leaf, Tree.get_leaf, Px.rListR'_eq]
 exact tail57
theorem valid57N (hL : Laws E) (n : Nat) (hN : Valid E 37 (spec37N n)) : Valid E 57 (spec57N n) := (validraw57 hL n hN).less (fun args os x u1 u2 h => by
 clear u1 u2
 unfold spec57N at h
 split at h
 ·rename_i p i d
  rcases Tree.get_ite_some h with ⟨h1, h'⟩ | ⟨_, h'⟩
  ·exact (eq57t h1).trans h'
  ·cases h'
 ·rename_i p i d
  rcases Tree.get_ite_some h with ⟨h1, h'⟩ | ⟨_, h'⟩
  ·exact (eq57f h1).trans h'
  ·cases h'
 ·cases h)
end Go.Vx
namespace Go.Vx
open Go
def G62 : FuncId → Option (Spec E) := fun _ => none
theorem hG62 (hL : Laws E) : ∀ f spec, G62 f = some spec → Valid E f spec := by
 intro f spec h
 cases h
def L62_0 : Ex → Live | .normal => ⟨[0, 3], []⟩ | .exit 0 => ⟨[0], []⟩ | .ret => ⟨[2], []⟩ | _ => ⟨[], []⟩
def S62_0 (p0 : List UInt8) (x : Int) : St E.A := at' E 22 [(0, .lf (.str p0)), (3, .lf (.int .i64 x))] []
def t62_0 (p0 : List UInt8) (x : Int) : Tree ((Int) ⊕ Out' E) := .ite (ltI x (↑p0.length : Int)) (.ite (inB x p0.length) (.ite (ltI (↑(p0.getD x.toNat (0 : UInt8)).toNat : Int) (48 : Int)) (.leaf (.inr (.ret, at' E 22 [(2, .lf (.bool false))] []))) (.ite (inB x p0.length) (.ite (ltI 57 (↑(p0.getD x.toNat (0 : UInt8)).toNat : Int)) (.leaf (.inr (.ret, at' E 22 [(2, .lf (.bool false))] []))) (.leaf (.inl ((IntKind.i64.wrap (x + (1 : Int))))))) .fail)) .fail) (.leaf (.inr (.exit 0, at' E 22 [(0, .lf (.str p0))] [])))
theorem h62_0 (p0 : List UInt8) (x : Int) (k : Ex → St E.A → Option Unit) :
  exec E G62 (fun _ _ => .fail) 1 (lb Go.Proofs.Tryz.f62 0) (S62_0 p0 x) (fun e σ1 => k e (clean E (L62_0 e) σ1)) = (t62_0 p0 x).run (Sum.elim (fun x' => k .normal (S62_0 p0 x')) (fun o => k o.1 o.2)) := by kernel_rfl
def lam62_0 (p0 : List UInt8) (x : Int) : Tree (Out' E) := .ite (leI 0 x && leI x p0.length) (.ite (Px.anyOdd' (p0.drop x.toNat)) (.leaf (.ret, at' E 22 [(2, .lf (.bool false))] [])) (.leaf (.exit 0, at' E 22 [(0, .lf (.str p0))] []))) .fail
theorem m62_0 {p0 : List UInt8} {x : Int} {e : Ex} {σ : St E.A} (g : okLenR (E := E) (.lf (.str p0)) = true)
  (h : (lam62_0 p0 x).get = some (e, σ)) : ∃ fuel, iter (t62_0 p0) fuel x = some (e, σ) ∧ e ≠ .normal := by
 have hb : p0.length ≤ big := of_decide_eq_true g
 unfold lam62_0 at h
 have h' := Tree.get_ite_some h
 clear h
 rcases h' with ⟨h1, h⟩ | ⟨_, h⟩
 ·simp only [eqI_eq, leI_eq, Bool.and_eq_true, decide_eq_true_eq] at h1
  obtain ⟨k1, k2⟩ := h1
  obtain ⟨i, rfl⟩ : ∃ j : Nat, x = (j : Int) := ⟨x.toNat, by omega⟩
  have key := scan_iter (t := t62_0 p0) (l := p0) 0 (fun i b => cond (Px.oddB b) (some (Ex.ret, at' E 22 [(2, .lf (.bool false))] [])) none) (Ex.exit 0, at' E 22 [(0, .lf (.str p0))] [])
   (fun i hi => by
    unfold t62_0
    simp only [Tree.get_ite, Tree.get_leaf, ltI_nat hi, inB_nat hi, cond_true, i64_succ hi hb, Int.toNat_natCast, Px.lt48, Px.lt57]
    unfold Px.oddB Px.isDig
    cases Nat.ble 48 (p0.getD i 0).toNat <;> cases Nat.ble (p0.getD i 0).toNat 57 <;> rfl)
   (by unfold t62_0; simp only [Tree.get_ite, Tree.get_leaf, ltI_self, cond_false])
   (p0.length - i) i (by omega)
  rw [scan_any (fun (b : UInt8) => Px.oddB b)] at key
  have hany : ∀ l : List UInt8, (l.any fun (b : UInt8) => Px.oddB b) = Px.anyOdd l := fun _ => rfl
  rw [hany] at key
  rw [Tree.get_ite, Tree.get_leaf, Tree.get_leaf, Int.toNat_natCast, Px.anyOdd'_eq] at h
  refine ⟨_, key.trans ?_, ?_⟩
  ·rw [← h]; exact some_cond _ _ _
  ·intro hh; subst hh
   cases q : Px.anyOdd (p0.drop i) <;> rw [q] at h <;> cases h
 ·cases h
def rd62_0 (σ : St E.A) : Tree (Out' E) :=
 let c := clean E (L62_0 .normal) σ
 if c.sl.length = 22 then
 match c.sl.getD 0 .undef, c.sl.getD 3 .undef with
 | .lf (.str p0), .lf (.int .i64 x3) => lam62_0 p0 (x3)
 | _, _ => .fail
 else .fail
theorem ll62_0 (hL : Laws E) (σ : St E.A) (e : Ex) (σ' : St E.A) (h : (rd62_0 σ).get = some (e, σ')) : LoopOK E (lb Go.Proofs.Tryz.f62 0) σ e σ' := by
 refine LoopOK.of_clean hL (L62_0 .normal) ?_
 unfold rd62_0 at h
 simp only at h
 split at h
 ·rename_i hlen
  split at h
  ·rename_i p0 x3 h0 h1
   refine LoopOK.lens 0 (fun g0 => ?_)
   rw [h0] at g0
   obtain ⟨fuel, hi, ho⟩ := m62_0 g0 h
   have hl := loop_at (Γ := G62) (Λ := fun _ _ => .fail) (n := 1) (body := lb Go.Proofs.Tryz.f62 0) hL (hG62 hL) (S := S62_0 p0) (t := t62_0 p0) (Lv := L62_0) (LamOK.none (by kernel_rfl)) (h62_0 p0) hi ho
   refine LoopOK.fit hlen ?_ ?_ rfl rfl hl
   ·exact ⟨h0, h1, trivial⟩
   ·exact trivial
  ·cases h
 ·cases h
def Lam62 : Lam E | 0, σ => rd62_0 σ | _, _ => .fail
def w62 (a0 : List UInt8) : Tree (RV E.A × List (Obj E.A)) := .ite (Px.anyOdd' (List.drop (Int.toNat (0 : Int)) a0)) (.leaf (.lf (.bool false), [])) (.leaf (.lf (.bool (!decide (a0 = []))), []))
theorem e62 (a0 : List UInt8) : execFun E G62 ((Lam62)) false Go.Proofs.Tryz.f62 [.lf (.str a0)] [] some = (w62 a0).get := by kernel_rfl
def raw62 : Spec E := fun args os => match args, os with | [.lf (.str a0)], [] => w62 a0 | _, _ => .fail
theorem validraw62 (hL : Laws E) : Valid E 62 raw62 :=
 valid_of_body hL (hG62 hL) (Λ := (Lam62)) (fn := Go.Proofs.Tryz.f62) (keep := false) (by kernel_rfl) (by kernel_rfl) (by kernel_rfl) ((LamOK.of (m := 1) (by kernel_rfl) (fun j hj σ e σ' hg => by
   match j, hj with
   | 0, _ => exact ll62_0 hL σ e σ' hg
   ))) (fun args os r os' h => by
  unfold raw62 at h
  split at h
  ·exact (e62 _).trans h
  ·cases h)
theorem eq62 (s : List UInt8) : (w62 s).get = some (.lf (.bool (Px.digs s)), []) := by
 have g : (leI 0 0 && leI 0 (s.length : Int)) = true := by
  simp [eqI_eq, leI_eq]
 unfold w62
 simp only [Tree.get_ite, Tree.get_leaf, Px.anyOdd'_eq]
 first | rw [g] | skip
 rw [Px.digs_odd]
 cases s with
 | nil => rfl
 | cons a r =>
  show cond (Px.anyOdd (a :: r)) _ _ = _
  cases Px.anyOdd (a :: r) <;> rfl
def spec62 : Spec E := fun args os => match args, os with | [.lf (.str s)], [] => .leaf (.lf (.bool (Px.digs s)), []) | _, _ => .fail
theorem valid62 (hL : Laws E) : Valid E 62 spec62 := (validraw62 hL).less (fun args os x u1 u2 h => by
 clear u1 u2
 unfold spec62 at h
 split at h
 ·rename_i s
  exact (eq62 s).trans h
 ·cases h)
end Go.Vx
namespace Go.Vx
open Go
def G61 : FuncId → Option (Spec E) | 62 => some spec62 | _ => none
theorem hG61 (hL : Laws E) : ∀ f spec, G61 f = some spec → Valid E f spec := by
 intro f spec h
 unfold G61 at h
 split at h
 ·injection h with h; subst h; exact valid62 hL
 ·cases h
def L61_0 : Ex → Live | .normal => ⟨[0, 4, 5, 6], []⟩ | .exit 0 => ⟨[4, 5], []⟩ | .ret => ⟨[2, 3], []⟩ | _ => ⟨[], []⟩
def S61_0 (p0 : List UInt8) (p4 : Bool) (x : Int × Int) : St E.A := at' E 69 [(0, .lf (.str p0)), (4, .lf (.bool p4)), (5, .lf (.int .u64 x.1)), (6, .lf (.int .i64 x.2))] []
def t61_0 (p0 : List UInt8) (p4 : Bool) (x : Int × Int) : Tree (Int × Int ⊕ Out' E) := .ite (ltI x.2 (↑p0.length : Int)) (.ite (ltI 922337203685477580 x.1) (.leaf (.inr (.ret, at' E 69 [(2, .lf (.int .i64 0)), (3, .lf (.bool false))] []))) (.ite (inB x.2 p0.length) (.leaf (.inl ((IntKind.u64.wrap (IntKind.u64.wrap ((10 : Int) * x.1) + IntKind.u64.wrap (IntKind.u8.wrap ((↑(p0.getD x.2.toNat (0 : UInt8)).toNat : Int) - (48 : Int))))), (IntKind.i64.wrap (x.2 + (1 : Int)))))) .fail)) (.leaf (.inr (.exit 0, at' E 69 [(4, .lf (.bool p4)), (5, .lf (.int .u64 x.1))] [])))
theorem h61_0 (p0 : List UInt8) (p4 : Bool) (x : Int × Int) (k : Ex → St E.A → Option Unit) :
  exec E G61 (fun _ _ => .fail) 1 (lb Go.Proofs.Tryz.f61 0) (S61_0 p0 p4 x) (fun e σ1 => k e (clean E (L61_0 e) σ1)) = (t61_0 p0 p4 x).run (Sum.elim (fun x' => k .normal (S61_0 p0 p4 x')) (fun o => k o.1 o.2)) := by kernel_rfl
def lam61_0 (p0 : List UInt8) (p4 : Bool) (x : Int × Int) : Tree (Out' E) := .ite (leI 0 x.2 && leI x.2 p0.length && leI 0 x.1 && leI x.1 9223372036854775809 && Px.allDig' p0) (.ite (Px.runOk' x.1.toNat (p0.drop x.2.toNat)) (.leaf (.exit 0, at' E 69 [(4, .lf (.bool p4)), (5, .lf (.int .u64 (Px.runV' x.1.toNat (p0.drop x.2.toNat) : Int)))] [])) (.leaf (.ret, at' E 69 [(2, .lf (.int .i64 0)), (3, .lf (.bool false))] []))) .fail
theorem m61_0 {p0 : List UInt8} {p4 : Bool} {x : Int × Int} {e : Ex} {σ : St E.A} (g : okLenR (E := E) (.lf (.str p0)) = true)
  (h : (lam61_0 p0 p4 x).get = some (e, σ)) : ∃ fuel, iter (t61_0 p0 p4) fuel x = some (e, σ) ∧ e ≠ .normal := by
 have hb : p0.length ≤ big := of_decide_eq_true g
 obtain ⟨a, z⟩ := x
 unfold lam61_0 at h
 have h' := Tree.get_ite_some h
 clear h
 rcases h' with ⟨h1, h⟩ | ⟨_, h⟩
 ·simp only [leI_eq, Bool.and_eq_true, decide_eq_true_eq, Px.allDig'_eq] at h1
  obtain ⟨⟨⟨⟨k1, k2⟩, k3⟩, k4⟩, hd⟩ := h1
  obtain ⟨i, rfl⟩ : ∃ j : Nat, z = (j : Int) := ⟨z.toNat, by omega⟩
  obtain ⟨m, rfl⟩ : ∃ j : Nat, a = (j : Int) := ⟨a.toNat, by omega⟩
  have key := range_iter (O := Out' E) (t := t61_0 p0 p4) (l := p0) 0 (fun (m : Nat) (i : Int) => ((m : Int), i))
   (Px.numStep (Ex.ret, at' E 69 [(2, .lf (.int .i64 0)), (3, .lf (.bool false))] [])) (fun m => (Ex.exit 0, at' E 69 [(4, .lf (.bool p4)), (5, .lf (.int .u64 (m : Int)))] [])) (fun _ m => m ≤ 9223372036854775809)
   (fun i m hi ho => by
    have hdi := Px.allDig_get hd hi
    have hdg : Px.dg (p0.getD i 0) ≤ 9 := by
     have := (Px.isDig_iff _).1 hdi
     rw [Px.dg_eq]; omega
    refine ⟨?_, fun a' ha => ?_⟩
    ·unfold t61_0
     simp only [Tree.get_ite, Tree.get_leaf, ltI_nat hi, inB_nat hi, cond_true, i64_succ hi hb, Int.toNat_natCast, Px.blt_lit, Px.dig_u8 hdi]
     unfold Px.numStep
     cases q : Nat.blt 922337203685477580 m
     ·have := Px.blt_false q
      have e1 : IntKind.u64.wrap ((10 : Int) * (m : Int)) = 10 * (m : Int) := wu64 _ (by omega) (by omega)
      have e2 : IntKind.u64.wrap (10 * (m : Int) + ((Px.dg (p0.getD i 0) : Nat) : Int)) = ((10 * m + Px.dg (p0.getD i 0) : Nat) : Int) := by
       rw [wu64 _ (by omega) (by omega)]; omega
      simp only [cond_false, e1, e2]
     ·rfl
    ·unfold Px.numStep at ha
     cases q : Nat.blt 922337203685477580 m <;> rw [q] at ha
     ·have := Px.blt_false q
      injection ha with ha
      subst ha
      omega
     ·cases ha)
   (fun a ho => by unfold t61_0; simp only [Tree.get_ite, Tree.get_leaf, ltI_self, cond_false])
   (p0.length - i) i m (by omega) (by omega)
  rw [Px.numRun_run] at key
  rw [Tree.get_ite, Tree.get_leaf, Tree.get_leaf, Px.runOk'_eq, Px.runV'_eq] at h
  simp only [Int.toNat_natCast] at h
  refine ⟨_, key.trans ?_, ?_⟩
  ·rw [← h]; exact some_cond _ _ _
  ·intro hh; subst hh
   cases q : Px.runOk m (p0.drop i) <;> rw [q] at h <;> cases h
 ·cases h
def rd61_0 (σ : St E.A) : Tree (Out' E) :=
 let c := clean E (L61_0 .normal) σ
 if c.sl.length = 69 then
 match c.sl.getD 0 .undef, c.sl.getD 4 .undef, c.sl.getD 5 .undef, c.sl.getD 6 .undef with
 | .lf (.str p0), .lf (.bool p4), .lf (.int .u64 x5), .lf (.int .i64 x6) => lam61_0 p0 p4 (x5, x6)
 | _, _, _, _ => .fail
 else .fail
theorem ll61_0 (hL : Laws E) (σ : St E.A) (e : Ex) (σ' : St E.A) (h : (rd61_0 σ).get = some (e, σ')) : LoopOK E (lb Go.Proofs.Tryz.f61 0) σ e σ' := by
 refine LoopOK.of_clean hL (L61_0 .normal) ?_
 unfold rd61_0 at h
 simp only at h
 split at h
 ·rename_i hlen
  split at h
  ·rename_i p0 p4 x5 x6 h0 h1 h2 h3
   refine LoopOK.lens 0 (fun g0 => ?_)
   rw [h0] at g0
   obtain ⟨fuel, hi, ho⟩ := m61_0 g0 h
   have hl := loop_at (Γ := G61) (Λ := fun _ _ => .fail) (n := 1) (body := lb Go.Proofs.Tryz.f61 0) hL (hG61 hL) (S := S61_0 p0 p4) (t := t61_0 p0 p4) (Lv := L61_0) (LamOK.none (by kernel_rfl)) (h61_0 p0 p4) hi ho
   refine LoopOK.fit hlen ?_ ?_ rfl rfl hl
   ·exact ⟨h0, h1, h2, h3, trivial⟩
   ·exact trivial
  ·cases h
 ·cases h
def Lam61 : Lam E | 0, σ => rd61_0 σ | _, _ => .fail
def z61 : Tree (RV E.A × List (Obj E.A)) := .leaf (.tup [(false, [.int .i64 0]), (false, [.bool false])], [])
def s61 (c : UInt8) (u : Int) : Tree (RV E.A × List (Obj E.A)) := .ite (eqI (↑c.toNat : Int) 45) (.ite (ltI 0 u) (.leaf (.tup [(false, [.int .i64 (IntKind.i64.wrap (IntKind.i64.wrap ((0 : Int) - IntKind.i64.wrap (IntKind.u64.wrap (u - (1 : Int)))) - (1 : Int)))]), (false, [.bool true])], [])) (.leaf (.tup [(false, [.int .i64 (IntKind.i64.wrap u)]), (false, [.bool true])], []))) (.leaf (.tup [(false, [.int .i64 (IntKind.i64.wrap u)]), (false, [.bool true])], []))
def n61 (c : UInt8) (l : List UInt8) : Tree (RV E.A × List (Obj E.A)) := .ite (!Px.digs l) z61 (.ite (leI 0 0 && leI 0 (↑l.length : Int) && leI 0 0 && leI 0 9223372036854775809 && Px.allDig' l) (.ite (Px.runOk' (Int.toNat (0 : Int)) (List.drop (Int.toNat (0 : Int)) l)) (.ite (ltI 9223372036854775808 (↑(Px.runV' (Int.toNat (0 : Int)) (List.drop (Int.toNat (0 : Int)) l)) : Int)) z61 (.ite (eqI (↑(Px.runV' (Int.toNat (0 : Int)) (List.drop (Int.toNat (0 : Int)) l)) : Int) (9223372036854775808 : Int)) (.ite (!eqI (↑c.toNat : Int) 45) z61 (s61 c (↑(Px.runV' (Int.toNat (0 : Int)) (List.drop (Int.toNat (0 : Int)) l)) : Int))) (s61 c (↑(Px.runV' (Int.toNat (0 : Int)) (List.drop (Int.toNat (0 : Int)) l)) : Int)))) z61) (.fail))
def w61 (a0 : List UInt8) : Tree (RV E.A × List (Obj E.A)) := .ite (!decide (a0 = [])) (.ite (inB (0 : Int) a0.length) (.ite (!decide (a0 = [])) (.ite (inB (0 : Int) a0.length) (.ite (eqI (↑(a0.getD (Int.toNat (0 : Int)) (0 : UInt8)).toNat : Int) (45 : Int)) (.ite (leI 0 1 && leI 1 (↑a0.length : Int) && leI (↑a0.length : Int) (↑a0.length : Int)) (n61 (a0.getD (Int.toNat (0 : Int)) (0 : UInt8)) (List.drop (Int.toNat (1 : Int)) (List.take (↑a0.length : Int).toNat a0))) .fail) (.ite (inB (0 : Int) a0.length) (.ite (eqI (↑(a0.getD (Int.toNat (0 : Int)) (0 : UInt8)).toNat : Int) (43 : Int)) (.ite (leI 0 1 && leI 1 (↑a0.length : Int) && leI (↑a0.length : Int) (↑a0.length : Int)) (n61 (a0.getD (Int.toNat (0 : Int)) (0 : UInt8)) (List.drop (Int.toNat (1 : Int)) (List.take (↑a0.length : Int).toNat a0))) .fail) (n61 (a0.getD (Int.toNat (0 : Int)) (0 : UInt8)) a0)) .fail)) .fail) (n61 (a0.getD (Int.toNat (0 : Int)) (0 : UInt8)) a0)) .fail) (.ite (!decide (a0 = [])) (.ite (inB (0 : Int) a0.length) (.ite (eqI (↑(a0.getD (Int.toNat (0 : Int)) (0 : UInt8)).toNat : Int) (45 : Int)) (.ite (leI 0 1 && leI 1 (↑a0.length : Int) && leI (↑a0.length : Int) (↑a0.length : Int)) (.ite (!Px.digs (List.drop (Int.toNat (1 : Int)) (List.take (↑a0.length : Int).toNat a0))) z61 (.ite (leI 0 0 && leI 0 (↑(List.drop (Int.toNat (1 : Int)) (List.take (↑a0.length : Int).toNat a0)).length : Int) && leI 0 0 && leI 0 9223372036854775809 && Px.allDig' (List.drop (Int.toNat (1 : Int)) (List.take (↑a0.length : Int).toNat a0))) (.ite (Px.runOk' (Int.toNat (0 : Int)) (List.drop (Int.toNat (0 : Int)) (List.drop (Int.toNat (1 : Int)) (List.take (↑a0.length : Int).toNat a0)))) (.ite (ltI 9223372036854775808 (↑(Px.runV' (Int.toNat (0 : Int)) (List.drop (Int.toNat (0 : Int)) (List.drop (Int.toNat (1 : Int)) (List.take (↑a0.length : Int).toNat a0)))) : Int)) z61 (.ite (eqI (↑(Px.runV' (Int.toNat (0 : Int)) (List.drop (Int.toNat (0 : Int)) (List.drop (Int.toNat (1 : Int)) (List.take (↑a0.length : Int).toNat a0)))) : Int) (9223372036854775808 : Int)) z61 (.leaf (.tup [(false, [.int .i64 (IntKind.i64.wrap (↑(Px.runV' (Int.toNat (0 : Int)) (List.drop (Int.toNat (0 : Int)) (List.drop (Int.toNat (1 : Int)) (List.take (↑a0.length : Int).toNat a0)))) : Int))]), (false, [.bool true])], [])))) z61) .fail)) .fail) (.ite (inB (0 : Int) a0.length) (.ite (eqI (↑(a0.getD (Int.toNat (0 : Int)) (0 : UInt8)).toNat : Int) (43 : Int)) (.ite (leI 0 1 && leI 1 (↑a0.length : Int) && leI (↑a0.length : Int) (↑a0.length : Int)) (.ite (!Px.digs (List.drop (Int.toNat (1 : Int)) (List.take (↑a0.length : Int).toNat a0))) z61 (.ite (leI 0 0 && leI 0 (↑(List.drop (Int.toNat (1 : Int)) (List.take (↑a0.length : Int).toNat a0)).length : Int) && leI 0 0 && leI 0 9223372036854775809 && Px.allDig' (List.drop (Int.toNat (1 : Int)) (List.take (↑a0.length : Int).toNat a0))) (.ite (Px.runOk' (Int.toNat (0 : Int)) (List.drop (Int.toNat (0 : Int)) (List.drop (Int.toNat (1 : Int)) (List.take (↑a0.length : Int).toNat a0)))) (.ite (ltI 9223372036854775808 (↑(Px.runV' (Int.toNat (0 : Int)) (List.drop (Int.toNat (0 : Int)) (List.drop (Int.toNat (1 : Int)) (List.take (↑a0.length : Int).toNat a0)))) : Int)) z61 (.ite (eqI (↑(Px.runV' (Int.toNat (0 : Int)) (List.drop (Int.toNat (0 : Int)) (List.drop (Int.toNat (1 : Int)) (List.take (↑a0.length : Int).toNat a0)))) : Int) (9223372036854775808 : Int)) z61 (.leaf (.tup [(false, [.int .i64 (IntKind.i64.wrap (↑(Px.runV' (Int.toNat (0 : Int)) (List.drop (Int.toNat (0 : Int)) (List.drop (Int.toNat (1 : Int)) (List.take (↑a0.length : Int).toNat a0)))) : Int))]), (false, [.bool true])], [])))) z61) .fail)) .fail) (.ite (!Px.digs a0) z61 (.ite (leI 0 0 && leI 0 (↑a0.length : Int) && leI 0 0 && leI 0 9223372036854775809 && Px.allDig' a0) (.ite (Px.runOk' (Int.toNat (0 : Int)) (List.drop (Int.toNat (0 : Int)) a0)) (.ite (ltI 9223372036854775808 (↑(Px.runV' (Int.toNat (0 : Int)) (List.drop (Int.toNat (0 : Int)) a0)) : Int)) z61 (.ite (eqI (↑(Px.runV' (Int.toNat (0 : Int)) (List.drop (Int.toNat (0 : Int)) a0)) : Int) (9223372036854775808 : Int)) z61 (.leaf (.tup [(false, [.int .i64 (IntKind.i64.wrap (↑(Px.runV' (Int.toNat (0 : Int)) (List.drop (Int.toNat (0 : Int)) a0)) : Int))]), (false, [.bool true])], [])))) z61) .fail))) .fail)) .fail) (.ite (!Px.digs a0) z61 (.ite (leI 0 0 && leI 0 (↑a0.length : Int) && leI 0 0 && leI 0 9223372036854775809 && Px.allDig' a0) (.ite (Px.runOk' (Int.toNat (0 : Int)) (List.drop (Int.toNat (0 : Int)) a0)) (.ite (ltI 9223372036854775808 (↑(Px.runV' (Int.toNat (0 : Int)) (List.drop (Int.toNat (0 : Int)) a0)) : Int)) z61 (.ite (eqI (↑(Px.runV' (Int.toNat (0 : Int)) (List.drop (Int.toNat (0 : Int)) a0)) : Int) (9223372036854775808 : Int)) z61 (.leaf (.tup [(false, [.int .i64 (IntKind.i64.wrap (↑(Px.runV' (Int.toNat (0 : Int)) (List.drop (Int.toNat (0 : Int)) a0)) : Int))]), (false, [.bool true])], [])))) z61) .fail)))
theorem e61 (a0 : List UInt8) : execFun E G61 ((Lam61)) false Go.Proofs.Tryz.f61 [.lf (.str a0)] [] some = (w61 a0).get := by kernel_rfl
def raw61 : Spec E := fun args os => match args, os with | [.lf (.str a0)], [] => w61 a0 | _, _ => .fail
theorem validraw61 (hL : Laws E) : Valid E 61 raw61 :=
 valid_of_body hL (hG61 hL) (Λ := (Lam61)) (fn := Go.Proofs.Tryz.f61) (keep := false) (by kernel_rfl) (by kernel_rfl) (by kernel_rfl) ((LamOK.of (m := 1) (by kernel_rfl) (fun j hj σ e σ' hg => by
   match j, hj with
   | 0, _ => exact ll61_0 hL σ e σ' hg
   ))) (fun args os r os' h => by
  unfold raw61 at h
  split at h
  ·exact (e61 _).trans h
  ·cases h)
theorem eq61 (s : List UInt8) : (w61 s).get = some (.tup [(false, [.int .i64 (Px.numV s)]), (false, [.bool (Px.numOk s)])], []) := by
 cases s with
 | nil => rfl
 | cons c r =>
  have a1 : decide (c :: r = []) = false := decide_eq_false (fun h => by cases h)
  have a2 : inB (0 : Int) (c :: r).length = true := inB_true.2 ⟨by omega, by simp only [List.length_cons]; omega⟩
  have a3 : (c :: r).getD 0 0 = c := rfl
  have a4 : (leI 0 1 && leI 1 ((c :: r).length : Int) && leI ((c :: r).length : Int) ((c :: r).length : Int)) = true := by
   simp only [leI_eq, Bool.and_eq_true, decide_eq_true_eq, List.length_cons]; omega
  have a5 : List.drop (Int.toNat 1) (List.take ((c :: r).length : Int).toNat (c :: r)) = r := by
   rw [Int.toNat_natCast, List.take_length]; rfl
  have a6 : ∀ l : List UInt8, (leI 0 0 && leI 0 (l.length : Int) && leI 0 0 && leI 0 9223372036854775809 && Px.allDig l) = Px.allDig l := by
   intro l
   have : leI 0 (l.length : Int) = true := by rw [leI_eq]; exact decide_eq_true (by omega)
   rw [this]; rfl
  have a7 : Int.toNat (0 : Int) = 0 := rfl
  have em : Px.minusB (c :: r) = eqI (c.toNat : Int) 45 := by
   unfold Px.minusB
   rw [eqI_eq, Bool.eq_iff_iff, Nat.beq_eq, decide_eq_true_eq]; omega
  have ep : Px.plusB (c :: r) = eqI (c.toNat : Int) 43 := by
   unfold Px.plusB
   rw [eqI_eq, Bool.eq_iff_iff, Nat.beq_eq, decide_eq_true_eq]; omega
  have n1 : ∀ n : Nat, ltI 0 (n : Int) = true → ltI 9223372036854775808 (n : Int) = false → IntKind.i64.wrap (IntKind.i64.wrap (0 - IntKind.i64.wrap (IntKind.u64.wrap ((n : Int) - 1))) - 1) = -(n : Int) := by
   intro n h1 h2
   rw [ltI_eq] at h1 h2
   have h1 := of_decide_eq_true h1
   have h2 := of_decide_eq_false h2
   rw [wu64 _ (by omega) (by omega), wi64 ((n : Int) - 1) (by omega) (by omega), wi64 (0 - ((n : Int) - 1)) (by omega) (by omega), wi64 _ (by omega) (by omega)]
   omega
  have n2 : ∀ n : Nat, ltI 9223372036854775808 (n : Int) = false → eqI (n : Int) 9223372036854775808 = false → IntKind.i64.wrap (n : Int) = n := by
   intro n h1 h2
   rw [ltI_eq] at h1
   rw [eqI_eq] at h2
   have h1 := of_decide_eq_false h1
   have h2 := of_decide_eq_false h2
   rw [wi64 _ (by omega) (by omega)]
  have n3 : ∀ n : Nat, ltI 0 (n : Int) = false → IntKind.i64.wrap (n : Int) = -(n : Int) := by
   intro n h1
   rw [ltI_eq] at h1
   have h1 := of_decide_eq_false h1
   rw [wi64 _ (by omega) (by omega)]; omega
  have b1 : ∀ n : Nat, Nat.blt 9223372036854775808 n = ltI 9223372036854775808 (n : Int) := by
   intro n
   rw [ltI_eq, Bool.eq_iff_iff, decide_eq_true_eq]
   constructor
   ·intro h; have : 9223372036854775808 < n := Nat.le_of_ble_eq_true h
    omega
   ·intro h; exact Nat.ble_eq ▸ (by omega : 9223372036854775808 < n)
  have b2 : ∀ n : Nat, Nat.beq n 9223372036854775808 = eqI (n : Int) 9223372036854775808 := by
   intro n
   rw [eqI_eq, Bool.eq_iff_iff, decide_eq_true_eq, Nat.beq_eq]; omega
  unfold Px.numV Px.numOk Px.refNum Px.bare1
  rw [em, ep]
  unfold w61 n61 s61 z61
  simp only [Tree.get_ite, Tree.get_leaf, a1, a2, a3, a4, a5, a7, Px.allDig'_eq, Px.runOk'_eq, Px.runV'_eq, a6, List.drop_zero, Bool.not_false, cond_true, b1, b2]
  have key : ∀ (m : Bool) (l : List UInt8) (X : Option (RV E.A × List (Obj E.A))),
   (∀ n, Px.numRun 0 l = some n → Px.digs l = true → X = cond (ltI 9223372036854775808 (n : Int)) (some (.tup [(false, [.int .i64 0]), (false, [.bool false])], [])) (cond (eqI (n : Int) 9223372036854775808 && !m) (some (.tup [(false, [.int .i64 0]), (false, [.bool false])], [])) (cond m (cond (ltI 0 (n : Int)) (some (.tup [(false, [.int .i64 (IntKind.i64.wrap (IntKind.i64.wrap (0 - IntKind.i64.wrap (IntKind.u64.wrap ((n : Int) - 1))) - 1))]), (false, [.bool true])], [])) (some (.tup [(false, [.int .i64 (IntKind.i64.wrap (n : Int))]), (false, [.bool true])], []))) (some (.tup [(false, [.int .i64 (IntKind.i64.wrap (n : Int))]), (false, [.bool true])], []))))) →
   cond (!Px.digs l) (some ((.tup [(false, [.int .i64 0]), (false, [.bool false])] : RV E.A), ([] : List (Obj E.A)))) (cond (Px.allDig l) (cond (Px.runOk 0 l) X (some (.tup [(false, [.int .i64 0]), (false, [.bool false])], []))) none) =
   some (.tup [(false, [.int .i64 (cond (Px.digs l) (match Px.numRun 0 l with | none => (0, false) | some n => cond (ltI 9223372036854775808 (n : Int) || (eqI (n : Int) 9223372036854775808 && !m)) (0, false) (cond m (-(n : Int), true) ((n : Int), true))) ((0 : Int), false)).1]), (false, [.bool (cond (Px.digs l) (match Px.numRun 0 l with | none => (0, false) | some n => cond (ltI 9223372036854775808 (n : Int) || (eqI (n : Int) 9223372036854775808 && !m)) (0, false) (cond m (-(n : Int), true) ((n : Int), true))) ((0 : Int), false)).2])], []) := by
   intro m l X hX
   cases hd : Px.digs l with
   | false => rfl
   | true =>
    rw [((Px.digs_iff l).1 hd).2]
    unfold Px.runOk
    cases hr : Px.numRun 0 l with
    | none => rfl
    | some n =>
     rw [hX n hr hd]
     simp only [Bool.not_true, cond_false, cond_true, Option.isSome_some]
     cases q1 : ltI 9223372036854775808 (n : Int)
     ·cases q2 : eqI (n : Int) 9223372036854775808
      ·cases m
       ·simp only [Bool.false_and, cond_false, Bool.or_self, n2 n q1 q2]
       ·cases q3 : ltI 0 (n : Int)
        ·simp only [Bool.not_true, Bool.and_false, cond_false, cond_true, Bool.or_self, n3 n q3]
        ·simp only [Bool.not_true, Bool.and_false, cond_false, cond_true, Bool.or_self, n1 n q3 q1]
      ·cases m
       ·rfl
       ·cases q3 : ltI 0 (n : Int)
        ·simp only [Bool.not_true, Bool.and_false, cond_false, cond_true, Bool.or_self, n3 n q3]
        ·simp only [Bool.not_true, Bool.and_false, cond_false, cond_true, Bool.or_self, n1 n q3 q1]
     ·rfl
  cases h45 : eqI (c.toNat : Int) 45
  ·cases h43 : eqI (c.toNat : Int) 43
   ·simp only [cond_false, Bool.or_self]
    refine key false (c :: r) _ (fun n hn hd => ?_)
    have hv : Px.runV 0 (c :: r) = n := by unfold Px.runV; rw [hn]; rfl
    simp only [hv]
    cases ltI 9223372036854775808 (n : Int) <;> cases eqI (n : Int) 9223372036854775808 <;> rfl
   ·simp only [cond_false, cond_true, Bool.or_true, List.drop_succ_cons, List.drop_zero]
    refine key false r _ (fun n hn hd => ?_)
    have hv : Px.runV 0 r = n := by unfold Px.runV; rw [hn]; rfl
    simp only [hv]
    cases ltI 9223372036854775808 (n : Int) <;> cases eqI (n : Int) 9223372036854775808 <;> rfl
  ·simp only [cond_false, cond_true, Bool.true_or, List.drop_succ_cons, List.drop_zero]
   refine key true r _ (fun n hn hd => ?_)
   have hv : Px.runV 0 r = n := by unfold Px.runV; rw [hn]; rfl
   simp only [hv]
   cases ltI 9223372036854775808 (n : Int) <;> cases eqI (n : Int) 9223372036854775808 <;> rfl
def spec61 : Spec E := fun args os => match args, os with | [.lf (.str s)], [] => .leaf (.tup [(false, [.int .i64 (Px.numV s)]), (false, [.bool (Px.numOk s)])], []) | _, _ => .fail
theorem valid61 (hL : Laws E) : Valid E 61 spec61 := (validraw61 hL).less (fun args os x u1 u2 h => by
 clear u1 u2
 unfold spec61 at h
 split at h
 ·rename_i s
  exact (eq61 s).trans h
 ·cases h)
end Go.Vx
namespace Go.Vx
open Go
def G37 (n : Nat) : FuncId → Option (Spec E) | 13 => some spec13 | 56 => some spec56 | 58 => some spec58 | 59 => some spec59 | 60 => some spec60 | 61 => some spec61 | 62 => some spec62 | 57 => some (spec57N n) | _ => none
theorem hG37 (hL : Laws E) (n : Nat) (hN : Valid E 57 (spec57N n)) : ∀ f spec, (G37 n) f = some spec → Valid E f spec := by
 intro f spec h
 unfold G37 at h
 split at h
 ·injection h with h; subst h; exact valid13 hL
 ·injection h with h; subst h; exact valid56 hL
 ·injection h with h; subst h; exact valid58 hL
 ·injection h with h; subst h; exact valid59 hL
 ·injection h with h; subst h; exact valid60 hL
 ·injection h with h; subst h; exact valid61 hL
 ·injection h with h; subst h; exact valid62 hL
 ·injection h with h; subst h; exact hN
 ·cases h
def d37 (p : List UInt8) (i d : Int) : Val × Int × Bool := Px.rList p d (6 : Int) [(62 : UInt8), (62 : UInt8)] (IntKind.i64.wrap (Px.skipI p i + (2 : Int)))
def l37 (p : List UInt8) (i d : Int) : Val × Int × Bool := Px.rList p d (5 : Int) [(93 : UInt8)] (IntKind.i64.wrap (Px.skipI p i + (1 : Int)))
def w37 (n : Nat) (a0 : List UInt8) (a1 : Int) (a2 : Int) : Tree (RV E.A × List (Obj E.A)) := .ite (ltI 40 a2) (.leaf (.tup [(true, [.int .u8 0, .int .i64 0, .int .i64 0, .str [], .sl .val [], .sl .str []]), (false, [.int .i64 0]), (false, [.bool false])], [])) (.ite (leI (↑a0.length : Int) (Px.skipI a0 a1)) (.leaf (.tup [(true, [.int .u8 0, .int .i64 0, .int .i64 0, .str [], .sl .val [], .sl .str []]), (false, [.int .i64 0]), (false, [.bool false])], [])) (.ite (Px.okAt a0 (Px.skipI a0 a1) && [(60 : UInt8), (60 : UInt8)].length.ble (1000 : Nat)) (.ite (Px.preAt a0 (Px.skipI a0 a1) [(60 : UInt8), (60 : UInt8)]) (.ite (Px.okAt a0 (IntKind.i64.wrap (Px.skipI a0 a1 + (2 : Int))) && leI 0 a2 && ltI a2 41 && leI 41 (a2 + (↑n : Int))) (.leaf (.tup [(true, [.int .u8 (Px.vk (d37 a0 a1 a2).1), .int .i64 (Px.vn (d37 a0 a1 a2).1), .int .i64 (Px.vg (d37 a0 a1 a2).1), .str (Px.vt (d37 a0 a1 a2).1), .sl .val (Px.vl (d37 a0 a1 a2).1), .sl .str (Px.vs (d37 a0 a1 a2).1)]), (false, [.int .i64 ((d37 a0 a1 a2).2.1)]), (false, [.bool ((d37 a0 a1 a2).2.2)])], [])) .fail) (.ite (inB (Px.skipI a0 a1) a0.length) (.ite (eqI (↑(a0.getD (Px.skipI a0 a1).toNat (0 : UInt8)).toNat : Int) (91 : Int)) (.ite (Px.okAt a0 (IntKind.i64.wrap (Px.skipI a0 a1 + (1 : Int))) && leI 0 a2 && ltI a2 41 && leI 41 (a2 + (↑n : Int))) (.leaf (.tup [(true, [.int .u8 (Px.vk (l37 a0 a1 a2).1), .int .i64 (Px.vn (l37 a0 a1 a2).1), .int .i64 (Px.vg (l37 a0 a1 a2).1), .str (Px.vt (l37 a0 a1 a2).1), .sl .val (Px.vl (l37 a0 a1 a2).1), .sl .str (Px.vs (l37 a0 a1 a2).1)]), (false, [.int .i64 ((l37 a0 a1 a2).2.1)]), (false, [.bool ((l37 a0 a1 a2).2.2)])], [])) .fail) (.ite (inB (Px.skipI a0 a1) a0.length) (.ite (eqI (↑(a0.getD (Px.skipI a0 a1).toNat (0 : UInt8)).toNat : Int) (60 : Int)) (.ite (leI 0 (IntKind.i64.wrap (Px.skipI a0 a1 + (1 : Int))) && leI (IntKind.i64.wrap (Px.skipI a0 a1 + (1 : Int))) (↑a0.length : Int) && leI (↑a0.length : Int) 1000000 && eqI 0 0 && ([] : List UInt8).length.beq (0 : Nat)) (.ite (Px.textIs (Px.gtL' (List.drop (IntKind.i64.wrap (Px.skipI a0 a1 + (1 : Int))).toNat a0))) (.leaf (.tup [(true, [.int .u8 4, .int .i64 0, .int .i64 0, .str (Px.textOut (Px.gtL' (List.drop (IntKind.i64.wrap (Px.skipI a0 a1 + (1 : Int))).toNat a0))), .sl .val [], .sl .str []]), (false, [.int .i64 (IntKind.i64.wrap (IntKind.i64.wrap (Px.skipI a0 a1 + (1 : Int)) + (↑(Px.gtN' (List.drop (IntKind.i64.wrap (Px.skipI a0 a1 + (1 : Int))).toNat a0)) : Int) + (1 : Int)))]), (false, [.bool (ltI (IntKind.i64.wrap (Px.skipI a0 a1 + (1 : Int)) + (↑(Px.gtN' (List.drop (IntKind.i64.wrap (Px.skipI a0 a1 + (1 : Int))).toNat a0)) : Int)) (↑a0.length : Int))])], [])) (.leaf (.tup [(true, [.int .u8 4, .int .i64 0, .int .i64 0, .str [], .sl .val [], .sl .str []]), (false, [.int .i64 0]), (false, [.bool false])], []))) .fail) (.ite (inB (Px.skipI a0 a1) a0.length) (.ite (eqI (↑(a0.getD (Px.skipI a0 a1).toNat (0 : UInt8)).toNat : Int) (47 : Int)) (.ite (inB (IntKind.i64.wrap (Px.skipI a0 a1 + (1 : Int))) (a0.length + (1 : Nat))) (.leaf (.tup [(true, [.int .u8 3, .int .i64 0, .int .i64 0, .str (Px.wordS a0 (IntKind.i64.wrap (Px.skipI a0 a1 + (1 : Int)))), .sl .val [], .sl .str []]), (false, [.int .i64 (Px.wordE a0 (IntKind.i64.wrap (Px.skipI a0 a1 + (1 : Int))))]), (false, [.bool (Px.plain (Px.wordS a0 (IntKind.i64.wrap (Px.skipI a0 a1 + (1 : Int)))))])], [])) .fail) (.ite (inB (Px.skipI a0 a1) (a0.length + (1 : Nat))) (.ite (decide (Px.wordS a0 (Px.skipI a0 a1) = ([110, 117, 108, 108] : List UInt8))) (.leaf (.tup [(true, [.int .u8 0, .int .i64 0, .int .i64 0, .str [], .sl .val [], .sl .str []]), (false, [.int .i64 (Px.wordE a0 (Px.skipI a0 a1))]), (false, [.bool true])], [])) (.ite (decide (Px.wordS a0 (Px.skipI a0 a1) = ([116, 114, 117, 101] : List UInt8))) (.leaf (.tup [(true, [.int .u8 1, .int .i64 1, .int .i64 0, .str [], .sl .val [], .sl .str []]), (false, [.int .i64 (Px.wordE a0 (Px.skipI a0 a1))]), (false, [.bool true])], [])) (.ite (decide (Px.wordS a0 (Px.skipI a0 a1) = ([102, 97, 108, 115, 101] : List UInt8))) (.leaf (.tup [(true, [.int .u8 1, .int .i64 0, .int .i64 0, .str [], .sl .val [], .sl .str []]), (false, [.int .i64 (Px.wordE a0 (Px.skipI a0 a1))]), (false, [.bool true])], [])) (.ite (!Px.numOk (Px.wordS a0 (Px.skipI a0 a1))) (.leaf (.tup [(true, [.int .u8 0, .int .i64 0, .int .i64 0, .str [], .sl .val [], .sl .str []]), (false, [.int .i64 0]), (false, [.bool false])], [])) (.ite (Px.digs (Px.wordS a0 (Px.skipI a0 a1))) (.ite (inB (Px.skipI a0 (Px.wordE a0 (Px.skipI a0 a1))) (a0.length + (1 : Nat))) (.ite (inB (Px.skipI a0 (Px.wordE a0 (Px.skipI a0 (Px.wordE a0 (Px.skipI a0 a1))))) (a0.length + (1 : Nat))) (.ite (Px.numOk (Px.wordS a0 (Px.skipI a0 (Px.wordE a0 (Px.skipI a0 a1))))) (.ite (Px.digs (Px.wordS a0 (Px.skipI a0 (Px.wordE a0 (Px.skipI a0 a1))))) (.ite (decide (Px.wordS a0 (Px.skipI a0 (Px.wordE a0 (Px.skipI a0 (Px.wordE a0 (Px.skipI a0 a1))))) = [(82 : UInt8)])) (.leaf (.tup [(true, [.int .u8 7, .int .i64 (Px.numV (Px.wordS a0 (Px.skipI a0 a1))), .int .i64 (if false = true then Max.max (Px.numV (Px.wordS a0 (Px.skipI a0 (Px.wordE a0 (Px.skipI a0 a1))))) (100000 : Int) else Min.min (Px.numV (Px.wordS a0 (Px.skipI a0 (Px.wordE a0 (Px.skipI a0 a1))))) (100000 : Int)), .str [], .sl .val [], .sl .str []]), (false, [.int .i64 (Px.wordE a0 (Px.skipI a0 (Px.wordE a0 (Px.skipI a0 (Px.wordE a0 (Px.skipI a0 a1))))))]), (false, [.bool true])], [])) (.leaf (.tup [(true, [.int .u8 2, .int .i64 (Px.numV (Px.wordS a0 (Px.skipI a0 a1))), .int .i64 0, .str [], .sl .val [], .sl .str []]), (false, [.int .i64 (Px.wordE a0 (Px.skipI a0 a1))]), (false, [.bool true])], []))) (.leaf (.tup [(true, [.int .u8 2, .int .i64 (Px.numV (Px.wordS a0 (Px.skipI a0 a1))), .int .i64 0, .str [], .sl .val [], .sl .str []]), (false, [.int .i64 (Px.wordE a0 (Px.skipI a0 a1))]), (false, [.bool true])], []))) (.leaf (.tup [(true, [.int .u8 2, .int .i64 (Px.numV (Px.wordS a0 (Px.skipI a0 a1))), .int .i64 0, .str [], .sl .val [], .sl .str []]), (false, [.int .i64 (Px.wordE a0 (Px.skipI a0 a1))]), (false, [.bool true])], []))) .fail) .fail) (.leaf (.tup [(true, [.int .u8 2, .int .i64 (Px.numV (Px.wordS a0 (Px.skipI a0 a1))), .int .i64 0, .str [], .sl .val [], .sl .str []]), (false, [.int .i64 (Px.wordE a0 (Px.skipI a0 a1))]), (false, [.bool true])], []))))))) .fail)) .fail)) .fail)) .fail)) .fail))
theorem e37 (n : Nat) (a0 : List UInt8) (a1 : Int) (a2 : Int) : execFun E (G37 n) (fun _ _ => .fail) false Go.Proofs.Tryz.f37 [.lf (.sl .u8 a0), .lf (.int .i64 a1), .lf (.int .i64 a2)] [] some = (w37 n a0 a1 a2).get := by kernel_rfl
def raw37 (n : Nat) : Spec E := fun args os => match args, os with | [.lf (.sl .u8 a0), .lf (.int .i64 a1), .lf (.int .i64 a2)], [] => w37 n a0 a1 a2 | _, _ => .fail
theorem validraw37 (hL : Laws E) (n : Nat) (hN : Valid E 57 (spec57N n)) : Valid E 37 (raw37 n) :=
 valid_of_body hL (hG37 hL n hN) (Λ := fun _ _ => .fail) (fn := Go.Proofs.Tryz.f37) (keep := false) (by kernel_rfl) (by kernel_rfl) (by kernel_rfl) (LamOK.none (by kernel_rfl)) (fun args os r os' h => by
  unfold raw37 at h
  split at h
  ·exact (e37 _ _ _ _).trans h
  ·cases h)
theorem ite_get' {α : Type} {b : Bool} {t e : Tree α} (h : b = true) : (Tree.ite b t e).get = t.get := by rw [h]; rfl
theorem eq37 {n : Nat} {p : List UInt8} {i d : Int} (h : Px.okAt p i = true) (d0 : 0 ≤ d) (d1 : d < 42) (d2 : 42 ≤ d + ((n + 1 : Nat) : Int)) :
  (w37 n p i d).get = some (.tup [(true, [.int .u8 (Px.vk (Px.rValue p d i).1), .int .i64 (Px.vn (Px.rValue p d i).1), .int .i64 (Px.vg (Px.rValue p d i).1), .str (Px.vt (Px.rValue p d i).1), .sl .val (Px.vl (Px.rValue p d i).1), .sl .str (Px.vs (Px.rValue p d i).1)]), (false, [.int .i64 (Px.rValue p d i).2.1]), (false, [.bool (Px.rValue p d i).2.2])], []) := by
 have h1 := Px.ok_skip h
 obtain ⟨s0, s1, s2⟩ := Px.okAt_iff.1 h1
 by_cases hd : d = 41
 ·subst hd
  have e : Px.rValue p 41 i = (Px.v0, 0, false) := rfl
  rw [e]
  rfl
 ·obtain ⟨m, rfl⟩ : ∃ m : Nat, d = 40 - (m : Int) := ⟨(40 - d).toNat, by omega⟩
  have e0 : ltI 40 (40 - (m : Int)) = false := by rw [ltI_eq]; exact decide_eq_false (by omega)
  have e1 : Px.rValue p (40 - (m : Int)) i = Px.rValueF (m + 1) p i := by
   unfold Px.rValue
   rw [show (41 - (40 - (m : Int))).toNat = m + 1 by omega]
  have e2 : Px.rValue p (40 - (m : Int) + 1) = Px.rValueF m p := by
   funext j
   unfold Px.rValue
   rw [show (41 - (40 - (m : Int) + 1)).toNat = m by omega]
  have el : ∀ kind e j, Px.rList p (40 - (m : Int)) kind e j = Px.rListGo (Px.rValueF m p) p kind e (p.length + 2) j [] [] := by
   intro kind e j
   unfold Px.rList
   rw [e2]
  have b1 : ([(60 : UInt8), (60 : UInt8)].length.ble (1000 : Nat)) = true := rfl
  have gd : (leI 0 (40 - (m : Int)) && ltI (40 - (m : Int)) 41 && leI 41 (40 - (m : Int) + (n : Int))) = true := by
   simp only [leI_eq, ltI_eq, Bool.and_eq_true, decide_eq_true_eq]; omega
  have gl : ∀ (j : Int), Px.okAt p j = true → (Px.okAt p j && leI 0 (40 - (m : Int)) && ltI (40 - (m : Int)) 41 && leI 41 (40 - (m : Int) + (n : Int))) = true := by
   intro j hj
   rw [hj, Bool.true_and, gd]
  rw [e1, Px.rValueF]
  unfold w37 l37 d37
  cases q0 : leI (p.length : Int) (Px.skipI p i) with
  | true =>
   simp only [Tree.get_ite, Tree.get_leaf, e0, cond_false, q0, cond_true]
   rfl
  | false =>
   have q0' := q0
   rw [leI_eq, decide_eq_false_iff_not] at q0
   have h2 : Px.okAt p (Px.skipI p i + 1) = true := Px.okAt_iff.2 ⟨by omega, by omega, s2⟩
   obtain ⟨t0, t1, t2⟩ := Px.okAt_iff.1 h2
   have ew1 : IntKind.i64.wrap (Px.skipI p i + 1) = Px.skipI p i + 1 := wi64 _ (by omega) (by omega)
   have ew2 : IntKind.i64.wrap (Px.skipI p i + 2) = Px.skipI p i + 2 := wi64 _ (by omega) (by omega)
   have hin : inB (Px.skipI p i) p.length = true := inB_true.2 ⟨by omega, by omega⟩
   have gt : (leI 0 (Px.skipI p i + 1) && leI (Px.skipI p i + 1) (p.length : Int) && leI (p.length : Int) 1000000 && eqI 0 0 && ([] : List UInt8).length.beq (0 : Nat)) = true := by
    have : (leI 0 (Px.skipI p i + 1) && leI (Px.skipI p i + 1) (p.length : Int) && leI (p.length : Int) 1000000) = true := h2
    rw [this]; rfl
   have hg := Px.gtN_le (p.drop (Px.skipI p i + 1).toNat)
   rw [List.length_drop] at hg
   have ew3 : IntKind.i64.wrap (Px.skipI p i + 1 + (Px.gtN (p.drop (Px.skipI p i + 1).toNat) : Int) + 1) = Px.skipI p i + 1 + (Px.gtN (p.drop (Px.skipI p i + 1).toNat) : Int) + 1 := wi64 _ (by omega) (by omega)
   simp only [Tree.get_ite, Tree.get_leaf, e0, cond_false, q0', h1, b1, Bool.and_self, cond_true, el, ew1, ew2, hin, Px.ok_inB h1, Px.ok_inB h2, gt, Px.gtL'_eq, Px.gtN'_eq, ew3]
   cases q1 : Px.preAt p (Px.skipI p i) [60, 60] with
   | true =>
    have g := gl _ (Px.ok_pre h1 q1)
    have g : (Px.okAt p (Px.skipI p i + 2) && leI 0 (40 - (m : Int)) && ltI (40 - (m : Int)) 41 && leI 41 (40 - (m : Int) + (n : Int))) = true := g
    simp only [cond_true, g]
   | false =>
    simp only [cond_false]
    unfold Px.rByte
    cases q2 : eqI ((p.getD (Px.skipI p i).toNat 0).toNat : Int) 91 with
    | true => simp only [cond_true, gl _ h2]
    | false =>
     simp only [cond_false]
     cases q3 : eqI ((p.getD (Px.skipI p i).toNat 0).toNat : Int) 60 with
     | true =>
      simp only [cond_true]
      unfold Px.rText
      cases Px.textIs (Px.gtL (p.drop (Px.skipI p i + 1).toNat)) <;> rfl
     | false =>
      simp only [cond_false]
      cases q4 : eqI ((p.getD (Px.skipI p i).toNat 0).toNat : Int) 47 with
      | true => rfl
      | false =>
       simp only [cond_false]
       have hw := Px.ok_word h1
       have h5 := Px.ok_skip hw
       have h6 := Px.ok_word h5
       have h7 := Px.ok_skip h6
       have eN : ([110, 117, 108, 108] : List UInt8) = Px.wNull := rfl
       have eT : ([116, 114, 117, 101] : List UInt8) = Px.wTrue := rfl
       have eF : ([102, 97, 108, 115, 101] : List UInt8) = Px.wFalse := rfl
       have em : ∀ x : Int, (if false = true then Max.max x (100000 : Int) else Min.min x (100000 : Int)) = Min.min x 100000 := fun _ => rfl
       have gw : ∀ s, Px.numOk s = true → Px.digs s = true → IntKind.i64.wrap (Min.min (Px.numV s) 100000) = Min.min (Px.numV s) 100000 := by
        intro s hs _
        have := Px.refNum_in hs
        simp only [inRb, Bool.and_eq_true, decide_eq_true_eq] at this
        have a0 : (-9223372036854775808 : Int) ≤ Px.numV s := this.1
        exact wi64 _ (by omega) (by omega)
       unfold Px.rWord Px.refV Px.refE Px.isRef Px.genS Px.genE
       rw [eN, eT, eF]
       simp only [Px.ok_inB h5, Px.ok_inB h7, cond_true, em]
       cases decide (Px.wordS p (Px.skipI p i) = Px.wNull) <;> cases decide (Px.wordS p (Px.skipI p i) = Px.wTrue) <;> cases decide (Px.wordS p (Px.skipI p i) = Px.wFalse) <;> first | rfl | skip
       cases Px.numOk (Px.wordS p (Px.skipI p i)) <;> cases Px.digs (Px.wordS p (Px.skipI p i)) <;> first | rfl | skip
       cases z1 : Px.numOk (Px.wordS p (Px.skipI p (Px.wordE p (Px.skipI p i)))) <;> cases z2 : Px.digs (Px.wordS p (Px.skipI p (Px.wordE p (Px.skipI p i)))) <;> first | rfl | skip
       cases decide (Px.wordS p (Px.skipI p (Px.wordE p (Px.skipI p (Px.wordE p (Px.skipI p i))))) = [82]) <;> first | rfl | (simp only [gw _ z1 z2]; rfl)
theorem valid37N (hL : Laws E) : ∀ n, Valid E 37 (spec37N n)
 | 0 => Valid.never (fun args os => by
   unfold spec37N
   split
   ·rename_i p i d
    have key : ∀ b : Bool, (b && leI 0 d && ltI d 42 && leI 42 (d + ((0 : Nat) : Int))) = false := by
     intro b
     rw [Bool.eq_false_iff]
     simp only [leI_eq, ltI_eq, Bool.and_eq_true, decide_eq_true_eq, ne_eq]
     omega
    rw [Tree.get_ite, key]; rfl
   ·rfl)
 | n + 1 => (validraw37 hL n (valid57N hL n (valid37N hL n))).less (fun args os x u1 u2 h => by
   clear u1 u2
   unfold spec37N at h
   split at h
   ·rename_i p i d
    rcases Tree.get_ite_some h with ⟨h1, h'⟩ | ⟨_, h'⟩
    ·simp only [leI_eq, ltI_eq, Bool.and_eq_true, decide_eq_true_eq] at h1
     exact (eq37 h1.1.1.1 h1.1.1.2 h1.1.2 h1.2).trans h'
    ·cases h'
   ·cases h)
def spec37 : Spec E := fun args os => match args, os with | [.lf (.sl .u8 p), .lf (.int .i64 i), .lf (.int .i64 d)], [] => .ite (Px.okAt p i && leI 0 d && ltI d 42) (.leaf (.tup [(true, [.int .u8 (Px.vk (Px.rValue p d i).1), .int .i64 (Px.vn (Px.rValue p d i).1), .int .i64 (Px.vg (Px.rValue p d i).1), .str (Px.vt (Px.rValue p d i).1), .sl .val (Px.vl (Px.rValue p d i).1), .sl .str (Px.vs (Px.rValue p d i).1)]), (false, [.int .i64 (Px.rValue p d i).2.1]), (false, [.bool (Px.rValue p d i).2.2])], [])) .fail | _, _ => .fail
theorem valid37 (hL : Laws E) : Valid E 37 spec37 := (valid37N hL 42).less (fun args os x u1 u2 h => by
 clear u1 u2
 unfold spec37 at h
 split at h
 ·rename_i p i d
  rcases Tree.get_ite_some h with ⟨h1, h'⟩ | ⟨_, h'⟩
  ·have key : ∀ b : Bool, (b && leI 0 d && ltI d 42) = true → (b && leI 0 d && ltI d 42 && leI 42 (d + ((42 : Nat) : Int))) = true := by
    intro b hb
    simp only [leI_eq, ltI_eq, Bool.and_eq_true, decide_eq_true_eq] at hb ⊢
    exact ⟨hb, by omega⟩
   exact (ite_get' (key _ h1)).trans h'
  ·cases h'
 ·cases h)
end Go.Vx
namespace Go.Vx
open Go
def G15 : FuncId → Option (Spec E) | 31 => some spec31 | 37 => some spec37 | _ => none
theorem hG15 (hL : Laws E) : ∀ f spec, G15 f = some spec → Valid E f spec := by
 intro f spec h
 unfold G15 at h
 split at h
 ·injection h with h; subst h; exact valid31 hL
 ·injection h with h; subst h; exact valid37 hL
 ·cases h
def w15 (a0 : List UInt8) : Tree (RV E.A × List (Obj E.A)) := .ite (Px.okAt a0 (0 : Int) && leI 0 0 && ltI 0 42) (.ite (!(Px.rValue a0 (0 : Int) (0 : Int)).2.2) (.leaf (.tup [(true, [.int .u8 0, .int .i64 0, .int .i64 0, .str [], .sl .val [], .sl .str []]), (false, [.int .i64 0]), (false, [.bool false])], [])) (.ite (Px.smallV (Val.mk (Px.vk (Px.rValue a0 (0 : Int) (0 : Int)).1) (Px.vn (Px.rValue a0 (0 : Int) (0 : Int)).1) (Px.vg (Px.rValue a0 (0 : Int) (0 : Int)).1) (Px.vt (Px.rValue a0 (0 : Int) (0 : Int)).1) (Px.vl (Px.rValue a0 (0 : Int) (0 : Int)).1) (Px.vs (Px.rValue a0 (0 : Int) (0 : Int)).1))) (.ite (!Px.okV (0 : Int) (Val.mk (Px.vk (Px.rValue a0 (0 : Int) (0 : Int)).1) (Px.vn (Px.rValue a0 (0 : Int) (0 : Int)).1) (Px.vg (Px.rValue a0 (0 : Int) (0 : Int)).1) (Px.vt (Px.rValue a0 (0 : Int) (0 : Int)).1) (Px.vl (Px.rValue a0 (0 : Int) (0 : Int)).1) (Px.vs (Px.rValue a0 (0 : Int) (0 : Int)).1))) (.leaf (.tup [(true, [.int .u8 0, .int .i64 0, .int .i64 0, .str [], .sl .val [], .sl .str []]), (false, [.int .i64 0]), (false, [.bool false])], [])) (.leaf (.tup [(true, [.int .u8 (Px.vk (Px.rValue a0 (0 : Int) (0 : Int)).1), .int .i64 (Px.vn (Px.rValue a0 (0 : Int) (0 : Int)).1), .int .i64 (Px.vg (Px.rValue a0 (0 : Int) (0 : Int)).1), .str (Px.vt (Px.rValue a0 (0 : Int) (0 : Int)).1), .sl .val (Px.vl (Px.rValue a0 (0 : Int) (0 : Int)).1), .sl .str (Px.vs (Px.rValue a0 (0 : Int) (0 : Int)).1)]), (false, [.int .i64 ((Px.rValue a0 (0 : Int) (0 : Int)).2.1)]), (false, [.bool true])], []))) .fail)) .fail
theorem e15 (a0 : List UInt8) : execFun E G15 (fun _ _ => .fail) false Go.Proofs.Tryz.f15 [.lf (.sl .u8 a0)] [] some = (w15 a0).get := by kernel_rfl
def raw15 : Spec E := fun args os => match args, os with | [.lf (.sl .u8 a0)], [] => w15 a0 | _, _ => .fail
theorem validraw15 (hL : Laws E) : Valid E 15 raw15 :=
 valid_of_body hL (hG15 hL) (Λ := fun _ _ => .fail) (fn := Go.Proofs.Tryz.f15) (keep := false) (by kernel_rfl) (by kernel_rfl) (by kernel_rfl) (LamOK.none (by kernel_rfl)) (fun args os r os' h => by
  unfold raw15 at h
  split at h
  ·exact (e15 _).trans h
  ·cases h)
theorem eq15 (p : List UInt8) (h : Px.okAt p 0 = true) (hs : Px.rSmall p = true) : (w15 p).get = some (.tup [(true, [.int .u8 (Px.vk (Px.rParse p).1), .int .i64 (Px.vn (Px.rParse p).1), .int .i64 (Px.vg (Px.rParse p).1), .str (Px.vt (Px.rParse p).1), .sl .val (Px.vl (Px.rParse p).1), .sl .str (Px.vs (Px.rParse p).1)]), (false, [.int .i64 (Px.rParse p).2.1]), (false, [.bool (Px.rParse p).2.2])], []) := by
 have g : (Px.okAt p 0 && leI 0 0 && ltI 0 42) = true := by rw [h]; rfl
 unfold Px.rSmall at hs
 unfold w15 Px.rParse
 simp only [Tree.get_ite, Tree.get_leaf, g, cond_true, Px.v_eta]
 cases q : (Px.rValue p 0 0).2.2 with
 | true =>
  rw [q, cond_true] at hs
  simp only [Bool.not_true, cond_false, hs, cond_true]
  cases Px.okV 0 (Px.rValue p 0 0).1 <;> rfl
 | false => rfl
def spec15 : Spec E := fun args os => match args, os with | [.lf (.sl .u8 p)], [] => .ite (Px.okAt p 0 && Px.rSmall p) (.leaf (.tup [(true, [.int .u8 (Px.vk (Px.rParse p).1), .int .i64 (Px.vn (Px.rParse p).1), .int .i64 (Px.vg (Px.rParse p).1), .str (Px.vt (Px.rParse p).1), .sl .val (Px.vl (Px.rParse p).1), .sl .str (Px.vs (Px.rParse p).1)]), (false, [.int .i64 (Px.rParse p).2.1]), (false, [.bool (Px.rParse p).2.2])], [])) .fail | _, _ => .fail
theorem valid15 (hL : Laws E) : Valid E 15 spec15 := (validraw15 hL).less (fun args os x u1 u2 h => by
 clear u1 u2
 unfold spec15 at h
 split at h
 ·rename_i p
  rcases Tree.get_ite_some h with ⟨h1, h'⟩ | ⟨_, h'⟩
  ·rw [Bool.and_eq_true] at h1
   exact (eq15 p h1.1 h1.2).trans h'
  ·cases h'
 ·cases h)
end Go.Vx
namespace Go.Vx
open Go
def spec16N (n : Nat) : Spec E := fun args os => match args, os with | [.agg [.int .u8 a0, .int .i64 a1, .int .i64 a2, .str a3, .sl .val a4, .sl .str a5], .agg [.int .u8 b0, .int .i64 b1, .int .i64 b2, .str b3, .sl .val b4, .sl .str b5]], [] => .ite (Nat.blt (Px.depthL a4) n) (.leaf (.lf (.bool (Px.alike (Val.mk a0 a1 a2 a3 a4 a5) (Val.mk b0 b1 b2 b3 b4 b5))), [])) .fail | _, _ => .fail
def G39 (n : Nat) : FuncId → Option (Spec E) | 16 => some (spec16N n) | _ => none
theorem hG39 (hL : Laws E) (n : Nat) (hN : Valid E 16 (spec16N n)) : ∀ f spec, (G39 n) f = some spec → Valid E f spec := by
 intro f spec h
 unfold G39 at h
 split at h
 ·injection h with h; subst h; exact hN
 ·cases h
def L39_0 : Ex → Live | .normal => ⟨[1, 2, 15, 16, 17], []⟩ | .exit 0 => ⟨[], []⟩ | .ret => ⟨[6], []⟩ | _ => ⟨[], []⟩
def S39_0 (p1 : List Val) (p15 : List Val) (p16 : Int) (x : Int) : St E.A := at' E 32 [(1, .lf (.sl .val p1)), (2, .lf (.fn 16 [])), (15, .lf (.sl .val p15)), (16, .lf (.int .i64 p16)), (17, .lf (.int .i64 x))] []
def t39_0 (n : Nat) (p1 : List Val) (p15 : List Val) (p16 : Int) (x : Int) : Tree ((Int) ⊕ Out' E) := .ite (ltI x p16) (.ite (inB x p15.length) (.ite (inB x p1.length) (.ite ((Px.depthL (Px.vl (p15.getD x.toNat (Val.mk 0 0 0 [] [] [])))).blt n) (.ite (!Px.alike (Val.mk (Px.vk (p15.getD x.toNat (Val.mk 0 0 0 [] [] []))) (Px.vn (p15.getD x.toNat (Val.mk 0 0 0 [] [] []))) (Px.vg (p15.getD x.toNat (Val.mk 0 0 0 [] [] []))) (Px.vt (p15.getD x.toNat (Val.mk 0 0 0 [] [] []))) (Px.vl (p15.getD x.toNat (Val.mk 0 0 0 [] [] []))) (Px.vs (p15.getD x.toNat (Val.mk 0 0 0 [] [] [])))) (Val.mk (Px.vk (p1.getD x.toNat (Val.mk 0 0 0 [] [] []))) (Px.vn (p1.getD x.toNat (Val.mk 0 0 0 [] [] []))) (Px.vg (p1.getD x.toNat (Val.mk 0 0 0 [] [] []))) (Px.vt (p1.getD x.toNat (Val.mk 0 0 0 [] [] []))) (Px.vl (p1.getD x.toNat (Val.mk 0 0 0 [] [] []))) (Px.vs (p1.getD x.toNat (Val.mk 0 0 0 [] [] []))))) (.leaf (.inr (.ret, at' E 32 [(6, .lf (.bool false))] []))) (.leaf (.inl ((IntKind.i64.wrap (x + (1 : Int))))))) .fail) .fail) .fail) (.leaf (.inr (.exit 0, at' E 32 [] [])))
theorem h39_0 (n : Nat) (p1 : List Val) (p15 : List Val) (p16 : Int) (x : Int) (k : Ex → St E.A → Option Unit) :
  exec E (G39 n) (fun _ _ => .fail) 1 (lb Go.Proofs.Tryz.f39 0) (S39_0 p1 p15 p16 x) (fun e σ1 => k e (clean E (L39_0 e) σ1)) = (t39_0 n p1 p15 p16 x).run (Sum.elim (fun x' => k .normal (S39_0 p1 p15 p16 x')) (fun o => k o.1 o.2)) := by kernel_rfl
def lam39_0 (n : Nat) (p1 : List Val) (p15 : List Val) (p16 : Int) (x : Int) : Tree (Out' E) := .ite (eqI p16 p15.length && eqI p1.length p15.length && leI 0 x && leI x p16 && Nat.ble (Px.depthL p15) n) (.ite (Px.alikes' (p15.drop x.toNat) (p1.drop x.toNat)) (.leaf (.exit 0, at' E 32 [] [])) (.leaf (.ret, at' E 32 [(6, .lf (.bool false))] []))) .fail
theorem m39_0 {n : Nat} {p1 : List Val} {p15 : List Val} {p16 : Int} {x : Int} {e : Ex} {σ : St E.A} (_ : okLenR (E := E) (.lf (.sl .val p1)) = true) (g : okLenR (E := E) (.lf (.sl .val p15)) = true)
  (h : (lam39_0 n p1 p15 p16 x).get = some (e, σ)) : ∃ fuel, iter (t39_0 n p1 p15 p16) fuel x = some (e, σ) ∧ e ≠ .normal := by
 have hb : p15.length ≤ big := of_decide_eq_true g
 unfold lam39_0 at h
 have h' := Tree.get_ite_some h
 clear h
 rcases h' with ⟨h1, h⟩ | ⟨_, h⟩
 ·simp only [eqI_eq, leI_eq, Bool.and_eq_true, decide_eq_true_eq, Nat.ble_eq] at h1
  obtain ⟨⟨⟨⟨rfl, hl⟩, k1⟩, k2⟩, k3⟩ := h1
  have hl : p1.length = p15.length := by omega
  obtain ⟨i, rfl⟩ : ∃ j : Nat, x = (j : Int) := ⟨x.toNat, by omega⟩
  have key := scan_iter (t := t39_0 n p1 p15 p15.length) (l := p15) Px.v0 (fun i b => cond (!Px.alike b (p1.getD i Px.v0)) (some (Ex.ret, at' E 32 [(6, .lf (.bool false))] [])) none) (Ex.exit 0, at' E 32 [] [])
   (fun i hi => by
    have hi1 : i < p1.length := by omega
    have hd : (Px.depthL (Px.vl (p15.getD i Px.v0))).blt n = true := by
     have h1 := Px.depth_get hi
     rw [Px.depth_vl] at h1
     exact Nat.ble_eq ▸ Nat.le_trans h1 k3
    have hz : (Val.mk 0 0 0 [] [] []) = Px.v0 := rfl
    unfold t39_0
    simp only [Tree.get_ite, Tree.get_leaf, ltI_nat hi, inB_nat hi, inB_nat hi1, cond_true, i64_succ hi hb, Int.toNat_natCast, hz, hd, Px.v_eta]
    cases Px.alike (p15.getD i Px.v0) (p1.getD i Px.v0) <;> rfl)
   (by unfold t39_0; simp only [Tree.get_ite, Tree.get_leaf, ltI_self, cond_false])
   (p15.length - i) i (by omega)
  rw [Px.scan_alike _ _ _ _ _ (by rw [List.length_drop]; omega)] at key
  rw [Tree.get_ite, Tree.get_leaf, Tree.get_leaf, Int.toNat_natCast, Px.alikes'_eq] at h
  refine ⟨_, key.trans ?_, ?_⟩
  ·rw [← h]; exact some_cond _ _ _
  ·intro hh; subst hh
   cases q : Px.alikes (p15.drop i) (p1.drop i) <;> rw [q] at h <;> cases h
 ·cases h
def rd39_0 (n : Nat) (σ : St E.A) : Tree (Out' E) :=
 let c := clean E (L39_0 .normal) σ
 if c.sl.length = 32 then
 match c.sl.getD 1 .undef, c.sl.getD 2 .undef, c.sl.getD 15 .undef, c.sl.getD 16 .undef, c.sl.getD 17 .undef with
 | .lf (.sl .val p1), .lf (.fn 16 []), .lf (.sl .val p15), .lf (.int .i64 p16), .lf (.int .i64 x17) => lam39_0 n p1 p15 p16 (x17)
 | _, _, _, _, _ => .fail
 else .fail
theorem ll39_0 (hL : Laws E) (n : Nat) (hN : Valid E 16 (spec16N n)) (σ : St E.A) (e : Ex) (σ' : St E.A) (h : (rd39_0 n σ).get = some (e, σ')) : LoopOK E (lb Go.Proofs.Tryz.f39 0) σ e σ' := by
 refine LoopOK.of_clean hL (L39_0 .normal) ?_
 unfold rd39_0 at h
 simp only at h
 split at h
 ·rename_i hlen
  split at h
  ·rename_i p1 p15 p16 x17 h0 h1 h2 h3 h4
   refine LoopOK.lens 1 (fun g0 => ?_)
   rw [h0] at g0
   refine LoopOK.lens 15 (fun g1 => ?_)
   rw [h2] at g1
   obtain ⟨fuel, hi, ho⟩ := m39_0 g0 g1 h
   have hl := loop_at (Γ := (G39 n)) (Λ := fun _ _ => .fail) (n := 1) (body := lb Go.Proofs.Tryz.f39 0) hL (hG39 hL n hN) (S := S39_0 p1 p15 p16) (t := t39_0 n p1 p15 p16) (Lv := L39_0) (LamOK.none (by kernel_rfl)) (h39_0 n p1 p15 p16) hi ho
   refine LoopOK.fit hlen ?_ ?_ rfl rfl hl
   ·exact ⟨h0, h1, h2, h3, h4, trivial⟩
   ·exact trivial
  ·cases h
 ·cases h
def Lam39 (n : Nat) : Lam E | 0, σ => rd39_0 n σ | _, _ => .fail
def w39 (n : Nat) (a : List Val) (b : List Val) : Tree (RV E.A × List (Obj E.A)) := .ite (!eqI (↑a.length : Int) (↑b.length : Int)) (.leaf (.lf (.bool false), [])) (.ite (eqI (↑a.length : Int) (↑a.length : Int) && eqI (↑b.length : Int) (↑a.length : Int) && leI 0 0 && leI 0 (↑a.length : Int) && (Px.depthL a).ble n) (.ite (Px.alikes' (List.drop (Int.toNat (0 : Int)) a) (List.drop (Int.toNat (0 : Int)) b)) (.leaf (.lf (.bool true), [])) (.leaf (.lf (.bool false), []))) .fail)
theorem e39 (n : Nat) (a : List Val) (b : List Val) : execFun E (G39 n) ((Lam39 n)) false Go.Proofs.Tryz.f39 [.lf (.sl .val a), .lf (.sl .val b), .lf (.fn 16 [])] [] some = (w39 n a b).get := by kernel_rfl
def raw39 (n : Nat) : Spec E := fun args os => match args, os with | [.lf (.sl .val a), .lf (.sl .val b), .lf (.fn 16 [])], [] => w39 n a b | _, _ => .fail
theorem validraw39 (hL : Laws E) (n : Nat) (hN : Valid E 16 (spec16N n)) : Valid E 39 (raw39 n) :=
 valid_of_body hL (hG39 hL n hN) (Λ := (Lam39 n)) (fn := Go.Proofs.Tryz.f39) (keep := false) (by kernel_rfl) (by kernel_rfl) (by kernel_rfl) ((LamOK.of (m := 1) (by kernel_rfl) (fun j hj σ e σ' hg => by
   match j, hj with
   | 0, _ => exact ll39_0 hL n hN σ e σ' hg
   ))) (fun args os r os' h => by
  unfold raw39 at h
  split at h
  ·exact (e39 _ _ _).trans h
  ·cases h)
def spec39N (n : Nat) : Spec E := fun args os => match args, os with | [.lf (.sl .val a), .lf (.sl .val b), .lf (.fn 16 [])], [] => .ite (Nat.ble (Px.depthL a) n) (.leaf (.lf (.bool (Px.alikes a b)), [])) .fail | _, _ => .fail
theorem eq39 {n : Nat} {a b : List Val} (h : Px.depthL a ≤ n) : (w39 n a b).get = some (.lf (.bool (Px.alikes a b)), []) := by
 have hz : (Val.mk 0 0 0 [] [] []) = Px.v0 := rfl
 have hn : Nat.ble (Px.depthL a) n = true := Nat.ble_eq ▸ h
 unfold w39
 simp only [Tree.get_ite, Tree.get_leaf, Px.alikes'_eq, hn]
 by_cases hl : a.length = b.length
 ·have e1 : eqI (a.length : Int) (b.length : Int) = true := by rw [eqI_eq]; exact decide_eq_true (by omega)
  have e2 : (eqI (a.length : Int) (a.length : Int) && eqI (b.length : Int) (a.length : Int) && leI 0 0 && leI 0 (a.length : Int) && true) = true := by
   rw [hl]; simp [eqI_eq, leI_eq]
  rw [e1, e2]
  show cond (Px.alikes a b) _ _ = _
  cases Px.alikes a b <;> rfl
 ·have e1 : eqI (a.length : Int) (b.length : Int) = false := by rw [eqI_eq]; exact decide_eq_false (by omega)
  have e2 : Px.alikes a b = false := by
   rw [Bool.eq_false_iff]; intro h; exact hl (congrArg List.length ((Px.alikes_iff a b).1 h))
  rw [e1, e2]; rfl
theorem valid39N (hL : Laws E) (n : Nat) (hN : Valid E 16 (spec16N n)) : Valid E 39 (spec39N n) := (validraw39 hL n hN).less (fun args os x u1 u2 h => by
 clear u1 u2
 unfold spec39N at h
 split at h
 ·rename_i a b
  rcases Tree.get_ite_some h with ⟨h1, h⟩ | ⟨_, h⟩
  ·exact (eq39 (Nat.le_of_ble_eq_true h1)).trans h
  ·cases h
 ·cases h)
end Go.Vx
namespace Go.Vx
open Go
def G38 : FuncId → Option (Spec E) := fun _ => none
theorem hG38 (hL : Laws E) : ∀ f spec, G38 f = some spec → Valid E f spec := by
 intro f spec h
 cases h
def L38_0 : Ex → Live | .normal => ⟨[0, 1, 12, 13], []⟩ | .exit 0 => ⟨[], []⟩ | .ret => ⟨[4], []⟩ | _ => ⟨[], []⟩
def S38_0 (p0 : List (List UInt8)) (p1 : List (List UInt8)) (p12 : Int) (x : Int) : St E.A := at' E 26 [(0, .lf (.sl .str p0)), (1, .lf (.sl .str p1)), (12, .lf (.int .i64 p12)), (13, .lf (.int .i64 x))] []
def t38_0 (p0 : List (List UInt8)) (p1 : List (List UInt8)) (p12 : Int) (x : Int) : Tree ((Int) ⊕ Out' E) := .ite (ltI x p12) (.ite (inB x p0.length) (.ite (inB x p1.length) (.ite (!decide (p0.getD x.toNat [] = p1.getD x.toNat [])) (.leaf (.inr (.ret, at' E 26 [(4, .lf (.bool false))] []))) (.leaf (.inl ((IntKind.i64.wrap (x + (1 : Int))))))) .fail) .fail) (.leaf (.inr (.exit 0, at' E 26 [] [])))
theorem h38_0 (p0 : List (List UInt8)) (p1 : List (List UInt8)) (p12 : Int) (x : Int) (k : Ex → St E.A → Option Unit) :
  exec E G38 (fun _ _ => .fail) 1 (lb Go.Proofs.Tryz.f38 0) (S38_0 p0 p1 p12 x) (fun e σ1 => k e (clean E (L38_0 e) σ1)) = (t38_0 p0 p1 p12 x).run (Sum.elim (fun x' => k .normal (S38_0 p0 p1 p12 x')) (fun o => k o.1 o.2)) := by kernel_rfl
end Go.Vx
namespace Px
open Go.Vx Go
def likeR : List (List UInt8) → List (List UInt8) → Bool
 | [], _ => true
 | a :: r, s => decide (a = s.getD 0 []) && likeR r (s.drop 1)
end Px
namespace Go.Vx
open Go
def lam38_0 (p0 p1 : List (List UInt8)) (p12 : Int) (x : Int) : Tree (Out' E) := .ite (eqI p12 p0.length && leI 0 x && leI x p12 && eqI p0.length p1.length) (.ite (Px.likeR (p0.drop x.toNat) (p1.drop x.toNat)) (.leaf (.exit 0, at' E 26 [] [])) (.leaf (.ret, at' E 26 [(4, .lf (.bool false))] []))) .fail
theorem scan38 {O : Type} (p1 : List (List UInt8)) (o fin : O) : ∀ (l : List (List UInt8)) (i : Nat), scan (fun i b => cond (!decide (b = p1.getD i [])) (some o) none) fin i l = cond (Px.likeR l (p1.drop i)) fin o
 | [], i => rfl
 | a :: r, i => by
  rw [scan, Px.likeR]
  have e1 : (p1.drop i).getD 0 [] = p1.getD i [] := by simp [List.getD, List.getElem?_drop]
  have e2 : (p1.drop i).drop 1 = p1.drop (i + 1) := by rw [List.drop_drop]
  rw [e1, e2]
  cases decide (a = p1.getD i []) with
  | true => exact scan38 p1 o fin r (i + 1)
  | false => rfl
theorem m38_0 {p0 p1 : List (List UInt8)} {p12 x : Int} {e : Ex} {σ : St E.A} (g : okLenR (E := E) (.lf (.sl .str p0)) = true) (_ : okLenR (E := E) (.lf (.sl .str p1)) = true)
  (h : (lam38_0 p0 p1 p12 x).get = some (e, σ)) : ∃ fuel, iter (t38_0 p0 p1 p12) fuel x = some (e, σ) ∧ e ≠ .normal := by
 have hb : p0.length ≤ big := of_decide_eq_true g
 unfold lam38_0 at h
 have h' := Tree.get_ite_some h
 clear h
 rcases h' with ⟨h1, h⟩ | ⟨_, h⟩
 ·simp only [eqI_eq, leI_eq, Bool.and_eq_true, decide_eq_true_eq] at h1
  obtain ⟨⟨⟨rfl, k1⟩, k2⟩, k3⟩ := h1
  obtain ⟨i, rfl⟩ : ∃ j : Nat, x = (j : Int) := ⟨x.toNat, by omega⟩
  have key := scan_iter (t := t38_0 p0 p1 p0.length) (l := p0) [] (fun i b => cond (!decide (b = p1.getD i [])) (some (Ex.ret, at' E 26 [(4, .lf (.bool false))] [])) none) (Ex.exit 0, at' E 26 [] [])
   (fun i hi => by
    have hi1 : i < p1.length := by omega
    unfold t38_0
    simp only [Tree.get_ite, Tree.get_leaf, ltI_nat hi, inB_nat hi, inB_nat hi1, cond_true, i64_succ hi hb, Int.toNat_natCast]
    cases decide (p0.getD i [] = p1.getD i []) <;> rfl)
   (by unfold t38_0; simp only [Tree.get_ite, Tree.get_leaf, ltI_self, cond_false])
   (p0.length - i) i (by omega)
  rw [scan38] at key
  rw [Tree.get_ite, Tree.get_leaf, Tree.get_leaf, Int.toNat_natCast] at h
  refine ⟨_, key.trans ?_, ?_⟩
  ·rw [← h]; cases Px.likeR (p0.drop i) (p1.drop i) <;> rfl
  ·intro hh; subst hh
   cases q : Px.likeR (p0.drop i) (p1.drop i) <;> rw [q] at h <;> cases h
 ·cases h
def rd38_0 (σ : St E.A) : Tree (Out' E) :=
 let c := clean E (L38_0 .normal) σ
 if c.sl.length = 26 then
 match c.sl.getD 0 .undef, c.sl.getD 1 .undef, c.sl.getD 12 .undef, c.sl.getD 13 .undef with
 | .lf (.sl .str p0), .lf (.sl .str p1), .lf (.int .i64 p12), .lf (.int .i64 x13) => lam38_0 p0 p1 p12 (x13)
 | _, _, _, _ => .fail
 else .fail
theorem ll38_0 (hL : Laws E) (σ : St E.A) (e : Ex) (σ' : St E.A) (h : (rd38_0 σ).get = some (e, σ')) : LoopOK E (lb Go.Proofs.Tryz.f38 0) σ e σ' := by
 refine LoopOK.of_clean hL (L38_0 .normal) ?_
 unfold rd38_0 at h
 simp only at h
 split at h
 ·rename_i hlen
  split at h
  ·rename_i p0 p1 p12 x13 h0 h1 h2 h3
   refine LoopOK.lens 0 (fun g0 => ?_)
   rw [h0] at g0
   refine LoopOK.lens 1 (fun g1 => ?_)
   rw [h1] at g1
   obtain ⟨fuel, hi, ho⟩ := m38_0 g0 g1 h
   have hl := loop_at (Γ := G38) (Λ := fun _ _ => .fail) (n := 1) (body := lb Go.Proofs.Tryz.f38 0) hL (hG38 hL) (S := S38_0 p0 p1 p12) (t := t38_0 p0 p1 p12) (Lv := L38_0) (LamOK.none (by kernel_rfl)) (h38_0 p0 p1 p12) hi ho
   refine LoopOK.fit hlen ?_ ?_ rfl rfl hl
   ·exact ⟨h0, h1, h2, h3, trivial⟩
   ·exact trivial
  ·cases h
 ·cases h
def Lam38 : Lam E | 0, σ => rd38_0 σ | _, _ => .fail
def w38 (a0 : List (List UInt8)) (a1 : List (List UInt8)) : Tree (RV E.A × List (Obj E.A)) := .ite (!eqI (↑a0.length : Int) (↑a1.length : Int)) (.leaf (.lf (.bool false), [])) (.ite (eqI (↑a0.length : Int) (↑a0.length : Int) && leI 0 0 && leI 0 (↑a0.length : Int) && eqI (↑a0.length : Int) (↑a1.length : Int)) (.ite (Px.likeR (List.drop (Int.toNat (0 : Int)) a0) (List.drop (Int.toNat (0 : Int)) a1)) (.leaf (.lf (.bool true), [])) (.leaf (.lf (.bool false), []))) .fail)
theorem e38 (a0 : List (List UInt8)) (a1 : List (List UInt8)) : execFun E G38 ((Lam38)) false Go.Proofs.Tryz.f38 [.lf (.sl .str a0), .lf (.sl .str a1)] [] some = (w38 a0 a1).get := by kernel_rfl
def raw38 : Spec E := fun args os => match args, os with | [.lf (.sl .str a0), .lf (.sl .str a1)], [] => w38 a0 a1 | _, _ => .fail
theorem validraw38 (hL : Laws E) : Valid E 38 raw38 :=
 valid_of_body hL (hG38 hL) (Λ := (Lam38)) (fn := Go.Proofs.Tryz.f38) (keep := false) (by kernel_rfl) (by kernel_rfl) (by kernel_rfl) ((LamOK.of (m := 1) (by kernel_rfl) (fun j hj σ e σ' hg => by
   match j, hj with
   | 0, _ => exact ll38_0 hL σ e σ' hg
   ))) (fun args os r os' h => by
  unfold raw38 at h
  split at h
  ·exact (e38 _ _).trans h
  ·cases h)
theorem likeR_iff : ∀ (a b : List (List UInt8)), a.length = b.length → (Px.likeR a b = true ↔ a = b)
 | [], [], _ => ⟨fun _ => rfl, fun _ => rfl⟩
 | x :: a, y :: b, h => by
  have ih := likeR_iff a b (by simpa using h)
  simp only [Px.likeR, List.getD_cons_zero, List.drop_succ_cons, List.drop_zero, Bool.and_eq_true, decide_eq_true_eq, ih, List.cons.injEq]
theorem eq38 (a b : List (List UInt8)) : (w38 a b).get = some (.lf (.bool (Px.likeS a b)), []) := by
 unfold Px.likeS
 unfold w38
 by_cases hl : a.length = b.length
 ·have c0 : eqI (a.length : Int) (b.length : Int) = true := by rw [eqI_eq]; exact decide_eq_true (by omega)
  have g : (eqI (a.length : Int) (a.length : Int) && leI 0 0 && leI 0 (a.length : Int) && eqI (a.length : Int) (b.length : Int)) = true := by
   simp only [eqI_eq, leI_eq, Bool.and_eq_true, decide_eq_true_eq]
   exact ⟨⟨⟨trivial, by omega⟩, by omega⟩, by omega⟩
  rw [Tree.get_ite, c0, Bool.not_true, cond_false, Tree.get_ite]
  rw [c0] at g
  rw [g, cond_true, Tree.get_ite]
  have hd := likeR_iff a b hl
  show cond (Px.likeR a b) _ _ = _
  cases q : Px.likeR a b with
  | true => rw [decide_eq_true (hd.1 q)]; rfl
  | false => rw [decide_eq_false (fun h => by rw [hd.2 h] at q; cases q)]; rfl
 ·have c0 : eqI (a.length : Int) (b.length : Int) = false := by rw [eqI_eq]; exact decide_eq_false (by omega)
  rw [Tree.get_ite, c0, decide_eq_false (fun h => hl (by rw [h]))]; rfl
def spec38 : Spec E := fun args os => match args, os with | [.lf (.sl .str a), .lf (.sl .str b)], [] => .leaf (.lf (.bool (Px.likeS a b)), []) | _, _ => .fail
theorem valid38 (hL : Laws E) : Valid E 38 spec38 := (validraw38 hL).less (fun args os x _ _ h => by
 unfold spec38 at h
 split at h
 ·exact (eq38 _ _).trans h
 ·cases h)
end Go.Vx
namespace Go.Vx
open Go
def G16 (n : Nat) : FuncId → Option (Spec E) | 38 => some spec38 | 39 => some (spec39N n) | _ => none
theorem hG16 (hL : Laws E) (n : Nat) (hN : Valid E 39 (spec39N n)) : ∀ f spec, (G16 n) f = some spec → Valid E f spec := by
 intro f spec h
 unfold G16 at h
 split at h
 ·injection h with h; subst h; exact valid38 hL
 ·injection h with h; subst h; exact hN
 ·cases h
def w16 (n : Nat) (a0Kind : Int) (a0Num : Int) (a0Gen : Int) (a0Text : List UInt8) (a0List : List Val) (a0Keys : List (List UInt8)) (a1Kind : Int) (a1Num : Int) (a1Gen : Int) (a1Text : List UInt8) (a1List : List Val) (a1Keys : List (List UInt8)) : Tree (RV E.A × List (Obj E.A)) := .ite (eqI a0Kind a1Kind) (.ite (eqI a0Num a1Num) (.ite (eqI a0Gen a1Gen) (.ite (decide (a0Text = a1Text)) (.ite (Px.likeS a0Keys a1Keys) (.ite ((Px.depthL a0List).ble n) (.leaf (.lf (.bool (Px.alikes a0List a1List)), [])) .fail) (.leaf (.lf (.bool false), []))) (.leaf (.lf (.bool false), []))) (.leaf (.lf (.bool false), []))) (.leaf (.lf (.bool false), []))) (.leaf (.lf (.bool false), []))
theorem e16 (n : Nat) (a0Kind : Int) (a0Num : Int) (a0Gen : Int) (a0Text : List UInt8) (a0List : List Val) (a0Keys : List (List UInt8)) (a1Kind : Int) (a1Num : Int) (a1Gen : Int) (a1Text : List UInt8) (a1List : List Val) (a1Keys : List (List UInt8)) : execFun E (G16 n) (fun _ _ => .fail) false Go.Proofs.Tryz.f16 [.agg [.int .u8 a0Kind, .int .i64 a0Num, .int .i64 a0Gen, .str a0Text, .sl .val a0List, .sl .str a0Keys], .agg [.int .u8 a1Kind, .int .i64 a1Num, .int .i64 a1Gen, .str a1Text, .sl .val a1List, .sl .str a1Keys]] [] some = (w16 n a0Kind a0Num a0Gen a0Text a0List a0Keys a1Kind a1Num a1Gen a1Text a1List a1Keys).get := by kernel_rfl
def raw16 (n : Nat) : Spec E := fun args os => match args, os with | [.agg [.int .u8 a0Kind, .int .i64 a0Num, .int .i64 a0Gen, .str a0Text, .sl .val a0List, .sl .str a0Keys], .agg [.int .u8 a1Kind, .int .i64 a1Num, .int .i64 a1Gen, .str a1Text, .sl .val a1List, .sl .str a1Keys]], [] => w16 n a0Kind a0Num a0Gen a0Text a0List a0Keys a1Kind a1Num a1Gen a1Text a1List a1Keys | _, _ => .fail
theorem validraw16 (hL : Laws E) (n : Nat) (hN : Valid E 39 (spec39N n)) : Valid E 16 (raw16 n) :=
 valid_of_body hL (hG16 hL n hN) (Λ := fun _ _ => .fail) (fn := Go.Proofs.Tryz.f16) (keep := false) (by kernel_rfl) (by kernel_rfl) (by kernel_rfl) (LamOK.none (by kernel_rfl)) (fun args os r os' h => by
  unfold raw16 at h
  split at h
  ·exact (e16 _ _ _ _ _ _ _ _ _ _ _ _ _).trans h
  ·cases h)
theorem eq16 {n : Nat} (a0 a1 a2 : Int) (a3 : List UInt8) {a4 : List Val} (a5 : List (List UInt8)) (b0 b1 b2 : Int) (b3 : List UInt8) (b4 : List Val) (b5 : List (List UInt8)) (h : Nat.ble (Px.depthL a4) n = true) :
  (w16 n a0 a1 a2 a3 a4 a5 b0 b1 b2 b3 b4 b5).get = some (.lf (.bool (Px.alike (Val.mk a0 a1 a2 a3 a4 a5) (Val.mk b0 b1 b2 b3 b4 b5))), []) := by
 have e : Px.alike (Val.mk a0 a1 a2 a3 a4 a5) (Val.mk b0 b1 b2 b3 b4 b5) = (eqI a0 b0 && (eqI a1 b1 && (eqI a2 b2 && (decide (a3 = b3) && (Px.likeS a5 b5 && Px.alikes a4 b4))))) := by
  rw [Bool.eq_iff_iff, Px.alike_iff]
  unfold Px.likeS
  simp only [Val.mk.injEq, eqI_eq, Bool.and_eq_true, decide_eq_true_eq, Px.alikes_iff]
  constructor
  ·rintro ⟨h0, h1, h2, h3, h4, h5⟩; exact ⟨h0, h1, h2, h3, h5, h4⟩
  ·rintro ⟨h0, h1, h2, h3, h5, h4⟩; exact ⟨h0, h1, h2, h3, h4, h5⟩
 rw [e]
 unfold w16
 simp only [Tree.get_ite, Tree.get_leaf, h, cond_true]
 cases eqI a0 b0 <;> cases eqI a1 b1 <;> cases eqI a2 b2 <;> cases decide (a3 = b3) <;> cases Px.likeS a5 b5 <;> cases Px.alikes a4 b4 <;> rfl
theorem valid16N (hL : Laws E) : ∀ n, Valid E 16 (spec16N n)
 | 0 => Valid.never (fun args os => by
   unfold spec16N
   split
   ·rfl
   ·rfl)
 | n + 1 => (validraw16 hL n (valid39N hL n (valid16N hL n))).less (fun args os x u1 u2 h => by
   clear u1 u2
   unfold spec16N at h
   split at h
   ·rcases Tree.get_ite_some h with ⟨h1, h⟩ | ⟨_, h⟩
    ·exact (eq16 _ _ _ _ _ _ _ _ _ _ _ h1).trans h
    ·cases h
   ·cases h)
def spec16 : Spec E := fun args os => match args, os with | [.agg [.int .u8 a0, .int .i64 a1, .int .i64 a2, .str a3, .sl .val a4, .sl .str a5], .agg [.int .u8 b0, .int .i64 b1, .int .i64 b2, .str b3, .sl .val b4, .sl .str b5]], [] => .leaf (.lf (.bool (Px.alike (Val.mk a0 a1 a2 a3 a4 a5) (Val.mk b0 b1 b2 b3 b4 b5))), []) | _, _ => .fail
theorem valid16 (hL : Laws E) : Valid E 16 spec16 := Valid.forN (valid16N hL) (fun args os x h => by
 unfold spec16 at h
 split at h
 ·rename_i a0 a1 a2 a3 a4 a5 b0 b1 b2 b3 b4 b5
  refine ⟨Px.depthL a4 + 1, ?_⟩
  unfold spec16N
  have : Nat.blt (Px.depthL a4) (Px.depthL a4 + 1) = true := Nat.ble_eq ▸ Nat.le_refl _
  rw [Tree.get_ite, this]
  exact h
 ·cases h)
end Go.Vx
namespace Go.Vx
open Go
def spec17N (n : Nat) : Spec E := fun args os => match args, os with | [.agg [.int .u8 a0, .int .i64 a1, .int .i64 a2, .str a3, .sl .val a4, .sl .str a5], .agg [.int .u8 b0, .int .i64 b1, .int .i64 b2, .str b3, .sl .val b4, .sl .str b5]], [] => .ite (Nat.blt (Px.depthL a4) n) (.leaf (.lf (.bool (Px.alike (Val.mk a0 a1 a2 a3 a4 a5) (Val.mk b0 b1 b2 b3 b4 b5))), [])) .fail | _, _ => .fail
def G17 (n : Nat) : FuncId → Option (Spec E) | 17 => some (spec17N n) | _ => none
theorem hG17 (hL : Laws E) (n : Nat) (hN : Valid E 17 (spec17N n)) : ∀ f spec, (G17 n) f = some spec → Valid E f spec := by
 intro f spec h
 unfold G17 at h
 split at h
 ·injection h with h; subst h; exact hN
 ·cases h
def L17_0 : Ex → Live | .normal => ⟨[2, 3, 53, 54], [192, 256]⟩ | .exit 0 => ⟨[2, 3], [192, 256]⟩ | .ret => ⟨[4], []⟩ | _ => ⟨[], []⟩
def S17_0 (p53 : Int) (x : Int × Int × Int × Int × (List UInt8) × (List Val) × (List (List UInt8)) × Int × Int × Int × (List UInt8) × (List Val) × (List (List UInt8))) : St E.A := at' E 88 [(2, .lf (.ptr 192 0 0)), (3, .lf (.ptr 256 0 0)), (53, .lf (.int .i64 p53)), (54, .lf (.int .i64 x.1))] [(192, some (.cells 36 [.int .u8 x.2.1, .int .i64 x.2.2.1, .int .i64 x.2.2.2.1, .str x.2.2.2.2.1, .sl .val x.2.2.2.2.2.1, .sl .str x.2.2.2.2.2.2.1])), (256, some (.cells 36 [.int .u8 x.2.2.2.2.2.2.2.1, .int .i64 x.2.2.2.2.2.2.2.2.1, .int .i64 x.2.2.2.2.2.2.2.2.2.1, .str x.2.2.2.2.2.2.2.2.2.2.1, .sl .val x.2.2.2.2.2.2.2.2.2.2.2.1, .sl .str x.2.2.2.2.2.2.2.2.2.2.2.2]))]
def t17_0 (n : Nat) (p53 : Int) (x : Int × Int × Int × Int × (List UInt8) × (List Val) × (List (List UInt8)) × Int × Int × Int × (List UInt8) × (List Val) × (List (List UInt8))) : Tree (Int × Int × Int × Int × (List UInt8) × (List Val) × (List (List UInt8)) × Int × Int × Int × (List UInt8) × (List Val) × (List (List UInt8)) ⊕ Out' E) := .ite (ltI x.1 p53) (.ite (inB x.1 x.2.2.2.2.2.2.1.length) (.ite (inB x.1 x.2.2.2.2.2.2.2.2.2.2.2.2.length) (.ite (!decide (x.2.2.2.2.2.2.1.getD x.1.toNat [] = x.2.2.2.2.2.2.2.2.2.2.2.2.getD x.1.toNat [])) (.leaf (.inr (.ret, at' E 88 [(4, .lf (.bool false))] []))) (.leaf (.inl ((IntKind.i64.wrap (x.1 + (1 : Int))), x.2.1, x.2.2.1, x.2.2.2.1, x.2.2.2.2.1, x.2.2.2.2.2.1, x.2.2.2.2.2.2.1, x.2.2.2.2.2.2.2.1, x.2.2.2.2.2.2.2.2.1, x.2.2.2.2.2.2.2.2.2.1, x.2.2.2.2.2.2.2.2.2.2.1, x.2.2.2.2.2.2.2.2.2.2.2.1, x.2.2.2.2.2.2.2.2.2.2.2.2)))) .fail) .fail) (.leaf (.inr (.exit 0, at' E 88 [(2, .lf (.ptr 192 0 0)), (3, .lf (.ptr 256 0 0))] [(192, some (.cells 36 [.int .u8 x.2.1, .int .i64 x.2.2.1, .int .i64 x.2.2.2.1, .str x.2.2.2.2.1, .sl .val x.2.2.2.2.2.1, .sl .str x.2.2.2.2.2.2.1])), (256, some (.cells 36 [.int .u8 x.2.2.2.2.2.2.2.1, .int .i64 x.2.2.2.2.2.2.2.2.1, .int .i64 x.2.2.2.2.2.2.2.2.2.1, .str x.2.2.2.2.2.2.2.2.2.2.1, .sl .val x.2.2.2.2.2.2.2.2.2.2.2.1, .sl .str x.2.2.2.2.2.2.2.2.2.2.2.2]))])))
theorem h17_0 (n : Nat) (p53 : Int) (x : Int × Int × Int × Int × (List UInt8) × (List Val) × (List (List UInt8)) × Int × Int × Int × (List UInt8) × (List Val) × (List (List UInt8))) (k : Ex → St E.A → Option Unit) :
  exec E (G17 n) (fun _ _ => .fail) 1 (lb Go.Proofs.Tryz.f17 0) (S17_0 p53 x) (fun e σ1 => k e (clean E (L17_0 e) σ1)) = (t17_0 n p53 x).run (Sum.elim (fun x' => k .normal (S17_0 p53 x')) (fun o => k o.1 o.2)) := by kernel_rfl
def lam17_0 (n : Nat) (p53 : Int) (x : Int × Int × Int × Int × (List UInt8) × (List Val) × (List (List UInt8)) × Int × Int × Int × (List UInt8) × (List Val) × (List (List UInt8))) : Tree (Out' E) := .ite (eqI p53 x.2.2.2.2.2.2.1.length && eqI x.2.2.2.2.2.2.2.2.2.2.2.2.length x.2.2.2.2.2.2.1.length && leI 0 x.1 && leI x.1 p53) (.ite (Px.likeS' (x.2.2.2.2.2.2.1.drop x.1.toNat) (x.2.2.2.2.2.2.2.2.2.2.2.2.drop x.1.toNat)) (.leaf (.exit 0, at' E 88 [(2, .lf (.ptr 192 0 0)), (3, .lf (.ptr 256 0 0))] [(192, some (.cells 36 [.int .u8 x.2.1, .int .i64 x.2.2.1, .int .i64 x.2.2.2.1, .str x.2.2.2.2.1, .sl .val (x.2.2.2.2.2.1), .sl .str (x.2.2.2.2.2.2.1)])), (256, some (.cells 36 [.int .u8 x.2.2.2.2.2.2.2.1, .int .i64 x.2.2.2.2.2.2.2.2.1, .int .i64 x.2.2.2.2.2.2.2.2.2.1, .str x.2.2.2.2.2.2.2.2.2.2.1, .sl .val (x.2.2.2.2.2.2.2.2.2.2.2.1), .sl .str (x.2.2.2.2.2.2.2.2.2.2.2.2)]))])) (.leaf (.ret, at' E 88 [(4, .lf (.bool false))] []))) .fail
theorem m17_0 {n : Nat} {p53 : Int} {x : Int × Int × Int × Int × (List UInt8) × (List Val) × (List (List UInt8)) × Int × Int × Int × (List UInt8) × (List Val) × (List (List UInt8))} {e : Ex} {σ : St E.A} (g : okLenO (E := E) (.cells 36 [.int .u8 x.2.1, .int .i64 x.2.2.1, .int .i64 x.2.2.2.1, .str x.2.2.2.2.1, .sl .val (x.2.2.2.2.2.1), .sl .str (x.2.2.2.2.2.2.1)]) = true) (_ : okLenO (E := E) (.cells 36 [.int .u8 x.2.2.2.2.2.2.2.1, .int .i64 x.2.2.2.2.2.2.2.2.1, .int .i64 x.2.2.2.2.2.2.2.2.2.1, .str x.2.2.2.2.2.2.2.2.2.2.1, .sl .val (x.2.2.2.2.2.2.2.2.2.2.2.1), .sl .str (x.2.2.2.2.2.2.2.2.2.2.2.2)]) = true)
  (h : (lam17_0 n p53 x).get = some (e, σ)) : ∃ fuel, iter (t17_0 n p53) fuel x = some (e, σ) ∧ e ≠ .normal := by
 obtain ⟨z, a0, a1, a2, a3, a4, a5, b0, b1, b2, b3, b4, b5⟩ := x
 have hb : a5.length ≤ big := by
  simp only [okLenO, List.all_cons, List.all_nil, okLen, Bool.and_true, Bool.and_eq_true, decide_eq_true_eq] at g
  exact g.2.2.2.2.2
 unfold lam17_0 at h
 have h' := Tree.get_ite_some h
 clear h
 rcases h' with ⟨h1, h⟩ | ⟨_, h⟩
 ·simp only [eqI_eq, leI_eq, Bool.and_eq_true, decide_eq_true_eq] at h1
  obtain ⟨⟨⟨rfl, hl⟩, k1⟩, k2⟩ := h1
  have hl : b5.length = a5.length := by omega
  obtain ⟨i, rfl⟩ : ∃ j : Nat, z = (j : Int) := ⟨z.toNat, by omega⟩
  have key := range_iter (O := Out' E) (t := t17_0 n a5.length) (l := a5) [] (fun (_ : Unit) (i : Int) => (i, a0, a1, a2, a3, a4, a5, b0, b1, b2, b3, b4, b5))
   (fun i _ b => cond (!decide (b = b5.getD i [])) (.inr (Ex.ret, at' E 88 [(4, .lf (.bool false))] [])) (.inl ())) (fun _ => (Ex.exit 0, at' E 88 [(2, .lf (.ptr 192 0 0)), (3, .lf (.ptr 256 0 0))] [(192, some (.cells 36 [.int .u8 a0, .int .i64 a1, .int .i64 a2, .str a3, .sl .val (a4), .sl .str (a5)])), (256, some (.cells 36 [.int .u8 b0, .int .i64 b1, .int .i64 b2, .str b3, .sl .val (b4), .sl .str (b5)]))])) (fun _ _ => True)
   (fun i a hi ho => by
    refine ⟨?_, fun _ _ => trivial⟩
    have hi2 : i < b5.length := by omega
    unfold t17_0
    simp only [Tree.get_ite, Tree.get_leaf, ltI_nat hi, inB_nat hi, inB_nat hi2, cond_true, i64_succ hi hb, Int.toNat_natCast]
    cases decide (a5.getD i [] = b5.getD i []) <;> rfl)
   (fun a ho => by unfold t17_0; simp only [Tree.get_ite, Tree.get_leaf, ltI_self, cond_false])
   (a5.length - i) i () (by omega) trivial
  rw [Px.run_scan, Px.scan_like _ _ _ _ _ (by rw [List.length_drop]; omega)] at key
  rw [Tree.get_ite, Tree.get_leaf, Tree.get_leaf, Int.toNat_natCast, Px.likeS'_eq] at h
  refine ⟨_, key.trans ?_, ?_⟩
  ·rw [← h]; exact some_cond _ _ _
  ·intro hh; subst hh
   cases q : Px.likeS (a5.drop i) (b5.drop i) <;> rw [q] at h <;> cases h
 ·cases h
def rd17_0 (n : Nat) (σ : St E.A) : Tree (Out' E) :=
 let c := clean E (L17_0 .normal) σ
 if c.sl.length = 88 then
 match c.sl.getD 2 .undef, c.sl.getD 3 .undef, c.sl.getD 53 .undef, c.sl.getD 54 .undef, c.ob 192, c.ob 256 with
 | .lf (.ptr 192 0 0), .lf (.ptr 256 0 0), .lf (.int .i64 p53), .lf (.int .i64 x54), some (.cells 36 [.int .u8 o192a, .int .i64 o192b, .int .i64 o192c, .str o192d, .sl .val o192e, .sl .str o192f]), some (.cells 36 [.int .u8 o256a, .int .i64 o256b, .int .i64 o256c, .str o256d, .sl .val o256e, .sl .str o256f]) => lam17_0 n p53 (x54, o192a, o192b, o192c, o192d, o192e, o192f, o256a, o256b, o256c, o256d, o256e, o256f)
 | _, _, _, _, _, _ => .fail
 else .fail
theorem ll17_0 (hL : Laws E) (n : Nat) (hN : Valid E 17 (spec17N n)) (σ : St E.A) (e : Ex) (σ' : St E.A) (h : (rd17_0 n σ).get = some (e, σ')) : LoopOK E (lb Go.Proofs.Tryz.f17 0) σ e σ' := by
 refine LoopOK.of_clean hL (L17_0 .normal) ?_
 unfold rd17_0 at h
 simp only at h
 split at h
 ·rename_i hlen
  split at h
  ·rename_i p53 x54 o192a o192b o192c o192d o192e o192f o256a o256b o256c o256d o256e o256f h0 h1 h2 h3 h4 h5
   refine LoopOK.lensO 192 (fun gg => ?_)
   have g0 := gg _ h4
   refine LoopOK.lensO 256 (fun gg => ?_)
   have g1 := gg _ h5
   obtain ⟨fuel, hi, ho⟩ := m17_0 g0 g1 h
   have hl := loop_at (Γ := (G17 n)) (Λ := fun _ _ => .fail) (n := 1) (body := lb Go.Proofs.Tryz.f17 0) hL (hG17 hL n hN) (S := S17_0 p53) (t := t17_0 n p53) (Lv := L17_0) (LamOK.none (by kernel_rfl)) (h17_0 n p53) hi ho
   refine LoopOK.fit hlen ?_ ?_ rfl rfl hl
   ·exact ⟨h0, h1, h2, h3, trivial⟩
   ·exact ⟨h4, h5, trivial⟩
  ·cases h
 ·cases h
def L17_1 : Ex → Live | .normal => ⟨[2, 3, 71, 72], [192, 256]⟩ | .exit 2 => ⟨[], []⟩ | .ret => ⟨[4], []⟩ | _ => ⟨[], []⟩
def S17_1 (p71 : Int) (x : Int × Int × Int × Int × (List UInt8) × (List Val) × (List (List UInt8)) × Int × Int × Int × (List UInt8) × (List Val) × (List (List UInt8))) : St E.A := at' E 88 [(2, .lf (.ptr 192 0 0)), (3, .lf (.ptr 256 0 0)), (71, .lf (.int .i64 p71)), (72, .lf (.int .i64 x.1))] [(192, some (.cells 36 [.int .u8 x.2.1, .int .i64 x.2.2.1, .int .i64 x.2.2.2.1, .str x.2.2.2.2.1, .sl .val x.2.2.2.2.2.1, .sl .str x.2.2.2.2.2.2.1])), (256, some (.cells 36 [.int .u8 x.2.2.2.2.2.2.2.1, .int .i64 x.2.2.2.2.2.2.2.2.1, .int .i64 x.2.2.2.2.2.2.2.2.2.1, .str x.2.2.2.2.2.2.2.2.2.2.1, .sl .val x.2.2.2.2.2.2.2.2.2.2.2.1, .sl .str x.2.2.2.2.2.2.2.2.2.2.2.2]))]
def t17_1 (n : Nat) (p71 : Int) (x : Int × Int × Int × Int × (List UInt8) × (List Val) × (List (List UInt8)) × Int × Int × Int × (List UInt8) × (List Val) × (List (List UInt8))) : Tree (Int × Int × Int × Int × (List UInt8) × (List Val) × (List (List UInt8)) × Int × Int × Int × (List UInt8) × (List Val) × (List (List UInt8)) ⊕ Out' E) := .ite (ltI x.1 p71) (.ite (inB x.1 x.2.2.2.2.2.1.length) (.ite (inB x.1 x.2.2.2.2.2.2.2.2.2.2.2.1.length) (.ite ((Px.depthL (Px.vl (x.2.2.2.2.2.1.getD x.1.toNat (Val.mk 0 0 0 [] [] [])))).blt n) (.ite (!Px.alike (Val.mk (Px.vk (x.2.2.2.2.2.1.getD x.1.toNat (Val.mk 0 0 0 [] [] []))) (Px.vn (x.2.2.2.2.2.1.getD x.1.toNat (Val.mk 0 0 0 [] [] []))) (Px.vg (x.2.2.2.2.2.1.getD x.1.toNat (Val.mk 0 0 0 [] [] []))) (Px.vt (x.2.2.2.2.2.1.getD x.1.toNat (Val.mk 0 0 0 [] [] []))) (Px.vl (x.2.2.2.2.2.1.getD x.1.toNat (Val.mk 0 0 0 [] [] []))) (Px.vs (x.2.2.2.2.2.1.getD x.1.toNat (Val.mk 0 0 0 [] [] [])))) (Val.mk (Px.vk (x.2.2.2.2.2.2.2.2.2.2.2.1.getD x.1.toNat (Val.mk 0 0 0 [] [] []))) (Px.vn (x.2.2.2.2.2.2.2.2.2.2.2.1.getD x.1.toNat (Val.mk 0 0 0 [] [] []))) (Px.vg (x.2.2.2.2.2.2.2.2.2.2.2.1.getD x.1.toNat (Val.mk 0 0 0 [] [] []))) (Px.vt (x.2.2.2.2.2.2.2.2.2.2.2.1.getD x.1.toNat (Val.mk 0 0 0 [] [] []))) (Px.vl (x.2.2.2.2.2.2.2.2.2.2.2.1.getD x.1.toNat (Val.mk 0 0 0 [] [] []))) (Px.vs (x.2.2.2.2.2.2.2.2.2.2.2.1.getD x.1.toNat (Val.mk 0 0 0 [] [] []))))) (.leaf (.inr (.ret, at' E 88 [(4, .lf (.bool false))] []))) (.leaf (.inl ((IntKind.i64.wrap (x.1 + (1 : Int))), x.2.1, x.2.2.1, x.2.2.2.1, x.2.2.2.2.1, x.2.2.2.2.2.1, x.2.2.2.2.2.2.1, x.2.2.2.2.2.2.2.1, x.2.2.2.2.2.2.2.2.1, x.2.2.2.2.2.2.2.2.2.1, x.2.2.2.2.2.2.2.2.2.2.1, x.2.2.2.2.2.2.2.2.2.2.2.1, x.2.2.2.2.2.2.2.2.2.2.2.2)))) .fail) .fail) .fail) (.leaf (.inr (.exit 2, at' E 88 [] [])))
theorem h17_1 (n : Nat) (p71 : Int) (x : Int × Int × Int × Int × (List UInt8) × (List Val) × (List (List UInt8)) × Int × Int × Int × (List UInt8) × (List Val) × (List (List UInt8))) (k : Ex → St E.A → Option Unit) :
  exec E (G17 n) (fun _ _ => .fail) 2 (lb Go.Proofs.Tryz.f17 1) (S17_1 p71 x) (fun e σ1 => k e (clean E (L17_1 e) σ1)) = (t17_1 n p71 x).run (Sum.elim (fun x' => k .normal (S17_1 p71 x')) (fun o => k o.1 o.2)) := by kernel_rfl
def lam17_1 (n : Nat) (p71 : Int) (x : Int × Int × Int × Int × (List UInt8) × (List Val) × (List (List UInt8)) × Int × Int × Int × (List UInt8) × (List Val) × (List (List UInt8))) : Tree (Out' E) := .ite (eqI p71 x.2.2.2.2.2.1.length && eqI x.2.2.2.2.2.2.2.2.2.2.2.1.length x.2.2.2.2.2.1.length && leI 0 x.1 && leI x.1 p71 && Nat.ble (Px.depthL x.2.2.2.2.2.1) n) (.ite (Px.alikes' (x.2.2.2.2.2.1.drop x.1.toNat) (x.2.2.2.2.2.2.2.2.2.2.2.1.drop x.1.toNat)) (.leaf (.exit 2, at' E 88 [] [])) (.leaf (.ret, at' E 88 [(4, .lf (.bool false))] []))) .fail
theorem m17_1 {n : Nat} {p71 : Int} {x : Int × Int × Int × Int × (List UInt8) × (List Val) × (List (List UInt8)) × Int × Int × Int × (List UInt8) × (List Val) × (List (List UInt8))} {e : Ex} {σ : St E.A} (g : okLenO (E := E) (.cells 36 [.int .u8 x.2.1, .int .i64 x.2.2.1, .int .i64 x.2.2.2.1, .str x.2.2.2.2.1, .sl .val (x.2.2.2.2.2.1), .sl .str (x.2.2.2.2.2.2.1)]) = true) (_ : okLenO (E := E) (.cells 36 [.int .u8 x.2.2.2.2.2.2.2.1, .int .i64 x.2.2.2.2.2.2.2.2.1, .int .i64 x.2.2.2.2.2.2.2.2.2.1, .str x.2.2.2.2.2.2.2.2.2.2.1, .sl .val (x.2.2.2.2.2.2.2.2.2.2.2.1), .sl .str (x.2.2.2.2.2.2.2.2.2.2.2.2)]) = true)
  (h : (lam17_1 n p71 x).get = some (e, σ)) : ∃ fuel, iter (t17_1 n p71) fuel x = some (e, σ) ∧ e ≠ .normal := by
 obtain ⟨z, a0, a1, a2, a3, a4, a5, b0, b1, b2, b3, b4, b5⟩ := x
 have hb : a4.length ≤ big := by
  simp only [okLenO, List.all_cons, List.all_nil, okLen, Bool.and_true, Bool.and_eq_true, decide_eq_true_eq] at g
  exact g.2.2.2.2.1
 unfold lam17_1 at h
 have h' := Tree.get_ite_some h
 clear h
 rcases h' with ⟨h1, h⟩ | ⟨_, h⟩
 ·simp only [eqI_eq, leI_eq, Bool.and_eq_true, decide_eq_true_eq, Nat.ble_eq] at h1
  obtain ⟨⟨⟨⟨rfl, hl⟩, k1⟩, k2⟩, k3⟩ := h1
  have hl : b4.length = a4.length := by omega
  obtain ⟨i, rfl⟩ : ∃ j : Nat, z = (j : Int) := ⟨z.toNat, by omega⟩
  have key := range_iter (O := Out' E) (t := t17_1 n a4.length) (l := a4) Px.v0 (fun (_ : Unit) (i : Int) => (i, a0, a1, a2, a3, a4, a5, b0, b1, b2, b3, b4, b5))
   (fun i _ b => cond (!Px.alike b (b4.getD i Px.v0)) (.inr (Ex.ret, at' E 88 [(4, .lf (.bool false))] [])) (.inl ())) (fun _ => (Ex.exit 2, at' E 88 [] [])) (fun _ _ => True)
   (fun i a hi ho => by
    refine ⟨?_, fun _ _ => trivial⟩
    have hi2 : i < b4.length := by omega
    have hd : (Px.depthL (Px.vl (a4.getD i Px.v0))).blt n = true := by
     have h1 := Px.depth_get hi
     rw [Px.depth_vl] at h1
     exact Nat.ble_eq ▸ Nat.le_trans h1 k3
    have hz : (Val.mk 0 0 0 [] [] []) = Px.v0 := rfl
    unfold t17_1
    simp only [Tree.get_ite, Tree.get_leaf, ltI_nat hi, inB_nat hi, inB_nat hi2, cond_true, i64_succ hi hb, Int.toNat_natCast, hz, hd, Px.v_eta]
    cases Px.alike (a4.getD i Px.v0) (b4.getD i Px.v0) <;> rfl)
   (fun a ho => by unfold t17_1; simp only [Tree.get_ite, Tree.get_leaf, ltI_self, cond_false])
   (a4.length - i) i () (by omega) trivial
  rw [Px.run_scan, Px.scan_alike _ _ _ _ _ (by rw [List.length_drop]; omega)] at key
  rw [Tree.get_ite, Tree.get_leaf, Tree.get_leaf, Int.toNat_natCast, Px.alikes'_eq] at h
  refine ⟨_, key.trans ?_, ?_⟩
  ·rw [← h]; exact some_cond _ _ _
  ·intro hh; subst hh
   cases q : Px.alikes (a4.drop i) (b4.drop i) <;> rw [q] at h <;> cases h
 ·cases h
def rd17_1 (n : Nat) (σ : St E.A) : Tree (Out' E) :=
 let c := clean E (L17_1 .normal) σ
 if c.sl.length = 88 then
 match c.sl.getD 2 .undef, c.sl.getD 3 .undef, c.sl.getD 71 .undef, c.sl.getD 72 .undef, c.ob 192, c.ob 256 with
 | .lf (.ptr 192 0 0), .lf (.ptr 256 0 0), .lf (.int .i64 p71), .lf (.int .i64 x72), some (.cells 36 [.int .u8 o192a, .int .i64 o192b, .int .i64 o192c, .str o192d, .sl .val o192e, .sl .str o192f]), some (.cells 36 [.int .u8 o256a, .int .i64 o256b, .int .i64 o256c, .str o256d, .sl .val o256e, .sl .str o256f]) => lam17_1 n p71 (x72, o192a, o192b, o192c, o192d, o192e, o192f, o256a, o256b, o256c, o256d, o256e, o256f)
 | _, _, _, _, _, _ => .fail
 else .fail
theorem ll17_1 (hL : Laws E) (n : Nat) (hN : Valid E 17 (spec17N n)) (σ : St E.A) (e : Ex) (σ' : St E.A) (h : (rd17_1 n σ).get = some (e, σ')) : LoopOK E (lb Go.Proofs.Tryz.f17 1) σ e σ' := by
 refine LoopOK.of_clean hL (L17_1 .normal) ?_
 unfold rd17_1 at h
 simp only at h
 split at h
 ·rename_i hlen
  split at h
  ·rename_i p71 x72 o192a o192b o192c o192d o192e o192f o256a o256b o256c o256d o256e o256f h0 h1 h2 h3 h4 h5
   refine LoopOK.lensO 192 (fun gg => ?_)
   have g0 := gg _ h4
   refine LoopOK.lensO 256 (fun gg => ?_)
   have g1 := gg _ h5
   obtain ⟨fuel, hi, ho⟩ := m17_1 g0 g1 h
   have hl := loop_at (Γ := (G17 n)) (Λ := fun _ _ => .fail) (n := 2) (body := lb Go.Proofs.Tryz.f17 1) hL (hG17 hL n hN) (S := S17_1 p71) (t := t17_1 n p71) (Lv := L17_1) (LamOK.none (by kernel_rfl)) (h17_1 n p71) hi ho
   refine LoopOK.fit hlen ?_ ?_ rfl rfl hl
   ·exact ⟨h0, h1, h2, h3, trivial⟩
   ·exact ⟨h4, h5, trivial⟩
  ·cases h
 ·cases h
def Lam17 (n : Nat) : Lam E | 0, σ => rd17_0 n σ | 1, σ => rd17_1 n σ | _, _ => .fail
def w17 (n : Nat) (a0Kind : Int) (a0Num : Int) (a0Gen : Int) (a0Text : List UInt8) (a0List : List Val) (a0Keys : List (List UInt8)) (a1Kind : Int) (a1Num : Int) (a1Gen : Int) (a1Text : List UInt8) (a1List : List Val) (a1Keys : List (List UInt8)) : Tree (RV E.A × List (Obj E.A)) := .ite (!eqI a0Kind a1Kind) (.leaf (.lf (.bool false), [])) (.ite (!eqI a0Num a1Num) (.leaf (.lf (.bool false), [])) (.ite (!eqI a0Gen a1Gen) (.leaf (.lf (.bool false), [])) (.ite (!decide (a0Text = a1Text)) (.leaf (.lf (.bool false), [])) (.ite (!eqI (↑a0List.length : Int) (↑a1List.length : Int)) (.leaf (.lf (.bool false), [])) (.ite (!eqI (↑a0Keys.length : Int) (↑a1Keys.length : Int)) (.leaf (.lf (.bool false), [])) (.ite (eqI (↑a0Keys.length : Int) (↑a0Keys.length : Int) && eqI (↑a1Keys.length : Int) (↑a0Keys.length : Int) && leI 0 0 && leI 0 (↑a0Keys.length : Int)) (.ite (Px.likeS' (List.drop (Int.toNat (0 : Int)) a0Keys) (List.drop (Int.toNat (0 : Int)) a1Keys)) (.ite (eqI (↑a0List.length : Int) (↑a0List.length : Int) && eqI (↑a1List.length : Int) (↑a0List.length : Int) && leI 0 0 && leI 0 (↑a0List.length : Int) && (Px.depthL a0List).ble n) (.ite (Px.alikes' (List.drop (Int.toNat (0 : Int)) a0List) (List.drop (Int.toNat (0 : Int)) a1List)) (.leaf (.lf (.bool true), [])) (.leaf (.lf (.bool false), []))) .fail) (.leaf (.lf (.bool false), []))) .fail))))))
theorem e17 (n : Nat) (a0Kind : Int) (a0Num : Int) (a0Gen : Int) (a0Text : List UInt8) (a0List : List Val) (a0Keys : List (List UInt8)) (a1Kind : Int) (a1Num : Int) (a1Gen : Int) (a1Text : List UInt8) (a1List : List Val) (a1Keys : List (List UInt8)) : execFun E (G17 n) ((Lam17 n)) false Go.Proofs.Tryz.f17 [.agg [.int .u8 a0Kind, .int .i64 a0Num, .int .i64 a0Gen, .str a0Text, .sl .val a0List, .sl .str a0Keys], .agg [.int .u8 a1Kind, .int .i64 a1Num, .int .i64 a1Gen, .str a1Text, .sl .val a1List, .sl .str a1Keys]] [] some = (w17 n a0Kind a0Num a0Gen a0Text a0List a0Keys a1Kind a1Num a1Gen a1Text a1List a1Keys).get := by kernel_rfl
def raw17 (n : Nat) : Spec E := fun args os => match args, os with | [.agg [.int .u8 a0Kind, .int .i64 a0Num, .int .i64 a0Gen, .str a0Text, .sl .val a0List, .sl .str a0Keys], .agg [.int .u8 a1Kind, .int .i64 a1Num, .int .i64 a1Gen, .str a1Text, .sl .val a1List, .sl .str a1Keys]], [] => w17 n a0Kind a0Num a0Gen a0Text a0List a0Keys a1Kind a1Num a1Gen a1Text a1List a1Keys | _, _ => .fail
theorem validraw17 (hL : Laws E) (n : Nat) (hN : Valid E 17 (spec17N n)) : Valid E 17 (raw17 n) :=
 valid_of_body hL (hG17 hL n hN) (Λ := (Lam17 n)) (fn := Go.Proofs.Tryz.f17) (keep := false) (by kernel_rfl) (by kernel_rfl) (by kernel_rfl) ((LamOK.of (m := 2) (by kernel_rfl) (fun j hj σ e σ' hg => by
   match j, hj with
   | 0, _ => exact ll17_0 hL n hN σ e σ' hg
   | 1, _ => exact ll17_1 hL n hN σ e σ' hg
   ))) (fun args os r os' h => by
  unfold raw17 at h
  split at h
  ·exact (e17 _ _ _ _ _ _ _ _ _ _ _ _ _).trans h
  ·cases h)
theorem eq17 {n : Nat} (a0 a1 a2 : Int) (a3 : List UInt8) {a4 : List Val} (a5 : List (List UInt8)) (b0 b1 b2 : Int) (b3 : List UInt8) (b4 : List Val) (b5 : List (List UInt8)) (hn : Nat.ble (Px.depthL a4) n = true) :
  (w17 n a0 a1 a2 a3 a4 a5 b0 b1 b2 b3 b4 b5).get = some (.lf (.bool (Px.alike (Val.mk a0 a1 a2 a3 a4 a5) (Val.mk b0 b1 b2 b3 b4 b5))), []) := by
 have e : Px.alike (Val.mk a0 a1 a2 a3 a4 a5) (Val.mk b0 b1 b2 b3 b4 b5) = (eqI a0 b0 && (eqI a1 b1 && (eqI a2 b2 && (decide (a3 = b3) && (eqI (a4.length : Int) (b4.length : Int) && (eqI (a5.length : Int) (b5.length : Int) && (Px.likeS a5 b5 && Px.alikes a4 b4))))))) := by
  rw [Bool.eq_iff_iff, Px.alike_iff]
  unfold Px.likeS
  simp only [Val.mk.injEq, eqI_eq, Bool.and_eq_true, decide_eq_true_eq, Px.alikes_iff]
  constructor
  ·rintro ⟨h0, h1, h2, h3, h4, h5⟩; exact ⟨h0, h1, h2, h3, by rw [h4], by rw [h5], h5, h4⟩
  ·rintro ⟨h0, h1, h2, h3, _, _, h5, h4⟩; exact ⟨h0, h1, h2, h3, h4, h5⟩
 rw [e]
 have e0 : Int.toNat (0 : Int) = 0 := rfl
 unfold w17
 simp only [Tree.get_ite, Tree.get_leaf, e0, List.drop_zero, Px.likeS'_eq, Px.alikes'_eq]
 cases eqI a0 b0 <;> cases eqI a1 b1 <;> cases eqI a2 b2 <;> cases decide (a3 = b3) <;> cases h4 : eqI (a4.length : Int) (b4.length : Int) <;> cases h5 : eqI (a5.length : Int) (b5.length : Int) <;> first | rfl | skip
 have h4 := Px.eqI_of h4
 have h5 := Px.eqI_of h5
 have g1 : (eqI (a5.length : Int) (a5.length : Int) && eqI (b5.length : Int) (a5.length : Int) && leI 0 0 && leI 0 (a5.length : Int)) = true := by
  rw [h5]; simp [eqI_eq, leI_eq]
 have g2 : (eqI (a4.length : Int) (a4.length : Int) && eqI (b4.length : Int) (a4.length : Int) && leI 0 0 && leI 0 (a4.length : Int) && (Px.depthL a4).ble n) = true := by
  rw [hn, h4]; simp [eqI_eq, leI_eq]
 rw [g1, g2]
 cases Px.likeS a5 b5 <;> cases Px.alikes a4 b4 <;> rfl
theorem valid17N (hL : Laws E) : ∀ n, Valid E 17 (spec17N n)
 | 0 => Valid.never (fun args os => by
   unfold spec17N
   split
   ·rfl
   ·rfl)
 | n + 1 => (validraw17 hL n (valid17N hL n)).less (fun args os x u1 u2 h => by
   clear u1 u2
   unfold spec17N at h
   split at h
   ·rcases Tree.get_ite_some h with ⟨h1, h⟩ | ⟨_, h⟩
    ·exact (eq17 _ _ _ _ _ _ _ _ _ _ _ h1).trans h
    ·cases h
   ·cases h)
def spec17 : Spec E := fun args os => match args, os with | [.agg [.int .u8 a0, .int .i64 a1, .int .i64 a2, .str a3, .sl .val a4, .sl .str a5], .agg [.int .u8 b0, .int .i64 b1, .int .i64 b2, .str b3, .sl .val b4, .sl .str b5]], [] => .leaf (.lf (.bool (Px.alike (Val.mk a0 a1 a2 a3 a4 a5) (Val.mk b0 b1 b2 b3 b4 b5))), []) | _, _ => .fail
theorem valid17 (hL : Laws E) : Valid E 17 spec17 := Valid.forN (valid17N hL) (fun args os x h => by
 unfold spec17 at h
 split at h
 ·rename_i a0 a1 a2 a3 a4 a5 b0 b1 b2 b3 b4 b5
  refine ⟨Px.depthL a4 + 1, ?_⟩
  unfold spec17N
  have : Nat.blt (Px.depthL a4) (Px.depthL a4 + 1) = true := Nat.ble_eq ▸ Nat.le_refl _
  rw [Tree.get_ite, this]
  exact h
 ·cases h)
end Go.Vx
namespace Go.Vx
open Go
def spec18N (n : Nat) : Spec E := fun args os => match args, os with | [.agg [.int .u8 a0, .int .i64 a1, .int .i64 a2, .str a3, .sl .val a4, .sl .str a5]], [] => .ite (Nat.blt (Px.depthL a4) n && Px.smallV (Val.mk a0 a1 a2 a3 a4 a5)) (.leaf (.agg [.int .u8 a0, .int .i64 a1, .int .i64 a2, .str a3, .sl .val a4, .sl .str a5], [])) .fail | _, _ => .fail
def G18 (n : Nat) : FuncId → Option (Spec E) | 18 => some (spec18N n) | _ => none
theorem hG18 (hL : Laws E) (n : Nat) (hN : Valid E 18 (spec18N n)) : ∀ f spec, (G18 n) f = some spec → Valid E f spec := by
 intro f spec h
 unfold G18 at h
 split at h
 ·injection h with h; subst h; exact hN
 ·cases h
def L18_0 : Ex → Live | .normal => ⟨[2, 3, 18, 19, 20], [192, 256]⟩ | .exit 0 => ⟨[2, 3], [192, 256]⟩ | .ret => ⟨[2], [192, 256]⟩ | _ => ⟨[], []⟩
def S18_0 (p18 : List Val) (p19 : Int) (x : Int × Int × Int × Int × (List UInt8) × (List Val) × (List (List UInt8)) × Int × Int × Int × (List UInt8) × (List Val) × (List (List UInt8))) : St E.A := at' E 33 [(2, .lf (.ptr 192 0 0)), (3, .lf (.ptr 256 0 0)), (18, .lf (.sl .val p18)), (19, .lf (.int .i64 p19)), (20, .lf (.int .i64 x.1))] [(192, some (.cells 36 [.int .u8 x.2.1, .int .i64 x.2.2.1, .int .i64 x.2.2.2.1, .str x.2.2.2.2.1, .own 0 0 .val x.2.2.2.2.2.1, .own 1 0 .str x.2.2.2.2.2.2.1])), (256, some (.cells 36 [.int .u8 x.2.2.2.2.2.2.2.1, .int .i64 x.2.2.2.2.2.2.2.2.1, .int .i64 x.2.2.2.2.2.2.2.2.2.1, .str x.2.2.2.2.2.2.2.2.2.2.1, .own 2 0 .val x.2.2.2.2.2.2.2.2.2.2.2.1, .sl .str x.2.2.2.2.2.2.2.2.2.2.2.2]))]
def t18_0 (n : Nat) (p18 : List Val) (p19 : Int) (x : Int × Int × Int × Int × (List UInt8) × (List Val) × (List (List UInt8)) × Int × Int × Int × (List UInt8) × (List Val) × (List (List UInt8))) : Tree (Int × Int × Int × Int × (List UInt8) × (List Val) × (List (List UInt8)) × Int × Int × Int × (List UInt8) × (List Val) × (List (List UInt8)) ⊕ Out' E) := .ite (ltI x.1 p19) (.ite (inB x.1 p18.length) (.ite ((Px.depthL (Px.vl (p18.getD x.1.toNat (Val.mk 0 0 0 [] [] [])))).blt n && Px.smallV (Val.mk (Px.vk (p18.getD x.1.toNat (Val.mk 0 0 0 [] [] []))) (Px.vn (p18.getD x.1.toNat (Val.mk 0 0 0 [] [] []))) (Px.vg (p18.getD x.1.toNat (Val.mk 0 0 0 [] [] []))) (Px.vt (p18.getD x.1.toNat (Val.mk 0 0 0 [] [] []))) (Px.vl (p18.getD x.1.toNat (Val.mk 0 0 0 [] [] []))) (Px.vs (p18.getD x.1.toNat (Val.mk 0 0 0 [] [] []))))) (.ite (decide ((x.2.2.2.2.2.2.2.2.2.2.2.1.length + [Val.mk (Px.vk (p18.getD x.1.toNat (Val.mk 0 0 0 [] [] []))) (Px.vn (p18.getD x.1.toNat (Val.mk 0 0 0 [] [] []))) (Px.vg (p18.getD x.1.toNat (Val.mk 0 0 0 [] [] []))) (Px.vt (p18.getD x.1.toNat (Val.mk 0 0 0 [] [] []))) (Px.vl (p18.getD x.1.toNat (Val.mk 0 0 0 [] [] []))) (Px.vs (p18.getD x.1.toNat (Val.mk 0 0 0 [] [] [])))].length) * (88 : Nat) ≤ 140737488355328)) (.leaf (.inl ((IntKind.i64.wrap (x.1 + (1 : Int))), x.2.1, x.2.2.1, x.2.2.2.1, x.2.2.2.2.1, x.2.2.2.2.2.1, x.2.2.2.2.2.2.1, x.2.2.2.2.2.2.2.1, x.2.2.2.2.2.2.2.2.1, x.2.2.2.2.2.2.2.2.2.1, x.2.2.2.2.2.2.2.2.2.2.1, (x.2.2.2.2.2.2.2.2.2.2.2.1 ++ [Val.mk (Px.vk (p18.getD x.1.toNat (Val.mk 0 0 0 [] [] []))) (Px.vn (p18.getD x.1.toNat (Val.mk 0 0 0 [] [] []))) (Px.vg (p18.getD x.1.toNat (Val.mk 0 0 0 [] [] []))) (Px.vt (p18.getD x.1.toNat (Val.mk 0 0 0 [] [] []))) (Px.vl (p18.getD x.1.toNat (Val.mk 0 0 0 [] [] []))) (Px.vs (p18.getD x.1.toNat (Val.mk 0 0 0 [] [] [])))]), x.2.2.2.2.2.2.2.2.2.2.2.2))) .fail) .fail) .fail) (.leaf (.inr (.exit 0, at' E 33 [(2, .lf (.ptr 192 0 0)), (3, .lf (.ptr 256 0 0))] [(192, some (.cells 36 [.int .u8 x.2.1, .int .i64 x.2.2.1, .int .i64 x.2.2.2.1, .str x.2.2.2.2.1, .own 0 0 .val x.2.2.2.2.2.1, .own 1 0 .str x.2.2.2.2.2.2.1])), (256, some (.cells 36 [.int .u8 x.2.2.2.2.2.2.2.1, .int .i64 x.2.2.2.2.2.2.2.2.1, .int .i64 x.2.2.2.2.2.2.2.2.2.1, .str x.2.2.2.2.2.2.2.2.2.2.1, .own 2 0 .val x.2.2.2.2.2.2.2.2.2.2.2.1, .sl .str x.2.2.2.2.2.2.2.2.2.2.2.2]))])))
theorem h18_0 (n : Nat) (p18 : List Val) (p19 : Int) (x : Int × Int × Int × Int × (List UInt8) × (List Val) × (List (List UInt8)) × Int × Int × Int × (List UInt8) × (List Val) × (List (List UInt8))) (k : Ex → St E.A → Option Unit) :
  exec E (G18 n) (fun _ _ => .fail) 1 (lb Go.Proofs.Tryz.f18 0) (S18_0 p18 p19 x) (fun e σ1 => k e (clean E (L18_0 e) σ1)) = (t18_0 n p18 p19 x).run (Sum.elim (fun x' => k .normal (S18_0 p18 p19 x')) (fun o => k o.1 o.2)) := by kernel_rfl
def lam18_0 (n : Nat) (p18 : List Val) (p19 : Int) (x : Int × Int × Int × Int × (List UInt8) × (List Val) × (List (List UInt8)) × Int × Int × Int × (List UInt8) × (List Val) × (List (List UInt8))) : Tree (Out' E) := .ite (eqI p19 p18.length && leI 0 x.1 && leI x.1 p19 && Nat.ble (Px.depthL p18) n && Px.smallL p18 && leI p19 1000000 && leI x.2.2.2.2.2.2.2.2.2.2.2.1.length x.1) (.leaf (.exit 0, at' E 33 [(2, .lf (.ptr 192 0 0)), (3, .lf (.ptr 256 0 0))] [(192, some (.cells 36 [.int .u8 x.2.1, .int .i64 x.2.2.1, .int .i64 x.2.2.2.1, .str x.2.2.2.2.1, .own 0 0 .val (x.2.2.2.2.2.1), .own 1 0 .str (x.2.2.2.2.2.2.1)])), (256, some (.cells 36 [.int .u8 x.2.2.2.2.2.2.2.1, .int .i64 x.2.2.2.2.2.2.2.2.1, .int .i64 x.2.2.2.2.2.2.2.2.2.1, .str x.2.2.2.2.2.2.2.2.2.2.1, .own 2 0 .val (x.2.2.2.2.2.2.2.2.2.2.2.1 ++ p18.drop x.1.toNat), .sl .str (x.2.2.2.2.2.2.2.2.2.2.2.2)]))])) .fail
theorem m18_0 {n : Nat} {p18 : List Val} {p19 : Int} {x : Int × Int × Int × Int × (List UInt8) × (List Val) × (List (List UInt8)) × Int × Int × Int × (List UInt8) × (List Val) × (List (List UInt8))} {e : Ex} {σ : St E.A} (g : okLenR (E := E) (.lf (.sl .val p18)) = true) (_ : okLenO (E := E) (.cells 36 [.int .u8 x.2.1, .int .i64 x.2.2.1, .int .i64 x.2.2.2.1, .str x.2.2.2.2.1, .own 0 0 .val (x.2.2.2.2.2.1), .own 1 0 .str (x.2.2.2.2.2.2.1)]) = true) (_ : okLenO (E := E) (.cells 36 [.int .u8 x.2.2.2.2.2.2.2.1, .int .i64 x.2.2.2.2.2.2.2.2.1, .int .i64 x.2.2.2.2.2.2.2.2.2.1, .str x.2.2.2.2.2.2.2.2.2.2.1, .own 2 0 .val (x.2.2.2.2.2.2.2.2.2.2.2.1), .sl .str (x.2.2.2.2.2.2.2.2.2.2.2.2)]) = true)
  (h : (lam18_0 n p18 p19 x).get = some (e, σ)) : ∃ fuel, iter (t18_0 n p18 p19) fuel x = some (e, σ) ∧ e ≠ .normal := by
 have hb : p18.length ≤ big := of_decide_eq_true g
 obtain ⟨z, a0, a1, a2, a3, a4, a5, b0, b1, b2, b3, b4, b5⟩ := x
 unfold lam18_0 at h
 have h' := Tree.get_ite_some h
 clear h
 rcases h' with ⟨h1, h⟩ | ⟨_, h⟩
 ·simp only [eqI_eq, leI_eq, Bool.and_eq_true, decide_eq_true_eq, Nat.ble_eq] at h1
  obtain ⟨⟨⟨⟨⟨⟨rfl, k1⟩, k2⟩, k3⟩, k4⟩, k5⟩, k6⟩ := h1
  obtain ⟨i, rfl⟩ : ∃ j : Nat, z = (j : Int) := ⟨z.toNat, by omega⟩
  have key := range_iter (O := Out' E) (t := t18_0 n p18 p18.length) (l := p18) Px.v0 (fun (a : List Val) (i : Int) => (i, a0, a1, a2, a3, a4, a5, b0, b1, b2, b3, a, b5))
   (fun _ a v => (.inl (a ++ [v]) : List Val ⊕ Out' E)) (fun a => (Ex.exit 0, at' E 33 [(2, .lf (.ptr 192 0 0)), (3, .lf (.ptr 256 0 0))] [(192, some (.cells 36 [.int .u8 a0, .int .i64 a1, .int .i64 a2, .str a3, .own 0 0 .val (a4), .own 1 0 .str (a5)])), (256, some (.cells 36 [.int .u8 b0, .int .i64 b1, .int .i64 b2, .str b3, .own 2 0 .val (a), .sl .str (b5)]))])) (fun i a => a.length ≤ i)
   (fun i a hi ho => by
    have hd : (Px.depthL (Px.vl (p18.getD i Px.v0))).blt n = true := by
     have h1 := Px.depth_get hi
     rw [Px.depth_vl] at h1
     exact Nat.ble_eq ▸ Nat.le_trans h1 k3
    have hz : (Val.mk 0 0 0 [] [] []) = Px.v0 := rfl
    have e4 : ∀ v : Val, decide ((a.length + [v].length) * (88 : Nat) ≤ 140737488355328) = true := fun v => decide_eq_true (by simp only [List.length_cons, List.length_nil]; omega)
    refine ⟨?_, fun a' ha => ?_⟩
    ·unfold t18_0
     simp only [Tree.get_ite, Tree.get_leaf, ltI_nat hi, inB_nat hi, cond_true, i64_succ hi hb, Int.toNat_natCast, hz, hd, Px.v_eta, Px.small_get k4 hi, Bool.and_self, e4]
    ·injection ha with ha
     subst ha
     rw [List.length_append]
     exact Nat.succ_le_succ ho)
   (fun a ho => by unfold t18_0; simp only [Tree.get_ite, Tree.get_leaf, ltI_self, cond_false])
   (p18.length - i) i b4 (by omega) (by omega)
  rw [Px.run_app] at key
  injection h with h
  injection h with h1 h2
  subst h1
  refine ⟨_, key.trans ?_, fun hh => by cases hh⟩
  rw [← h2, Int.toNat_natCast]
 ·cases h
def rd18_0 (n : Nat) (σ : St E.A) : Tree (Out' E) :=
 let c := clean E (L18_0 .normal) σ
 if c.sl.length = 33 then
 match c.sl.getD 2 .undef, c.sl.getD 3 .undef, c.sl.getD 18 .undef, c.sl.getD 19 .undef, c.sl.getD 20 .undef, c.ob 192, c.ob 256 with
 | .lf (.ptr 192 0 0), .lf (.ptr 256 0 0), .lf (.sl .val p18), .lf (.int .i64 p19), .lf (.int .i64 x20), some (.cells 36 [.int .u8 o192a, .int .i64 o192b, .int .i64 o192c, .str o192d, .own 0 0 .val o192e, .own 1 0 .str o192f]), some (.cells 36 [.int .u8 o256a, .int .i64 o256b, .int .i64 o256c, .str o256d, .own 2 0 .val o256e, .sl .str o256f]) => lam18_0 n p18 p19 (x20, o192a, o192b, o192c, o192d, o192e, o192f, o256a, o256b, o256c, o256d, o256e, o256f)
 | _, _, _, _, _, _, _ => .fail
 else .fail
theorem ll18_0 (hL : Laws E) (n : Nat) (hN : Valid E 18 (spec18N n)) (σ : St E.A) (e : Ex) (σ' : St E.A) (h : (rd18_0 n σ).get = some (e, σ')) : LoopOK E (lb Go.Proofs.Tryz.f18 0) σ e σ' := by
 refine LoopOK.of_clean hL (L18_0 .normal) ?_
 unfold rd18_0 at h
 simp only at h
 split at h
 ·rename_i hlen
  split at h
  ·rename_i p18 p19 x20 o192a o192b o192c o192d o192e o192f o256a o256b o256c o256d o256e o256f h0 h1 h2 h3 h4 h5 h6
   refine LoopOK.lens 18 (fun g0 => ?_)
   rw [h2] at g0
   refine LoopOK.lensO 192 (fun gg => ?_)
   have g1 := gg _ h5
   refine LoopOK.lensO 256 (fun gg => ?_)
   have g2 := gg _ h6
   obtain ⟨fuel, hi, ho⟩ := m18_0 g0 g1 g2 h
   have hl := loop_at (Γ := (G18 n)) (Λ := fun _ _ => .fail) (n := 1) (body := lb Go.Proofs.Tryz.f18 0) hL (hG18 hL n hN) (S := S18_0 p18 p19) (t := t18_0 n p18 p19) (Lv := L18_0) (LamOK.none (by kernel_rfl)) (h18_0 n p18 p19) hi ho
   refine LoopOK.fit hlen ?_ ?_ rfl rfl hl
   ·exact ⟨h0, h1, h2, h3, h4, trivial⟩
   ·exact ⟨h5, h6, trivial⟩
  ·cases h
 ·cases h
def Lam18 (n : Nat) : Lam E | 0, σ => rd18_0 n σ | _, _ => .fail
def w18 (n : Nat) (a0Kind : Int) (a0Num : Int) (a0Gen : Int) (a0Text : List UInt8) (a0List : List Val) (a0Keys : List (List UInt8)) : Tree (RV E.A × List (Obj E.A)) := .ite (eqI (↑a0List.length : Int) (↑a0List.length : Int) && leI 0 0 && leI 0 (↑a0List.length : Int) && (Px.depthL a0List).ble n && Px.smallL a0List && leI (↑a0List.length : Int) 1000000 && leI (↑([] : List UInt8).length : Int) (0 : Int)) (.leaf (.agg [.int .u8 a0Kind, .int .i64 a0Num, .int .i64 a0Gen, .str a0Text, .sl .val ([] ++ List.drop (Int.toNat (0 : Int)) a0List), .sl .str a0Keys], [])) .fail
theorem e18 (n : Nat) (a0Kind : Int) (a0Num : Int) (a0Gen : Int) (a0Text : List UInt8) (a0List : List Val) (a0Keys : List (List UInt8)) : execFun E (G18 n) ((Lam18 n)) false Go.Proofs.Tryz.f18 [.agg [.int .u8 a0Kind, .int .i64 a0Num, .int .i64 a0Gen, .str a0Text, .sl .val a0List, .sl .str a0Keys]] [] some = (w18 n a0Kind a0Num a0Gen a0Text a0List a0Keys).get := by kernel_rfl
def raw18 (n : Nat) : Spec E := fun args os => match args, os with | [.agg [.int .u8 a0Kind, .int .i64 a0Num, .int .i64 a0Gen, .str a0Text, .sl .val a0List, .sl .str a0Keys]], [] => w18 n a0Kind a0Num a0Gen a0Text a0List a0Keys | _, _ => .fail
theorem validraw18 (hL : Laws E) (n : Nat) (hN : Valid E 18 (spec18N n)) : Valid E 18 (raw18 n) :=
 valid_of_body hL (hG18 hL n hN) (Λ := (Lam18 n)) (fn := Go.Proofs.Tryz.f18) (keep := false) (by kernel_rfl) (by kernel_rfl) (by kernel_rfl) ((LamOK.of (m := 1) (by kernel_rfl) (fun j hj σ e σ' hg => by
   match j, hj with
   | 0, _ => exact ll18_0 hL n hN σ e σ' hg
   ))) (fun args os r os' h => by
  unfold raw18 at h
  split at h
  ·exact (e18 _ _ _ _ _ _ _).trans h
  ·cases h)
theorem eq18 {n : Nat} (k a1 a2 : Int) (a3 : List UInt8) {a4 : List Val} (a5 : List (List UInt8)) (hn : Nat.ble (Px.depthL a4) n = true) (hs : Px.smallV (Val.mk k a1 a2 a3 a4 a5) = true) :
  (w18 n k a1 a2 a3 a4 a5).get = some (.agg [.int .u8 k, .int .i64 a1, .int .i64 a2, .str a3, .sl .val a4, .sl .str a5], []) := by
 rw [Px.smallV, Bool.and_eq_true, Bool.and_eq_true] at hs
 obtain ⟨s1, s2, s3⟩ := hs
 have s1 := Nat.le_of_ble_eq_true s1
 have g : (eqI (a4.length : Int) (a4.length : Int) && leI 0 0 && leI 0 (a4.length : Int) && (Px.depthL a4).ble n && Px.smallL a4 && leI (a4.length : Int) 1000000 && leI (([] : List UInt8).length : Int) 0) = true := by
  rw [hn, s3]
  simp [eqI_eq, leI_eq]
  omega
 unfold w18
 rw [Tree.get_ite, g]
 rfl
theorem valid18N (hL : Laws E) : ∀ n, Valid E 18 (spec18N n)
 | 0 => Valid.never (fun args os => by
   unfold spec18N
   split
   ·rfl
   ·rfl)
 | n + 1 => (validraw18 hL n (valid18N hL n)).less (fun args os x u1 u2 h => by
   clear u1 u2
   unfold spec18N at h
   split at h
   ·rename_i a0 a1 a2 a3 a4 a5
    rcases Tree.get_ite_some h with ⟨h1, h'⟩ | ⟨_, h'⟩
    ·rw [Bool.and_eq_true] at h1
     exact (eq18 a0 a1 a2 a3 a5 h1.1 h1.2).trans h'
    ·cases h'
   ·cases h)
def spec18 : Spec E := fun args os => match args, os with | [.agg [.int .u8 a0, .int .i64 a1, .int .i64 a2, .str a3, .sl .val a4, .sl .str a5]], [] => .ite (Px.smallV (Val.mk a0 a1 a2 a3 a4 a5)) (.leaf (.agg [.int .u8 a0, .int .i64 a1, .int .i64 a2, .str a3, .sl .val a4, .sl .str a5], [])) .fail | _, _ => .fail
theorem valid18 (hL : Laws E) : Valid E 18 spec18 := Valid.forN (valid18N hL) (fun args os x h => by
 unfold spec18 at h
 split at h
 ·rename_i a0 a1 a2 a3 a4 a5
  refine ⟨Px.depthL a4 + 1, ?_⟩
  rcases Tree.get_ite_some h with ⟨h1, h'⟩ | ⟨_, h'⟩
  ·unfold spec18N
   have : Nat.blt (Px.depthL a4) (Px.depthL a4 + 1) = true := Nat.ble_eq ▸ Nat.le_refl _
   rw [Tree.get_ite, this, Bool.true_and, h1]
   exact h'
  ·cases h'
 ·cases h)
end Go.Vx
namespace Go.Vx
open Go
def G66 : FuncId → Option (Spec E) | 48 => some spec48 | _ => none
theorem hG66 (hL : Laws E) : ∀ f spec, G66 f = some spec → Valid E f spec := by
 intro f spec h
 unfold G66 at h
 split at h
 ·injection h with h; subst h; exact valid48 hL
 ·cases h
def L66_0 : Ex → Live | .normal => ⟨[0, 3, 6, 7], []⟩ | .exit 0 => ⟨[3], []⟩ | .ret => ⟨[2], []⟩ | _ => ⟨[], []⟩
def S66_0 (p0 : List UInt8) (p6 : Int) (x : (List UInt8) × Int) : St E.A := at' E 29 [(0, .lf (.str p0)), (3, .lf (.str x.1)), (6, .lf (.int .i64 p6)), (7, .lf (.int .i64 x.2))] []
def t66_0 (p0 : List UInt8) (p6 : Int) (x : (List UInt8) × Int) : Tree ((List UInt8) × Int ⊕ Out' E) := .ite (ltI x.2 p6) (.ite (ltI x.2 8) (.ite (leI 0 x.2 && leI x.2 (IntKind.i64.wrap (x.2 + (1 : Int))) && leI (IntKind.i64.wrap (x.2 + (1 : Int))) (↑p0.length : Int)) (.ite (Px.plain (List.drop x.2.toNat (List.take (IntKind.i64.wrap (x.2 + (1 : Int))).toNat p0))) (.ite (leI 0 x.2 && leI x.2 (IntKind.i64.wrap (x.2 + (1 : Int))) && leI (IntKind.i64.wrap (x.2 + (1 : Int))) (↑p0.length : Int)) (.ite (decide (x.1.length + (List.drop x.2.toNat (List.take (IntKind.i64.wrap (x.2 + (1 : Int))).toNat p0)).length ≤ 2 ^ (60 : Nat))) (.leaf (.inl ((x.1 ++ List.drop x.2.toNat (List.take (IntKind.i64.wrap (x.2 + (1 : Int))).toNat p0)), (IntKind.i64.wrap (x.2 + (1 : Int)))))) .fail) .fail) (.leaf (.inl (x.1, (IntKind.i64.wrap (x.2 + (1 : Int))))))) .fail) (.leaf (.inl (x.1, (IntKind.i64.wrap (x.2 + (1 : Int))))))) (.leaf (.inr (.exit 0, at' E 29 [(3, .lf (.str x.1))] [])))
theorem h66_0 (p0 : List UInt8) (p6 : Int) (x : (List UInt8) × Int) (k : Ex → St E.A → Option Unit) :
  exec E G66 (fun _ _ => .fail) 1 (lb Go.Proofs.Tryz.f66 0) (S66_0 p0 p6 x) (fun e σ1 => k e (clean E (L66_0 e) σ1)) = (t66_0 p0 p6 x).run (Sum.elim (fun x' => k .normal (S66_0 p0 p6 x')) (fun o => k o.1 o.2)) := by kernel_rfl
def lam66_0 (p0 : List UInt8) (p6 : Int) (x : List UInt8 × Int) : Tree (Out' E) := .ite (eqI p6 p0.length && leI 0 x.2 && leI x.2 p6 && leI x.1.length x.2 && leI x.1.length 8) (.leaf (.exit 0, at' E 29 [(3, .lf (.str (Px.nameGo' x.1 x.2.toNat (p0.drop x.2.toNat))))] [])) .fail
theorem m66_0 {p0 : List UInt8} {p6 : Int} {x : List UInt8 × Int} {e : Ex} {σ : St E.A} (g : okLenR (E := E) (.lf (.str p0)) = true) (_ : okLenR (E := E) (.lf (.str x.1)) = true)
  (h : (lam66_0 p0 p6 x).get = some (e, σ)) : ∃ fuel, iter (t66_0 p0 p6) fuel x = some (e, σ) ∧ e ≠ .normal := by
 have hb : p0.length ≤ big := of_decide_eq_true g
 obtain ⟨a, z⟩ := x
 unfold lam66_0 at h
 have h' := Tree.get_ite_some h
 clear h
 rcases h' with ⟨h1, h⟩ | ⟨_, h⟩
 ·simp only [eqI_eq, leI_eq, Bool.and_eq_true, decide_eq_true_eq] at h1
  obtain ⟨⟨⟨⟨rfl, k1⟩, k2⟩, k3⟩, k4⟩ := h1
  obtain ⟨i, rfl⟩ : ∃ j : Nat, z = (j : Int) := ⟨z.toNat, by omega⟩
  have key := range_iter (O := Out' E) (t := t66_0 p0 p0.length) (l := p0) 0 (fun (a : List UInt8) (i : Int) => (a, i))
   (fun i a b => (.inl (cond (ltI (i : Int) 8 && !Px.badB b) (a ++ [b]) a) : List UInt8 ⊕ Out' E)) (fun a => (Ex.exit 0, at' E 29 [(3, .lf (.str a))] [])) (fun i a => a.length ≤ i ∧ a.length ≤ 8)
   (fun i a hi ho => by
    refine ⟨?_, fun a' ha => ?_⟩
    ·have e1 : leI 0 (i : Int) = true := by rw [leI_eq]; exact decide_eq_true (by omega)
     have e2 : leI (i : Int) ((i + 1 : Nat) : Int) = true := by rw [leI_eq]; exact decide_eq_true (by omega)
     have e3 : leI ((i + 1 : Nat) : Int) (p0.length : Int) = true := by rw [leI_eq]; exact decide_eq_true (by omega)
     have e4 : decide (a.length + [p0.getD i 0].length ≤ 2 ^ (60 : Nat)) = true := decide_eq_true (by
      have := ho.2
      simp only [List.length_cons, List.length_nil]
      omega)
     unfold t66_0
     simp only [Tree.get_ite, Tree.get_leaf, ltI_nat hi, cond_true, i64_succ hi hb, Int.toNat_natCast, Px.slice1 p0 hi, Px.plain_one, e1, e2, e3, e4, Bool.and_true]
     cases ltI (i : Int) 8 <;> cases Px.badB (p0.getD i 0) <;> rfl
    ·injection ha with ha
     subst ha
     cases q : ltI (i : Int) 8 && !Px.badB (p0.getD i 0)
     ·exact ⟨Nat.le_succ_of_le ho.1, ho.2⟩
     ·rw [Bool.and_eq_true, ltI_eq, decide_eq_true_eq] at q
      have := ho.1
      show (a ++ [_]).length ≤ i + 1 ∧ (a ++ [_]).length ≤ 8
      rw [List.length_append]
      simp only [List.length_cons, List.length_nil]
      omega)
   (fun a ho => by unfold t66_0; simp only [Tree.get_ite, Tree.get_leaf, ltI_self, cond_false])
   (p0.length - i) i a (by omega) ⟨by omega, by omega⟩
  rw [Px.nameGo_run] at key
  rw [Int.toNat_natCast, Px.nameGo'_eq] at h
  injection h with h
  injection h with h1 h2
  subst h1
  refine ⟨_, key.trans ?_, fun hh => by cases hh⟩
  rw [← h2]
 ·cases h
def rd66_0 (σ : St E.A) : Tree (Out' E) :=
 let c := clean E (L66_0 .normal) σ
 if c.sl.length = 29 then
 match c.sl.getD 0 .undef, c.sl.getD 3 .undef, c.sl.getD 6 .undef, c.sl.getD 7 .undef with
 | .lf (.str p0), .lf (.str x3), .lf (.int .i64 p6), .lf (.int .i64 x7) => lam66_0 p0 p6 (x3, x7)
 | _, _, _, _ => .fail
 else .fail
theorem ll66_0 (hL : Laws E) (σ : St E.A) (e : Ex) (σ' : St E.A) (h : (rd66_0 σ).get = some (e, σ')) : LoopOK E (lb Go.Proofs.Tryz.f66 0) σ e σ' := by
 refine LoopOK.of_clean hL (L66_0 .normal) ?_
 unfold rd66_0 at h
 simp only at h
 split at h
 ·rename_i hlen
  split at h
  ·rename_i p0 x3 p6 x7 h0 h1 h2 h3
   refine LoopOK.lens 0 (fun g0 => ?_)
   rw [h0] at g0
   refine LoopOK.lens 3 (fun g1 => ?_)
   rw [h1] at g1
   obtain ⟨fuel, hi, ho⟩ := m66_0 g0 g1 h
   have hl := loop_at (Γ := G66) (Λ := fun _ _ => .fail) (n := 1) (body := lb Go.Proofs.Tryz.f66 0) hL (hG66 hL) (S := S66_0 p0 p6) (t := t66_0 p0 p6) (Lv := L66_0) (LamOK.none (by kernel_rfl)) (h66_0 p0 p6) hi ho
   refine LoopOK.fit hlen ?_ ?_ rfl rfl hl
   ·exact ⟨h0, h1, h2, h3, trivial⟩
   ·exact trivial
  ·cases h
 ·cases h
def Lam66 : Lam E | 0, σ => rd66_0 σ | _, _ => .fail
def w66 (a0 : List UInt8) : Tree (RV E.A × List (Obj E.A)) := .ite (eqI (↑a0.length : Int) (↑a0.length : Int) && leI 0 0 && leI 0 (↑a0.length : Int) && leI (↑([] : List UInt8).length : Int) (0 : Int) && leI (↑([] : List UInt8).length : Int) (8 : Int)) (.leaf (.lf (.str (Px.nameGo' [] (Int.toNat (0 : Int)) (List.drop (Int.toNat (0 : Int)) a0))), [])) .fail
theorem e66 (a0 : List UInt8) : execFun E G66 ((Lam66)) false Go.Proofs.Tryz.f66 [.lf (.str a0)] [] some = (w66 a0).get := by kernel_rfl
def raw66 : Spec E := fun args os => match args, os with | [.lf (.str a0)], [] => w66 a0 | _, _ => .fail
theorem validraw66 (hL : Laws E) : Valid E 66 raw66 :=
 valid_of_body hL (hG66 hL) (Λ := (Lam66)) (fn := Go.Proofs.Tryz.f66) (keep := false) (by kernel_rfl) (by kernel_rfl) (by kernel_rfl) ((LamOK.of (m := 1) (by kernel_rfl) (fun j hj σ e σ' hg => by
   match j, hj with
   | 0, _ => exact ll66_0 hL σ e σ' hg
   ))) (fun args os r os' h => by
  unfold raw66 at h
  split at h
  ·exact (e66 _).trans h
  ·cases h)
theorem eq66 (s : List UInt8) : (w66 s).get = some (.lf (.str (Px.nameOf s)), []) := by
 have g : (eqI (s.length : Int) (s.length : Int) && leI 0 0 && leI 0 (s.length : Int) && leI (([] : List UInt8).length : Int) 0 && leI (([] : List UInt8).length : Int) 8) = true := by
  simp [eqI_eq, leI_eq]
 unfold w66
 simp only [Tree.get_ite, Tree.get_leaf, Px.nameGo'_eq]
 rw [g, ← Px.nameOf_eq]
 rfl
def spec66 : Spec E := fun args os => match args, os with | [.lf (.str s)], [] => .leaf (.lf (.str (Px.nameOf s)), []) | _, _ => .fail
theorem valid66 (hL : Laws E) : Valid E 66 spec66 := (validraw66 hL).less (fun args os x u1 u2 h => by
 clear u1 u2
 unfold spec66 at h
 split at h
 ·rename_i s
  exact (eq66 s).trans h
 ·cases h)
end Go.Vx
namespace Go.Vx
open Go
def G67 : FuncId → Option (Spec E) := fun _ => none
theorem hG67 (hL : Laws E) : ∀ f spec, G67 f = some spec → Valid E f spec := by
 intro f spec h
 cases h
def w67 (a0 : List UInt8) (a1 : Int) : Tree (RV E.A × List (Obj E.A)) := .ite (leI 0 (↑(0 : Nat) : Int) && leI (↑(0 : Nat) : Int) (if false = true then Max.max (↑a0.length : Int) a1 else Min.min (↑a0.length : Int) a1) && leI (if false = true then Max.max (↑a0.length : Int) a1 else Min.min (↑a0.length : Int) a1) (↑a0.length : Int)) (.leaf (.lf (.str (List.drop (↑(0 : Nat) : Int).toNat (List.take (if false = true then Max.max (↑a0.length : Int) a1 else Min.min (↑a0.length : Int) a1).toNat a0))), [])) .fail
theorem e67 (a0 : List UInt8) (a1 : Int) : execFun E G67 (fun _ _ => .fail) false Go.Proofs.Tryz.f67 [.lf (.str a0), .lf (.int .i64 a1)] [] some = (w67 a0 a1).get := by kernel_rfl
def raw67 : Spec E := fun args os => match args, os with | [.lf (.str a0), .lf (.int .i64 a1)], [] => w67 a0 a1 | _, _ => .fail
theorem validraw67 (hL : Laws E) : Valid E 67 raw67 :=
 valid_of_body hL (hG67 hL) (Λ := fun _ _ => .fail) (fn := Go.Proofs.Tryz.f67) (keep := false) (by kernel_rfl) (by kernel_rfl) (by kernel_rfl) (LamOK.none (by kernel_rfl)) (fun args os r os' h => by
  unfold raw67 at h
  split at h
  ·exact (e67 _ _).trans h
  ·cases h)
def spec67 : Spec E := fun args os => match args, os with | [.lf (.str a0), .lf (.int .i64 a1)], [] => .ite (leI 0 a1) (.leaf (.lf (.str (List.take a1.toNat a0)), [])) .fail | _, _ => .fail
theorem valid67 (hL : Laws E) : Valid E 67 spec67 := (validraw67 hL).less (fun args os x u1 u2 h => by
 clear u1 u2
 unfold spec67 at h
 split at h
 ·rename_i s c
  rcases Tree.get_ite_some h with ⟨h1, h⟩ | ⟨_, h⟩
  ·rw [leI_eq, decide_eq_true_eq] at h1
   rw [← h]
   show (w67 s c).get = _
   have e0 : (if false = true then Max.max (s.length : Int) c else Min.min (s.length : Int) c) = Min.min (s.length : Int) c := rfl
   have e : (leI 0 ((0 : Nat) : Int) && leI ((0 : Nat) : Int) (Min.min (s.length : Int) c) && leI (Min.min (s.length : Int) c) (s.length : Int)) = true := by
    simp only [leI_eq, Bool.and_eq_true, decide_eq_true_eq]
    omega
   unfold w67
   rw [Tree.get_ite, Tree.get_leaf, e0, e, cond_true, Int.toNat_natCast, List.drop_zero]
   have : List.take (Min.min (s.length : Int) c).toNat s = List.take c.toNat s := by
    by_cases hc : c ≤ s.length
    ·rw [Int.min_eq_right hc]
    ·rw [Int.min_eq_left (by omega), Int.toNat_natCast, List.take_of_length_le (Nat.le_refl _), List.take_of_length_le (by omega)]
   rw [this]
   rfl
  ·cases h
 ·cases h)
end Go.Vx
namespace Go.Vx
open Go
def spec41N (n : Nat) : Spec E := fun args os => match args, os with | [.lf (.sl .bit l), .lf (.int .i64 d)], [] => .ite (leI 0 d && ltI d 22 && leI 22 (d + n) && !l.isEmpty) (.leaf (.tup [(true, [.int .u8 (Px.vk (Px.growV d l)), .int .i64 (Px.vn (Px.growV d l)), .int .i64 (Px.vg (Px.growV d l)), .str (Px.vt (Px.growV d l)), .sl .val (Px.vl (Px.growV d l)), .sl .str (Px.vs (Px.growV d l))]), (false, [.sl .bit (Px.growL d l)])], [])) .fail | _, _ => .fail
def G41 (n : Nat) : FuncId → Option (Spec E) | 66 => some spec66 | 67 => some spec67 | 41 => some (spec41N n) | _ => none
theorem hG41 (hL : Laws E) (n : Nat) (hN : Valid E 41 (spec41N n)) : ∀ f spec, (G41 n) f = some spec → Valid E f spec := by
 intro f spec h
 unfold G41 at h
 split at h
 ·injection h with h; subst h; exact valid66 hL
 ·injection h with h; subst h; exact valid67 hL
 ·injection h with h; subst h; exact hN
 ·cases h
def L41_0 : Ex → Live | .normal => ⟨[0, 1, 4, 6, 7, 61, 62], [320, 448, 512]⟩ | .exit 1 => ⟨[0, 4, 6, 7], [320, 448, 512]⟩ | .ret => ⟨[4, 5], [320, 448, 512]⟩ | _ => ⟨[], []⟩
def S41_0 (p1 : Int) (p61 : Int) (x : (List (Int × Int × Int × List UInt8 × Int × Bool)) × Int × Int × Int × Int × (List UInt8) × (List Val) × (List (List UInt8)) × Int × Int × Int × (List UInt8) × Int × Bool × Int × Int × Int × (List UInt8) × (List Val) × (List (List UInt8))) : St E.A := at' E 110 [(0, .lf (.sl .bit x.1)), (1, .lf (.int .i64 p1)), (4, .lf (.ptr 320 0 0)), (6, .lf (.ptr 448 0 0)), (7, .lf (.ptr 512 0 0)), (61, .lf (.int .u8 p61)), (62, .lf (.int .u8 x.2.1))] [(320, some (.cells 30 [.int .u8 x.2.2.1, .int .i64 x.2.2.2.1, .int .i64 x.2.2.2.2.1, .str x.2.2.2.2.2.1, .own 0 0 .val x.2.2.2.2.2.2.1, .own 1 0 .str x.2.2.2.2.2.2.2.1])), (448, some (.cells 99 [.int .u8 x.2.2.2.2.2.2.2.2.1, .int .i64 x.2.2.2.2.2.2.2.2.2.1, .int .u8 x.2.2.2.2.2.2.2.2.2.2.1, .str x.2.2.2.2.2.2.2.2.2.2.2.1, .int .u8 x.2.2.2.2.2.2.2.2.2.2.2.2.1, .bool x.2.2.2.2.2.2.2.2.2.2.2.2.2.1])), (512, some (.cells 30 [.int .u8 x.2.2.2.2.2.2.2.2.2.2.2.2.2.2.1, .int .i64 x.2.2.2.2.2.2.2.2.2.2.2.2.2.2.2.1, .int .i64 x.2.2.2.2.2.2.2.2.2.2.2.2.2.2.2.2.1, .str x.2.2.2.2.2.2.2.2.2.2.2.2.2.2.2.2.2.1, .own 2 0 .val x.2.2.2.2.2.2.2.2.2.2.2.2.2.2.2.2.2.2.1, .own 3 0 .str x.2.2.2.2.2.2.2.2.2.2.2.2.2.2.2.2.2.2.2]))]
def t41_0 (n : Nat) (p1 : Int) (p61 : Int) (x : (List (Int × Int × Int × List UInt8 × Int × Bool)) × Int × Int × Int × Int × (List UInt8) × (List Val) × (List (List UInt8)) × Int × Int × Int × (List UInt8) × Int × Bool × Int × Int × Int × (List UInt8) × (List Val) × (List (List UInt8))) : Tree ((List (Int × Int × Int × List UInt8 × Int × Bool)) × Int × Int × Int × Int × (List UInt8) × (List Val) × (List (List UInt8)) × Int × Int × Int × (List UInt8) × Int × Bool × Int × Int × Int × (List UInt8) × (List Val) × (List (List UInt8)) ⊕ Out' E) := .ite (ltI x.2.1 p61) (.ite (eqI (↑x.1.length : Int) 0) (.leaf (.inr (.exit 1, at' E 110 [(0, .lf (.sl .bit x.1)), (4, .lf (.ptr 320 0 0)), (6, .lf (.ptr 448 0 0)), (7, .lf (.ptr 512 0 0))] [(320, some (.cells 30 [.int .u8 x.2.2.1, .int .i64 x.2.2.2.1, .int .i64 x.2.2.2.2.1, .str x.2.2.2.2.2.1, .own 0 0 .val x.2.2.2.2.2.2.1, .own 1 0 .str x.2.2.2.2.2.2.2.1])), (448, some (.cells 99 [.int .u8 x.2.2.2.2.2.2.2.2.1, .int .i64 x.2.2.2.2.2.2.2.2.2.1, .int .u8 x.2.2.2.2.2.2.2.2.2.2.1, .str x.2.2.2.2.2.2.2.2.2.2.2.1, .int .u8 x.2.2.2.2.2.2.2.2.2.2.2.2.1, .bool x.2.2.2.2.2.2.2.2.2.2.2.2.2.1])), (512, some (.cells 30 [.int .u8 x.2.2.2.2.2.2.2.2.2.2.2.2.2.2.1, .int .i64 x.2.2.2.2.2.2.2.2.2.2.2.2.2.2.2.1, .int .i64 x.2.2.2.2.2.2.2.2.2.2.2.2.2.2.2.2.1, .str x.2.2.2.2.2.2.2.2.2.2.2.2.2.2.2.2.2.1, .own 2 0 .val x.2.2.2.2.2.2.2.2.2.2.2.2.2.2.2.2.2.2.1, .own 3 0 .str x.2.2.2.2.2.2.2.2.2.2.2.2.2.2.2.2.2.2.2]))]))) (.ite (ltI 20 p1) (.leaf (.inr (.exit 1, at' E 110 [(0, .lf (.sl .bit x.1)), (4, .lf (.ptr 320 0 0)), (6, .lf (.ptr 448 0 0)), (7, .lf (.ptr 512 0 0))] [(320, some (.cells 30 [.int .u8 x.2.2.1, .int .i64 x.2.2.2.1, .int .i64 x.2.2.2.2.1, .str x.2.2.2.2.2.1, .own 0 0 .val x.2.2.2.2.2.2.1, .own 1 0 .str x.2.2.2.2.2.2.2.1])), (448, some (.cells 99 [.int .u8 x.2.2.2.2.2.2.2.2.1, .int .i64 x.2.2.2.2.2.2.2.2.2.1, .int .u8 x.2.2.2.2.2.2.2.2.2.2.1, .str x.2.2.2.2.2.2.2.2.2.2.2.1, .int .u8 x.2.2.2.2.2.2.2.2.2.2.2.2.1, .bool x.2.2.2.2.2.2.2.2.2.2.2.2.2.1])), (512, some (.cells 30 [.int .u8 x.2.2.2.2.2.2.2.2.2.2.2.2.2.2.1, .int .i64 x.2.2.2.2.2.2.2.2.2.2.2.2.2.2.2.1, .int .i64 x.2.2.2.2.2.2.2.2.2.2.2.2.2.2.2.2.1, .str x.2.2.2.2.2.2.2.2.2.2.2.2.2.2.2.2.2.1, .own 2 0 .val x.2.2.2.2.2.2.2.2.2.2.2.2.2.2.2.2.2.2.1, .own 3 0 .str x.2.2.2.2.2.2.2.2.2.2.2.2.2.2.2.2.2.2.2]))]))) (.ite (leI 0 (IntKind.i64.wrap (p1 + (1 : Int))) && ltI (IntKind.i64.wrap (p1 + (1 : Int))) (22 : Int) && leI 22 (IntKind.i64.wrap (p1 + (1 : Int)) + (↑n : Int)) && !x.1.isEmpty) (.ite (decide ((x.2.2.2.2.2.2.2.2.2.2.2.2.2.2.2.2.2.2.1.length + [Val.mk (Px.vk (Px.growV (IntKind.i64.wrap (p1 + (1 : Int))) x.1)) (Px.vn (Px.growV (IntKind.i64.wrap (p1 + (1 : Int))) x.1)) (Px.vg (Px.growV (IntKind.i64.wrap (p1 + (1 : Int))) x.1)) (Px.vt (Px.growV (IntKind.i64.wrap (p1 + (1 : Int))) x.1)) (Px.vl (Px.growV (IntKind.i64.wrap (p1 + (1 : Int))) x.1)) (Px.vs (Px.growV (IntKind.i64.wrap (p1 + (1 : Int))) x.1))].length) * (88 : Nat) ≤ 140737488355328)) (.ite (eqI x.2.2.2.2.2.2.2.2.2.2.2.2.2.2.1 6) (.ite (decide ([(75 : UInt8), UInt8.ofNat (IntKind.u8.wrap ((97 : Int) + x.2.1)).toNat].length + (Px.nameOf x.2.2.2.2.2.2.2.2.2.2.2.1).length ≤ 2 ^ (60 : Nat))) (.ite (decide ((x.2.2.2.2.2.2.2.2.2.2.2.2.2.2.2.2.2.2.2.length + [[(75 : UInt8), UInt8.ofNat (IntKind.u8.wrap ((97 : Int) + x.2.1)).toNat] ++ Px.nameOf x.2.2.2.2.2.2.2.2.2.2.2.1].length) * (16 : Nat) ≤ 140737488355328)) (.leaf (.inl ((Px.growL (IntKind.i64.wrap (p1 + (1 : Int))) x.1), (IntKind.u8.wrap (x.2.1 + (1 : Int))), x.2.2.1, x.2.2.2.1, x.2.2.2.2.1, x.2.2.2.2.2.1, x.2.2.2.2.2.2.1, x.2.2.2.2.2.2.2.1, x.2.2.2.2.2.2.2.2.1, x.2.2.2.2.2.2.2.2.2.1, x.2.2.2.2.2.2.2.2.2.2.1, x.2.2.2.2.2.2.2.2.2.2.2.1, x.2.2.2.2.2.2.2.2.2.2.2.2.1, x.2.2.2.2.2.2.2.2.2.2.2.2.2.1, x.2.2.2.2.2.2.2.2.2.2.2.2.2.2.1, x.2.2.2.2.2.2.2.2.2.2.2.2.2.2.2.1, x.2.2.2.2.2.2.2.2.2.2.2.2.2.2.2.2.1, x.2.2.2.2.2.2.2.2.2.2.2.2.2.2.2.2.2.1, (x.2.2.2.2.2.2.2.2.2.2.2.2.2.2.2.2.2.2.1 ++ [Val.mk (Px.vk (Px.growV (IntKind.i64.wrap (p1 + (1 : Int))) x.1)) (Px.vn (Px.growV (IntKind.i64.wrap (p1 + (1 : Int))) x.1)) (Px.vg (Px.growV (IntKind.i64.wrap (p1 + (1 : Int))) x.1)) (Px.vt (Px.growV (IntKind.i64.wrap (p1 + (1 : Int))) x.1)) (Px.vl (Px.growV (IntKind.i64.wrap (p1 + (1 : Int))) x.1)) (Px.vs (Px.growV (IntKind.i64.wrap (p1 + (1 : Int))) x.1))]), (x.2.2.2.2.2.2.2.2.2.2.2.2.2.2.2.2.2.2.2 ++ [[(75 : UInt8), UInt8.ofNat (IntKind.u8.wrap ((97 : Int) + x.2.1)).toNat] ++ Px.nameOf x.2.2.2.2.2.2.2.2.2.2.2.1])))) .fail) .fail) (.leaf (.inl ((Px.growL (IntKind.i64.wrap (p1 + (1 : Int))) x.1), (IntKind.u8.wrap (x.2.1 + (1 : Int))), x.2.2.1, x.2.2.2.1, x.2.2.2.2.1, x.2.2.2.2.2.1, x.2.2.2.2.2.2.1, x.2.2.2.2.2.2.2.1, x.2.2.2.2.2.2.2.2.1, x.2.2.2.2.2.2.2.2.2.1, x.2.2.2.2.2.2.2.2.2.2.1, x.2.2.2.2.2.2.2.2.2.2.2.1, x.2.2.2.2.2.2.2.2.2.2.2.2.1, x.2.2.2.2.2.2.2.2.2.2.2.2.2.1, x.2.2.2.2.2.2.2.2.2.2.2.2.2.2.1, x.2.2.2.2.2.2.2.2.2.2.2.2.2.2.2.1, x.2.2.2.2.2.2.2.2.2.2.2.2.2.2.2.2.1, x.2.2.2.2.2.2.2.2.2.2.2.2.2.2.2.2.2.1, (x.2.2.2.2.2.2.2.2.2.2.2.2.2.2.2.2.2.2.1 ++ [Val.mk (Px.vk (Px.growV (IntKind.i64.wrap (p1 + (1 : Int))) x.1)) (Px.vn (Px.growV (IntKind.i64.wrap (p1 + (1 : Int))) x.1)) (Px.vg (Px.growV (IntKind.i64.wrap (p1 + (1 : Int))) x.1)) (Px.vt (Px.growV (IntKind.i64.wrap (p1 + (1 : Int))) x.1)) (Px.vl (Px.growV (IntKind.i64.wrap (p1 + (1 : Int))) x.1)) (Px.vs (Px.growV (IntKind.i64.wrap (p1 + (1 : Int))) x.1))]), x.2.2.2.2.2.2.2.2.2.2.2.2.2.2.2.2.2.2.2)))) .fail) .fail))) (.leaf (.inr (.exit 1, at' E 110 [(0, .lf (.sl .bit x.1)), (4, .lf (.ptr 320 0 0)), (6, .lf (.ptr 448 0 0)), (7, .lf (.ptr 512 0 0))] [(320, some (.cells 30 [.int .u8 x.2.2.1, .int .i64 x.2.2.2.1, .int .i64 x.2.2.2.2.1, .str x.2.2.2.2.2.1, .own 0 0 .val x.2.2.2.2.2.2.1, .own 1 0 .str x.2.2.2.2.2.2.2.1])), (448, some (.cells 99 [.int .u8 x.2.2.2.2.2.2.2.2.1, .int .i64 x.2.2.2.2.2.2.2.2.2.1, .int .u8 x.2.2.2.2.2.2.2.2.2.2.1, .str x.2.2.2.2.2.2.2.2.2.2.2.1, .int .u8 x.2.2.2.2.2.2.2.2.2.2.2.2.1, .bool x.2.2.2.2.2.2.2.2.2.2.2.2.2.1])), (512, some (.cells 30 [.int .u8 x.2.2.2.2.2.2.2.2.2.2.2.2.2.2.1, .int .i64 x.2.2.2.2.2.2.2.2.2.2.2.2.2.2.2.1, .int .i64 x.2.2.2.2.2.2.2.2.2.2.2.2.2.2.2.2.1, .str x.2.2.2.2.2.2.2.2.2.2.2.2.2.2.2.2.2.1, .own 2 0 .val x.2.2.2.2.2.2.2.2.2.2.2.2.2.2.2.2.2.2.1, .own 3 0 .str x.2.2.2.2.2.2.2.2.2.2.2.2.2.2.2.2.2.2.2]))])))
theorem h41_0 (n : Nat) (p1 : Int) (p61 : Int) (x : (List (Int × Int × Int × List UInt8 × Int × Bool)) × Int × Int × Int × Int × (List UInt8) × (List Val) × (List (List UInt8)) × Int × Int × Int × (List UInt8) × Int × Bool × Int × Int × Int × (List UInt8) × (List Val) × (List (List UInt8))) (k : Ex → St E.A → Option Unit) :
  exec E (G41 n) (fun _ _ => .fail) 1 (lb Go.Proofs.Tryz.f41 0) (S41_0 p1 p61 x) (fun e σ1 => k e (clean E (L41_0 e) σ1)) = (t41_0 n p1 p61 x).run (Sum.elim (fun x' => k .normal (S41_0 p1 p61 x')) (fun o => k o.1 o.2)) := by kernel_rfl
def lam41_0 (n : Nat) (p1 : Int) (p61 : Int) (x : (List (Int × Int × Int × List UInt8 × Int × Bool)) × Int × Int × Int × Int × (List UInt8) × (List Val) × (List (List UInt8)) × Int × Int × Int × (List UInt8) × Int × Bool × Int × Int × Int × (List UInt8) × (List Val) × (List (List UInt8))) : Tree (Out' E) := .ite (leI 0 x.2.1 && leI p61 3 && leI x.2.2.2.2.2.2.2.2.2.2.2.2.2.2.2.2.2.2.1.length x.2.1 && leI x.2.2.2.2.2.2.2.2.2.2.2.2.2.2.2.2.2.2.2.length x.2.1 && leI 0 p1 && ltI p1 22 && leI 21 (p1 + n)) (.leaf (.exit 1, at' E 110 [(0, .lf (.sl .bit ((Px.growR' p1 (eqI x.2.2.2.2.2.2.2.2.2.2.2.2.2.2.1 6) x.2.2.2.2.2.2.2.2.2.2.2.1 (p61 - x.2.1) x.2.1 x.1 x.2.2.2.2.2.2.2.2.2.2.2.2.2.2.2.2.2.2.1 x.2.2.2.2.2.2.2.2.2.2.2.2.2.2.2.2.2.2.2).2.2))), (4, .lf (.ptr 320 0 0)), (6, .lf (.ptr 448 0 0)), (7, .lf (.ptr 512 0 0))] [(320, some (.cells 30 [.int .u8 x.2.2.1, .int .i64 x.2.2.2.1, .int .i64 x.2.2.2.2.1, .str x.2.2.2.2.2.1, .own 0 0 .val x.2.2.2.2.2.2.1, .own 1 0 .str x.2.2.2.2.2.2.2.1])), (448, some (.cells 99 [.int .u8 x.2.2.2.2.2.2.2.2.1, .int .i64 x.2.2.2.2.2.2.2.2.2.1, .int .u8 x.2.2.2.2.2.2.2.2.2.2.1, .str x.2.2.2.2.2.2.2.2.2.2.2.1, .int .u8 x.2.2.2.2.2.2.2.2.2.2.2.2.1, .bool x.2.2.2.2.2.2.2.2.2.2.2.2.2.1])), (512, some (.cells 30 [.int .u8 x.2.2.2.2.2.2.2.2.2.2.2.2.2.2.1, .int .i64 x.2.2.2.2.2.2.2.2.2.2.2.2.2.2.2.1, .int .i64 x.2.2.2.2.2.2.2.2.2.2.2.2.2.2.2.2.1, .str x.2.2.2.2.2.2.2.2.2.2.2.2.2.2.2.2.2.1, .own 2 0 .val ((Px.growR' p1 (eqI x.2.2.2.2.2.2.2.2.2.2.2.2.2.2.1 6) x.2.2.2.2.2.2.2.2.2.2.2.1 (p61 - x.2.1) x.2.1 x.1 x.2.2.2.2.2.2.2.2.2.2.2.2.2.2.2.2.2.2.1 x.2.2.2.2.2.2.2.2.2.2.2.2.2.2.2.2.2.2.2).1), .own 3 0 .str ((Px.growR' p1 (eqI x.2.2.2.2.2.2.2.2.2.2.2.2.2.2.1 6) x.2.2.2.2.2.2.2.2.2.2.2.1 (p61 - x.2.1) x.2.1 x.1 x.2.2.2.2.2.2.2.2.2.2.2.2.2.2.2.2.2.2.1 x.2.2.2.2.2.2.2.2.2.2.2.2.2.2.2.2.2.2.2).2.1)]))])) .fail
theorem wrap_k {k : Nat} (h : k ≤ 3) : UInt8.ofNat (IntKind.u8.wrap ((97 : Int) + (k : Int))).toNat = UInt8.ofNat (97 + k) := by
 rw [wu8 _ (by omega) (by omega)]
 congr 1
theorem k41_0 {n : Nat} {p1 : Int} {p : Nat} (hp : p ≤ 3) (d0 : 0 ≤ p1) (d1 : p1 < 22) (d2 : 21 ≤ p1 + n) (a0 : Int) (a1 : Int) (a2 : Int) (a3 : List UInt8) (a4 : List Val) (a5 : List (List UInt8)) (b0 : Int) (b1 : Int) (b2 : Int) (b3 : List UInt8) (b4 : Int) (b5 : Bool) (c0 : Int) (c1 : Int) (c2 : Int) (c3 : List UInt8) :
  ∀ (m k : Nat) (l : List Bit) (ls : List Val) (ks : List (List UInt8)), m + k = p → ls.length ≤ k → ks.length ≤ k →
  iter (t41_0 n p1 (p : Int)) (m + 1) (l, (k : Int), a0, a1, a2, a3, a4, a5, b0, b1, b2, b3, b4, b5, c0, c1, c2, c3, ls, ks) = some (Ex.exit 1, at' E 110 [(0, .lf (.sl .bit ((Px.growLoop (Px.grow (p1 + 1)) (eqI c0 6) b3 (leI p1 20) m k l ls ks).2.2))), (4, .lf (.ptr 320 0 0)), (6, .lf (.ptr 448 0 0)), (7, .lf (.ptr 512 0 0))] [(320, some (.cells 30 [.int .u8 a0, .int .i64 a1, .int .i64 a2, .str a3, .own 0 0 .val a4, .own 1 0 .str a5])), (448, some (.cells 99 [.int .u8 b0, .int .i64 b1, .int .u8 b2, .str b3, .int .u8 b4, .bool b5])), (512, some (.cells 30 [.int .u8 c0, .int .i64 c1, .int .i64 c2, .str c3, .own 2 0 .val ((Px.growLoop (Px.grow (p1 + 1)) (eqI c0 6) b3 (leI p1 20) m k l ls ks).1), .own 3 0 .str ((Px.growLoop (Px.grow (p1 + 1)) (eqI c0 6) b3 (leI p1 20) m k l ls ks).2.1)]))])
 | 0, k, l, ls, ks, hm, h1, h2 => by
  have hk : k = p := by omega
  subst hk
  simp only [iter, t41_0, Tree.get_ite, Tree.get_leaf, ltI_self, cond_false, Px.growLoop]
 | m + 1, k, l, ls, ks, hm, h1, h2 => by
  have hk : k < p := by omega
  have ek := ltI_nat hk
  rw [iter]
  cases l with
  | nil =>
   have hs : (t41_0 n p1 (p : Int) (([] : List Bit), (k : Int), a0, a1, a2, a3, a4, a5, b0, b1, b2, b3, b4, b5, c0, c1, c2, c3, ls, ks)).get = some (.inr (Ex.exit 1, at' E 110 [(0, .lf (.sl .bit (([] : List Bit)))), (4, .lf (.ptr 320 0 0)), (6, .lf (.ptr 448 0 0)), (7, .lf (.ptr 512 0 0))] [(320, some (.cells 30 [.int .u8 a0, .int .i64 a1, .int .i64 a2, .str a3, .own 0 0 .val a4, .own 1 0 .str a5])), (448, some (.cells 99 [.int .u8 b0, .int .i64 b1, .int .u8 b2, .str b3, .int .u8 b4, .bool b5])), (512, some (.cells 30 [.int .u8 c0, .int .i64 c1, .int .i64 c2, .str c3, .own 2 0 .val (ls), .own 3 0 .str (ks)]))])) := by
    unfold t41_0
    have e0 : eqI (([] : List Bit).length : Int) 0 = true := rfl
    simp only [Tree.get_ite, Tree.get_leaf, ek, cond_true, e0]
   rw [hs]
   rfl
  | cons b r =>
   have e0 : eqI ((b :: r).length : Int) 0 = false := by rw [eqI_eq]; exact decide_eq_false (by simp only [List.length_cons]; omega)
   by_cases hd : 20 < p1
   ·have e1 : ltI 20 p1 = true := by rw [ltI_eq]; exact decide_eq_true hd
    have e2 : leI p1 20 = false := by rw [leI_eq]; exact decide_eq_false (by omega)
    have hs : (t41_0 n p1 (p : Int) ((b :: r), (k : Int), a0, a1, a2, a3, a4, a5, b0, b1, b2, b3, b4, b5, c0, c1, c2, c3, ls, ks)).get = some (.inr (Ex.exit 1, at' E 110 [(0, .lf (.sl .bit ((b :: r)))), (4, .lf (.ptr 320 0 0)), (6, .lf (.ptr 448 0 0)), (7, .lf (.ptr 512 0 0))] [(320, some (.cells 30 [.int .u8 a0, .int .i64 a1, .int .i64 a2, .str a3, .own 0 0 .val a4, .own 1 0 .str a5])), (448, some (.cells 99 [.int .u8 b0, .int .i64 b1, .int .u8 b2, .str b3, .int .u8 b4, .bool b5])), (512, some (.cells 30 [.int .u8 c0, .int .i64 c1, .int .i64 c2, .str c3, .own 2 0 .val (ls), .own 3 0 .str (ks)]))])) := by
     unfold t41_0
     simp only [Tree.get_ite, Tree.get_leaf, ek, cond_true, cond_false, e0, e1]
     rfl
    rw [hs, Px.growLoop]
    simp only [e2, cond_true, Bool.not_false, Bool.or_true]
    rfl
   ·have e1 : ltI 20 p1 = false := by rw [ltI_eq]; exact decide_eq_false hd
    have e2 : leI p1 20 = true := by rw [leI_eq]; exact decide_eq_true (by omega)
    have ew : IntKind.i64.wrap (p1 + 1) = p1 + 1 := wi64 _ (by omega) (by omega)
    have e3 : (leI 0 (p1 + 1) && ltI (p1 + 1) 22 && leI 22 (p1 + 1 + (n : Int)) && !(b :: r).isEmpty) = true := by
     simp only [leI_eq, ltI_eq, Bool.and_eq_true, decide_eq_true_eq, List.isEmpty_cons, Bool.not_false, and_true]; omega
    have e4 : ∀ v : Val, decide ((ls.length + [v].length) * (88 : Nat) ≤ 140737488355328) = true := fun v => decide_eq_true (by simp only [List.length_cons, List.length_nil]; omega)
    have ewk : IntKind.u8.wrap ((k : Int) + 1) = ((k + 1 : Nat) : Int) := by rw [wu8] <;> omega
    have e5 : ∀ v : List UInt8, decide ((ks.length + [v].length) * (16 : Nat) ≤ 140737488355328) = true := fun v => decide_eq_true (by simp only [List.length_cons, List.length_nil]; omega)
    have e6 : decide ([(75 : UInt8), UInt8.ofNat (97 + k)].length + (Px.nameOf b3).length ≤ 2 ^ (60 : Nat)) = true := decide_eq_true (by
     have := Px.nameOf_len b3
     simp only [List.length_cons, List.length_nil]; omega)
    have eg : Px.growLoop (Px.grow (p1 + 1)) (eqI c0 6) b3 (leI p1 20) (m + 1) k (b :: r) ls ks = Px.growLoop (Px.grow (p1 + 1)) (eqI c0 6) b3 (leI p1 20) m (k + 1) (Px.growL (p1 + 1) (b :: r)) (ls ++ [Px.growV (p1 + 1) (b :: r)]) (cond (eqI c0 6) (ks ++ [Px.bkey k b3]) ks) := by
     rw [Px.growLoop, e2]; rfl
    have hs : (t41_0 n p1 (p : Int) ((b :: r), (k : Int), a0, a1, a2, a3, a4, a5, b0, b1, b2, b3, b4, b5, c0, c1, c2, c3, ls, ks)).get = some (.inl ((Px.growL (p1 + 1) (b :: r)), ((k + 1 : Nat) : Int), a0, a1, a2, a3, a4, a5, b0, b1, b2, b3, b4, b5, c0, c1, c2, c3, (ls ++ [Px.growV (p1 + 1) (b :: r)]), (cond (eqI c0 6) (ks ++ [Px.bkey k b3]) ks))) := by
     unfold t41_0
     simp only [Tree.get_ite, Tree.get_leaf, ek, e0, e1, cond_false, ew, e3, cond_true, e4, ewk, Px.v_eta, wrap_k (show k ≤ 3 by omega), e5, e6]
     cases eqI c0 6 <;> rfl
    have hl : (cond (eqI c0 6) (ks ++ [Px.bkey k b3]) ks).length ≤ k + 1 := by
     cases eqI c0 6 <;> simp <;> omega
    rw [eg, hs]
    exact k41_0 hp d0 d1 d2 a0 a1 a2 a3 a4 a5 b0 b1 b2 b3 b4 b5 c0 c1 c2 c3 m (k + 1) (Px.growL (p1 + 1) (b :: r)) (ls ++ [Px.growV (p1 + 1) (b :: r)]) _ (by omega) (by simp; omega) hl
theorem m41_0 {n : Nat} {p1 p61 : Int} {x : (List (Int × Int × Int × List UInt8 × Int × Bool)) × Int × Int × Int × Int × (List UInt8) × (List Val) × (List (List UInt8)) × Int × Int × Int × (List UInt8) × Int × Bool × Int × Int × Int × (List UInt8) × (List Val) × (List (List UInt8))} {e : Ex} {σ : St E.A} (_ : okLenR (E := E) (.lf (.sl .bit x.1)) = true) (_ : okLenO (E := E) (.cells 30 [.int .u8 x.2.2.1, .int .i64 x.2.2.2.1, .int .i64 x.2.2.2.2.1, .str x.2.2.2.2.2.1, .own 0 0 .val x.2.2.2.2.2.2.1, .own 1 0 .str x.2.2.2.2.2.2.2.1]) = true) (_ : okLenO (E := E) (.cells 99 [.int .u8 x.2.2.2.2.2.2.2.2.1, .int .i64 x.2.2.2.2.2.2.2.2.2.1, .int .u8 x.2.2.2.2.2.2.2.2.2.2.1, .str x.2.2.2.2.2.2.2.2.2.2.2.1, .int .u8 x.2.2.2.2.2.2.2.2.2.2.2.2.1, .bool x.2.2.2.2.2.2.2.2.2.2.2.2.2.1]) = true) (_ : okLenO (E := E) (.cells 30 [.int .u8 x.2.2.2.2.2.2.2.2.2.2.2.2.2.2.1, .int .i64 x.2.2.2.2.2.2.2.2.2.2.2.2.2.2.2.1, .int .i64 x.2.2.2.2.2.2.2.2.2.2.2.2.2.2.2.2.1, .str x.2.2.2.2.2.2.2.2.2.2.2.2.2.2.2.2.2.1, .own 2 0 .val x.2.2.2.2.2.2.2.2.2.2.2.2.2.2.2.2.2.2.1, .own 3 0 .str x.2.2.2.2.2.2.2.2.2.2.2.2.2.2.2.2.2.2.2]) = true)
  (h : (lam41_0 n p1 p61 x).get = some (e, σ)) : ∃ fuel, iter (t41_0 n p1 p61) fuel x = some (e, σ) ∧ e ≠ .normal := by
 obtain ⟨l, k, a0, a1, a2, a3, a4, a5, b0, b1, b2, b3, b4, b5, c0, c1, c2, c3, ls, ks⟩ := x
 unfold lam41_0 at h
 have h' := Tree.get_ite_some h
 clear h
 rcases h' with ⟨h1, h⟩ | ⟨_, h⟩
 ·simp only [eqI_eq, leI_eq, ltI_eq, Bool.and_eq_true, decide_eq_true_eq] at h1
  obtain ⟨⟨⟨⟨⟨⟨g1, g3⟩, g4⟩, g5⟩, g6⟩, g7⟩, g8⟩ := h1
  by_cases hlt : k < p61
  ·obtain ⟨p, rfl⟩ : ∃ j : Nat, p61 = (j : Int) := ⟨p61.toNat, by omega⟩
   obtain ⟨q, rfl⟩ : ∃ j : Nat, k = (j : Int) := ⟨k.toNat, by omega⟩
   have key := k41_0 (n := n) (p1 := p1) (p := p) (by omega) g6 g7 g8 a0 a1 a2 a3 a4 a5 b0 b1 b2 b3 b4 b5 c0 c1 c2 c3 (p - q) q l ls ks (by omega) (by omega) (by omega)
   injection h with h
   injection h with h1 h2
   subst h1
   refine ⟨_, key.trans ?_, fun hh => by cases hh⟩
   rw [← h2, Px.growR'_eq]
   unfold Px.growR
   rw [show ((p : Int) - (q : Int)).toNat = p - q by omega, Int.toNat_natCast]
  ·have e1 : ltI k p61 = false := by rw [ltI_eq]; exact decide_eq_false hlt
   injection h with h
   injection h with h1 h2
   subst h1
   refine ⟨1, ?_, fun hh => by cases hh⟩
   rw [← h2, Px.growR'_eq]
   unfold Px.growR
   rw [show (p61 - k).toNat = 0 by omega, iter]
   have hs : (t41_0 n p1 p61 (l, k, a0, a1, a2, a3, a4, a5, b0, b1, b2, b3, b4, b5, c0, c1, c2, c3, ls, ks)).get = some (.inr (Ex.exit 1, at' E 110 [(0, .lf (.sl .bit (l))), (4, .lf (.ptr 320 0 0)), (6, .lf (.ptr 448 0 0)), (7, .lf (.ptr 512 0 0))] [(320, some (.cells 30 [.int .u8 a0, .int .i64 a1, .int .i64 a2, .str a3, .own 0 0 .val a4, .own 1 0 .str a5])), (448, some (.cells 99 [.int .u8 b0, .int .i64 b1, .int .u8 b2, .str b3, .int .u8 b4, .bool b5])), (512, some (.cells 30 [.int .u8 c0, .int .i64 c1, .int .i64 c2, .str c3, .own 2 0 .val (ls), .own 3 0 .str (ks)]))])) := by
    unfold t41_0
    simp only [Tree.get_ite, Tree.get_leaf, e1, cond_false]
   rw [hs]
   rfl
 ·cases h
def rd41_0 (n : Nat) (σ : St E.A) : Tree (Out' E) :=
 let c := clean E (L41_0 .normal) σ
 if c.sl.length = 110 then
 match c.sl.getD 0 .undef, c.sl.getD 1 .undef, c.sl.getD 4 .undef, c.sl.getD 6 .undef, c.sl.getD 7 .undef, c.sl.getD 61 .undef, c.sl.getD 62 .undef, c.ob 320, c.ob 448, c.ob 512 with
 | .lf (.sl .bit x0), .lf (.int .i64 p1), .lf (.ptr 320 0 0), .lf (.ptr 448 0 0), .lf (.ptr 512 0 0), .lf (.int .u8 p61), .lf (.int .u8 x62), some (.cells 30 [.int .u8 o320a, .int .i64 o320b, .int .i64 o320c, .str o320d, .own 0 0 .val o320e, .own 1 0 .str o320f]), some (.cells 99 [.int .u8 o448a, .int .i64 o448b, .int .u8 o448c, .str o448d, .int .u8 o448e, .bool o448f]), some (.cells 30 [.int .u8 o512a, .int .i64 o512b, .int .i64 o512c, .str o512d, .own 2 0 .val o512e, .own 3 0 .str o512f]) => lam41_0 n p1 p61 (x0, x62, o320a, o320b, o320c, o320d, o320e, o320f, o448a, o448b, o448c, o448d, o448e, o448f, o512a, o512b, o512c, o512d, o512e, o512f)
 | _, _, _, _, _, _, _, _, _, _ => .fail
 else .fail
theorem ll41_0 (hL : Laws E) (n : Nat) (hN : Valid E 41 (spec41N n)) (σ : St E.A) (e : Ex) (σ' : St E.A) (h : (rd41_0 n σ).get = some (e, σ')) : LoopOK E (lb Go.Proofs.Tryz.f41 0) σ e σ' := by
 refine LoopOK.of_clean hL (L41_0 .normal) ?_
 unfold rd41_0 at h
 simp only at h
 split at h
 ·rename_i hlen
  split at h
  ·rename_i x0 p1 p61 x62 o320a o320b o320c o320d o320e o320f o448a o448b o448c o448d o448e o448f o512a o512b o512c o512d o512e o512f h0 h1 h2 h3 h4 h5 h6 h7 h8 h9
   refine LoopOK.lens 0 (fun g0 => ?_)
   rw [h0] at g0
   refine LoopOK.lensO 320 (fun gg => ?_)
   have g1 := gg _ h7
   refine LoopOK.lensO 448 (fun gg => ?_)
   have g2 := gg _ h8
   refine LoopOK.lensO 512 (fun gg => ?_)
   have g3 := gg _ h9
   obtain ⟨fuel, hi, ho⟩ := m41_0 g0 g1 g2 g3 h
   have hl := loop_at (Γ := (G41 n)) (Λ := fun _ _ => .fail) (n := 1) (body := lb Go.Proofs.Tryz.f41 0) hL (hG41 hL n hN) (S := S41_0 p1 p61) (t := t41_0 n p1 p61) (Lv := L41_0) (LamOK.none (by kernel_rfl)) (h41_0 n p1 p61) hi ho
   refine LoopOK.fit hlen ?_ ?_ rfl rfl hl
   ·exact ⟨h0, h1, h2, h3, h4, h5, h6, trivial⟩
   ·exact ⟨h7, h8, h9, trivial⟩
  ·cases h
 ·cases h
def Lam41 (n : Nat) : Lam E | 0, σ => rd41_0 n σ | _, _ => .fail
def b41 (a0 : List (Int × Int × Int × List UInt8 × Int × Bool)) : (Int × Int × Int × List UInt8 × Int × Bool) := a0.getD (Int.toNat (0 : Int)) ((0 : Int), (0 : Int), (0 : Int), [], (0 : Int), false)
def g41 (a0 : List (Int × Int × Int × List UInt8 × Int × Bool)) (a1 : Int) : List Val × List (List UInt8) × List (Int × Int × Int × List UInt8 × Int × Bool) := Px.growR' a1 (eqI ((b41 a0).1.tmod (8 : Int)) (6 : Int)) (b41 a0).2.2.2.1 ((b41 a0).2.2.2.2.1.tmod (4 : Int) - (0 : Int)) (0 : Int) (List.drop (Int.toNat (1 : Int)) a0) [] []
def w41 (n : Nat) (a0 : List (Int × Int × Int × List UInt8 × Int × Bool)) (a1 : Int) : Tree (RV E.A × List (Obj E.A)) := .ite (inB (0 : Int) a0.length) (.ite (inB (1 : Int) (a0.length + (1 : Nat))) (.ite (eqI ((b41 a0).1.tmod (8 : Int)) (1 : Int)) (.ite ((b41 a0).2.2.2.2.2) (.leaf (.tup [(true, [.int .u8 ((b41 a0).1.tmod (8 : Int)), .int .i64 (vbits Go.BinOp.and IntKind.i64 (b41 a0).2.1 (1 : Int)), .int .i64 (IntKind.i64.wrap (b41 a0).2.2.1), .str [], .sl .val [], .sl .str []]), (false, [.sl .bit (List.drop (Int.toNat (1 : Int)) a0)])], [])) (.leaf (.tup [(true, [.int .u8 ((b41 a0).1.tmod (8 : Int)), .int .i64 (vbits Go.BinOp.and IntKind.i64 (b41 a0).2.1 (1 : Int)), .int .i64 0, .str [], .sl .val [], .sl .str []]), (false, [.sl .bit (List.drop (Int.toNat (1 : Int)) a0)])], []))) (.ite (eqI ((b41 a0).1.tmod (8 : Int)) (2 : Int)) (.ite ((b41 a0).2.2.2.2.2) (.leaf (.tup [(true, [.int .u8 ((b41 a0).1.tmod (8 : Int)), .int .i64 ((b41 a0).2.1), .int .i64 (IntKind.i64.wrap (b41 a0).2.2.1), .str [], .sl .val [], .sl .str []]), (false, [.sl .bit (List.drop (Int.toNat (1 : Int)) a0)])], [])) (.leaf (.tup [(true, [.int .u8 ((b41 a0).1.tmod (8 : Int)), .int .i64 ((b41 a0).2.1), .int .i64 0, .str [], .sl .val [], .sl .str []]), (false, [.sl .bit (List.drop (Int.toNat (1 : Int)) a0)])], []))) (.ite (eqI ((b41 a0).1.tmod (8 : Int)) (3 : Int)) (.ite (decide ([(78 : UInt8)].length + (Px.nameOf (b41 a0).2.2.2.1).length ≤ 2 ^ (60 : Nat))) (.ite ((b41 a0).2.2.2.2.2) (.leaf (.tup [(true, [.int .u8 ((b41 a0).1.tmod (8 : Int)), .int .i64 0, .int .i64 (IntKind.i64.wrap (b41 a0).2.2.1), .str ([(78 : UInt8)] ++ Px.nameOf (b41 a0).2.2.2.1), .sl .val [], .sl .str []]), (false, [.sl .bit (List.drop (Int.toNat (1 : Int)) a0)])], [])) (.leaf (.tup [(true, [.int .u8 ((b41 a0).1.tmod (8 : Int)), .int .i64 0, .int .i64 0, .str ([(78 : UInt8)] ++ Px.nameOf (b41 a0).2.2.2.1), .sl .val [], .sl .str []]), (false, [.sl .bit (List.drop (Int.toNat (1 : Int)) a0)])], []))) .fail) (.ite (eqI ((b41 a0).1.tmod (8 : Int)) (4 : Int)) (.ite ((b41 a0).2.2.2.2.2) (.leaf (.tup [(true, [.int .u8 ((b41 a0).1.tmod (8 : Int)), .int .i64 0, .int .i64 (IntKind.i64.wrap (b41 a0).2.2.1), .str (List.take (Int.toNat (20 : Int)) (b41 a0).2.2.2.1), .sl .val [], .sl .str []]), (false, [.sl .bit (List.drop (Int.toNat (1 : Int)) a0)])], [])) (.leaf (.tup [(true, [.int .u8 ((b41 a0).1.tmod (8 : Int)), .int .i64 0, .int .i64 0, .str (List.take (Int.toNat (20 : Int)) (b41 a0).2.2.2.1), .sl .val [], .sl .str []]), (false, [.sl .bit (List.drop (Int.toNat (1 : Int)) a0)])], []))) (.ite (eqI ((b41 a0).1.tmod (8 : Int)) (7 : Int)) (.ite ((b41 a0).2.2.2.2.2) (.leaf (.tup [(true, [.int .u8 ((b41 a0).1.tmod (8 : Int)), .int .i64 (IntKind.i64.wrap ((1 : Int) + vbits Go.BinOp.and IntKind.i64 (b41 a0).2.1 (65535 : Int))), .int .i64 (IntKind.i64.wrap (b41 a0).2.2.1), .str [], .sl .val [], .sl .str []]), (false, [.sl .bit (List.drop (Int.toNat (1 : Int)) a0)])], [])) (.leaf (.tup [(true, [.int .u8 ((b41 a0).1.tmod (8 : Int)), .int .i64 (IntKind.i64.wrap ((1 : Int) + vbits Go.BinOp.and IntKind.i64 (b41 a0).2.1 (65535 : Int))), .int .i64 (IntKind.i64.wrap (b41 a0).2.2.1), .str [], .sl .val [], .sl .str []]), (false, [.sl .bit (List.drop (Int.toNat (1 : Int)) a0)])], []))) (.ite (eqI ((b41 a0).1.tmod (8 : Int)) (5 : Int)) (.ite (eqI ((b41 a0).1.tmod (8 : Int)) (5 : Int)) (.ite (leI 0 0 && leI ((b41 a0).2.2.2.2.1.tmod (4 : Int)) (3 : Int) && leI (↑([] : List UInt8).length : Int) (0 : Int) && leI (↑([] : List UInt8).length : Int) (0 : Int) && leI 0 a1 && ltI a1 22 && leI 21 (a1 + (↑n : Int))) (.ite ((b41 a0).2.2.2.2.2) (.leaf (.tup [(true, [.int .u8 ((b41 a0).1.tmod (8 : Int)), .int .i64 0, .int .i64 (IntKind.i64.wrap (b41 a0).2.2.1), .str [], .sl .val ((g41 a0 a1).1), .sl .str ((g41 a0 a1).2.1)]), (false, [.sl .bit ((g41 a0 a1).2.2)])], [])) (.leaf (.tup [(true, [.int .u8 ((b41 a0).1.tmod (8 : Int)), .int .i64 0, .int .i64 0, .str [], .sl .val ((g41 a0 a1).1), .sl .str ((g41 a0 a1).2.1)]), (false, [.sl .bit ((g41 a0 a1).2.2)])], []))) .fail) (.ite ((b41 a0).2.2.2.2.2) (.leaf (.tup [(true, [.int .u8 ((b41 a0).1.tmod (8 : Int)), .int .i64 0, .int .i64 (IntKind.i64.wrap (b41 a0).2.2.1), .str [], .sl .val [], .sl .str []]), (false, [.sl .bit (List.drop (Int.toNat (1 : Int)) a0)])], [])) (.leaf (.tup [(true, [.int .u8 ((b41 a0).1.tmod (8 : Int)), .int .i64 0, .int .i64 0, .str [], .sl .val [], .sl .str []]), (false, [.sl .bit (List.drop (Int.toNat (1 : Int)) a0)])], [])))) (.ite (eqI ((b41 a0).1.tmod (8 : Int)) (6 : Int)) (.ite (leI 0 0 && leI ((b41 a0).2.2.2.2.1.tmod (4 : Int)) (3 : Int) && leI (↑([] : List UInt8).length : Int) (0 : Int) && leI (↑([] : List UInt8).length : Int) (0 : Int) && leI 0 a1 && ltI a1 22 && leI 21 (a1 + (↑n : Int))) (.ite ((b41 a0).2.2.2.2.2) (.leaf (.tup [(true, [.int .u8 ((b41 a0).1.tmod (8 : Int)), .int .i64 0, .int .i64 (IntKind.i64.wrap (b41 a0).2.2.1), .str [], .sl .val ((g41 a0 a1).1), .sl .str ((g41 a0 a1).2.1)]), (false, [.sl .bit ((g41 a0 a1).2.2)])], [])) (.leaf (.tup [(true, [.int .u8 ((b41 a0).1.tmod (8 : Int)), .int .i64 0, .int .i64 0, .str [], .sl .val ((g41 a0 a1).1), .sl .str ((g41 a0 a1).2.1)]), (false, [.sl .bit ((g41 a0 a1).2.2)])], []))) .fail) (.ite ((b41 a0).2.2.2.2.2) (.leaf (.tup [(true, [.int .u8 ((b41 a0).1.tmod (8 : Int)), .int .i64 0, .int .i64 (IntKind.i64.wrap (b41 a0).2.2.1), .str [], .sl .val [], .sl .str []]), (false, [.sl .bit (List.drop (Int.toNat (1 : Int)) a0)])], [])) (.leaf (.tup [(true, [.int .u8 ((b41 a0).1.tmod (8 : Int)), .int .i64 0, .int .i64 0, .str [], .sl .val [], .sl .str []]), (false, [.sl .bit (List.drop (Int.toNat (1 : Int)) a0)])], [])))))))))) .fail) .fail
theorem e41 (n : Nat) (a0 : List (Int × Int × Int × List UInt8 × Int × Bool)) (a1 : Int) : execFun E (G41 n) ((Lam41 n)) false Go.Proofs.Tryz.f41 [.lf (.sl .bit a0), .lf (.int .i64 a1)] [] some = (w41 n a0 a1).get := by kernel_rfl
def raw41 (n : Nat) : Spec E := fun args os => match args, os with | [.lf (.sl .bit a0), .lf (.int .i64 a1)], [] => w41 n a0 a1 | _, _ => .fail
theorem validraw41 (hL : Laws E) (n : Nat) (hN : Valid E 41 (spec41N n)) : Valid E 41 (raw41 n) :=
 valid_of_body hL (hG41 hL n hN) (Λ := (Lam41 n)) (fn := Go.Proofs.Tryz.f41) (keep := false) (by kernel_rfl) (by kernel_rfl) (by kernel_rfl) ((LamOK.of (m := 1) (by kernel_rfl) (fun j hj σ e σ' hg => by
   match j, hj with
   | 0, _ => exact ll41_0 hL n hN σ e σ' hg
   ))) (fun args os r os' h => by
  unfold raw41 at h
  split at h
  ·exact (e41 _ _ _).trans h
  ·cases h)
theorem pick_kind (k c : Int) : (eqI k c = true ∧ k = c) ∨ (eqI k c = false) := by
 cases h : eqI k c
 ·exact .inr rfl
 ·rw [eqI_eq, decide_eq_true_eq] at h; exact .inl ⟨rfl, h⟩
theorem eq41 {n : Nat} {l : List Bit} {d : Int} (h0 : 0 ≤ d) (h1 : d < 22) (h2 : 22 ≤ d + (n + 1 : Nat)) (hl : l ≠ []) : (w41 n l d).get = some (.tup [(true, [.int .u8 (Px.vk (Px.growV d l)), .int .i64 (Px.vn (Px.growV d l)), .int .i64 (Px.vg (Px.growV d l)), .str (Px.vt (Px.growV d l)), .sl .val (Px.vl (Px.growV d l)), .sl .str (Px.vs (Px.growV d l))]), (false, [.sl .bit (Px.growL d l)])], []) := by
 obtain ⟨b, r, rfl⟩ : ∃ b r, l = b :: r := by cases l with | nil => exact absurd rfl hl | cons b r => exact ⟨b, r, rfl⟩
 have i1 : inB (0 : Int) (b :: r).length = true := inB_true.2 ⟨by omega, by simp only [List.length_cons]; omega⟩
 have i2 : inB (1 : Int) ((b :: r).length + (1 : Nat)) = true := inB_true.2 ⟨by omega, by simp only [List.length_cons]; omega⟩
 have i3 : (b :: r).getD (Int.toNat (0 : Int)) ((0 : Int), (0 : Int), (0 : Int), [], (0 : Int), false) = b := rfl
 have i4 : List.drop (Int.toNat (1 : Int)) (b :: r) = r := rfl
 have i5 : decide ([(78 : UInt8)].length + (Px.nameOf b.2.2.2.1).length ≤ 2 ^ (60 : Nat)) = true := decide_eq_true (by
  have := Px.nameOf_len b.2.2.2.1
  simp only [List.length_cons, List.length_nil]; omega)
 have i6 : b.2.2.2.2.1.tmod 4 ≤ 3 := by
  have := Int.tmod_lt_of_pos b.2.2.2.2.1 (show (0 : Int) < 4 by decide)
  omega
 have i7 : ∀ (x : List UInt8) (y : List UInt8), x = [] → y = [] → (leI 0 0 && leI (b.2.2.2.2.1.tmod 4) 3 && leI (x.length : Int) 0 && leI (y.length : Int) 0 && leI 0 d && ltI d 22 && leI 21 (d + (n : Int))) = true := by
  rintro _ _ rfl rfl
  simp only [leI_eq, ltI_eq, Bool.and_eq_true, decide_eq_true_eq, List.length_nil]; omega
 have i8 := i7 [] [] rfl rfl
 obtain ⟨m, hm⟩ : ∃ m : Nat, d = 21 - (m : Int) := ⟨(21 - d).toNat, by omega⟩
 have hm' : m ≤ 21 := by omega
 have e1 : Px.grow d (b :: r) = Px.growF (m + 1) (b :: r) := by
  unfold Px.grow; rw [show (22 - d).toNat = m + 1 by omega]
 have e2 : ∀ x, Px.grow (d + 1) x = Px.growF m x := by
  intro x; unfold Px.grow; rw [show (22 - (d + 1)).toNat = m by omega]
 have e3 : leI d 20 = Nat.ble 1 m := by
  rw [leI_eq, Bool.eq_iff_iff, decide_eq_true_eq, Nat.ble_eq]; omega
 have e4 : ∀ (dict : Bool) t c x, Px.growR d dict t c 0 x [] [] = Px.growLoop (Px.growF m) dict t (Nat.ble 1 m) c.toNat 0 x [] [] := by
  intro dict t c x
  unfold Px.growR
  rw [e3, show Px.grow (d + 1) = Px.growF m from funext e2]
  rfl
 have e5 : b.2.2.2.2.1.tmod 4 - 0 = b.2.2.2.2.1.tmod 4 := by omega
 unfold Px.growV Px.growL
 rw [e1, Px.growF]
 unfold w41 g41 b41
 simp only [i1, i2, i3, i4, i5, Tree.get_ite, Tree.get_leaf, cond_true, Px.growR'_eq, e4, e5]
 simp only [i8, cond_true]
 generalize b.1.tmod 8 = k
 cases b.2.2.2.2.2 <;> rcases pick_kind k 1 with ⟨q, rfl⟩ | q
 all_goals first | rfl | skip
 all_goals rcases pick_kind k 2 with ⟨q2, rfl⟩ | q2
 all_goals first | rfl | skip
 all_goals rcases pick_kind k 3 with ⟨q3, rfl⟩ | q3
 all_goals first | rfl | skip
 all_goals rcases pick_kind k 4 with ⟨q4, rfl⟩ | q4
 all_goals first | rfl | skip
 all_goals rcases pick_kind k 7 with ⟨q7, rfl⟩ | q7
 all_goals first | rfl | skip
 all_goals rcases pick_kind k 5 with ⟨q5, rfl⟩ | q5
 all_goals first | rfl | skip
 all_goals rcases pick_kind k 6 with ⟨q6, rfl⟩ | q6
 all_goals first | rfl | skip
 all_goals simp only [q, q2, q3, q4, q5, q6, q7, cond_false, cond_true, Bool.or_false, Bool.false_or, Bool.or_true, Px.vk, Px.vn, Px.vg, Px.vt, Px.vl, Px.vs]
 all_goals rfl
theorem valid41N (hL : Laws E) : ∀ n, Valid E 41 (spec41N n)
 | 0 => Valid.never (fun args os => by
   unfold spec41N
   split
   ·rename_i l d
    have : (leI 0 d && ltI d 22 && leI 22 (d + ((0 : Nat) : Int)) && !l.isEmpty) = false := by
     rw [Bool.eq_false_iff]
     simp only [leI_eq, ltI_eq, Bool.and_eq_true, decide_eq_true_eq, ne_eq]
     omega
    rw [Tree.get_ite, this]; rfl
   ·rfl)
 | n + 1 => (validraw41 hL n (valid41N hL n)).less (fun args os x u1 u2 h => by
   clear u1 u2
   unfold spec41N at h
   split at h
   ·rename_i l d
    rcases Tree.get_ite_some h with ⟨h1, h⟩ | ⟨_, h⟩
    ·simp only [leI_eq, ltI_eq, Bool.and_eq_true, decide_eq_true_eq, Bool.not_eq_true', List.isEmpty_eq_false_iff] at h1
     exact (eq41 h1.1.1.1 h1.1.1.2 h1.1.2 h1.2).trans h
    ·cases h
   ·cases h)
def spec41 : Spec E := fun args os => match args, os with | [.lf (.sl .bit l), .lf (.int .i64 d)], [] => .ite (leI 0 d && ltI d 22 && !l.isEmpty) (.leaf (.tup [(true, [.int .u8 (Px.vk (Px.growV d l)), .int .i64 (Px.vn (Px.growV d l)), .int .i64 (Px.vg (Px.growV d l)), .str (Px.vt (Px.growV d l)), .sl .val (Px.vl (Px.growV d l)), .sl .str (Px.vs (Px.growV d l))]), (false, [.sl .bit (Px.growL d l)])], [])) .fail | _, _ => .fail
theorem valid41 (hL : Laws E) : Valid E 41 spec41 := (valid41N hL 22).less (fun args os x u1 u2 h => by
 clear u1 u2
 unfold spec41 at h
 split at h
 ·rename_i l d
  rcases Tree.get_ite_some h with ⟨h1, h⟩ | ⟨_, h⟩
  ·rw [← h]
   have : (leI 0 d && ltI d 22 && leI 22 (d + ((22 : Nat) : Int)) && !l.isEmpty) = true := by
    simp only [leI_eq, ltI_eq, Bool.and_eq_true, decide_eq_true_eq] at h1 ⊢
    exact ⟨⟨h1.1, by omega⟩, h1.2⟩
   unfold spec41N
   rw [Tree.get_ite, this]; rfl
  ·cases h
 ·cases h)
end Go.Vx
namespace Go.Vx
open Go
def G20 : FuncId → Option (Spec E) | 41 => some spec41 | _ => none
theorem hG20 (hL : Laws E) : ∀ f spec, G20 f = some spec → Valid E f spec := by
 intro f spec h
 unfold G20 at h
 split at h
 ·injection h with h; subst h; exact valid41 hL
 ·cases h
def w20 (a0 : List (Int × Int × Int × List UInt8 × Int × Bool)) : Tree (RV E.A × List (Obj E.A)) := .ite (eqI (↑a0.length : Int) 0) (.leaf (.agg [.int .u8 0, .int .i64 0, .int .i64 0, .str [], .sl .val [], .sl .str []], [])) (.ite (leI 0 (↑(0 : Nat) : Int) && leI (↑(0 : Nat) : Int) (if false = true then Max.max (↑a0.length : Int) (40 : Int) else Min.min (↑a0.length : Int) (40 : Int)) && leI (if false = true then Max.max (↑a0.length : Int) (40 : Int) else Min.min (↑a0.length : Int) (40 : Int)) (↑a0.length : Int)) (.ite (leI 0 0 && ltI 0 22 && !(List.drop (↑(0 : Nat) : Int).toNat (List.take (if false = true then Max.max (↑a0.length : Int) (40 : Int) else Min.min (↑a0.length : Int) (40 : Int)).toNat a0)).isEmpty) (.leaf (.agg [.int .u8 (Px.vk (Px.growV (0 : Int) (List.drop (↑(0 : Nat) : Int).toNat (List.take (if false = true then Max.max (↑a0.length : Int) (40 : Int) else Min.min (↑a0.length : Int) (40 : Int)).toNat a0)))), .int .i64 (Px.vn (Px.growV (0 : Int) (List.drop (↑(0 : Nat) : Int).toNat (List.take (if false = true then Max.max (↑a0.length : Int) (40 : Int) else Min.min (↑a0.length : Int) (40 : Int)).toNat a0)))), .int .i64 (Px.vg (Px.growV (0 : Int) (List.drop (↑(0 : Nat) : Int).toNat (List.take (if false = true then Max.max (↑a0.length : Int) (40 : Int) else Min.min (↑a0.length : Int) (40 : Int)).toNat a0)))), .str (Px.vt (Px.growV (0 : Int) (List.drop (↑(0 : Nat) : Int).toNat (List.take (if false = true then Max.max (↑a0.length : Int) (40 : Int) else Min.min (↑a0.length : Int) (40 : Int)).toNat a0)))), .sl .val (Px.vl (Px.growV (0 : Int) (List.drop (↑(0 : Nat) : Int).toNat (List.take (if false = true then Max.max (↑a0.length : Int) (40 : Int) else Min.min (↑a0.length : Int) (40 : Int)).toNat a0)))), .sl .str (Px.vs (Px.growV (0 : Int) (List.drop (↑(0 : Nat) : Int).toNat (List.take (if false = true then Max.max (↑a0.length : Int) (40 : Int) else Min.min (↑a0.length : Int) (40 : Int)).toNat a0))))], [])) .fail) .fail)
theorem e20 (a0 : List (Int × Int × Int × List UInt8 × Int × Bool)) : execFun E G20 (fun _ _ => .fail) false Go.Proofs.Tryz.f20 [.lf (.sl .bit a0)] [] some = (w20 a0).get := by kernel_rfl
def raw20 : Spec E := fun args os => match args, os with | [.lf (.sl .bit a0)], [] => w20 a0 | _, _ => .fail
theorem validraw20 (hL : Laws E) : Valid E 20 raw20 :=
 valid_of_body hL (hG20 hL) (Λ := fun _ _ => .fail) (fn := Go.Proofs.Tryz.f20) (keep := false) (by kernel_rfl) (by kernel_rfl) (by kernel_rfl) (LamOK.none (by kernel_rfl)) (fun args os r os' h => by
  unfold raw20 at h
  split at h
  ·exact (e20 _).trans h
  ·cases h)
theorem eq20 (l : List Bit) : (w20 l).get = some (.agg [.int .u8 (Px.vk (Px.made l)), .int .i64 (Px.vn (Px.made l)), .int .i64 (Px.vg (Px.made l)), .str (Px.vt (Px.made l)), .sl .val (Px.vl (Px.made l)), .sl .str (Px.vs (Px.made l))], []) := by
 unfold w20 Px.made
 by_cases h : l.length = 0
 ·have e : eqI (l.length : Int) 0 = true := by rw [eqI_eq]; exact decide_eq_true (by omega)
  rw [Tree.get_ite, e, cond_true, if_pos h]
  rfl
 ·have e : eqI (l.length : Int) 0 = false := by rw [eqI_eq]; exact decide_eq_false (by omega)
  have e0 : (if false = true then Max.max (l.length : Int) 40 else Min.min (l.length : Int) 40) = ((Min.min l.length 40 : Nat) : Int) := by
   rw [if_neg (by decide)]; omega
  have e1 : (leI 0 ((0 : Nat) : Int) && leI ((0 : Nat) : Int) ((Min.min l.length 40 : Nat) : Int) && leI ((Min.min l.length 40 : Nat) : Int) (l.length : Int)) = true := by
   simp only [leI_eq, Bool.and_eq_true, decide_eq_true_eq]
   omega
  have e2 : List.take (Min.min l.length 40) l = l.take 40 := by
   by_cases hc : 40 ≤ l.length
   ·rw [Nat.min_eq_right hc]
   ·rw [Nat.min_eq_left (by omega), List.take_of_length_le (Nat.le_refl _), List.take_of_length_le (by omega)]
  have e3 : (leI 0 0 && ltI 0 22 && !(l.take 40).isEmpty) = true := by
   rw [show (l.take 40).isEmpty = false from ?_]
   ·rfl
   ·rw [List.isEmpty_eq_false_iff]
    intro hh
    have := congrArg List.length hh
    rw [List.length_take, List.length_nil] at this
    omega
  rw [if_neg h]
  simp only [Tree.get_ite, Tree.get_leaf, e, cond_false, e0, e1, cond_true, Int.toNat_natCast, List.drop_zero, e2, e3]
def spec20 : Spec E := fun args os => match args, os with | [.lf (.sl .bit l)], [] => .leaf (.agg [.int .u8 (Px.vk (Px.made l)), .int .i64 (Px.vn (Px.made l)), .int .i64 (Px.vg (Px.made l)), .str (Px.vt (Px.made l)), .sl .val (Px.vl (Px.made l)), .sl .str (Px.vs (Px.made l))], []) | _, _ => .fail
theorem valid20 (hL : Laws E) : Valid E 20 spec20 := (validraw20 hL).less (fun args os x u1 u2 h => by
 clear u1 u2
 unfold spec20 at h
 split at h
 ·rename_i l
  exact (eq20 l).trans h
 ·cases h)
end Go.Vx
end
