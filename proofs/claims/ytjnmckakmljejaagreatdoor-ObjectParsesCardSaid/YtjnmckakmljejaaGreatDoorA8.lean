/-
  Part 8 of the proof: the second reading of the model, its laws, and the functions' contracts. Lemmas alone.
-/
import Derived.Test.YtjnmckakmljejaaGreatDoorRows
import Derived.WalkKit
import Derived.ProofKit
import Derived.OpenShut
import Derived.ShutString
import Derived.ChangeOld
import Derived.Below
import Derived.SizedLaws
import Derived.LaidSub
import Derived.Lib.LaidTab
import Derived.Lib.LaidU8
import Derived.LaidLaws
import Derived.WideShapes
import Derived.Test.YtjnmckakmljejaaGreatDoorA2
import Derived.Test.YtjnmckakmljejaaGreatDoorA4
import Derived.Test.YtjnmckakmljejaaGreatDoorA6
import Derived.Test.YtjnmckakmljejaaGreatDoorA7
set_option linter.unusedSectionVars false
set_option linter.unusedVariables false
set_option linter.unusedSimpArgs false
namespace Go.Vx
open Go
noncomputable def spec18N (n : Nat) : Spec E := fun args os => match args, os with
  | [.agg [.int .u8 a0, .int .i64 a1, .int .i64 a2, .str a3, .sl .val a4, .sl .str a5]], [] =>
    .ite (Nat.blt (Px.depthL a4) n && Px.smallV (Val.mk a0 a1 a2 a3 a4 a5)) (.leaf (.agg [.int .u8 a0, .int .i64 a1, .int .i64 a2, .str a3, .sl .val a4, .sl .str a5], [])) .fail
  | _, _ => .fail
noncomputable def G18 (n : Nat) : FuncId → Option (Spec E)
  | 18 => some (spec18N n)
  | _ => none
theorem hG18 (hL : Laws E) (n : Nat) (hN : Valid E 18 (spec18N n)) : ∀ f spec, (G18 n) f = some spec → Valid E f spec := by
  intro f spec h
  unfold G18 at h
  split at h
  · injection h with h; subst h; exact hN
  · cases h
def L18_0 : Ex → Live
  | .normal => ⟨[2, 3, 18, 19, 20], [192, 256]⟩
  | .exit 0 => ⟨[2, 3], [192, 256]⟩
  | .ret => ⟨[2], [192, 256]⟩
  | _ => ⟨[], []⟩
noncomputable def S18_0 (p18 : List Val) (p19 : Int) (x : Int × Int × Int × Int × (List UInt8) × (List Val) × (List (List UInt8)) × Int × Int × Int × (List UInt8) × (List Val) × (List (List UInt8))) : St E.A := at' E 33 [(2, .lf (.ptr 192 0 0)), (3, .lf (.ptr 256 0 0)), (18, .lf (.sl .val p18)), (19, .lf (.int .i64 p19)), (20, .lf (.int .i64 x.1))] [(192, some (.cells 36 [.int .u8 x.2.1, .int .i64 x.2.2.1, .int .i64 x.2.2.2.1, .str x.2.2.2.2.1, .own 0 0 .val x.2.2.2.2.2.1, .own 1 0 .str x.2.2.2.2.2.2.1])), (256, some (.cells 36 [.int .u8 x.2.2.2.2.2.2.2.1, .int .i64 x.2.2.2.2.2.2.2.2.1, .int .i64 x.2.2.2.2.2.2.2.2.2.1, .str x.2.2.2.2.2.2.2.2.2.2.1, .own 2 0 .val x.2.2.2.2.2.2.2.2.2.2.2.1, .sl .str x.2.2.2.2.2.2.2.2.2.2.2.2]))]
noncomputable def t18_0 (n : Nat) (p18 : List Val) (p19 : Int) (x : Int × Int × Int × Int × (List UInt8) × (List Val) × (List (List UInt8)) × Int × Int × Int × (List UInt8) × (List Val) × (List (List UInt8))) : Tree (Int × Int × Int × Int × (List UInt8) × (List Val) × (List (List UInt8)) × Int × Int × Int × (List UInt8) × (List Val) × (List (List UInt8)) ⊕ Out' E) :=
 .ite (ltI x.fst p19)
 (.ite (inB x.fst p18.length)
  (.ite ((Px.depthL (Px.vl (p18.getD x.fst.toNat (Val.mk (0 : Int) (0 : Int) (0 : Int) [] [] [])))).blt n && Px.smallV (Val.mk (Px.vk (p18.getD x.fst.toNat (Val.mk (0 : Int) (0 : Int) (0 : Int) [] [] []))) (Px.vn (p18.getD x.fst.toNat (Val.mk (0 : Int) (0 : Int) (0 : Int) [] [] []))) (Px.vg (p18.getD x.fst.toNat (Val.mk (0 : Int) (0 : Int) (0 : Int) [] [] []))) (Px.vt (p18.getD x.fst.toNat (Val.mk (0 : Int) (0 : Int) (0 : Int) [] [] []))) (Px.vl (p18.getD x.fst.toNat (Val.mk (0 : Int) (0 : Int) (0 : Int) [] [] []))) (Px.vs (p18.getD x.fst.toNat (Val.mk (0 : Int) (0 : Int) (0 : Int) [] [] [])))))
   (.ite (decide ((x.snd.snd.snd.snd.snd.snd.snd.snd.snd.snd.snd.fst.length + [Val.mk (Px.vk (p18.getD x.fst.toNat (Val.mk (0 : Int) (0 : Int) (0 : Int) [] [] []))) (Px.vn (p18.getD x.fst.toNat (Val.mk (0 : Int) (0 : Int) (0 : Int) [] [] []))) (Px.vg (p18.getD x.fst.toNat (Val.mk (0 : Int) (0 : Int) (0 : Int) [] [] []))) (Px.vt (p18.getD x.fst.toNat (Val.mk (0 : Int) (0 : Int) (0 : Int) [] [] []))) (Px.vl (p18.getD x.fst.toNat (Val.mk (0 : Int) (0 : Int) (0 : Int) [] [] []))) (Px.vs (p18.getD x.fst.toNat (Val.mk (0 : Int) (0 : Int) (0 : Int) [] [] [])))].length) * (88 : Nat) ≤ (140737488355328 : Nat)))
    (.leaf (.inl ((IntKind.i64.wrap (x.fst + (1 : Int))), x.snd.fst, x.snd.snd.fst, x.snd.snd.snd.fst, x.snd.snd.snd.snd.fst, x.snd.snd.snd.snd.snd.fst, x.snd.snd.snd.snd.snd.snd.fst, x.snd.snd.snd.snd.snd.snd.snd.fst, x.snd.snd.snd.snd.snd.snd.snd.snd.fst, x.snd.snd.snd.snd.snd.snd.snd.snd.snd.fst, x.snd.snd.snd.snd.snd.snd.snd.snd.snd.snd.fst, (x.snd.snd.snd.snd.snd.snd.snd.snd.snd.snd.snd.fst ++ [Val.mk (Px.vk (p18.getD x.fst.toNat (Val.mk (0 : Int) (0 : Int) (0 : Int) [] [] []))) (Px.vn (p18.getD x.fst.toNat (Val.mk (0 : Int) (0 : Int) (0 : Int) [] [] []))) (Px.vg (p18.getD x.fst.toNat (Val.mk (0 : Int) (0 : Int) (0 : Int) [] [] []))) (Px.vt (p18.getD x.fst.toNat (Val.mk (0 : Int) (0 : Int) (0 : Int) [] [] []))) (Px.vl (p18.getD x.fst.toNat (Val.mk (0 : Int) (0 : Int) (0 : Int) [] [] []))) (Px.vs (p18.getD x.fst.toNat (Val.mk (0 : Int) (0 : Int) (0 : Int) [] [] [])))]), x.snd.snd.snd.snd.snd.snd.snd.snd.snd.snd.snd.snd)))
    (.fail))
   (.fail))
  (.fail))
 (.leaf (.inr (.exit 0, at' E 33 [(2, .lf (.ptr 192 0 0)), (3, .lf (.ptr 256 0 0))] [(192, some (.cells 36 [.int .u8 x.snd.fst, .int .i64 x.snd.snd.fst, .int .i64 x.snd.snd.snd.fst, .str x.snd.snd.snd.snd.fst, .own 0 0 .val x.snd.snd.snd.snd.snd.fst, .own 1 0 .str x.snd.snd.snd.snd.snd.snd.fst])), (256, some (.cells 36 [.int .u8 x.snd.snd.snd.snd.snd.snd.snd.fst, .int .i64 x.snd.snd.snd.snd.snd.snd.snd.snd.fst, .int .i64 x.snd.snd.snd.snd.snd.snd.snd.snd.snd.fst, .str x.snd.snd.snd.snd.snd.snd.snd.snd.snd.snd.fst, .own 2 0 .val x.snd.snd.snd.snd.snd.snd.snd.snd.snd.snd.snd.fst, .sl .str x.snd.snd.snd.snd.snd.snd.snd.snd.snd.snd.snd.snd]))])))
theorem h18_0 (n : Nat) (p18 : List Val) (p19 : Int) (x : Int × Int × Int × Int × (List UInt8) × (List Val) × (List (List UInt8)) × Int × Int × Int × (List UInt8) × (List Val) × (List (List UInt8))) (k : Ex → St E.A → Option Unit) :
    exec E (G18 n) (fun _ _ => .fail) 1 (lb Go.Proofs.Tryz.f18 0) (S18_0 p18 p19 x) (fun e σ1 => k e (clean E (L18_0 e) σ1)) = (t18_0 n p18 p19 x).run (Sum.elim (fun x' => k .normal (S18_0 p18 p19 x')) (fun o => k o.1 o.2)) := by kernel_rfl
noncomputable def lam18_0 (n : Nat) (p18 : List Val) (p19 : Int) (x : Int × Int × Int × Int × (List UInt8) × (List Val) × (List (List UInt8)) × Int × Int × Int × (List UInt8) × (List Val) × (List (List UInt8))) : Tree (Out' E) :=
  .ite (eqI p19 p18.length && leI 0 x.1 && leI x.1 p19 && Nat.ble (Px.depthL p18) n && Px.smallL p18 && leI p19 1000000 && leI x.2.2.2.2.2.2.2.2.2.2.2.1.length x.1)
   (.leaf (.exit 0, at' E 33 [(2, .lf (.ptr 192 0 0)), (3, .lf (.ptr 256 0 0))] [(192, some (.cells 36 [.int .u8 x.2.1, .int .i64 x.2.2.1, .int .i64 x.2.2.2.1, .str x.2.2.2.2.1, .own 0 0 .val (x.2.2.2.2.2.1), .own 1 0 .str (x.2.2.2.2.2.2.1)])), (256, some (.cells 36 [.int .u8 x.2.2.2.2.2.2.2.1, .int .i64 x.2.2.2.2.2.2.2.2.1, .int .i64 x.2.2.2.2.2.2.2.2.2.1, .str x.2.2.2.2.2.2.2.2.2.2.1, .own 2 0 .val (x.2.2.2.2.2.2.2.2.2.2.2.1 ++ p18.drop x.1.toNat), .sl .str (x.2.2.2.2.2.2.2.2.2.2.2.2)]))])) .fail
theorem m18_0 {n : Nat} {p18 : List Val} {p19 : Int} {x : Int × Int × Int × Int × (List UInt8) × (List Val) × (List (List UInt8)) × Int × Int × Int × (List UInt8) × (List Val) × (List (List UInt8))} {e : Ex} {σ : St E.A} (g : okLenR (E := E) (.lf (.sl .val p18)) = true) (_ : okLenO (E := E) (.cells 36 [.int .u8 x.2.1, .int .i64 x.2.2.1, .int .i64 x.2.2.2.1, .str x.2.2.2.2.1, .own 0 0 .val (x.2.2.2.2.2.1), .own 1 0 .str (x.2.2.2.2.2.2.1)]) = true) (_ : okLenO (E := E) (.cells 36 [.int .u8 x.2.2.2.2.2.2.2.1, .int .i64 x.2.2.2.2.2.2.2.2.1, .int .i64 x.2.2.2.2.2.2.2.2.2.1, .str x.2.2.2.2.2.2.2.2.2.2.1, .own 2 0 .val (x.2.2.2.2.2.2.2.2.2.2.2.1), .sl .str (x.2.2.2.2.2.2.2.2.2.2.2.2)]) = true)
    (h : (lam18_0 n p18 p19 x).get = some (e, σ)) : ∃ fuel, iter (t18_0 n p18 p19) fuel x = some (e, σ) ∧ e ≠ .normal := by
  have hb : p18.length ≤ big := of_decide_eq_true g
  obtain ⟨z, a0, a1, a2, a3, a4, a5, b0, b1, b2, b3, b4, b5⟩ := x
  unfold lam18_0 at h
  have h' := Tree.get_ite_some h
  clear h
  rcases h' with ⟨h1, h⟩ | ⟨_, h⟩
  · simp only [eqI_eq, leI_eq, Bool.and_eq_true, decide_eq_true_eq, Nat.ble_eq] at h1
    obtain ⟨⟨⟨⟨⟨⟨rfl, k1⟩, k2⟩, k3⟩, k4⟩, k5⟩, k6⟩ := h1
    obtain ⟨i, rfl⟩ : ∃ j : Nat, z = (j : Int) := ⟨z.toNat, by omega⟩
    have key := range_iter (O := Out' E) (t := t18_0 n p18 p18.length) (l := p18) Px.v0 (fun (a : List Val) (i : Int) => (i, a0, a1, a2, a3, a4, a5, b0, b1, b2, b3, a, b5))
      (fun _ a v => (.inl (a ++ [v]) : List Val ⊕ Out' E)) (fun a => (Ex.exit 0, at' E 33 [(2, .lf (.ptr 192 0 0)), (3, .lf (.ptr 256 0 0))] [(192, some (.cells 36 [.int .u8 a0, .int .i64 a1, .int .i64 a2, .str a3, .own 0 0 .val (a4), .own 1 0 .str (a5)])), (256, some (.cells 36 [.int .u8 b0, .int .i64 b1, .int .i64 b2, .str b3, .own 2 0 .val (a), .sl .str (b5)]))])) (fun i a => a.length ≤ i)
      (fun i a hi ho => by
        have hd : (Px.depthL (Px.vl (p18.getD i Px.v0))).blt n = true := by
          have h1 := Px.depth_get hi
          rw [Px.depth_vl] at h1
          exact Nat.ble_eq ▸ Nat.le_trans h1 k3
        have hz : (Val.mk (0 : Int) (0 : Int) (0 : Int) [] [] []) = Px.v0 := rfl
        have e4 : ∀ v : Val, decide ((a.length + [v].length) * (88 : Nat) ≤ (140737488355328 : Nat)) = true := fun v => decide_eq_true (by simp only [List.length_cons, List.length_nil]; omega)
        refine ⟨?_, fun a' ha => ?_⟩
        · unfold t18_0
          simp only [Tree.get_ite, Tree.get_leaf, ltI_nat hi, inB_nat hi, cond_true, i64_succ hi hb, Int.toNat_natCast, hz, hd, Px.v_eta, Px.small_get k4 hi, Bool.and_self, e4]
        · injection ha with ha
          subst ha
          rw [List.length_append]
          exact Nat.succ_le_succ ho)
      (fun a ho => by unfold t18_0; simp only [Tree.get_ite, Tree.get_leaf, ltI_self, cond_false])
      (p18.length - i) i b4 (by omega) (by omega)
    rw [Px.run_app] at key
    injection h with h
    injection h with h1 h2
    subst h1
    refine ⟨_, key.trans ?_, fun hh => by cases hh⟩
    rw [← h2, Int.toNat_natCast]
  · cases h
noncomputable def rd18_0 (n : Nat) (σ : St E.A) : Tree (Out' E) :=
  let c := clean E (L18_0 .normal) σ
  if c.sl.length = 33 then
  match c.sl.getD 2 .undef, c.sl.getD 3 .undef, c.sl.getD 18 .undef, c.sl.getD 19 .undef, c.sl.getD 20 .undef, c.ob 192, c.ob 256 with
  | .lf (.ptr 192 0 0), .lf (.ptr 256 0 0), .lf (.sl .val p18), .lf (.int .i64 p19), .lf (.int .i64 x20), some (.cells 36 [.int .u8 o192a, .int .i64 o192b, .int .i64 o192c, .str o192d, .own 0 0 .val o192e, .own 1 0 .str o192f]), some (.cells 36 [.int .u8 o256a, .int .i64 o256b, .int .i64 o256c, .str o256d, .own 2 0 .val o256e, .sl .str o256f]) => lam18_0 n p18 p19 (x20, o192a, o192b, o192c, o192d, o192e, o192f, o256a, o256b, o256c, o256d, o256e, o256f)
  | _, _, _, _, _, _, _ => .fail
  else .fail
theorem ll18_0 (hL : Laws E) (n : Nat) (hN : Valid E 18 (spec18N n)) (σ : St E.A) (e : Ex) (σ' : St E.A) (h : (rd18_0 n σ).get = some (e, σ')) : LoopOK E (lb Go.Proofs.Tryz.f18 0) σ e σ' := by
  refine LoopOK.of_clean hL (L18_0 .normal) ?_
  unfold rd18_0 at h
  simp only at h
  split at h
  · rename_i hlen
    split at h
    · rename_i p18 p19 x20 o192a o192b o192c o192d o192e o192f o256a o256b o256c o256d o256e o256f h0 h1 h2 h3 h4 h5 h6
      refine LoopOK.lens 18 (fun g0 => ?_)
      rw [h2] at g0
      refine LoopOK.lensO 192 (fun gg => ?_)
      have g1 := gg _ h5
      refine LoopOK.lensO 256 (fun gg => ?_)
      have g2 := gg _ h6
      obtain ⟨fuel, hi, ho⟩ := m18_0 g0 g1 g2 h
      have hl := loop_at (Γ := (G18 n)) (Λ := fun _ _ => .fail) (n := 1) (body := lb Go.Proofs.Tryz.f18 0) hL (hG18 hL n hN) (S := S18_0 p18 p19) (t := t18_0 n p18 p19) (Lv := L18_0) (LamOK.none (by kernel_rfl)) (h18_0 n p18 p19) hi ho
      refine LoopOK.fit hlen ?_ ?_ rfl rfl hl
      · exact ⟨h0, h1, h2, h3, h4, trivial⟩
      · exact ⟨h5, h6, trivial⟩
    · cases h
  · cases h
noncomputable def Lam18 (n : Nat) : Lam E
  | 0, σ => rd18_0 n σ
  | _, _ => .fail
noncomputable def w18 (n : Nat) (a0Kind : Int) (a0Num : Int) (a0Gen : Int) (a0Text : List UInt8) (a0List : List Val) (a0Keys : List (List UInt8)) : Tree (RV E.A × List (Obj E.A)) :=
 .ite (eqI (↑a0List.length : Int) (↑a0List.length : Int) && leI (0 : Int) (0 : Int) && leI (0 : Int) (↑a0List.length : Int) && (Px.depthL a0List).ble n && Px.smallL a0List && leI (↑a0List.length : Int) (1000000 : Int) && leI (↑([] : List UInt8).length : Int) (0 : Int))
 (.leaf (.agg [.int .u8 a0Kind, .int .i64 a0Num, .int .i64 a0Gen, .str a0Text, .sl .val ([] ++ List.drop (Int.toNat (0 : Int)) a0List), .sl .str a0Keys], []))
 (.fail)
theorem e18 (n : Nat) (a0Kind : Int) (a0Num : Int) (a0Gen : Int) (a0Text : List UInt8) (a0List : List Val) (a0Keys : List (List UInt8)) : execFun E (G18 n) ((Lam18 n)) false Go.Proofs.Tryz.f18 [.agg [.int .u8 a0Kind, .int .i64 a0Num, .int .i64 a0Gen, .str a0Text, .sl .val a0List, .sl .str a0Keys]] [] some = (w18 n a0Kind a0Num a0Gen a0Text a0List a0Keys).get := by kernel_rfl
noncomputable def raw18 (n : Nat) : Spec E := fun args os => match args, os with
  | [.agg [.int .u8 a0Kind, .int .i64 a0Num, .int .i64 a0Gen, .str a0Text, .sl .val a0List, .sl .str a0Keys]], [] => w18 n a0Kind a0Num a0Gen a0Text a0List a0Keys
  | _, _ => .fail
theorem validraw18 (hL : Laws E) (n : Nat) (hN : Valid E 18 (spec18N n)) : Valid E 18 (raw18 n) :=
  valid_of_body hL (hG18 hL n hN) (Λ := (Lam18 n)) (fn := Go.Proofs.Tryz.f18) (keep := false) (by kernel_rfl) (by kernel_rfl) (by kernel_rfl) ((LamOK.of (m := 1) (by kernel_rfl) (fun j hj σ e σ' hg => by
      match j, hj with
      | 0, _ => exact ll18_0 hL n hN σ e σ' hg
      ))) (fun args os r os' h => by
    unfold raw18 at h
    split at h
    · exact (e18 _ _ _ _ _ _ _).trans h
    · cases h)
theorem eq18 {n : Nat} (k a1 a2 : Int) (a3 : List UInt8) {a4 : List Val} (a5 : List (List UInt8)) (hn : Nat.ble (Px.depthL a4) n = true) (hs : Px.smallV (Val.mk k a1 a2 a3 a4 a5) = true) :
    (w18 n k a1 a2 a3 a4 a5).get = some (.agg [.int .u8 k, .int .i64 a1, .int .i64 a2, .str a3, .sl .val a4, .sl .str a5], []) := by
  rw [Px.smallV, Bool.and_eq_true, Bool.and_eq_true] at hs
  obtain ⟨s1, s2, s3⟩ := hs
  have s1 := Nat.le_of_ble_eq_true s1
  have g : (eqI (a4.length : Int) (a4.length : Int) && leI 0 0 && leI 0 (a4.length : Int) && (Px.depthL a4).ble n && Px.smallL a4 && leI (a4.length : Int) 1000000 && leI (([] : List UInt8).length : Int) 0) = true := by
    rw [hn, s3]
    simp [eqI_eq, leI_eq]
    omega
  unfold w18
  rw [Tree.get_ite, g]
  rfl
theorem valid18N (hL : Laws E) : ∀ n, Valid E 18 (spec18N n)
  | 0 => Valid.never (fun args os => by
      unfold spec18N
      split
      · rfl
      · rfl)
  | n + 1 => (validraw18 hL n (valid18N hL n)).less (fun args os x u1 u2 h => by
      clear u1 u2
      unfold spec18N at h
      split at h
      · rename_i a0 a1 a2 a3 a4 a5
        rcases Tree.get_ite_some h with ⟨h1, h'⟩ | ⟨_, h'⟩
        · rw [Bool.and_eq_true] at h1
          exact (eq18 a0 a1 a2 a3 a5 h1.1 h1.2).trans h'
        · cases h'
      · cases h)
noncomputable def spec18 : Spec E := fun args os => match args, os with
  | [.agg [.int .u8 a0, .int .i64 a1, .int .i64 a2, .str a3, .sl .val a4, .sl .str a5]], [] =>
    .ite (Px.smallV (Val.mk a0 a1 a2 a3 a4 a5)) (.leaf (.agg [.int .u8 a0, .int .i64 a1, .int .i64 a2, .str a3, .sl .val a4, .sl .str a5], [])) .fail
  | _, _ => .fail
theorem valid18 (hL : Laws E) : Valid E 18 spec18 := Valid.forN (valid18N hL) (fun args os x h => by
  unfold spec18 at h
  split at h
  · rename_i a0 a1 a2 a3 a4 a5
    refine ⟨Px.depthL a4 + 1, ?_⟩
    rcases Tree.get_ite_some h with ⟨h1, h'⟩ | ⟨_, h'⟩
    · unfold spec18N
      have : Nat.blt (Px.depthL a4) (Px.depthL a4 + 1) = true := Nat.ble_eq ▸ Nat.le_refl _
      rw [Tree.get_ite, this, Bool.true_and, h1]
      exact h'
    · cases h'
  · cases h)
end Go.Vx
namespace Go.Vx
open Go
noncomputable def G4 : FuncId → Option (Spec E)
  | 10 => some spec10
  | 11 => some spec11
  | 14 => some spec14
  | 15 => some spec15
  | 16 => some spec16
  | 17 => some spec17
  | 18 => some spec18
  | 19 => some spec19
  | _ => none
theorem hG4 (hL : Laws E) : ∀ f spec, G4 f = some spec → Valid E f spec := by
  intro f spec h
  unfold G4 at h
  split at h
  · injection h with h; subst h; exact valid10 hL
  · injection h with h; subst h; exact valid11 hL
  · injection h with h; subst h; exact valid14 hL
  · injection h with h; subst h; exact valid15 hL
  · injection h with h; subst h; exact valid16 hL
  · injection h with h; subst h; exact valid17 hL
  · injection h with h; subst h; exact valid18 hL
  · injection h with h; subst h; exact valid19 hL
  · cases h
noncomputable def w4 (a0 : List UInt8) : Tree (RV E.A × List (Obj E.A)) :=
 .ite (leI (0 : Int) (300 : Int) && decide (a0.length ≤ (140737488355328 : Nat)))
 (.ite (Px.okAt (List.take (Int.toNat (300 : Int)) a0) (0 : Int))
  (.ite (Px.okAt (List.take (Int.toNat (300 : Int)) a0) (0 : Int) && Px.rSmall (List.take (Int.toNat (300 : Int)) a0))
   (.ite (!(Px.rParse (List.take (Int.toNat (300 : Int)) a0)).snd.snd)
    (.ite (eqI (Px.oParse (List.take (Int.toNat (300 : Int)) a0)).snd.snd (2 : Int))
     (.ite (eqI (Px.oParse (List.take (Int.toNat (300 : Int)) a0)).snd.fst (0 : Int))
      (.leaf (.lf (.bool (Px.alike (Val.mk (Px.vk (Px.oParse (List.take (Int.toNat (300 : Int)) a0)).fst) (Px.vn (Px.oParse (List.take (Int.toNat (300 : Int)) a0)).fst) (Px.vg (Px.oParse (List.take (Int.toNat (300 : Int)) a0)).fst) (Px.vt (Px.oParse (List.take (Int.toNat (300 : Int)) a0)).fst) (Px.vl (Px.oParse (List.take (Int.toNat (300 : Int)) a0)).fst) (Px.vs (Px.oParse (List.take (Int.toNat (300 : Int)) a0)).fst)) (Val.mk (0 : Int) (0 : Int) (0 : Int) [] [] []))), []))
      (.leaf (.lf (.bool false), [])))
     (.ite (eqI (Px.oParse (List.take (Int.toNat (300 : Int)) a0)).snd.snd (14 : Int))
      (.ite (eqI (Px.oParse (List.take (Int.toNat (300 : Int)) a0)).snd.fst (0 : Int))
       (.leaf (.lf (.bool (Px.alike (Val.mk (Px.vk (Px.oParse (List.take (Int.toNat (300 : Int)) a0)).fst) (Px.vn (Px.oParse (List.take (Int.toNat (300 : Int)) a0)).fst) (Px.vg (Px.oParse (List.take (Int.toNat (300 : Int)) a0)).fst) (Px.vt (Px.oParse (List.take (Int.toNat (300 : Int)) a0)).fst) (Px.vl (Px.oParse (List.take (Int.toNat (300 : Int)) a0)).fst) (Px.vs (Px.oParse (List.take (Int.toNat (300 : Int)) a0)).fst)) (Val.mk (0 : Int) (0 : Int) (0 : Int) [] [] []))), []))
       (.leaf (.lf (.bool false), [])))
      (.leaf (.lf (.bool false), []))))
    (.ite (eqI (Px.oParse (List.take (Int.toNat (300 : Int)) a0)).snd.snd (0 : Int))
     (.ite (eqI (Px.oParse (List.take (Int.toNat (300 : Int)) a0)).snd.fst (Px.rParse (List.take (Int.toNat (300 : Int)) a0)).snd.fst)
      (.ite (Px.smallV (Val.mk (Px.vk (Px.oParse (List.take (Int.toNat (300 : Int)) a0)).fst) (Px.vn (Px.oParse (List.take (Int.toNat (300 : Int)) a0)).fst) (Px.vg (Px.oParse (List.take (Int.toNat (300 : Int)) a0)).fst) (Px.vt (Px.oParse (List.take (Int.toNat (300 : Int)) a0)).fst) (Px.vl (Px.oParse (List.take (Int.toNat (300 : Int)) a0)).fst) (Px.vs (Px.oParse (List.take (Int.toNat (300 : Int)) a0)).fst)))
       (.ite (Px.alike (Val.mk (Px.vk (Px.oParse (List.take (Int.toNat (300 : Int)) a0)).fst) (Px.vn (Px.oParse (List.take (Int.toNat (300 : Int)) a0)).fst) (Px.vg (Px.oParse (List.take (Int.toNat (300 : Int)) a0)).fst) (Px.vt (Px.oParse (List.take (Int.toNat (300 : Int)) a0)).fst) (Px.vl (Px.oParse (List.take (Int.toNat (300 : Int)) a0)).fst) (Px.vs (Px.oParse (List.take (Int.toNat (300 : Int)) a0)).fst)) (Val.mk (Px.vk (Px.rParse (List.take (Int.toNat (300 : Int)) a0)).fst) (Px.vn (Px.rParse (List.take (Int.toNat (300 : Int)) a0)).fst) (Px.vg (Px.rParse (List.take (Int.toNat (300 : Int)) a0)).fst) (Px.vt (Px.rParse (List.take (Int.toNat (300 : Int)) a0)).fst) (Px.vl (Px.rParse (List.take (Int.toNat (300 : Int)) a0)).fst) (Px.vs (Px.rParse (List.take (Int.toNat (300 : Int)) a0)).fst)))
        (.leaf (.lf (.bool (Px.okV (0 : Int) (Val.mk (Px.vk (Px.oParse (List.take (Int.toNat (300 : Int)) a0)).fst) (Px.vn (Px.oParse (List.take (Int.toNat (300 : Int)) a0)).fst) (Px.vg (Px.oParse (List.take (Int.toNat (300 : Int)) a0)).fst) (Px.vt (Px.oParse (List.take (Int.toNat (300 : Int)) a0)).fst) (Px.vl (Px.oParse (List.take (Int.toNat (300 : Int)) a0)).fst) (Px.vs (Px.oParse (List.take (Int.toNat (300 : Int)) a0)).fst)))), []))
        (.leaf (.lf (.bool false), [])))
       (.fail))
      (.leaf (.lf (.bool false), [])))
     (.leaf (.lf (.bool false), []))))
   (.fail))
  (.fail))
 (.fail)
theorem e4 (a0 : List UInt8) : execFun E G4 (fun _ _ => .fail) false Go.Proofs.Tryz.f4 [.lf (.sl .u8 a0)] [] some = (w4 a0).get := by kernel_rfl
noncomputable def spec4 : Spec E := fun args os => match args, os with
  | [.lf (.sl .u8 a0)], [] => w4 a0
  | _, _ => .fail
theorem valid4 (hL : Laws E) : Valid E 4 spec4 :=
  valid_of_body hL (hG4 hL) (Λ := fun _ _ => .fail) (fn := Go.Proofs.Tryz.f4) (keep := false) (by kernel_rfl) (by kernel_rfl) (by kernel_rfl) (LamOK.none (by kernel_rfl)) (fun args os r os' h => by
    unfold spec4 at h
    split at h
    · exact (e4 _).trans h
    · cases h)
end Go.Vx
namespace Px
open Go.Vx Go
/-! ### blanks -/
theorem skipN_stop : ∀ (l : List UInt8) (c : Bool), skipN false (l.drop (skipN c l)) = 0
  | [], c => by cases c <;> rfl
  | b :: r, true => by
    rw [skipN, List.drop_succ_cons]
    exact skipN_stop r _
  | b :: r, false => by
    rw [skipN]
    cases q1 : eqI (b.toNat : Int) 37
    · simp only [cond_false]
      cases q2 : blank (b.toNat : Int)
      · simp only [cond_false, List.drop_zero]
        rw [skipN, q1, q2]; rfl
      · simp only [cond_true, List.drop_succ_cons]
        exact skipN_stop r false
    · simp only [cond_true, List.drop_succ_cons]
      exact skipN_stop r true
theorem skipI_eq {p : List UInt8} {i : Int} (h : okAt p i = true) : skipI p i = i + (skipN false (p.drop i.toNat) : Int) := by
  obtain ⟨h0, h1, _⟩ := okAt_iff.1 h
  have e : (ltI i 0 || ltI (p.length : Int) i) = false := by
    rw [Bool.or_eq_false_iff, ltI_eq, ltI_eq]; exact ⟨decide_eq_false (by omega), decide_eq_false (by omega)⟩
  unfold skipI
  rw [e]; rfl
theorem skipI_idem {p : List UInt8} {i : Int} (h : okAt p i = true) : skipI p (skipI p i) = skipI p i := by
  have h1 := ok_skip h
  rw [skipI_eq h1]
  have e : p.drop (skipI p i).toNat = (p.drop i.toNat).drop (skipN false (p.drop i.toNat)) := by
    rw [List.drop_drop, skipI_eq h]
    congr 1
    have := (okAt_iff.1 h).1
    omega
  rw [e, skipN_stop]
  omega
/-! ### bytes at a place -/
theorem pre_byte {p : List UInt8} {s : Int} {c : UInt8} (h0 : 0 ≤ s) (h1 : s < p.length) : preAt p s [c] = eqI (rByte p s) (c.toNat : Int) := by
  obtain ⟨n, rfl⟩ : ∃ j : Nat, s = (j : Int) := ⟨s.toNat, by omega⟩
  have hn : n < p.length := by omega
  unfold preAt hasPre rByte
  rw [Int.toNat_natCast, drop_cons p 0 n hn, u8_eq]
  refine decide_eq_decide.2 ?_
  simp
theorem pre_end {p : List UInt8} {s : Int} {c : UInt8} {r : List UInt8} (h : (p.length : Int) ≤ s) : preAt p s (c :: r) = false := by
  unfold preAt hasPre
  rw [List.drop_eq_nil_of_le (by omega)]
  rfl
theorem word_end {p : List UInt8} {s : Int} (h : (p.length : Int) ≤ s) : wordS p s = [] := by
  unfold wordS
  rw [List.drop_eq_nil_of_le (by omega)]
  rfl
theorem word_stop {p : List UInt8} {s : Int} (h0 : 0 ≤ s) (h1 : s < p.length) (h : stopB (p.getD s.toNat 0) = true) : wordS p s = [] := by
  obtain ⟨n, rfl⟩ : ∃ j : Nat, s = (j : Int) := ⟨s.toNat, by omega⟩
  have hn : n < p.length := by omega
  rw [Int.toNat_natCast] at h
  unfold wordS
  rw [Int.toNat_natCast, drop_cons p 0 n hn, wordN, h]
  rfl
theorem plain_hash {s : List UInt8} (h : plain s = true) : leI 0 (Lib.indexByte s 35) = false := by
  unfold plain at h
  rw [Bool.and_eq_true, Bool.not_eq_true', Bool.not_eq_true'] at h
  have h2 := h.2
  unfold anyBad at h2
  rw [List.any_eq_false] at h2
  have : Lib.indexByte s 35 = -1 := indexByte_none (fun b hb hh => by
    subst hh
    exact h2 35 hb (by decide))
  rw [this]; rfl
theorem oName_eq (p : List UInt8) (i : Int) : (eqI (oName p i).2.1 0 = plain (wordS p i)) ∧ (plain (wordS p i) = true → oName p i = (wordS p i, 0, wordE p i)) := by
  unfold oName
  cases q : plain (wordS p i)
  · refine ⟨?_, fun h => by cases h⟩
    cases leI 0 (Lib.indexByte (wordS p i) 35) <;> rfl
  · rw [plain_hash q]
    exact ⟨rfl, fun _ => rfl⟩
/-! ### generations cut -/
mutual
def clamp : Val → Val | .mk k n g t l ks => .mk k n (min g 100000) t (clamps l) ks
def clamps : List Val → List Val | [] => [] | v :: r => clamp v :: clamps r
end
theorem clamps_app : ∀ (l : List Val) (v : Val), clamps (l ++ [v]) = clamps l ++ [clamp v]
  | [], v => by rw [List.nil_append, clamps, clamps, clamps]; rfl
  | a :: l, v => by rw [List.cons_append, clamps, clamps, clamps_app l v]; rfl
theorem clamps_len : ∀ l : List Val, (clamps l).length = l.length
  | [] => by rw [clamps]
  | v :: r => by rw [clamps, List.length_cons, List.length_cons, clamps_len r]
theorem loc_clamp (k n g : Int) (t : List UInt8) (l : Nat) (ks : List (List UInt8)) : locB k n (min g 100000) t l ks = locB k n g t l ks := by
  have e1 : eqI (min g 100000) 0 = eqI g 0 := by rw [eqI_eq, eqI_eq]; exact decide_eq_decide.2 (by omega)
  have e2 : (leI 0 (min g 100000) && leI (min g 100000) 65535) = (leI 0 g && leI g 65535) := by
    rw [Bool.eq_iff_iff]
    simp only [leI_eq, Bool.and_eq_true, decide_eq_true_eq]
    omega
  unfold locB bareB
  rw [e1, e2]
mutual
theorem rR_clamp : ∀ v : Val, rR (clamp v) = rR v
  | .mk k n g t l ks => by rw [clamp, rR, rR, clamps_len, loc_clamp, rRs_clamp l]
theorem rRs_clamp : ∀ l : List Val, rRs (clamps l) = rRs l
  | [] => by rw [clamps]
  | v :: r => by rw [clamps, rRs, rRs, rR_clamp v, rRs_clamp r]
end
mutual
theorem dl_clamp : ∀ v : Val, dl (clamp v) = dl v
  | .mk k n g t l ks => by rw [clamp, dl, dl, dls_clamp l]
theorem dls_clamp : ∀ l : List Val, dls (clamps l) = dls l
  | [] => by rw [clamps]
  | v :: r => by rw [clamps, dls, dls, dl_clamp v, dls_clamp r]
end
theorem loc_gen {k n g : Int} {t : List UInt8} {l : Nat} {ks : List (List UInt8)} (h : locB k n g t l ks = true) : min g 100000 = g := by
  unfold locB at h
  rw [Bool.and_eq_true, Bool.and_eq_true] at h
  obtain ⟨_, hb, hc⟩ := h
  cases q : eqI k 7
  · unfold bareB at hb
    rw [q] at hb
    simp only [Bool.false_or, Bool.and_eq_true, eqI_eq, decide_eq_true_eq] at hb
    have := hb.2.1
    omega
  · have hk := eqI_of q
    subst hk
    have hc : (leI 1 n && (leI n 2147483647 && (leI 0 g && leI g 65535))) = true := hc
    simp only [leI_eq, Bool.and_eq_true, decide_eq_true_eq] at hc
    omega
mutual
theorem clamp_id : ∀ v : Val, rR v = true → clamp v = v
  | .mk k n g t l ks, h => by
    rw [rR, Bool.and_eq_true] at h
    rw [clamp, loc_gen h.1, clamps_id l h.2]
theorem clamps_id : ∀ l : List Val, rRs l = true → clamps l = l
  | [], _ => by rw [clamps]
  | v :: r, h => by
    rw [rRs, Bool.and_eq_true] at h
    rw [clamps, clamp_id v h.1, clamps_id r h.2]
end
theorem okV_clamp (v : Val) : okV 0 (clamp v) = okV 0 v := by
  unfold okV
  rw [rR_clamp, dl_clamp]
end Px
namespace Px
open Go.Vx Go
/-! ### lists -/
theorem rList_deep {val : Int → Val × Int × Bool} {p : List UInt8} {kind : Int} {e : List UInt8} : ∀ (f : Nat) (i : Int) (ls : List Val) (ks : List (List UInt8)),
    (rListGo val p kind e f i ls ks).2.2 = true → dls ls ≤ dl (rListGo val p kind e f i ls ks).1
  | 0, i, ls, ks, h => by cases h
  | f + 1, i, ls, ks, h => by
    have app : ∀ (l : List Val) (v : Val), dls l ≤ dls (l ++ [v]) := by
      intro l
      induction l with
      | nil => intro v; exact Nat.zero_le _
      | cons a l ih => intro v; rw [List.cons_append, dls, dls]; have := ih v; omega
    rw [rListGo] at h ⊢
    cases q1 : preAt p (skipI p i) e
    · rw [q1] at h
      simp only [cond_false] at h ⊢
      cases q2 : eqI kind 6
      · rw [q2] at h
        simp only [cond_false] at h ⊢
        cases q : (val (skipI p i)).2.2
        · rw [q] at h; cases h
        · rw [q] at h
          simp only [cond_true] at h ⊢
          exact Nat.le_trans (app _ _) (rList_deep f _ _ _ h)
      · rw [q2] at h
        simp only [cond_true] at h ⊢
        cases q3 : preAt p (skipI p i) [47]
        · rw [q3] at h; cases h
        · rw [q3] at h
          simp only [cond_true] at h ⊢
          cases q4 : plain (wordS p (skipI p i + 1))
          · rw [q4] at h; cases h
          · rw [q4] at h
            simp only [cond_true] at h ⊢
            cases q : (val (wordE p (skipI p i + 1))).2.2
            · rw [q] at h; cases h
            · rw [q] at h
              simp only [cond_true] at h ⊢
              exact Nat.le_trans (app _ _) (rList_deep f _ _ _ h)
    · simp only [cond_true]
      rw [dl]; exact Nat.le_refl _
theorem dls_last : ∀ (l : List Val) (v : Val), dl v + 1 ≤ dls (l ++ [v])
  | [], v => by rw [List.nil_append, dls, dls]; omega
  | a :: l, v => by rw [List.cons_append, dls]; have := dls_last l v; omega
/-- what is read so is read alike; what isn't is too deep, or nothing -/
def RelA (p : List UInt8) (val : Int → Val × Int × Int) (val' : Int → Val × Int × Bool) : Prop :=
  ∀ j, okAt p j = true → eqI (val j).2.1 0 = true → val' j = (clamp (val j).1, (val j).2.2, true)
def RelB (p : List UInt8) (m : Nat) (val : Int → Val × Int × Int) (val' : Int → Val × Int × Bool) : Prop :=
  ∀ j, okAt p j = true → eqI (val j).2.1 0 = false → (val' j).2.2 = true → m ≤ dl (val' j).1
theorem list_rel {val : Int → Val × Int × Int} {val' : Int → Val × Int × Bool} {p : List UInt8} {m : Nat} (kind : Int) (e : List UInt8) (hA : RelA p val val') (hB : RelB p m val val')
    (hv : ∀ j, okAt p j = true → Onward p j (val j).2.1 (val j).2.2) : ∀ (f : Nat) (i : Int) (ls : List Val) (ks : List (List UInt8)), okAt p i = true →
    (eqI (oListGo val p kind e f i ls ks).2.1 0 = true → rListGo val' p kind e f i (clamps ls) ks = (clamp (oListGo val p kind e f i ls ks).1, (oListGo val p kind e f i ls ks).2.2, true)) ∧
    (eqI (oListGo val p kind e f i ls ks).2.1 0 = false → (rListGo val' p kind e f i (clamps ls) ks).2.2 = true → m + 1 ≤ dl (rListGo val' p kind e f i (clamps ls) ks).1)
  | 0, i, ls, ks, _ => ⟨fun h => (by cases h), fun _ h => (by cases h)⟩
  | f + 1, i, ls, ks, hi => by
    have h1 := ok_skip hi
    rw [oListGo, rListGo, skipI_idem hi]
    cases q1 : preAt p (skipI p i) e
    · simp only [cond_false]
      cases q2 : eqI kind 6
      · simp only [cond_false]
        cases q : eqI (val (skipI p i)).2.1 0
        · simp only [cond_false]
          refine ⟨fun h => (by rw [q] at h; cases h), fun _ h => ?_⟩
          cases q' : (val' (skipI p i)).2.2
          · rw [q'] at h; cases h
          · rw [q'] at h
            simp only [cond_true] at h ⊢
            have hm := hB _ h1 q q'
            have := rList_deep f _ _ _ h
            have := dls_last (clamps ls) (val' (skipI p i)).1
            omega
        · have ha := hA _ h1 q
          have ho := (hv _ h1)
          have ih := list_rel kind e hA hB hv f (val (skipI p i)).2.2 (ls ++ [(val (skipI p i)).1]) ks ho.1
          rw [clamps_app] at ih
          rw [ha]
          simp only [cond_true]
          exact ih
      · simp only [cond_true]
        cases q3 : preAt p (skipI p i) [47]
        · exact ⟨fun h => (by cases h), fun _ h => (by cases h)⟩
        · have h3 : okAt p (skipI p i + 1) = true := ok_pre h1 q3
          obtain ⟨n1, n2⟩ := oName_eq p (skipI p i + 1)
          simp only [cond_true, n1]
          cases q4 : plain (wordS p (skipI p i + 1))
          · simp only [cond_false]
            refine ⟨fun h => ?_, fun _ h => (by cases h)⟩
            rw [n1, q4] at h; cases h
          · rw [n2 q4]
            have h4 := ok_word h3
            simp only [cond_true]
            cases q : eqI (val (wordE p (skipI p i + 1))).2.1 0
            · simp only [cond_false]
              refine ⟨fun h => (by rw [q] at h; cases h), fun _ h => ?_⟩
              cases q' : (val' (wordE p (skipI p i + 1))).2.2
              · rw [q'] at h; cases h
              · rw [q'] at h
                simp only [cond_true] at h ⊢
                have hm := hB _ h4 q q'
                have := rList_deep f _ _ _ h
                have := dls_last (clamps ls) (val' (wordE p (skipI p i + 1))).1
                omega
            · have ha := hA _ h4 q
              have ho := hv _ h4
              have ih := list_rel kind e hA hB hv f (val (wordE p (skipI p i + 1))).2.2 (ls ++ [(val (wordE p (skipI p i + 1))).1]) (ks ++ [wordS p (skipI p i + 1)]) ho.1
              rw [clamps_app] at ih
              rw [ha]
              simp only [cond_true]
              exact ih
    · refine ⟨fun _ => ?_, fun h => by cases h⟩
      simp only [cond_true]
      rw [clamp, show min (0 : Int) 100000 = 0 by decide]
/-! ### words and strings -/
theorem text_rel (p : List UInt8) (i : Int) : (eqI (oText p i).2.1 0 = true → rText p i = (clamp (oText p i).1, (oText p i).2.2, true)) ∧ (eqI (oText p i).2.1 0 = false → (rText p i).2.2 = false) := by
  unfold oText rText
  cases q1 : ltI (i + (gtN (p.drop i.toNat) : Int)) p.length <;> cases q2 : textIs (gtL (p.drop i.toNat))
  · exact ⟨fun h => (by cases h), fun _ => rfl⟩
  · exact ⟨fun h => (by cases h), fun _ => rfl⟩
  · exact ⟨fun h => (by cases h), fun _ => rfl⟩
  · refine ⟨fun _ => ?_, fun h => by cases h⟩
    simp only [Bool.and_self, cond_true]
    rw [clamp, clamps, show min (0 : Int) 100000 = 0 by decide]
theorem word_rel (p : List UInt8) (i : Int) : (eqI (oWord p i).2.1 0 = true → rWord p i = (clamp (oWord p i).1, (oWord p i).2.2, true)) ∧ (eqI (oWord p i).2.1 0 = false → (rWord p i).2.2 = false) := by
  unfold oWord rWord
  cases q1 : decide (wordS p i = wNull)
  · cases q2 : decide (wordS p i = wTrue)
    · cases q3 : decide (wordS p i = wFalse)
      · cases q4 : numOk (wordS p i)
        · refine ⟨fun h => absurd (eqI_of h) (numE_ne q4), fun _ => rfl⟩
        · refine ⟨fun _ => ?_, fun h => by cases h⟩
          simp only [cond_true, cond_false]
          unfold refV
          cases isRef p (wordE p i) (wordS p i)
          · simp only [cond_false]
            rw [clamp, clamps, show min (0 : Int) 100000 = 0 by decide]
          · simp only [cond_true]
            rw [clamp, clamps, show min (min (numV (genS p (wordE p i))) 2147483647) 100000 = min (numV (genS p (wordE p i))) 100000 by omega]
      · refine ⟨fun _ => ?_, fun h => by cases h⟩
        simp only [cond_true, cond_false]
        rw [clamp, clamps, show min (0 : Int) 100000 = 0 by decide]
    · refine ⟨fun _ => ?_, fun h => by cases h⟩
      simp only [cond_true, cond_false]
      rw [clamp, clamps, show min (0 : Int) 100000 = 0 by decide]
  · refine ⟨fun _ => ?_, fun h => by cases h⟩
    simp only [cond_true]
    show _ = (clamp v0, _, _)
    unfold v0
    rw [clamp, clamps, show min (0 : Int) 100000 = 0 by decide]
theorem word_none {p : List UInt8} {i : Int} (h : wordS p i = []) : eqI (oWord p i).2.1 0 = false ∧ (rWord p i).2.2 = false := by
  unfold oWord rWord
  rw [h]
  exact ⟨rfl, rfl⟩
end Px
namespace Px
open Go.Vx Go
/-! ### values -/
theorem pre_two {p : List UInt8} {s : Int} {a b : UInt8} (h0 : 0 ≤ s) (h1 : s < p.length) (h : preAt p s [a, b] = true) : eqI (rByte p s) (a.toNat : Int) = true := by
  obtain ⟨n, rfl⟩ : ∃ j : Nat, s = (j : Int) := ⟨s.toNat, by omega⟩
  have hn : n < p.length := by omega
  unfold preAt hasPre at h
  unfold rByte
  rw [Int.toNat_natCast, drop_cons p 0 n hn] at h
  have h := of_decide_eq_true h
  rw [List.length_cons, List.take_succ_cons] at h
  injection h with h _
  rw [Int.toNat_natCast, h, eqI_eq]
  exact decide_eq_true rfl
theorem stop_byte {p : List UInt8} {s : Int} {c : UInt8} (h : eqI (rByte p s) (c.toNat : Int) = true) : p.getD s.toNat 0 = c := by
  unfold rByte at h
  rw [u8_eq] at h
  exact of_decide_eq_true h
theorem value_rel : ∀ m : Nat, (∀ p, RelA p (oValueF m p) (rValueF (m + 8) p)) ∧ (∀ p, RelB p m (oValueF m p) (rValueF (m + 8) p))
  | 0 => ⟨fun p j _ h => (by cases h), fun p j _ _ _ => Nat.zero_le _⟩
  | m + 1 => by
    obtain ⟨ihA, ihB⟩ := value_rel m
    have key : ∀ (p : List UInt8) (i : Int), okAt p i = true →
        (eqI (oValueF (m + 1) p i).2.1 0 = true → rValueF (m + 8 + 1) p i = (clamp (oValueF (m + 1) p i).1, (oValueF (m + 1) p i).2.2, true)) ∧
        (eqI (oValueF (m + 1) p i).2.1 0 = false → (rValueF (m + 8 + 1) p i).2.2 = true → m + 1 ≤ dl (rValueF (m + 8 + 1) p i).1) := by
      intro p i hi
      have h1 := ok_skip hi
      obtain ⟨s0, s1, s2⟩ := okAt_iff.1 h1
      have hv : ∀ j, okAt p j = true → Onward p j (oValueF m p j).2.1 (oValueF m p j).2.2 := fun j hj => oValueF_on m hj
      rw [oValueF, rValueF, skipI_idem hi, skipI_idem hi, skipI_idem hi, skipI_idem hi]
      by_cases he : (p.length : Int) ≤ skipI p i
      · rw [pre_end he, pre_end he, pre_end he, pre_end he, pre_end he, show leI (p.length : Int) (skipI p i) = true by rw [leI_eq]; exact decide_eq_true he]
        simp only [cond_false, cond_true]
        have hw := (word_none (word_end he)).1
        exact ⟨fun h => (by rw [hw] at h; cases h), fun _ h => (by cases h)⟩
      · have hlt : skipI p i < p.length := by omega
        rw [show leI (p.length : Int) (skipI p i) = false by rw [leI_eq]; exact decide_eq_false he, pre_byte s0 hlt, pre_byte s0 hlt, pre_byte s0 hlt, pre_byte s0 hlt]
        simp only [cond_false]
        have c91 : (((91 : UInt8).toNat : Nat) : Int) = 91 := rfl
        have c60 : (((60 : UInt8).toNat : Nat) : Int) = 60 := rfl
        have c40 : (((40 : UInt8).toNat : Nat) : Int) = 40 := rfl
        have c47 : (((47 : UInt8).toNat : Nat) : Int) = 47 := rfl
        rw [c91, c60, c40, c47]
        have h2 : okAt p (skipI p i + 1) = true := okAt_iff.2 ⟨by omega, by omega, s2⟩
        cases q1 : preAt p (skipI p i) [60, 60]
        · simp only [cond_false]
          cases q2 : eqI (rByte p (skipI p i)) 91
          · simp only [cond_false]
            cases q3 : eqI (rByte p (skipI p i)) 60
            · simp only [cond_false]
              cases q4 : eqI (rByte p (skipI p i)) 40
              · simp only [cond_false]
                cases q5 : eqI (rByte p (skipI p i)) 47
                · simp only [cond_false]
                  obtain ⟨w1, w2⟩ := word_rel p (skipI p i)
                  exact ⟨w1, fun h h' => (by rw [w2 h] at h'; cases h')⟩
                · simp only [cond_true]
                  obtain ⟨n1, n2⟩ := oName_eq p (skipI p i + 1)
                  rw [n1]
                  cases q6 : plain (wordS p (skipI p i + 1))
                  · simp only [cond_false]
                    exact ⟨fun h => (by rw [n1, q6] at h; cases h), fun _ h => (by cases h)⟩
                  · rw [n2 q6]
                    simp only [cond_true]
                    refine ⟨fun _ => ?_, fun h => (by cases h)⟩
                    rw [clamp, clamps, show min (0 : Int) 100000 = 0 by decide]
              · simp only [cond_true]
                have hb := stop_byte (c := 40) q4
                have q5 : eqI (rByte p (skipI p i)) 47 = false := by
                  unfold rByte; rw [hb]; rfl
                rw [q5]
                simp only [cond_false]
                have hw := (word_none (word_stop s0 hlt (by rw [hb]; rfl))).2
                exact ⟨fun h => (by cases h), fun _ h => (by rw [hw] at h; cases h)⟩
            · simp only [cond_true]
              obtain ⟨w1, w2⟩ := text_rel p (skipI p i + 1)
              exact ⟨w1, fun h h' => (by rw [w2 h] at h'; cases h')⟩
          · simp only [cond_true]
            exact list_rel 5 [93] (ihA p) (ihB p) hv (p.length + 2) (skipI p i + 1) [] [] h2
        · simp only [cond_true]
          have h3 : okAt p (skipI p i + 2) = true := ok_pre h1 q1
          exact list_rel 6 [62, 62] (ihA p) (ihB p) hv (p.length + 2) (skipI p i + 2) [] [] h3
    exact ⟨fun p j hj => (key p j hj).1, fun p j hj => (key p j hj).2⟩
/-! ### errors -/
def errB (e : Int) : Prop := e = 0 ∨ e = 2 ∨ e = 14
theorem numE_err (s : List UInt8) : errB (numE s) := by
  unfold numE
  cases numOk s
  · cases dotted s
    · exact .inr (.inl rfl)
    · exact .inr (.inr rfl)
  · exact .inl rfl
theorem oName_err (p : List UInt8) (i : Int) : errB (oName p i).2.1 := by
  unfold oName
  cases leI 0 (Lib.indexByte (wordS p i) 35)
  · cases plain (wordS p i)
    · exact .inr (.inl rfl)
    · exact .inl rfl
  · exact .inr (.inr rfl)
theorem oText_err (p : List UInt8) (i : Int) : errB (oText p i).2.1 := by
  unfold oText
  cases (ltI (i + (gtN (p.drop i.toNat) : Int)) p.length && textIs (gtL (p.drop i.toNat)))
  · exact .inr (.inl rfl)
  · exact .inl rfl
theorem oWord_err (p : List UInt8) (i : Int) : errB (oWord p i).2.1 := by
  unfold oWord
  cases decide (wordS p i = wNull)
  · cases decide (wordS p i = wTrue)
    · cases decide (wordS p i = wFalse)
      · cases numOk (wordS p i)
        · exact numE_err _
        · exact .inl rfl
      · exact .inl rfl
    · exact .inl rfl
  · exact .inl rfl
theorem oList_err {val : Int → Val × Int × Int} {p : List UInt8} (kind : Int) (e : List UInt8) (hv : ∀ j, errB (val j).2.1) : ∀ (f : Nat) (i : Int) (ls : List Val) (ks : List (List UInt8)), errB (oListGo val p kind e f i ls ks).2.1
  | 0, i, ls, ks => .inr (.inl rfl)
  | f + 1, i, ls, ks => by
    rw [oListGo]
    cases preAt p (skipI p i) e
    · simp only [cond_false]
      cases eqI kind 6
      · simp only [cond_false]
        cases eqI (val (skipI p i)).2.1 0
        · exact hv _
        · exact oList_err kind e hv f _ _ _
      · simp only [cond_true]
        cases preAt p (skipI p (skipI p i)) [47]
        · exact .inr (.inl rfl)
        · simp only [cond_true]
          cases eqI (oName p (skipI p (skipI p i) + 1)).2.1 0
          · exact oName_err _ _
          · simp only [cond_true]
            cases eqI (val (oName p (skipI p (skipI p i) + 1)).2.2).2.1 0
            · exact hv _
            · exact oList_err kind e hv f _ _ _
    · exact .inl rfl
theorem oValue_err : ∀ (m : Nat) (p : List UInt8) (i : Int), errB (oValueF m p i).2.1
  | 0, p, i => .inr (.inl rfl)
  | m + 1, p, i => by
    have hv : ∀ j, errB (oValueF m p j).2.1 := fun j => oValue_err m p j
    rw [oValueF]
    cases preAt p (skipI p i) [60, 60]
    · simp only [cond_false]
      cases preAt p (skipI p (skipI p i)) [91]
      · simp only [cond_false]
        cases preAt p (skipI p (skipI p (skipI p i))) [60]
        · simp only [cond_false]
          cases preAt p (skipI p (skipI p (skipI p (skipI p i)))) [40]
          · simp only [cond_false]
            cases preAt p (skipI p (skipI p (skipI p (skipI p (skipI p i))))) [47]
            · exact oWord_err _ _
            · simp only [cond_true]
              cases eqI (oName p (skipI p (skipI p (skipI p (skipI p (skipI p i)))) + 1)).2.1 0
              · exact oName_err _ _
              · exact .inl rfl
          · exact .inr (.inr rfl)
        · exact oText_err _ _
      · exact oList_err 5 _ hv _ _ _ _
    · exact oList_err 6 _ hv _ _ _ _
/-! ### not too many parts -/
theorem smallL_app : ∀ (l : List Val) (v : Val), smallL l = true → smallV v = true → smallL (l ++ [v]) = true
  | [], v, _, hv => by rw [List.nil_append, smallL, hv]; rfl
  | a :: l, v, h, hv => by
    rw [smallL, Bool.and_eq_true] at h
    rw [List.cons_append, smallL, h.1, smallL_app l v h.2 hv]; rfl
theorem rList_small {val : Int → Val × Int × Bool} {p : List UInt8} (kind : Int) {e : List UInt8} (hs : ∀ j, okAt p j = true → (val j).2.2 = true → smallV (val j).1 = true) (hv : ∀ j, okAt p j = true → Further p j (val j).2.2 (val j).2.1) :
    ∀ (f : Nat) (i : Int) (ls : List Val) (ks : List (List UInt8)), okAt p i = true → (ls.length : Int) ≤ i → (ks.length : Int) ≤ i → smallL ls = true → (rListGo val p kind e f i ls ks).2.2 = true → smallV (rListGo val p kind e f i ls ks).1 = true
  | 0, i, ls, ks, _, _, _, _, h => by cases h
  | f + 1, i, ls, ks, hi, hl, hk, hsm, h => by
    have h1 := ok_skip hi
    have g1 := skip_ge hi
    obtain ⟨i0, i1, i2⟩ := okAt_iff.1 hi
    have len1 : ∀ (v : Val), (((ls ++ [v]).length : Nat) : Int) = (ls.length : Int) + 1 := fun v => by rw [List.length_append]; simp
    have len2 : ∀ (v : List UInt8), (((ks ++ [v]).length : Nat) : Int) = (ks.length : Int) + 1 := fun v => by rw [List.length_append]; simp
    rw [rListGo] at h ⊢
    cases q1 : preAt p (skipI p i) e
    · rw [q1] at h
      simp only [cond_false] at h ⊢
      cases q2 : eqI kind 6
      · rw [q2] at h
        simp only [cond_false] at h ⊢
        cases q : (val (skipI p i)).2.2
        · rw [q] at h; cases h
        · rw [q] at h
          simp only [cond_true] at h ⊢
          have hx := hv _ h1 q
          exact rList_small kind hs hv f _ _ _ hx.1 (by rw [len1]; omega) (by omega) (smallL_app _ _ hsm (hs _ h1 q)) h
      · rw [q2] at h
        simp only [cond_true] at h ⊢
        cases q3 : preAt p (skipI p i) [47]
        · rw [q3] at h; cases h
        · rw [q3] at h
          have h3 : okAt p (skipI p i + 1) = true := ok_pre h1 q3
          simp only [cond_true] at h ⊢
          cases q4 : plain (wordS p (skipI p i + 1))
          · rw [q4] at h; cases h
          · rw [q4] at h
            have h4 := ok_word h3
            have g4 := word_ge h3
            simp only [cond_true] at h ⊢
            cases q : (val (wordE p (skipI p i + 1))).2.2
            · rw [q] at h; cases h
            · rw [q] at h
              simp only [cond_true] at h ⊢
              have hx := hv _ h4 q
              exact rList_small kind hs hv f _ _ _ hx.1 (by rw [len1]; omega) (by rw [len2]; omega) (smallL_app _ _ hsm (hs _ h4 q)) h
    · simp only [cond_true]
      have e1 : Nat.ble ls.length 1000000 = true := Nat.ble_eq ▸ (by omega : ls.length ≤ 1000000)
      have e2 : Nat.ble ks.length 1000000 = true := Nat.ble_eq ▸ (by omega : ks.length ≤ 1000000)
      rw [smallV, hsm, e1, e2]
      rfl
theorem rWord_small (p : List UInt8) (i : Int) : smallV (rWord p i).1 = true := by
  unfold rWord
  cases decide (wordS p i = wNull) <;> cases decide (wordS p i = wTrue) <;> cases decide (wordS p i = wFalse) <;> cases numOk (wordS p i) <;> first | rfl | skip
  simp only [cond_true, cond_false]
  unfold refV
  cases isRef p (wordE p i) (wordS p i) <;> rfl
theorem rText_small (p : List UInt8) (i : Int) : smallV (rText p i).1 = true := by
  unfold rText
  cases textIs (gtL (p.drop i.toNat)) <;> rfl
theorem rValue_small : ∀ (m : Nat) (p : List UInt8) (i : Int), okAt p i = true → (rValueF m p i).2.2 = true → smallV (rValueF m p i).1 = true
  | 0, p, i, _, h => by cases h
  | m + 1, p, i, hi, h => by
    have h1 := ok_skip hi
    obtain ⟨s0, s1, s2⟩ := okAt_iff.1 h1
    have hs : ∀ j, okAt p j = true → (rValueF m p j).2.2 = true → smallV (rValueF m p j).1 = true := fun j hj => rValue_small m p j hj
    have hv : ∀ j, okAt p j = true → Further p j (rValueF m p j).2.2 (rValueF m p j).2.1 := fun j hj => rValueF_on m hj
    rw [rValueF] at h ⊢
    cases q0 : leI (p.length : Int) (skipI p i)
    · rw [q0] at h
      rw [leI_eq, decide_eq_false_iff_not] at q0
      have h2 : okAt p (skipI p i + 1) = true := okAt_iff.2 ⟨by omega, by omega, s2⟩
      simp only [cond_false] at h ⊢
      cases q1 : preAt p (skipI p i) [60, 60]
      · rw [q1] at h
        simp only [cond_false] at h ⊢
        cases q2 : eqI (rByte p (skipI p i)) 91
        · rw [q2] at h
          simp only [cond_false] at h ⊢
          cases q3 : eqI (rByte p (skipI p i)) 60
          · rw [q3] at h
            simp only [cond_false] at h ⊢
            cases q4 : eqI (rByte p (skipI p i)) 47
            · exact rWord_small _ _
            · rfl
          · exact rText_small _ _
        · rw [q2] at h
          simp only [cond_true] at h ⊢
          exact rList_small 5 hs hv _ _ [] [] h2 (by simp only [List.length_nil]; omega) (by simp only [List.length_nil]; omega) rfl h
      · rw [q1] at h
        have h3 : okAt p (skipI p i + 2) = true := ok_pre h1 q1
        simp only [cond_true] at h ⊢
        exact rList_small 6 hs hv _ _ [] [] h3 (by simp only [List.length_nil]; omega) (by simp only [List.length_nil]; omega) rfl h
    · rfl
theorem rSmall_ok {p : List UInt8} (h : okAt p 0 = true) : rSmall p = true := by
  unfold rSmall
  cases q : (rValue p 0 0).2.2
  · rfl
  · exact rValue_small _ p 0 h q
/-! ### the two readings -/
theorem parse_rel {p : List UInt8} (h : okAt p 0 = true) :
    ((rParse p).2.2 = true → oParse p = ((rParse p).1, (rParse p).2.1, 0) ∧ okV 0 (rParse p).1 = true ∧ smallV (rParse p).1 = true) ∧
    ((rParse p).2.2 = false → (oParse p).1 = v0 ∧ (oParse p).2.1 = 0 ∧ ((oParse p).2.2 = 2 ∨ (oParse p).2.2 = 14)) := by
  have eo : oValue p 0 0 = oValueF 33 p 0 := rfl
  have er : rValue p 0 0 = rValueF (33 + 8) p 0 := rfl
  have hA := (value_rel 33).1 p 0 h
  have hB := (value_rel 33).2 p 0 h
  have hs := rValue_small (33 + 8) p 0 h
  unfold oParse rParse
  rw [eo, er]
  cases q : eqI (oValueF 33 p 0).2.1 0 with
  | true =>
    have ha := hA q
    rw [ha]
    rw [ha] at hs
    have hs := hs rfl
    simp only [cond_true, okV_clamp]
    cases qk : okV 0 (oValueF 33 p 0).1 with
    | true =>
      have hr : rR (oValueF 33 p 0).1 = true := by
        unfold okV at qk
        rw [Bool.and_eq_true] at qk
        exact qk.1
      rw [clamp_id _ hr] at hs ⊢
      refine ⟨fun _ => ⟨rfl, qk, hs⟩, fun h => (by cases h)⟩
    | false => exact ⟨fun h => (by cases h), fun _ => (by simp)⟩
  | false =>
    simp only [cond_false]
    have herr := oValue_err 33 p 0
    have hne : (oValueF 33 p 0).2.1 ≠ 0 := fun hh => by rw [hh] at q; cases q
    have he : (oValueF 33 p 0).2.1 = 2 ∨ (oValueF 33 p 0).2.1 = 14 := by
      rcases herr with h | h | h
      · exact absurd h hne
      · exact .inl h
      · exact .inr h
    cases qr : (rValueF (33 + 8) p 0).2.2 with
    | false => exact ⟨fun h => (by cases h), fun _ => (by first | exact ⟨rfl, rfl, he⟩ | simpa using he)⟩
    | true =>
      have hd := hB q qr
      have hk : okV 0 (rValueF (33 + 8) p 0).1 = false := by
        unfold okV
        rw [show leI ((dl (rValueF (33 + 8) p 0).1 : Int) + 0) 32 = false by rw [leI_eq]; exact decide_eq_false (by omega)]
        simp
      simp only [cond_true, hk, cond_false]
      exact ⟨fun h => (by cases h), fun _ => (by first | exact ⟨rfl, rfl, he⟩ | simpa using he)⟩
end Px
namespace Go.Vx
open Go
theorem sp4 (l : List UInt8) (hl : l.length ≤ 140737488355328) : (spec4 [.lf (.sl .u8 l)] []).get = some (.lf (.bool true), []) := by
  show (w4 l).get = _
  have e0 : Int.toNat (300 : Int) = 300 := rfl
  have hlen : (l.take 300).length ≤ 300 := by rw [List.length_take]; omega
  have hk : Px.okAt (l.take 300) 0 = true := Px.okAt_iff.2 ⟨by omega, by omega, by omega⟩
  have g : (leI 0 300 && decide (l.length ≤ (140737488355328 : Nat))) = true := by rw [decide_eq_true hl]; rfl
  have hs := Px.rSmall_ok hk
  have hz : (Val.mk (0 : Int) (0 : Int) (0 : Int) [] [] []) = Px.v0 := rfl
  have al : ∀ v, Px.alike v v = true := fun v => (Px.alike_iff v v).2 rfl
  obtain ⟨r1, r2⟩ := Px.parse_rel hk
  unfold w4
  simp only [Tree.get_ite, Tree.get_leaf, e0, g, hk, hs, Bool.and_self, cond_true, Px.v_eta, hz]
  cases q : (Px.rParse (l.take 300)).2.2 with
  | true =>
    obtain ⟨o1, o2, o3⟩ := r1 q
    rw [o1]
    have e1 : eqI (Px.rParse (l.take 300)).2.1 (Px.rParse (l.take 300)).2.1 = true := by rw [eqI_eq]; exact decide_eq_true rfl
    simp only [Bool.not_true, cond_false, e1, o2, o3, al, cond_true]
    rfl
  | false =>
    obtain ⟨o1, o2, o3⟩ := r2 q
    rw [o1, o2]
    rcases o3 with o3 | o3
    · rw [o3, al]; rfl
    · rw [o3, al]; rfl
end Go.Vx
namespace Go.Vx
open Go Go.RowKit
/-- Nobody's own at the beginning. -/
def Gh.none : Gh := { blk := fun _ => Option.none, tok := fun _ => Option.none, ver := zero0, cur := zero0, oth := fun _ _ => False, bl := fun _ => (0, 0, 0) }
theorem none_pur (b o : Nat) : Gh.none.pur b o := by
  refine ⟨⟨fun _ h => ?_, fun _ _ _ h => ?_⟩, fun h => h⟩
  · cases h
  · cases h
theorem none_hrel {Key : Type} [DecidableEq Key] {E : Env Key} {w : World} (hg : ∀ g cs, E.gl g = some cs → Glob E Gh.none w cs g) : HRel E (fun i => ([] : List (Obj E.A))[i]?) Gh.none w where
  ob i o h := by simp at h
  lt _ _ h := by cases h
  inj _ _ _ h := by cases h
  tokb _ _ _ _ h := by cases h
  tokj _ _ _ _ _ _ _ _ h := by cases h
  gl := hg
  othf _ _ h := h.elim
theorem none_below {G' : Gh} {w w' : World} (h : Fr Gh.none w G' w') : Below w.heap.size w w' :=
  ⟨h.os, h.tape, h.output, h.size, fun k hk => (h.blk k hk ⟨fun _ h => (by cases h), fun _ _ _ h => (by cases h)⟩).1⟩
/-- The call, out of the contract. -/
theorem calls_of_valid {Key : Type} [DecidableEq Key] {E : Env Key} {f : FuncId} {spec : Spec E} (hV : Valid E f spec) {args : List (RV E.A)} {w : World} {vals : Array Value} {fn : Func} (hf : E.P.funcs[f]? = some fn) (hb : fn.body.isSome = true) (hnm : (fn.name == "runtime.NumGoroutine") = false) {b : Bool}
    (hs : (spec args []).get = some (.lf (.bool b), [])) (ha : ARel E Gh.none w args vals)
    (hg : ∀ g cs, E.gl g = some cs → Glob E Gh.none w cs g) :
    Calls E.P f vals w fun e w' => e = .returned (.bool b) ∧ Below w.heap.size w w' := by
  unfold Valid at hV
  have h := hV args [] _ _ hs Gh.none w vals ha (none_hrel hg) rfl rfl
  have hcf : (callFunc f vals).run E.P w = .ok (.enter f vals) w := by
    obtain ⟨c, hc⟩ := Option.isSome_iff_exists.1 hb
    unfold callFunc
    have hne : ¬ fn.name = "runtime.NumGoroutine" := by simpa using hnm
    simp [hf, hc, hne]
  rw [hcf] at h
  refine Calls.mono (show Calls E.P f vals w _ from h) ?_
  rintro e w' ⟨v, G', rfl, hbk⟩
  refine ⟨?_, none_below hbk.fr⟩
  cases hbk.val with
  | lf h => cases h; rfl
def IsRow (k : IntKind) (w : World) (a : Option Addr) (len cap : Nat) (zs : List Int) : Prop :=
  (a = Option.none ∧ len = 0 ∧ cap = 0 ∧ zs = []) ∨
  ∃ x, a = some x ∧ len ≤ cap ∧ cap ≤ maxLen ∧ zs.length = cap ∧ (∀ i, i < zs.length → w.cell? (x.add i) = some (.int k (zs.getD i 0))) ∧ ∀ n ∈ zs, (Lit.int k n).wf = true
theorem IsRow.len {k : IntKind} {w : World} {a : Option Addr} {len cap : Nat} {zs : List Int} (h : IsRow k w a len cap zs) : min len zs.length = len ∧ len ≤ big := by
  rcases h with ⟨_, rfl, _, rfl⟩ | ⟨_, _, h1, h2, h3, _⟩
  · exact ⟨rfl, by decide⟩
  · exact ⟨by omega, by unfold big; unfold maxLen at h2; omega⟩
theorem arel1 {w : World} {l0 : Leaf E.A} {v0 : Value} (h0 : Rep E Gh.none w l0 v0) : ARel E Gh.none w [.lf l0] #[v0] := by
  refine ⟨rfl, fun j r hj => ?_⟩
  match j with
  | 0 => injection hj with hj; subst hj; exact .lf h0
  | j + 1 => cases hj
theorem arel2 {w : World} {l0 l1 : Leaf E.A} {v0 v1 : Value} (h0 : Rep E Gh.none w l0 v0) (h1 : Rep E Gh.none w l1 v1) : ARel E Gh.none w [.lf l0, .lf l1] #[v0, v1] := by
  refine ⟨rfl, fun j r hj => ?_⟩
  match j with
  | 0 => injection hj with hj; subst hj; exact .lf h0
  | 1 => injection hj with hj; subst hj; exact .lf h1
  | j + 2 => cases hj
theorem arel3 {w : World} {l0 l1 l2 : Leaf E.A} {v0 v1 v2 : Value} (h0 : Rep E Gh.none w l0 v0) (h1 : Rep E Gh.none w l1 v1) (h2 : Rep E Gh.none w l2 v2) : ARel E Gh.none w [.lf l0, .lf l1, .lf l2] #[v0, v1, v2] := by
  refine ⟨rfl, fun j r hj => ?_⟩
  match j with
  | 0 => injection hj with hj; subst hj; exact .lf h0
  | 1 => injection hj with hj; subst hj; exact .lf h1
  | 2 => injection hj with hj; subst hj; exact .lf h2
  | j + 3 => cases hj
theorem arel4 {w : World} {l0 l1 l2 l3 : Leaf E.A} {v0 v1 v2 v3 : Value} (h0 : Rep E Gh.none w l0 v0) (h1 : Rep E Gh.none w l1 v1) (h2 : Rep E Gh.none w l2 v2) (h3 : Rep E Gh.none w l3 v3) :
    ARel E Gh.none w [.lf l0, .lf l1, .lf l2, .lf l3] #[v0, v1, v2, v3] := by
  refine ⟨rfl, fun j r hj => ?_⟩
  match j with
  | 0 => injection hj with hj; subst hj; exact .lf h0
  | 1 => injection hj with hj; subst hj; exact .lf h1
  | 2 => injection hj with hj; subst hj; exact .lf h2
  | 3 => injection hj with hj; subst hj; exact .lf h3
  | j + 4 => cases hj
theorem wf_inRb {k : IntKind} {n : Int} (h : (Lit.int k n).wf = true) : inRb k n = true := by
  simpa [Lit.wf, inRb] using h
theorem row_ok {α : Type} {zs : List Int} {len eb : Nat} (f : Int → α) (h : min len zs.length = len ∧ len ≤ big) (y : len * eb ≤ 140737488355328) : ((zs.take len).map f).length ≤ big ∧ ((zs.take len).map f).length * eb ≤ 140737488355328 := by
  rw [List.length_map, List.length_take, h.1]
  exact ⟨h.2, y⟩
theorem row_in {k : IntKind} {w : World} {a : Option Addr} {len cap : Nat} {zs : List Int} (h : IsRow k w a len cap zs) : ∀ z ∈ (zs.take len).map (fun z : Int => z), inRb k z = true := by
  intro z hz
  rw [List.map_id'] at hz
  have hm := List.mem_of_mem_take hz
  rcases h with ⟨_, _, _, rfl⟩ | ⟨_, _, _, _, _, _, h⟩
  · cases hm
  · exact wf_inRb (h z hm)
theorem sized_row {H : Type} {P : Program} {ts : List TypeId} {ds : List (DataW H)} (h : (DataW.weightsEach P ts ds).all (· ≤ reachBytes) = true) {j : Nat} {t e : TypeId} {k : IntKind} {zs : List Int} {len eb : Nat}
    (ht : ts[j]? = some t) (hd : ds[j]? = some (.slice (Go.ChangeShapes.lits k (zs.take len)) (Go.ChangeShapes.lits k (zs.drop len)))) (hu : P.underlying t = some (.slice e)) (hb : P.bytesOf e = eb) (hl : len ≤ zs.length) : len * eb ≤ 140737488355328 := by
  have h1 := sized_slice h ht hd hu
  have h2 := reachBytes_lt
  rw [hb] at h1
  have e1 : (Go.ChangeShapes.lits (H := H) k (zs.take len)).length = len := by simp [Go.ChangeShapes.lits]; omega
  rw [e1] at h1
  have : len * eb ≤ (len + (Go.ChangeShapes.lits (H := H) k (zs.drop len)).length) * eb := Nat.mul_le_mul_right _ (Nat.le_add_right _ _)
  omega
theorem rep_row {K0 : K} {ik : IntKind} (f : Int → E.A K0) (hs : E.sz K0 = 1) (henc : ∀ z, inRb ik z = true → E.enc K0 (f z) = [.int ik z]) {w : World}
    {a : Option Addr} {len cap : Nat} {zs : List Int} (h : IsRow ik w a len cap zs) : Rep E Gh.none w (.sl K0 ((zs.take len).map f)) (.slice a len cap) := by
  rcases h with ⟨rfl, rfl, rfl, rfl⟩ | ⟨x, rfl, hl, hm, hz, hc, hw⟩
  · exact .sl0 K0 _ _ (by decide)
  · rcases Nat.eq_zero_or_pos len with h0 | h0
    · subst h0; exact .sl0 K0 _ _ hm
    · have hx : x.spot = Option.none := by
        have := hc 0 (by omega)
        rw [show x.add 0 = x from rfl] at this
        unfold World.cell? at this
        split at this
        · cases hq : x.spot with
          | none => rfl
          | some q => rw [hq] at this; simp at this
        · cases this
      obtain ⟨b, off, sp⟩ := x
      obtain rfl : sp = Option.none := hx
      have e : ((zs.take len).map f).length = len := by simp; omega
      have hrep := Rep.sl (E := E) (G := Gh.none) (w := w) K0 ((zs.take len).map f) b off cap (fun i _ => .int ik (zs.getD i 0)) (by rw [e]; exact hl) hm
        (fun i j hi hj => by
          rw [hs] at hj ⊢
          obtain rfl : j = 0 := by omega
          refine ⟨?_, none_pur _ _⟩
          have := hc i (by rw [e] at hi; omega)
          simp only [Addr.add] at this
          split at this
          · rename_i h; subst h; simpa using this
          · simpa using this)
        (fun i y hy j l hl' => by
          rw [List.getElem?_map, Option.map_eq_some_iff] at hy
          obtain ⟨z, hz1, rfl⟩ := hy
          have hlt : i < len := by
            have := (List.getElem?_eq_some_iff.1 hz1).1
            simp at this; omega
          rw [List.getElem?_take_of_lt hlt] at hz1
          have hmem : z ∈ zs := List.mem_of_getElem? hz1
          rw [henc z (wf_inRb (hw z hmem))] at hl'
          match j with
          | 0 =>
            injection hl' with hl'
            subst hl'
            have : zs.getD i 0 = z := by rw [List.getD, hz1]; rfl
            rw [this]
            exact .int (wf_inRb (hw z hmem))
          | j + 1 => cases hl')
      rw [e] at hrep
      exact hrep
theorem enc_u8 (z : Int) (h : inRb .u8 z = true) : E.enc .u8 (UInt8.ofNat z.toNat) = [.int .u8 z] := by
  show [Leaf.int IntKind.u8 ((UInt8.ofNat z.toNat).toNat : Int)] = _
  simp only [inRb, Bool.and_eq_true, decide_eq_true_eq] at h
  have h1 : (0 : Int) ≤ z := h.1
  have h2 : z ≤ 255 := h.2
  have : ((UInt8.ofNat z.toNat).toNat : Int) = z := by simp; omega
  rw [this]; rfl
theorem int_of_shaped {P : Program} {w : World} {g : Nat} {t : TypeId} {zero : Array Value} {k : IntKind} (h : w.ShapedOpen P) (hg : g < P.globals.size)
    (h0 : ((begin P (fun _ _ => 0) default).world.heap[g]?).bind Obj.row? = some (zero, t)) (hz : zero.size = 1) (hb : P.buildable t = true) (hc : P.cellTypes P.depth t = some [t]) (hu : P.underlying t = some (.int k)) :
    ∃ m, k.has m ∧ w.cell? ⟨g, 0, none⟩ = some (.int k m) := by
  obtain ⟨cs, hh, hs, hr⟩ := h.1 g zero t hg h0
  obtain ⟨ts, hts, _, hall⟩ := hr hb
  rw [hc] at hts
  cases hts
  have h1 : 0 < cs.size := by omega
  obtain ⟨u, hu', hok⟩ := hall 0 cs[0] (by simp [h1])
  have : u = t := by simpa using hu'.symm
  subst this
  have hcell : w.cell? ⟨g, 0, none⟩ = some cs[0] := by simp [World.cell?, hh, h1]
  rw [hcell]
  unfold Cell.ok at hok
  rw [hu] at hok
  cases hv : cs[0] <;> rw [hv] at hok <;> simp at hok
  case int k' n => exact ⟨n, hok.2, by rw [hok.1]⟩
theorem shape_of_shaped {P : Program} {w : World} {g : Nat} {t : TypeId} {zero : Array Value} {n : Nat} (h : w.ShapedOpen P) (hg : g < P.globals.size)
    (h0 : ((begin P (fun _ _ => 0) default).world.heap[g]?).bind Obj.row? = some (zero, t)) (hz : zero.size = n) : ∃ t, w.shape? g = some (t, n) := by
  obtain ⟨cs, hh, hs, _⟩ := h.1 g zero t hg h0
  refine ⟨t, ?_⟩
  unfold World.shape?
  rw [hh]
  simp [hs, hz]
/-- A variable of the program's that holds these numbers. -/
theorem glob_of_cells {w : World} {ik : IntKind} {n g : Nat} (f : Nat → Int) (hf : ∀ i, i < n → inRb ik (f i) = true) (hc : ∀ i, i < n → w.cell? ⟨g, i, none⟩ = some (.int ik (f i))) (hs : ∃ t, w.shape? g = some (t, n)) (hga : E.ga g = none) :
    Glob E Gh.none w ((List.range n).map fun c => .int ik (f c)) g := by
  refine ⟨.pp _ g 0 (fun j => .int ik (f j)) (List.all_eq_true.2 fun l hl => ?_) (fun j hj => ⟨?_, none_pur _ _⟩) (fun j l hl => ?_), ?_, fun k hk => ?_⟩
  · obtain ⟨c, _, rfl⟩ := List.mem_map.1 hl
    rfl
  · rw [Nat.zero_add]
    exact hc j (by simpa using hj)
  · rw [List.getElem?_map, Option.map_eq_some_iff] at hl
    obtain ⟨z, hz, rfl⟩ := hl
    have hj : j < n := by
      have := (List.getElem?_eq_some_iff.1 hz).1
      simpa using this
    rw [List.getElem?_range hj] at hz
    injection hz with hz; subst hz
    exact .int (hf j hj)
  · rw [List.length_map, List.length_range]; exact hs
  · rw [hga] at hk; cases hk
theorem glob_of_tab {w : World} (h : Lib.TabIs E.P w "internal/strconv.uint64pow10" .u64 Lib.pow10Tab) (hs : ∃ t, w.shape? 2 = some (t, 20)) : Glob E Gh.none w ((Go.Lib.pow10Tab).map fun z => .int .u64 z) 2 := by
  have hg : E.P.globalNamed "internal/strconv.uint64pow10" = some 2 := by kernel_rfl
  have e : ((Go.Lib.pow10Tab).map fun z => (Leaf.int (A := E.A) .u64 z)) = (List.range 20).map fun c => .int .u64 (Lib.pow10Tab.getD c 0) := by kernel_rfl
  rw [e]
  refine glob_of_cells (fun c => Lib.pow10Tab.getD c 0) (fun i hi => ?_) (fun i hi => h.cell hg i hi) hs rfl
  have : (List.range 20).all (fun i => inRb .u64 (Lib.pow10Tab.getD i 0)) = true := by decide
  exact List.all_eq_true.1 this i (List.mem_range.2 hi)
theorem first_of_reads {w : World} (h : Lib.VarReads E.P w "unicode/utf8.first" Lib.firstData) (c : Nat) (hc : c < 256) : w.cell? ⟨3, c, none⟩ = some (.int .u8 (Lib.firstT c : Int)) := by
  obtain ⟨g, t, cs, fuel, p, hg, hty, hvar, hd⟩ := h
  obtain rfl := Option.some.inj ((show E.P.globalNamed "unicode/utf8.first" = some 3 from by kernel_rfl).symm.trans hg)
  obtain rfl := Option.some.inj ((show (E.P.globals[3]?).map (·.type) = some 170 from by kernel_rfl).symm.trans hty)
  have hcs := Lib.cells_of_tab (t := 170) (e := 5) (n := 256) (by kernel_rfl) (by kernel_rfl) (by kernel_rfl) (by kernel_rfl) hd
  have := World.var?_cell hg hvar c
  rw [this, ← Array.getElem?_toList, hcs]
  simp [Lib.firstTab, hc]
theorem accept_of_reads {w : World} (h : Lib.VarReads E.P w "unicode/utf8.acceptRanges" Lib.acceptData) (i : Nat) (hi : i < 16) :
    w.cell? ⟨4, 2 * i, none⟩ = some (.int .u8 (Lib.accLo i : Int)) ∧ w.cell? ⟨4, 2 * i + 1, none⟩ = some (.int .u8 (Lib.accHi i : Int)) := by
  obtain ⟨g, t, cs, fuel, p, hg, hty, hvar, hd⟩ := h
  obtain rfl := Option.some.inj ((show E.P.globalNamed "unicode/utf8.acceptRanges" = some 4 from by kernel_rfl).symm.trans hg)
  obtain rfl := Option.some.inj ((show (E.P.globals[4]?).map (·.type) = some 173 from by kernel_rfl).symm.trans hty)
  obtain ⟨fuel', d, q, hdi, he⟩ := Lib.array_elem (n := 16) (e := 172) (by kernel_rfl) hd i hi
  simp only [List.getElem?_map, List.getElem?_range hi, Option.map_some, Option.some.injEq] at hdi
  subst hdi
  have c2 : E.P.cellsOf 172 = 2 := by kernel_rfl
  have c5 : E.P.cellsOf 5 = 1 := by kernel_rfl
  have u5 : E.P.underlying 5 = some (.int .u8) := by kernel_rfl
  rw [c2] at he
  have hcs := Lib.ints_of_struct Go.Proofs.Tryz.underlying172 (fun j f hj => by
    match j, hj with
    | 0, hj => simp at hj; subst hj; exact ⟨u5, rfl, c5⟩
    | 1, hj => simp at hj; subst hj; exact ⟨u5, rfl, c5⟩
    | j + 2, hj => simp at hj) (c2.trans rfl) he
  have e0 := congrArg (·[0]?) hcs
  have e1 := congrArg (·[1]?) hcs
  simp only [List.getElem?_take, List.getElem?_drop] at e0 e1
  constructor
  · rw [World.var?_cell hg hvar (2 * i), ← Array.getElem?_toList]
    simpa [Nat.mul_comm] using e0
  · rw [World.var?_cell hg hvar (2 * i + 1), ← Array.getElem?_toList]
    simpa [Nat.mul_comm] using e1
theorem err_ty (u : TypeId) (hu : E.P.typeName? 3 u = some "*errors.errorString") : u = 181 := by
  have e : some "*errors.errorString" = some ("*" ++ "errors.errorString") := by decide +kernel
  rw [e] at hu
  exact typeName_ptr_named (P := E.P) (nm := "errors.errorString") (tp := 181) (by decide +kernel) (by decide +kernel) (by decide +kernel) u hu
theorem err_of_laid {P : Program} {w : World} {n : String} {d : DataW Unit} {g ti : Nat} {ms : Array (String × TypeId)} {e : TypeId} (hg : P.globalNamed n = some g) (hty : (P.globals[g]?).map (·.type) = some ti) (hms : P.underlying ti = some (.interface ms))
    (hnm : ∀ u, P.typeName? 3 u = some "*errors.errorString" → u = 181) (hpt : P.underlying 181 = some (.pointer e)) (h : laidMet P [(n, .iface "*errors.errorString" (.ptr d))] w) :
    ∃ v : Value, w.cell? ⟨g, 0, none⟩ = some (.iface 181 v) ∧ v.oneCell' = true := by
  obtain ⟨ps, ⟨g', t', cs, fuel, p, q, h1, h2, hvar, hd, hq, rfl⟩, _, hall⟩ := h
  obtain rfl := Option.some.inj (hg.symm.trans h1)
  obtain rfl := Option.some.inj (hty.symm.trans h2)
  obtain ⟨fuel', u, v, hcs, hn, _⟩ := iface_of_trod hms hd
  have hc0 : w.cell? ⟨g, 0, none⟩ = some (.iface u v) := by
    rw [World.var?_cell hg hvar 0, ← Array.getElem?_toList, hcs]; rfl
  have hsz : cs.size = 1 := by rw [← Array.length_toList, hcs]; rfl
  have hok := (hall g 0 (by rw [hsz]; simp [MemPlace.row])).2 u v hc0
  obtain rfl := hnm u hn
  obtain ⟨a, rfl⟩ := WideShapes.okWide_pointer hpt hok
  exact ⟨_, hc0, rfl⟩
theorem glob_of_err {w : World} {g : Nat} (h : ∃ v : Value, w.cell? ⟨g, 0, none⟩ = some (.iface 181 v) ∧ v.oneCell' = true) (hs : ∃ t, w.shape? g = some (t, 1)) (hga : E.ga g = none) : Glob E Gh.none w [.ifc 181 .dead] g := by
  obtain ⟨v, hc, hv⟩ := h
  refine ⟨.pp _ g 0 (fun _ => .iface 181 v) rfl (fun j hj => ⟨?_, none_pur _ _⟩) (fun j l hl => ?_), hs, fun k hk => by rw [hga] at hk; cases hk⟩
  · have hj' : j < 1 := hj
    obtain rfl : j = 0 := by omega
    exact hc
  · match j, hl with
    | 0, hl => injection hl with hl; subst hl; exact .ifc (.dead hv)
    | j + 1, hl => cases hl
def errS : DataW Unit := .agg [.lit (.string [105, 110, 118, 97, 108, 105, 100, 32, 115, 121, 110, 116, 97, 120])]
def errR : DataW Unit := .agg [.lit (.string [118, 97, 108, 117, 101, 32, 111, 117, 116, 32, 111, 102, 32, 114, 97, 110, 103, 101])]
theorem gl_of_laid {w : World} {laid : List (String × DataW Unit)} (hf : laid.filter (fun x => x.1 == "internal/strconv.uint64pow10") = [("internal/strconv.uint64pow10", Lib.tabData .u64 Lib.pow10Tab)])
    (hf2 : laid.filter (fun x => x.1 == "unicode/utf8.first") = [("unicode/utf8.first", Lib.firstData)]) (hf3 : laid.filter (fun x => x.1 == "unicode/utf8.acceptRanges") = [("unicode/utf8.acceptRanges", Lib.acceptData)])
    (hf5 : laid.filter (fun x => x.1 == "strconv.ErrSyntax") = [("strconv.ErrSyntax", .iface "*errors.errorString" (.ptr errS))]) (hf6 : laid.filter (fun x => x.1 == "strconv.ErrRange") = [("strconv.ErrRange", .iface "*errors.errorString" (.ptr errR))])
    (h : laidMetH E.P laid w) (hs : w.ShapedOpen E.P) :
    ∀ g cs, E.gl g = some cs → Glob E Gh.none w cs g := by
  intro g cs hg
  match g, hg with
  | 0, hg => cases hg
  | 1, hg =>
    injection hg with hg; subst hg
    obtain ⟨m, hm, hc⟩ := int_of_shaped (g := 1) (t := 3) (k := .i64) (zero := #[.int .i64 0]) hs (by decide +kernel) (by kernel_rfl) rfl (by kernel_rfl) (by kernel_rfl) (by kernel_rfl)
    refine ⟨.pp _ 1 0 (fun _ => .int .i64 m) rfl (fun j hj => ⟨?_, none_pur _ _⟩) (fun j l hl => ?_), shape_of_shaped (g := 1) (t := 3) (zero := #[.int .i64 0]) hs (by decide +kernel) (by kernel_rfl) rfl, fun k hk => ?_⟩
    · have hj' : j < 1 := hj
      obtain rfl : j = 0 := by omega
      exact hc
    · match j, hl with
      | 0, hl => injection hl with hl; subst hl; exact .dead rfl
      | j + 1, hl => cases hl
    · injection hk with hk; subst hk
      refine ⟨m, ?_, hc, none_pur _ _⟩
      unfold IntKind.has at hm
      unfold inRb
      simpa using hm
  | 2, hg =>
    injection hg with hg; subst hg
    have h1 := laidMetH.filter (fun x => x.1 == "internal/strconv.uint64pow10") h
    rw [hf] at h1
    have h2 : laidMet E.P [("internal/strconv.uint64pow10", Lib.tabData .u64 Lib.pow10Tab)] w := h1
    have h3 : Lib.TabIs E.P w "internal/strconv.uint64pow10" .u64 Lib.pow10Tab := Lib.tabIs_of_head (g := 2) (t := 150) (e := 54) (n := 20) (by kernel_rfl) (by kernel_rfl) (by kernel_rfl) (by kernel_rfl) (by kernel_rfl) (by kernel_rfl) h2
    exact glob_of_tab h3 (shape_of_shaped (g := 2) (t := 150) (zero := Array.replicate 20 (.int .u64 0)) hs (by decide +kernel) (by kernel_rfl) Array.size_replicate)
  | 3, hg =>
    injection hg with hg; subst hg
    have h1 := laidMetH.filter (fun x => x.1 == "unicode/utf8.first") h
    rw [hf2] at h1
    have h2 : laidMet E.P [("unicode/utf8.first", Lib.firstData)] w := h1
    have h3 := Lib.laidMet.reads h2 (List.mem_singleton.2 rfl)
    refine glob_of_cells (fun c => (Lib.firstT c : Int)) (fun i hi => ?_) (first_of_reads h3) (shape_of_shaped (g := 3) (t := 170) (zero := Array.replicate 256 (.int .u8 0)) hs (by decide +kernel) (by kernel_rfl) Array.size_replicate) rfl
    have : (List.range 256).all (fun i => inRb .u8 (Lib.firstT i : Int)) = true := by decide +kernel
    exact List.all_eq_true.1 this i (List.mem_range.2 hi)
  | 4, hg =>
    injection hg with hg; subst hg
    have h1 := laidMetH.filter (fun x => x.1 == "unicode/utf8.acceptRanges") h
    rw [hf3] at h1
    have h2 : laidMet E.P [("unicode/utf8.acceptRanges", Lib.acceptData)] w := h1
    have h3 := Lib.laidMet.reads h2 (List.mem_singleton.2 rfl)
    refine glob_of_cells (fun c => if c % 2 = 0 then (Lib.accLo (c / 2) : Int) else (Lib.accHi (c / 2) : Int)) (fun i hi => ?_) (fun i hi => ?_) (shape_of_shaped (g := 4) (t := 173) (zero := Array.replicate 32 (.int .u8 0)) hs (by decide +kernel) (by kernel_rfl) Array.size_replicate) rfl
    · have : (List.range 32).all (fun c => inRb .u8 (if c % 2 = 0 then (Lib.accLo (c / 2) : Int) else (Lib.accHi (c / 2) : Int))) = true := by decide +kernel
      exact List.all_eq_true.1 this i (List.mem_range.2 hi)
    · obtain ⟨k1, k2⟩ := accept_of_reads h3 (i / 2) (by omega)
      rcases Nat.mod_two_eq_zero_or_one i with e | e
      · rw [if_pos e]
        rw [show 2 * (i / 2) = i by omega] at k1
        exact k1
      · rw [if_neg (by omega)]
        rw [show 2 * (i / 2) + 1 = i by omega] at k2
        exact k2
  | 5, hg =>
    injection hg with hg; subst hg
    have h1 := laidMetH.filter (fun x => x.1 == "strconv.ErrSyntax") h
    rw [hf5] at h1
    have h2 : laidMet E.P [("strconv.ErrSyntax", .iface "*errors.errorString" (.ptr errS))] w := h1
    exact glob_of_err (err_of_laid (g := 5) (ti := 103) (e := 183) (by kernel_rfl) (by kernel_rfl) Go.Proofs.Tryz.underlying103 err_ty (by kernel_rfl) h2) (shape_of_shaped (g := 5) (t := 103) (zero := #[.nilIface]) hs (by decide +kernel) (by kernel_rfl) rfl) rfl
  | 6, hg =>
    injection hg with hg; subst hg
    have h1 := laidMetH.filter (fun x => x.1 == "strconv.ErrRange") h
    rw [hf6] at h1
    have h2 : laidMet E.P [("strconv.ErrRange", .iface "*errors.errorString" (.ptr errR))] w := h1
    exact glob_of_err (err_of_laid (g := 6) (ti := 103) (e := 183) (by kernel_rfl) (by kernel_rfl) Go.Proofs.Tryz.underlying103 err_ty (by kernel_rfl) h2) (shape_of_shaped (g := 6) (t := 103) (zero := #[.nilIface]) hs (by decide +kernel) (by kernel_rfl) rfl) rfl
  | g + 7, hg => cases hg
variable {H : Type} {enc : TypeId × Value → H}
/-- From the contract to the row, the world's shape kept. -/
theorem returns_shaped {a : Assume} {C : Checked} {os : Os} {f : FuncId} {fn : Func} {s : ChangeSpec} {conds : List PathCond} {apart fresh handsOn again : Bool} {X : World → Array Value → Prop}
    (hX : ∀ (w w' : World) (args : Array Value), w.heap = w'.heap → X w args → X w' args)
    (own : ownKnob C.prog.godebug = none) (started : os.Started) (noInit : C.prog.inits.idxOf? f = none) (hfn : C.prog.funcs[f]? = some fn)
    (witness : ∃ (w : World) (tape : Tape) (i : Input), w.os = os ∧ (w.forCall tape i).Shaped C.prog ∧ i.vars = [] ∧ Input.okWide C.prog (w.forCall tape i) .any w.heap.size f i ∧
      ((s.pre enc C.prog fn conds apart (w.forCall tape i).memory i.args ∧ X (w.forCall tape i).memory i.args) ∧ sizedMet enc C.prog fn (OpenSpec.ofChange s) apart (w.forCall tape i).memory i.args) ∧ a.holds C.prog (lone (Frame.enter C.prog f i.args .normal) [] (w.forCall tape i)))
    (contract : ∀ (W : World) (base : Nat) (args : Array Value) (ds gs : List (DataW H)) (before : List MemPlace),
      (∀ (j : Nat) t v, fn.params[j]? = some t → args[j]? = some v → Value.okWide C.prog W .any base t v) →
      DataW.Whole enc C.prog fn.params.toList s.vars apart W args.toList ds gs before →
      conds.all (PathCond.test C.prog ⟨fn.params.toList, ds, s.plain.varTypes C.prog, gs⟩) = true →
      (DataW.weightsEach C.prog (fn.params.toList ++ s.plain.varTypes C.prog) (ds ++ gs)).all (· ≤ reachBytes) = true → X W args → W.ShapedOpen C.prog →
      Calls C.prog f args W fun e W' => ∃ v, e = .returned v ∧ s.post enc C.prog fn apart fresh handsOn again W args v W') :
    ReturnsInHanded a C os f .any (fun w args => (s.pre enc C.prog fn conds apart w args ∧ X w args) ∧ sizedMet enc C.prog fn (OpenSpec.ofChange s) apart w args) (s.post enc C.prog fn apart fresh handsOn again) := by
  refine returnsInHanded_of_calls own started noInit witness ?_
  intro w tape i _ hsh _ hok hpre _
  obtain ⟨_, _, _, fn', hfn', _, _, _, _, hval⟩ := hok
  have e : fn' = fn := Option.some.inj (hfn'.symm.trans hfn)
  subst e
  obtain ⟨⟨⟨ds, gs, before, hw, hc⟩, hx⟩, hz⟩ := hpre
  have hw' := DataW.Whole.of_heap (w' := w.forCall tape i) (by rfl) hw
  refine (contract (w.forCall tape i) w.heap.size i.args ds gs before hval hw' hc (hz.weights hw) (hX _ _ _ (by rfl) hx) hsh).mono fun e W' ⟨v, he, hp⟩ => ?_
  subst he
  exact ChangeSpec.post_blind hp
end Go.Vx
