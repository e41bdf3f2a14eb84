/-
  Part 12 of the proof: the second reading of the model, its laws, and the functions' contracts. Lemmas alone.
-/
import Derived.Test.YtmllilgelombiaaDoorRows
import Derived.WalkKit
import Derived.ProofKit
import Derived.OpenShut
import Derived.ShutString
import Derived.ChangeOld
import Derived.Below
import Derived.SizedLaws
import Derived.LaidSub
import Derived.Lib.LaidTab
import Derived.Lib.LaidU8
import Derived.Test.YtmllilgelombiaaDoorA2
import Derived.Test.YtmllilgelombiaaDoorA11
set_option linter.unusedSectionVars false
set_option linter.unusedVariables false
set_option linter.unusedSimpArgs false
namespace Go.Vx
open Go
noncomputable def G16 : FuncId → Option (Spec E) := fun _ => none
theorem hG16 (hL : Laws E) : ∀ f spec, G16 f = some spec → Valid E f spec := by
  intro f spec h
  cases h
def L16_0 : Ex → Live
  | .normal => ⟨[1, 5, 8, 9, 10], []⟩
  | .exit 0 => ⟨[5], []⟩
  | .ret => ⟨[4], []⟩
  | _ => ⟨[], []⟩
noncomputable def S16_0 (p1 : Int) (p8 : List UInt8) (p9 : Int) (x : (List UInt8) × Int) : St E.A := at' E 24 [(1, .lf (.int .i64 p1)), (5, .lf (.own 0 0 .u8 x.1)), (8, .lf (.sl .u8 p8)), (9, .lf (.int .i64 p9)), (10, .lf (.int .i64 x.2))] []
noncomputable def t16_0 (p1 : Int) (p8 : List UInt8) (p9 : Int) (x : (List UInt8) × Int) : Tree ((List UInt8) × Int ⊕ Out' E) :=
 .ite (ltI x.snd p9)
 (.ite (inB x.snd p8.length)
  (.ite (ltI x.snd p1)
   (.ite (decide ((x.fst.length + [UInt8.ofNat (↑(p8.getD x.snd.toNat (0 : UInt8)).toNat : Int).toNat].length) * (1 : Nat) ≤ (140737488355328 : Nat)))
    (.leaf (.inl ((x.fst ++ [UInt8.ofNat (↑(p8.getD x.snd.toNat (0 : UInt8)).toNat : Int).toNat]), (IntKind.i64.wrap (x.snd + (1 : Int))))))
    (.fail))
   (.leaf (.inl (x.fst, (IntKind.i64.wrap (x.snd + (1 : Int)))))))
  (.fail))
 (.leaf (.inr (.exit 0, at' E 24 [(5, .lf (.own 0 0 .u8 x.fst))] [])))
theorem h16_0 (p1 : Int) (p8 : List UInt8) (p9 : Int) (x : (List UInt8) × Int) (k : Ex → St E.A → Option Unit) :
    exec E G16 (fun _ _ => .fail) 1 (lb Go.Proofs.Tryd.f16 0) (S16_0 p1 p8 p9 x) (fun e σ1 => k e (clean E (L16_0 e) σ1)) = (t16_0 p1 p8 p9 x).run (Sum.elim (fun x' => k .normal (S16_0 p1 p8 p9 x')) (fun o => k o.1 o.2)) := by kernel_rfl
noncomputable def lam16_0 (p1 : Int) (p8 : List UInt8) (p9 : Int) (x : (List UInt8) × Int) : Tree (Out' E) :=
  .ite (eqI p9 p8.length && leI 0 x.2 && leI x.2 p9 && leI 0 p1 && decide (x.1.length + (p8.length - x.2.toNat) ≤ 140737488355328))
   (.leaf (.exit 0, at' E 24 [(5, .lf (.own 0 0 .u8 (x.1 ++ (p8.drop x.2.toNat).take (p1.toNat - x.2.toNat))))] [])) .fail
theorem run16 (m : Nat) (f : List UInt8 → Out' E) : ∀ (l : List UInt8) (i : Nat) (acc : List UInt8),
    rangeRun (fun i (acc : List UInt8) (b : UInt8) => (.inl (if i < m then acc ++ [b] else acc) : List UInt8 ⊕ Out' E)) f i acc l = f (acc ++ l.take (m - i))
  | [], i, acc => by simp [rangeRun]
  | c :: l, i, acc => by
    simp only [rangeRun]
    rw [run16 m f l (i + 1)]
    by_cases hi : i < m
    · rw [if_pos hi]
      have : m - i = (m - (i + 1)) + 1 := by omega
      rw [this, List.take_succ_cons]; simp
    · rw [if_neg hi]
      have e1 : m - (i + 1) = 0 := by omega
      have e2 : m - i = 0 := by omega
      rw [e1, e2]; simp
theorem m16_0 {p1 : Int} {p8 : List UInt8} {p9 : Int} {x : (List UInt8) × Int} {e : Ex} {σ : St E.A} (_ : okLenR (E := E) (.lf (.own 0 0 .u8 x.1)) = true) (g : okLenR (E := E) (.lf (.sl .u8 p8)) = true)
    (h : (lam16_0 p1 p8 p9 x).get = some (e, σ)) : ∃ fuel, iter (t16_0 p1 p8 p9) fuel x = some (e, σ) ∧ e ≠ .normal := by
  have hb : p8.length ≤ big := of_decide_eq_true g
  obtain ⟨acc, i⟩ := x
  unfold lam16_0 at h
  have h' := Tree.get_ite_some h
  clear h
  rcases h' with ⟨h1, h⟩ | ⟨_, h⟩
  · simp only [eqI_eq, leI_eq, Bool.and_eq_true, decide_eq_true_eq] at h1
    obtain ⟨⟨⟨⟨rfl, h3⟩, h4⟩, h5⟩, h6⟩ := h1
    simp only at h3 h4 h6 h
    obtain ⟨i, rfl⟩ : ∃ j : Nat, i = (j : Int) := ⟨i.toNat, by omega⟩
    obtain ⟨m, rfl⟩ : ∃ j : Nat, p1 = (j : Int) := ⟨p1.toNat, by omega⟩
    rw [Int.toNat_natCast] at h6
    have key := range_iter (t := t16_0 m p8 p8.length) (l := p8) (0 : UInt8) (fun (a : List UInt8) i => (a, i)) (fun i a b => .inl (if i < m then a ++ [b] else a))
      (fun a => (Ex.exit 0, at' E 24 [(5, .lf (.own 0 0 .u8 a))] [])) (fun i a => a.length + (p8.length - i) ≤ 140737488355328)
      (fun i a hi ho => ⟨by
        have hr : (a.length + 1) * 1 ≤ 140737488355328 := by omega
        simp only [t16_0, Tree.get_ite, Tree.get_leaf, ltI_nat hi, inB_nat hi, cond_true, i64_succ hi hb, Int.toNat_natCast, u8_rt, List.length_cons, List.length_nil, Nat.zero_add, hr, decide_true, ltI_eq]
        by_cases hc : i < m
        · have : (i : Int) < (m : Int) := by omega
          simp [hc, this]
        · have : ¬ (i : Int) < (m : Int) := by omega
          simp [hc, this], fun a' h => by
        injection h with h
        subst h
        split
        · simp; omega
        · omega⟩)
      (fun a _ => by simp only [t16_0, Tree.get_ite, Tree.get_leaf, ltI_self, cond_false])
      (p8.length - i) i acc (by omega) h6
    rw [run16] at key
    refine ⟨_, key.trans h, ?_⟩
    injection h with h; injection h with h1 _; rw [← h1]; intro hh; cases hh
  · cases h
noncomputable def rd16_0 (σ : St E.A) : Tree (Out' E) :=
  let c := clean E (L16_0 .normal) σ
  if c.sl.length = 24 then
  match c.sl.getD 1 .undef, c.sl.getD 5 .undef, c.sl.getD 8 .undef, c.sl.getD 9 .undef, c.sl.getD 10 .undef with
  | .lf (.int .i64 p1), .lf (.own 0 0 .u8 x5), .lf (.sl .u8 p8), .lf (.int .i64 p9), .lf (.int .i64 x10) => lam16_0 p1 p8 p9 (x5, x10)
  | _, _, _, _, _ => .fail
  else .fail
theorem ll16_0 (hL : Laws E) (σ : St E.A) (e : Ex) (σ' : St E.A) (h : (rd16_0 σ).get = some (e, σ')) : LoopOK E (lb Go.Proofs.Tryd.f16 0) σ e σ' := by
  refine LoopOK.of_clean hL (L16_0 .normal) ?_
  unfold rd16_0 at h
  simp only at h
  split at h
  · rename_i hlen
    split at h
    · rename_i p1 x5 p8 p9 x10 h0 h1 h2 h3 h4
      refine LoopOK.lens 5 (fun g0 => ?_)
      rw [h1] at g0
      refine LoopOK.lens 8 (fun g1 => ?_)
      rw [h2] at g1
      obtain ⟨fuel, hi, ho⟩ := m16_0 g0 g1 h
      have hl := loop_at (Γ := G16) (Λ := fun _ _ => .fail) (n := 1) (body := lb Go.Proofs.Tryd.f16 0) hL (hG16 hL) (S := S16_0 p1 p8 p9) (t := t16_0 p1 p8 p9) (Lv := L16_0) (LamOK.none (by kernel_rfl)) (h16_0 p1 p8 p9) hi ho
      refine LoopOK.fit hlen ?_ ?_ rfl rfl hl
      · exact ⟨h0, h1, h2, h3, h4, trivial⟩
      · exact trivial
    · cases h
  · cases h
noncomputable def Lam16 : Lam E
  | 0, σ => rd16_0 σ
  | _, _ => .fail
noncomputable def w16 (a0 : List UInt8) (a1 : Int) : Tree (RV E.A × List (Obj E.A)) :=
 .ite (eqI (↑a0.length : Int) (↑a0.length : Int) && leI (0 : Int) (0 : Int) && leI (0 : Int) (↑a0.length : Int) && leI (0 : Int) a1 && decide (([] : List UInt8).length + (a0.length - Int.toNat (0 : Int)) ≤ (140737488355328 : Nat)))
 (.leaf (.lf (.sl .u8 ([] ++ List.take (a1.toNat - Int.toNat (0 : Int)) (List.drop (Int.toNat (0 : Int)) a0))), []))
 (.fail)
theorem e16 (a0 : List UInt8) (a1 : Int) : execFun E G16 ((Lam16)) false Go.Proofs.Tryd.f16 [.lf (.sl .u8 a0), .lf (.int .i64 a1)] [] some = (w16 a0 a1).get := by kernel_rfl
noncomputable def raw16 : Spec E := fun args os => match args, os with
  | [.lf (.sl .u8 a0), .lf (.int .i64 a1)], [] => w16 a0 a1
  | _, _ => .fail
theorem validraw16 (hL : Laws E) : Valid E 16 raw16 :=
  valid_of_body hL (hG16 hL) (Λ := (Lam16)) (fn := Go.Proofs.Tryd.f16) (keep := false) (by kernel_rfl) (by kernel_rfl) (by kernel_rfl) ((LamOK.of (m := 1) (by kernel_rfl) (fun j hj σ e σ' hg => by
      match j, hj with
      | 0, _ => exact ll16_0 hL σ e σ' hg
      ))) (fun args os r os' h => by
    unfold raw16 at h
    split at h
    · exact (e16 _ _).trans h
    · cases h)
theorem eq16 (a : List UInt8) (m : Int) (h1 : 0 ≤ m) (h2 : a.length ≤ 140737488355328) : (w16 a m).get = some (.lf (.sl .u8 (a.take m.toNat)), []) := by
  unfold w16
  have e : (eqI (a.length : Int) (a.length : Int) && leI 0 0 && leI 0 (a.length : Int) && leI 0 m && decide (([] : List UInt8).length + (a.length - Int.toNat 0) ≤ 140737488355328)) = true := by
    simp only [eqI_eq, leI_eq, Bool.and_eq_true, decide_eq_true_eq]
    exact ⟨⟨⟨⟨trivial, by omega⟩, by omega⟩, h1⟩, by simp; omega⟩
  rw [Tree.get_ite, e]
  rfl
noncomputable def spec16 : Spec E := fun args os => match args, os with
  | [.lf (.sl .u8 a), .lf (.int .i64 m)], [] => .ite (leI 0 m && decide (a.length ≤ 140737488355328)) (.leaf (.lf (.sl .u8 (a.take m.toNat)), [])) .fail
  | _, _ => .fail
theorem valid16 (hL : Laws E) : Valid E 16 spec16 := (validraw16 hL).less (fun args os x _ _ h => by
  unfold spec16 at h
  split at h
  · rcases Tree.get_ite_some h with ⟨h1, h⟩ | ⟨_, h⟩
    · simp only [leI_eq, Bool.and_eq_true, decide_eq_true_eq] at h1
      exact (eq16 _ _ h1.1 h1.2).trans h
    · cases h
  · cases h)
end Go.Vx
namespace Go.Vx
open Go
noncomputable def G18 : FuncId → Option (Spec E) := fun _ => none
theorem hG18 (hL : Laws E) : ∀ f spec, G18 f = some spec → Valid E f spec := by
  intro f spec h
  cases h
def L18_0 : Ex → Live
  | .normal => ⟨[1, 7, 8, 9], []⟩
  | .exit 0 => ⟨[], []⟩
  | .ret => ⟨[4], []⟩
  | _ => ⟨[], []⟩
noncomputable def S18_0 (p1 : Int) (p7 : List (Int × Int)) (p8 : Int) (x : Int) : St E.A := at' E 20 [(1, .lf (.int .i64 p1)), (7, .lf (.sl .two p7)), (8, .lf (.int .i64 p8)), (9, .lf (.int .i64 x))] []
noncomputable def t18_0 (p1 : Int) (p7 : List (Int × Int)) (p8 : Int) (x : Int) : Tree ((Int) ⊕ Out' E) :=
 .ite (ltI x p8)
 (.ite (inB x p7.length)
  (.ite (eqI (p7.getD x.toNat ((0 : Int), (0 : Int))).fst p1)
   (.leaf (.inr (.ret, at' E 20 [(4, .lf (.int .i64 x))] [])))
   (.leaf (.inl ((IntKind.i64.wrap (x + (1 : Int)))))))
  (.fail))
 (.leaf (.inr (.exit 0, at' E 20 [] [])))
theorem h18_0 (p1 : Int) (p7 : List (Int × Int)) (p8 : Int) (x : Int) (k : Ex → St E.A → Option Unit) :
    exec E G18 (fun _ _ => .fail) 1 (lb Go.Proofs.Tryd.f18 0) (S18_0 p1 p7 p8 x) (fun e σ1 => k e (clean E (L18_0 e) σ1)) = (t18_0 p1 p7 p8 x).run (Sum.elim (fun x' => k .normal (S18_0 p1 p7 p8 x')) (fun o => k o.1 o.2)) := by kernel_rfl
noncomputable def lam18_0 (p1 : Int) (p7 : List (Int × Int)) (p8 : Int) (x : Int) : Tree (Out' E) :=
  .ite (eqI p8 p7.length && leI 0 x && leI x p8) (.ite (leI 0 (findI (fun (b : Int × Int) => eqI b.1 p1) x.toNat (p7.drop x.toNat))) (.leaf (.ret, at' E 20 [(4, .lf (.int .i64 (findI (fun (b : Int × Int) => eqI b.1 p1) x.toNat (p7.drop x.toNat))))] [])) (.leaf (.exit 0, at' E 20 [] []))) .fail
theorem m18_0 {p1 : Int} {p7 : List (Int × Int)} {p8 x : Int} {e : Ex} {σ : St E.A} (g : okLenR (E := E) (.lf (.sl .two p7)) = true)
    (h : (lam18_0 p1 p7 p8 x).get = some (e, σ)) : ∃ fuel, iter (t18_0 p1 p7 p8) fuel x = some (e, σ) ∧ e ≠ .normal := by
  have hb : p7.length ≤ big := of_decide_eq_true g
  unfold lam18_0 at h
  have h' := Tree.get_ite_some h
  clear h
  rcases h' with ⟨h1, h⟩ | ⟨_, h⟩
  · simp only [eqI_eq, leI_eq, Bool.and_eq_true, decide_eq_true_eq] at h1
    obtain ⟨⟨rfl, h3⟩, h4⟩ := h1
    obtain ⟨i, rfl⟩ : ∃ j : Nat, x = (j : Int) := ⟨x.toNat, by omega⟩
    have key := range_iter (t := t18_0 p1 p7 p7.length) (l := p7) ((0 : Int), (0 : Int)) (fun (_ : Unit) i => i) (fun i _ (b : Int × Int) => cond (eqI b.1 p1) (.inr (Ex.ret, at' E 20 [(4, .lf (.int .i64 (i : Int)))] [])) (.inl ()))
      (fun _ => (Ex.exit 0, at' E 20 [] [])) (fun _ _ => True)
      (fun i a hi _ => ⟨by
        simp only [t18_0, Tree.get_ite, Tree.get_leaf, ltI_nat hi, inB_nat hi, cond_true, i64_succ hi hb, Int.toNat_natCast]
        cases eqI (p7.getD i (0, 0)).1 p1 <;> rfl, fun _ _ => trivial⟩)
      (fun a _ => by simp only [t18_0, Tree.get_ite, Tree.get_leaf, ltI_self, cond_false])
      (p7.length - i) i () (by omega) trivial
    have key := key.trans (congrArg some (run_find (fun (b : Int × Int) => eqI b.1 p1) (fun j => (Ex.ret, at' E 20 [(4, .lf (.int .i64 j))] [])) (Ex.exit 0, at' E 20 [] []) (p7.drop i) i))
    rw [Tree.get_ite, Tree.get_leaf, Tree.get_leaf, Int.toNat_natCast] at h
    refine ⟨_, key.trans ?_, ?_⟩
    · rw [← h]; cases leI 0 (findI (fun (b : Int × Int) => eqI b.1 p1) i (p7.drop i)) <;> rfl
    · cases hd : leI 0 (findI (fun (b : Int × Int) => eqI b.1 p1) i (p7.drop i)) <;> rw [hd] at h <;> (injection h with h; injection h with h1 _; rw [← h1]; intro hh; cases hh)
  · cases h
noncomputable def rd18_0 (σ : St E.A) : Tree (Out' E) :=
  let c := clean E (L18_0 .normal) σ
  if c.sl.length = 20 then
  match c.sl.getD 1 .undef, c.sl.getD 7 .undef, c.sl.getD 8 .undef, c.sl.getD 9 .undef with
  | .lf (.int .i64 p1), .lf (.sl .two p7), .lf (.int .i64 p8), .lf (.int .i64 x9) => lam18_0 p1 p7 p8 (x9)
  | _, _, _, _ => .fail
  else .fail
theorem ll18_0 (hL : Laws E) (σ : St E.A) (e : Ex) (σ' : St E.A) (h : (rd18_0 σ).get = some (e, σ')) : LoopOK E (lb Go.Proofs.Tryd.f18 0) σ e σ' := by
  refine LoopOK.of_clean hL (L18_0 .normal) ?_
  unfold rd18_0 at h
  simp only at h
  split at h
  · rename_i hlen
    split at h
    · rename_i p1 p7 p8 x9 h0 h1 h2 h3
      refine LoopOK.lens 7 (fun g0 => ?_)
      rw [h1] at g0
      obtain ⟨fuel, hi, ho⟩ := m18_0 g0 h
      have hl := loop_at (Γ := G18) (Λ := fun _ _ => .fail) (n := 1) (body := lb Go.Proofs.Tryd.f18 0) hL (hG18 hL) (S := S18_0 p1 p7 p8) (t := t18_0 p1 p7 p8) (Lv := L18_0) (LamOK.none (by kernel_rfl)) (h18_0 p1 p7 p8) hi ho
      refine LoopOK.fit hlen ?_ ?_ rfl rfl hl
      · exact ⟨h0, h1, h2, h3, trivial⟩
      · exact trivial
    · cases h
  · cases h
noncomputable def Lam18 : Lam E
  | 0, σ => rd18_0 σ
  | _, _ => .fail
noncomputable def w18 (a0 : List (Int × Int)) (a1 : Int) : Tree (RV E.A × List (Obj E.A)) :=
 .ite (eqI (↑a0.length : Int) (↑a0.length : Int) && leI (0 : Int) (0 : Int) && leI (0 : Int) (↑a0.length : Int))
 (.ite (leI (0 : Int)   ((List.brecOn.go (motive := fun x => Nat → Int) (List.drop (Int.toNat (0 : Int)) a0) fun x f x_1 =>         (match (motive := Nat → (x : List (Int × Int)) → List.below (motive := fun x => Nat → Int) x → Int) x_1, x with           | x, [] => fun x => (-1 : Int)           | i, b :: l => fun x => bif eqI b.fst a1 then (↑i : Int) else x.1 (i + (1 : Nat)))           f).1     (Int.toNat (0 : Int))))
  (.leaf (.lf (.int .i64 ((List.brecOn.go (motive := fun x => Nat → Int) (List.drop (Int.toNat (0 : Int)) a0) fun x f x_1 =>       (match (motive := Nat → (x : List (Int × Int)) → List.below (motive := fun x => Nat → Int) x → Int) x_1, x with         | x, [] => fun x => (-1 : Int)         | i, b :: l => fun x => bif eqI b.fst a1 then (↑i : Int) else x.1 (i + (1 : Nat)))         f).1   (Int.toNat (0 : Int)))), []))
  (.leaf (.lf (.int .i64 ((-1 : Int))), [])))
 (.fail)
theorem e18 (a0 : List (Int × Int)) (a1 : Int) : execFun E G18 ((Lam18)) false Go.Proofs.Tryd.f18 [.lf (.sl .two a0), .lf (.int .i64 a1)] [] some = (w18 a0 a1).get := by kernel_rfl
noncomputable def raw18 : Spec E := fun args os => match args, os with
  | [.lf (.sl .two a0), .lf (.int .i64 a1)], [] => w18 a0 a1
  | _, _ => .fail
theorem validraw18 (hL : Laws E) : Valid E 18 raw18 :=
  valid_of_body hL (hG18 hL) (Λ := (Lam18)) (fn := Go.Proofs.Tryd.f18) (keep := false) (by kernel_rfl) (by kernel_rfl) (by kernel_rfl) ((LamOK.of (m := 1) (by kernel_rfl) (fun j hj σ e σ' hg => by
      match j, hj with
      | 0, _ => exact ll18_0 hL σ e σ' hg
      ))) (fun args os r os' h => by
    unfold raw18 at h
    split at h
    · exact (e18 _ _).trans h
    · cases h)
theorem eq18 (l : List (Int × Int)) (c : Int) : (w18 l c).get = some (.lf (.int .i64 (Px.find2 l c)), []) := by
  have h0 : (eqI (l.length : Int) l.length && leI 0 0 && leI 0 (l.length : Int)) = true := by
    simp only [eqI_eq, leI_eq, Bool.and_eq_true, decide_eq_true_eq]
    exact ⟨⟨trivial, by omega⟩, by omega⟩
  have e : (w18 l c).get = cond (eqI (l.length : Int) l.length && leI 0 0 && leI 0 (l.length : Int)) (cond (leI 0 (Px.find2 l c)) (some ((.lf (.int .i64 (Px.find2 l c)) : RV E.A), [])) (some ((.lf (.int .i64 (-1)) : RV E.A), []))) none := by kernel_rfl
  rw [e, h0]
  rcases findI_ge (fun (b : Int × Int) => eqI b.1 c) l 0 with h | h
  · rw [show Px.find2 l c = -1 from h]; rfl
  · rw [show leI 0 (Px.find2 l c) = true by rw [leI_eq]; exact decide_eq_true (by unfold Px.find2; omega)]; rfl
noncomputable def spec18 : Spec E := fun args os => match args, os with
  | [.lf (.sl .two l), .lf (.int .i64 c)], [] => .leaf (.lf (.int .i64 (Px.find2 l c)), [])
  | _, _ => .fail
theorem valid18 (hL : Laws E) : Valid E 18 spec18 := (validraw18 hL).less (fun args os x _ _ h => by
  unfold spec18 at h
  split at h
  · exact (eq18 _ _).trans h
  · cases h)
end Go.Vx
namespace Go.Vx
open Go
noncomputable def G22 : FuncId → Option (Spec E) := fun _ => none
theorem hG22 (hL : Laws E) : ∀ f spec, G22 f = some spec → Valid E f spec := by
  intro f spec h
  cases h
noncomputable def w22 (a0 : Int) : Tree (RV E.A × List (Obj E.A)) :=
 .ite (leI (0 : Int) a0)
 (.ite (ltI a0 (55296 : Int))
  (.leaf (.lf (.bool true), []))
  (.ite (ltI (57343 : Int) a0)
   (.leaf (.lf (.bool (ltI a0 (1114112 : Int))), []))
   (.leaf (.lf (.bool false), []))))
 (.ite (ltI (57343 : Int) a0)
  (.leaf (.lf (.bool (ltI a0 (1114112 : Int))), []))
  (.leaf (.lf (.bool false), [])))
theorem e22 (a0 : Int) : execFun E G22 (fun _ _ => .fail) false Go.Proofs.Tryd.f22 [.lf (.int .i64 a0)] [] some = (w22 a0).get := by kernel_rfl
noncomputable def raw22 : Spec E := fun args os => match args, os with
  | [.lf (.int .i64 a0)], [] => w22 a0
  | _, _ => .fail
theorem validraw22 (hL : Laws E) : Valid E 22 raw22 :=
  valid_of_body hL (hG22 hL) (Λ := fun _ _ => .fail) (fn := Go.Proofs.Tryd.f22) (keep := false) (by kernel_rfl) (by kernel_rfl) (by kernel_rfl) (LamOK.none (by kernel_rfl)) (fun args os r os' h => by
    unfold raw22 at h
    split at h
    · exact (e22 _).trans h
    · cases h)
theorem eq22 (a : Int) : (w22 a).get = some (.lf (.bool (Px.scalar a)), []) := by
  unfold w22
  simp only [Tree.get_ite, Tree.get_leaf, ltI_eq, leI_eq, eqI_eq, cond_dec]
  repeat' split
  all_goals (refine someB ?_; rw [Bool.eq_iff_iff, Px.scalar_iff]; simp; try omega)
noncomputable def spec22 : Spec E := fun args os => match args, os with
  | [.lf (.int .i64 a0)], [] => .leaf (.lf (.bool (Px.scalar a0)), [])
  | _, _ => .fail
theorem valid22 (hL : Laws E) : Valid E 22 spec22 := (validraw22 hL).less (fun args os x _ _ h => by
  unfold spec22 at h
  split at h
  · exact (eq22 _).trans h
  · cases h)
end Go.Vx
namespace Go.Vx
open Go
noncomputable def G40 : FuncId → Option (Spec E) := fun _ => none
theorem hG40 (hL : Laws E) : ∀ f spec, G40 f = some spec → Valid E f spec := by
  intro f spec h
  cases h
noncomputable def w40 (a0 : List UInt8) (a1 : Int) : Tree (RV E.A × List (Obj E.A)) :=
 .ite (ltI a1 (0 : Int))
 (.leaf (.tup [(false, [.int .i64 ((0 : Int))]), (false, [.bool false])], []))
 (.ite (ltI (IntKind.i64.wrap ((↑a0.length : Int) - (2 : Int))) a1)
  (.leaf (.tup [(false, [.int .i64 ((0 : Int))]), (false, [.bool false])], []))
  (.ite (inB a1 a0.length)
   (.ite (inB (IntKind.i64.wrap (a1 + (1 : Int))) a0.length)
    (.leaf (.tup [(false, [.int .i64 (IntKind.i64.wrap (IntKind.i64.wrap ((256 : Int) * IntKind.i64.wrap (↑(a0.getD a1.toNat (0 : UInt8)).toNat : Int)) + IntKind.i64.wrap (↑(a0.getD (IntKind.i64.wrap (a1 + (1 : Int))).toNat (0 : UInt8)).toNat : Int)))]), (false, [.bool true])], []))
    (.fail))
   (.fail)))
theorem e40 (a0 : List UInt8) (a1 : Int) : execFun E G40 (fun _ _ => .fail) false Go.Proofs.Tryd.f40 [.lf (.sl .u8 a0), .lf (.int .i64 a1)] [] some = (w40 a0 a1).get := by kernel_rfl
noncomputable def raw40 : Spec E := fun args os => match args, os with
  | [.lf (.sl .u8 a0), .lf (.int .i64 a1)], [] => w40 a0 a1
  | _, _ => .fail
theorem validraw40 (hL : Laws E) : Valid E 40 raw40 :=
  valid_of_body hL (hG40 hL) (Λ := fun _ _ => .fail) (fn := Go.Proofs.Tryd.f40) (keep := false) (by kernel_rfl) (by kernel_rfl) (by kernel_rfl) (LamOK.none (by kernel_rfl)) (fun args os r os' h => by
    unfold raw40 at h
    split at h
    · exact (e40 _ _).trans h
    · cases h)
noncomputable def spec40 : Spec E := fun args os => match args, os with
  | [.lf (.sl .u8 p), .lf (.int .i64 i)], [] => .ite (leI 0 i && leI (i + 2) (p.length : Int)) (.leaf (.tup [(false, [.int .i64 (Px.n2 p i.toNat)]), (false, [.bool true])], [])) (.leaf (.tup [(false, [.int .i64 0]), (false, [.bool false])], []))
  | _, _ => .fail
theorem eq40 (p : List UInt8) (i : Int) (hb : p.length ≤ big) : (w40 p i).get = (Tree.ite (leI 0 i && leI (i + 2) (p.length : Int)) (.leaf ((.tup [(false, [.int .i64 (Px.n2 p i.toNat)]), (false, [.bool true])] : RV E.A), ([] : List (Obj E.A)))) (.leaf (.tup [(false, [.int .i64 0]), (false, [.bool false])], []))).get := by
  unfold big at hb
  unfold w40
  have e0 : (leI 0 i && leI (i + 2) (p.length : Int)) = decide (0 ≤ i ∧ i + 2 ≤ (p.length : Int)) := by rw [leI_eq, leI_eq, Bool.decide_and]
  rw [e0]
  simp only [Tree.get_ite, Tree.get_leaf, ltI_eq, leI_eq, eqI_eq, cond_dec]
  have e1 : IntKind.i64.wrap ((p.length : Int) - 2) = (p.length : Int) - 2 := by rw [wi64] <;> omega
  rw [e1]
  by_cases h1 : i < 0
  · rw [if_pos h1, if_neg (by omega)]
  · rw [if_neg h1]
    by_cases h2 : (p.length : Int) - 2 < i
    · rw [if_pos h2, if_neg (by omega)]
    · rw [if_neg h2, if_pos (by omega)]
      obtain ⟨i, rfl⟩ : ∃ j : Nat, i = (j : Int) := ⟨i.toNat, by omega⟩
      have e2 : IntKind.i64.wrap ((i : Int) + 1) = ((i + 1 : Nat) : Int) := by rw [wi64] <;> omega
      have i1 : inB (i : Int) p.length = true := inB_true.2 ⟨by omega, by omega⟩
      have i2 : inB ((i + 1 : Nat) : Int) p.length = true := inB_true.2 ⟨by omega, by omega⟩
      rw [e2, i1, i2]
      simp only [cond_true, Int.toNat_natCast]
      have b1 := (p.getD i 0).toNat_lt
      have b2 := (p.getD (i + 1) 0).toNat_lt
      have e3 : IntKind.i64.wrap (IntKind.i64.wrap (256 * IntKind.i64.wrap ((p.getD i 0).toNat : Int)) + IntKind.i64.wrap ((p.getD (i + 1) 0).toNat : Int)) = Px.n2 p i := by
        unfold Px.n2
        rw [wi64 ((p.getD i 0).toNat : Int), wi64 ((p.getD (i + 1) 0).toNat : Int), wi64 (256 * _), wi64] <;> omega
      rw [e3]
theorem valid40 (hL : Laws E) : Valid E 40 spec40 := (validraw40 hL).less (fun args os x g1 g2 h => by
  unfold spec40 at h
  split at h
  · rename_i p i
    have hb : p.length ≤ big := by
      simp only [List.all_cons, Bool.and_eq_true] at g1
      exact of_decide_eq_true g1.1
    exact (eq40 p i hb).trans h
  · cases h)
end Go.Vx
namespace Go.Vx
open Go
noncomputable def G21 : FuncId → Option (Spec E)
  | 22 => some spec22
  | 40 => some spec40
  | _ => none
theorem hG21 (hL : Laws E) : ∀ f spec, G21 f = some spec → Valid E f spec := by
  intro f spec h
  unfold G21 at h
  split at h
  · injection h with h; subst h; exact valid22 hL
  · injection h with h; subst h; exact valid40 hL
  · cases h
noncomputable def w21 (a0 : List UInt8) : Tree (RV E.A × List (Obj E.A)) :=
 .ite (leI (0 : Int) (0 : Int) && leI ((0 : Int) + (2 : Int)) (↑a0.length : Int))
 (.ite (eqI (↑a0.length : Int) (2 : Int))
  (.ite (Px.scalar (Px.n2 a0 (Int.toNat (0 : Int))))
   (.leaf (.lf (.int .i64 (Px.n2 a0 (Int.toNat (0 : Int)))), []))
   (.ite (leI (0 : Int) (2 : Int) && leI ((2 : Int) + (2 : Int)) (↑a0.length : Int))
    (.ite (eqI (↑a0.length : Int) (4 : Int))
     (.ite (leI (55296 : Int) (Px.n2 a0 (Int.toNat (0 : Int))))
      (.ite (ltI (Px.n2 a0 (Int.toNat (0 : Int))) (56320 : Int))
       (.ite (leI (56320 : Int) (Px.n2 a0 (Int.toNat (2 : Int))))
        (.ite (ltI (Px.n2 a0 (Int.toNat (2 : Int))) (57344 : Int))
         (.leaf (.lf (.int .i64 (IntKind.i64.wrap (IntKind.i64.wrap (IntKind.i64.wrap ((65536 : Int) + IntKind.i64.wrap ((1024 : Int) * IntKind.i64.wrap (Px.n2 a0 (Int.toNat (0 : Int)) - (55296 : Int)))) + Px.n2 a0 (Int.toNat (2 : Int))) - (56320 : Int)))), []))
         (.leaf (.lf (.int .i64 ((-1 : Int))), [])))
        (.leaf (.lf (.int .i64 ((-1 : Int))), [])))
       (.leaf (.lf (.int .i64 ((-1 : Int))), [])))
      (.leaf (.lf (.int .i64 ((-1 : Int))), [])))
     (.leaf (.lf (.int .i64 ((-1 : Int))), [])))
    (.leaf (.lf (.int .i64 ((-1 : Int))), []))))
  (.ite (leI (0 : Int) (2 : Int) && leI ((2 : Int) + (2 : Int)) (↑a0.length : Int))
   (.ite (eqI (↑a0.length : Int) (4 : Int))
    (.ite (leI (55296 : Int) (Px.n2 a0 (Int.toNat (0 : Int))))
     (.ite (ltI (Px.n2 a0 (Int.toNat (0 : Int))) (56320 : Int))
      (.ite (leI (56320 : Int) (Px.n2 a0 (Int.toNat (2 : Int))))
       (.ite (ltI (Px.n2 a0 (Int.toNat (2 : Int))) (57344 : Int))
        (.leaf (.lf (.int .i64 (IntKind.i64.wrap (IntKind.i64.wrap (IntKind.i64.wrap ((65536 : Int) + IntKind.i64.wrap ((1024 : Int) * IntKind.i64.wrap (Px.n2 a0 (Int.toNat (0 : Int)) - (55296 : Int)))) + Px.n2 a0 (Int.toNat (2 : Int))) - (56320 : Int)))), []))
        (.leaf (.lf (.int .i64 ((-1 : Int))), [])))
       (.leaf (.lf (.int .i64 ((-1 : Int))), [])))
      (.leaf (.lf (.int .i64 ((-1 : Int))), [])))
     (.leaf (.lf (.int .i64 ((-1 : Int))), [])))
    (.leaf (.lf (.int .i64 ((-1 : Int))), [])))
   (.leaf (.lf (.int .i64 ((-1 : Int))), []))))
 (.ite (leI (0 : Int) (2 : Int) && leI ((2 : Int) + (2 : Int)) (↑a0.length : Int))
  (.ite (eqI (↑a0.length : Int) (4 : Int))
   (.leaf (.lf (.int .i64 ((-1 : Int))), []))
   (.leaf (.lf (.int .i64 ((-1 : Int))), [])))
  (.leaf (.lf (.int .i64 ((-1 : Int))), [])))
theorem e21 (a0 : List UInt8) : execFun E G21 (fun _ _ => .fail) false Go.Proofs.Tryd.f21 [.lf (.sl .u8 a0)] [] some = (w21 a0).get := by kernel_rfl
noncomputable def raw21 : Spec E := fun args os => match args, os with
  | [.lf (.sl .u8 a0)], [] => w21 a0
  | _, _ => .fail
theorem validraw21 (hL : Laws E) : Valid E 21 raw21 :=
  valid_of_body hL (hG21 hL) (Λ := fun _ _ => .fail) (fn := Go.Proofs.Tryd.f21) (keep := false) (by kernel_rfl) (by kernel_rfl) (by kernel_rfl) (LamOK.none (by kernel_rfl)) (fun args os r os' h => by
    unfold raw21 at h
    split at h
    · exact (e21 _).trans h
    · cases h)
theorem pure21 (a b L : Int) (s : Bool) (ha : 0 ≤ a) (ha' : a < 65536) (hb : 0 ≤ b) (hb' : b < 65536) (t : Tree (RV E.A × List (Obj E.A)))
    (ht : t = .ite (leI (0 : Int) (2 : Int) && leI ((2 : Int) + (2 : Int)) L)
     (.ite (eqI L (4 : Int)) (.ite (leI (55296 : Int) a) (.ite (ltI a (56320 : Int)) (.ite (leI (56320 : Int) b) (.ite (ltI b (57344 : Int))
       (.leaf (.lf (.int .i64 (IntKind.i64.wrap (IntKind.i64.wrap (IntKind.i64.wrap ((65536 : Int) + IntKind.i64.wrap ((1024 : Int) * IntKind.i64.wrap (a - (55296 : Int)))) + b) - (56320 : Int)))), []))
       (.leaf (.lf (.int .i64 ((-1 : Int))), []))) (.leaf (.lf (.int .i64 ((-1 : Int))), []))) (.leaf (.lf (.int .i64 ((-1 : Int))), []))) (.leaf (.lf (.int .i64 ((-1 : Int))), [])))
      (.leaf (.lf (.int .i64 ((-1 : Int))), []))) (.leaf (.lf (.int .i64 ((-1 : Int))), []))) :
    t.get = some (.lf (.int .i64 (cond (eqI L 4 && leI 55296 a && ltI a 56320 && leI 56320 b && ltI b 57344) (65536 + 1024 * (a - 55296) + b - 56320) (-1))), []) := by
  subst ht
  have e : IntKind.i64.wrap (IntKind.i64.wrap (IntKind.i64.wrap ((65536 : Int) + IntKind.i64.wrap ((1024 : Int) * IntKind.i64.wrap (a - (55296 : Int)))) + b) - (56320 : Int)) = 65536 + 1024 * (a - 55296) + b - 56320 := by
    rw [wi64 (a - 55296) (by omega) (by omega), wi64 (1024 * (a - 55296)) (by omega) (by omega), wi64 (65536 + 1024 * (a - 55296)) (by omega) (by omega), wi64 (65536 + 1024 * (a - 55296) + b) (by omega) (by omega), wi64] <;> omega
  rw [e]
  generalize 65536 + 1024 * (a - 55296) + b - 56320 = r
  simp only [Tree.get_ite, Tree.get_leaf]
  have h0 : (leI (0 : Int) (2 : Int)) = true := rfl
  rw [h0, Bool.true_and]
  have h4 : leI ((2 : Int) + 2) L = true ∨ eqI L 4 = false := by
    rw [leI_eq, eqI_eq]
    by_cases h : L = 4
    · exact .inl (decide_eq_true (by omega))
    · exact .inr (decide_eq_false h)
  rcases h4 with h4 | h4 <;> rw [h4]
  · cases eqI L 4 <;> cases leI 55296 a <;> cases ltI a 56320 <;> cases leI 56320 b <;> cases ltI b 57344 <;> rfl
  · cases leI ((2 : Int) + 2) L <;> rfl
theorem eq21 (p : List UInt8) : (w21 p).get = some (.lf (.int .i64 (Px.rune p)), []) := by
  have ha := Px.n2_nonneg p 0
  have ha' := Px.n2_lt p 0
  have hb := Px.n2_nonneg p 2
  have hb' := Px.n2_lt p 2
  have key := pure21 (Px.n2 p 0) (Px.n2 p 2) (p.length : Int) (Px.scalar (Px.n2 p 0)) ha ha' hb hb' _ rfl
  unfold w21 Px.rune
  rw [show Int.toNat 0 = 0 from rfl, show Int.toNat 2 = 2 from rfl]
  rw [Tree.get_ite]
  have h0 : (leI (0 : Int) (0 : Int)) = true := rfl
  rw [h0, Bool.true_and]
  by_cases h2 : (2 : Int) ≤ (p.length : Int)
  · have c1 : leI ((0 : Int) + 2) (p.length : Int) = true := by rw [leI_eq]; exact decide_eq_true (by omega)
    rw [c1, cond_true, Tree.get_ite]
    cases h3 : eqI (p.length : Int) 2 with
    | true =>
      rw [cond_true, Tree.get_ite]
      cases Px.scalar (Px.n2 p 0) with
      | true => rfl
      | false =>
        rw [cond_false]
        exact key
    | false =>
      rw [cond_false]
      exact key
  · have c1 : leI ((0 : Int) + 2) (p.length : Int) = false := by rw [leI_eq]; exact decide_eq_false (by omega)
    have c2 : eqI (p.length : Int) 2 = false := by rw [eqI_eq]; exact decide_eq_false (by omega)
    have c3 : eqI (p.length : Int) 4 = false := by rw [eqI_eq]; exact decide_eq_false (by omega)
    rw [c1, c2, c3, cond_false]
    have c4 : (leI (0 : Int) (2 : Int) && leI ((2 : Int) + 2) (p.length : Int)) = false := by
      rw [leI_eq ((2 : Int) + 2), decide_eq_false (by omega), Bool.and_false]
    simp only [Tree.get_ite, Tree.get_leaf, c4, cond_false, Bool.false_and]
noncomputable def spec21 : Spec E := fun args os => match args, os with
  | [.lf (.sl .u8 p)], [] => .leaf (.lf (.int .i64 (Px.rune p)), [])
  | _, _ => .fail
theorem valid21 (hL : Laws E) : Valid E 21 spec21 := (validraw21 hL).less (fun args os x g1 g2 h => by
  unfold spec21 at h
  split at h
  · exact (eq21 _).trans h
  · cases h)
end Go.Vx
namespace Go.Vx
open Go
noncomputable def G65 : FuncId → Option (Spec E) := fun _ => none
theorem hG65 (hL : Laws E) : ∀ f spec, G65 f = some spec → Valid E f spec := by
  intro f spec h
  cases h
noncomputable def w65 (a0 : Int) : Tree (RV E.A × List (Obj E.A)) :=
 .ite (eqI a0 (0 : Int))
 (.leaf (.lf (.bool true), []))
 (.ite (eqI a0 (9 : Int))
  (.leaf (.lf (.bool true), []))
  (.ite (eqI a0 (10 : Int))
   (.leaf (.lf (.bool true), []))
   (.ite (eqI a0 (12 : Int))
    (.leaf (.lf (.bool true), []))
    (.ite (eqI a0 (13 : Int))
     (.leaf (.lf (.bool true), []))
     (.leaf (.lf (.bool (eqI a0 (32 : Int))), []))))))
theorem e65 (a0 : Int) : execFun E G65 (fun _ _ => .fail) false Go.Proofs.Tryd.f65 [.lf (.int .u8 a0)] [] some = (w65 a0).get := by kernel_rfl
noncomputable def raw65 : Spec E := fun args os => match args, os with
  | [.lf (.int .u8 a0)], [] => w65 a0
  | _, _ => .fail
theorem validraw65 (hL : Laws E) : Valid E 65 raw65 :=
  valid_of_body hL (hG65 hL) (Λ := fun _ _ => .fail) (fn := Go.Proofs.Tryd.f65) (keep := false) (by kernel_rfl) (by kernel_rfl) (by kernel_rfl) (LamOK.none (by kernel_rfl)) (fun args os r os' h => by
    unfold raw65 at h
    split at h
    · exact (e65 _).trans h
    · cases h)
theorem eq65 (a : Int) : (w65 a).get = some (.lf (.bool (Px.blank a)), []) := by
  unfold w65 Px.blank
  simp only [Tree.get_ite, Tree.get_leaf, eqI_eq, cond_dec]
  repeat' split
  all_goals (refine someB ?_; rw [Bool.eq_iff_iff]; simp [eqI_eq]; try omega)
noncomputable def spec65 : Spec E := fun args os => match args, os with
  | [.lf (.int .u8 a0)], [] => .leaf (.lf (.bool (Px.blank a0)), [])
  | _, _ => .fail
theorem valid65 (hL : Laws E) : Valid E 65 spec65 := (validraw65 hL).less (fun args os x _ _ h => by
  unfold spec65 at h
  split at h
  · exact (eq65 _).trans h
  · cases h)
end Go.Vx
namespace Go.Vx
open Go
noncomputable def G53 : FuncId → Option (Spec E)
  | 65 => some spec65
  | _ => none
theorem hG53 (hL : Laws E) : ∀ f spec, G53 f = some spec → Valid E f spec := by
  intro f spec h
  unfold G53 at h
  split at h
  · injection h with h; subst h; exact valid65 hL
  · cases h
def L53_1 : Ex → Live
  | .normal => ⟨[0, 1], []⟩
  | .exit 2 => ⟨[0, 1], []⟩
  | .ret => ⟨[4], []⟩
  | _ => ⟨[], []⟩
noncomputable def S53_1 (p0 : List UInt8) (x : Int) : St E.A := at' E 53 [(0, .lf (.sl .u8 p0)), (1, .lf (.int .i64 x))] []
noncomputable def t53_1 (p0 : List UInt8) (x : Int) : Tree ((Int) ⊕ Out' E) :=
 .ite (ltI x (↑p0.length : Int))
 (.ite (inB x p0.length)
  (.ite (!eqI (↑(p0.getD x.toNat (0 : UInt8)).toNat : Int) (10 : Int))
   (.ite (inB x p0.length)
    (.ite (!eqI (↑(p0.getD x.toNat (0 : UInt8)).toNat : Int) (13 : Int))
     (.leaf (.inl ((IntKind.i64.wrap (x + (1 : Int))))))
     (.leaf (.inr (.exit 2, at' E 53 [(0, .lf (.sl .u8 p0)), (1, .lf (.int .i64 x))] []))))
    (.fail))
   (.leaf (.inr (.exit 2, at' E 53 [(0, .lf (.sl .u8 p0)), (1, .lf (.int .i64 x))] []))))
  (.fail))
 (.leaf (.inr (.exit 2, at' E 53 [(0, .lf (.sl .u8 p0)), (1, .lf (.int .i64 x))] [])))
theorem h53_1 (p0 : List UInt8) (x : Int) (k : Ex → St E.A → Option Unit) :
    exec E G53 (fun _ _ => .fail) 2 (lb Go.Proofs.Tryd.f53 1) (S53_1 p0 x) (fun e σ1 => k e (clean E (L53_1 e) σ1)) = (t53_1 p0 x).run (Sum.elim (fun x' => k .normal (S53_1 p0 x')) (fun o => k o.1 o.2)) := by kernel_rfl
noncomputable def lam53_1 (p0 : List UInt8) (x : Int) : Tree (Out' E) :=
  .ite (leI 0 x && leI x p0.length) (.leaf (.exit 2, at' E 53 [(0, .lf (.sl .u8 p0)), (1, .lf (.int .i64 (x + (Px.lineN (p0.drop x.toNat) : Int))))] [])) .fail
theorem m53_1 {p0 : List UInt8} {x : Int} {e : Ex} {σ : St E.A} (g : okLenR (E := E) (.lf (.sl .u8 p0)) = true)
    (h : (lam53_1 p0 x).get = some (e, σ)) : ∃ fuel, iter (t53_1 p0) fuel x = some (e, σ) ∧ e ≠ .normal := by
  have hb : p0.length ≤ big := of_decide_eq_true g
  unfold lam53_1 at h
  have h' := Tree.get_ite_some h
  clear h
  rcases h' with ⟨h1, h⟩ | ⟨_, h⟩
  · simp only [leI_eq, Bool.and_eq_true, decide_eq_true_eq] at h1
    obtain ⟨i, rfl⟩ : ∃ j : Nat, x = (j : Int) := ⟨x.toNat, by omega⟩
    have key := range_iter (t := t53_1 p0) (l := p0) (0 : UInt8) (fun (_ : Unit) i => i) (fun i _ b => cond (Px.nl b) (.inr (Ex.exit 2, at' E 53 [(0, .lf (.sl .u8 p0)), (1, .lf (.int .i64 (i : Int)))] [])) (.inl ()))
      (fun _ => (Ex.exit 2, at' E 53 [(0, .lf (.sl .u8 p0)), (1, .lf (.int .i64 (p0.length : Int)))] [])) (fun _ _ => True)
      (fun i a hi _ => ⟨by
        simp only [t53_1, Tree.get_ite, Tree.get_leaf, ltI_nat hi, inB_nat hi, cond_true, i64_succ hi hb, Int.toNat_natCast, Px.nl]
        cases eqI ((p0.getD i 0).toNat : Int) 10 <;> cases eqI ((p0.getD i 0).toNat : Int) 13 <;> rfl, fun _ _ => trivial⟩)
      (fun a _ => by simp only [t53_1, Tree.get_ite, Tree.get_leaf, ltI_self, cond_false])
      (p0.length - i) i () (by omega) trivial
    rw [run_line (fun j => (Ex.exit 2, at' E 53 [(0, .lf (.sl .u8 p0)), (1, .lf (.int .i64 j))] [])) p0.length _ _ (by simp; omega)] at key
    rw [Int.toNat_natCast] at h
    refine ⟨_, key.trans h, ?_⟩
    injection h with h; injection h with h1 _; rw [← h1]; intro hh; cases hh
  · cases h
noncomputable def rd53_1 (σ : St E.A) : Tree (Out' E) :=
  let c := clean E (L53_1 .normal) σ
  if c.sl.length = 53 then
  match c.sl.getD 0 .undef, c.sl.getD 1 .undef with
  | .lf (.sl .u8 p0), .lf (.int .i64 x1) => lam53_1 p0 (x1)
  | _, _ => .fail
  else .fail
theorem ll53_1 (hL : Laws E) (σ : St E.A) (e : Ex) (σ' : St E.A) (h : (rd53_1 σ).get = some (e, σ')) : LoopOK E (lb Go.Proofs.Tryd.f53 1) σ e σ' := by
  refine LoopOK.of_clean hL (L53_1 .normal) ?_
  unfold rd53_1 at h
  simp only at h
  split at h
  · rename_i hlen
    split at h
    · rename_i p0 x1 h0 h1
      refine LoopOK.lens 0 (fun g0 => ?_)
      rw [h0] at g0
      obtain ⟨fuel, hi, ho⟩ := m53_1 g0 h
      have hl := loop_at (Γ := G53) (Λ := fun _ _ => .fail) (n := 2) (body := lb Go.Proofs.Tryd.f53 1) hL (hG53 hL) (S := S53_1 p0) (t := t53_1 p0) (Lv := L53_1) (LamOK.none (by kernel_rfl)) (h53_1 p0) hi ho
      refine LoopOK.fit hlen ?_ ?_ rfl rfl hl
      · exact ⟨h0, h1, trivial⟩
      · exact trivial
    · cases h
  · cases h
def L53_0 : Ex → Live
  | .normal => ⟨[0, 1], []⟩
  | .exit 0 => ⟨[1], []⟩
  | .ret => ⟨[4], []⟩
  | _ => ⟨[], []⟩
noncomputable def S53_0 (p0 : List UInt8) (x : Int) : St E.A := at' E 53 [(0, .lf (.sl .u8 p0)), (1, .lf (.int .i64 x))] []
noncomputable def Lm53_0 : Lam E
  | 1, σ => rd53_1 σ
  | _, _ => .fail
noncomputable def t53_0 (p0 : List UInt8) (x : Int) : Tree ((Int) ⊕ Out' E) :=
 .ite (ltI x (↑p0.length : Int))
 (.ite (inB x p0.length)
  (.ite (eqI (↑(p0.getD x.toNat (0 : UInt8)).toNat : Int) (37 : Int))
   (.ite (leI (0 : Int) x && leI x (↑p0.length : Int))
    (.leaf (.inl ((x + (↑(Px.lineN (List.drop x.toNat p0)) : Int)))))
    (.fail))
   (.ite (inB x p0.length)
    (.ite (Px.blank (↑(p0.getD x.toNat (0 : UInt8)).toNat : Int))
     (.leaf (.inl ((IntKind.i64.wrap (x + (1 : Int))))))
     (.leaf (.inr (.ret, at' E 53 [(4, .lf (.int .i64 x))] []))))
    (.fail)))
  (.fail))
 (.leaf (.inr (.exit 0, at' E 53 [(1, .lf (.int .i64 x))] [])))
theorem h53_0 (p0 : List UInt8) (x : Int) (k : Ex → St E.A → Option Unit) :
    exec E G53 ((Lm53_0)) 1 (lb Go.Proofs.Tryd.f53 0) (S53_0 p0 x) (fun e σ1 => k e (clean E (L53_0 e) σ1)) = (t53_0 p0 x).run (Sum.elim (fun x' => k .normal (S53_0 p0 x')) (fun o => k o.1 o.2)) := by kernel_rfl
noncomputable def lam53_0 (p0 : List UInt8) (x : Int) : Tree (Out' E) :=
  .ite (leI 0 x && leI x p0.length) (.ite (ltI (x + (Px.skipN false (p0.drop x.toNat) : Int)) p0.length)
    (.leaf (.ret, at' E 53 [(4, .lf (.int .i64 (x + (Px.skipN false (p0.drop x.toNat) : Int))))] []))
    (.leaf (.exit 0, at' E 53 [(1, .lf (.int .i64 (x + (Px.skipN false (p0.drop x.toNat) : Int))))] []))) .fail
theorem lam53_at (p0 : List UInt8) (i : Nat) (hi : i ≤ p0.length) : (lam53_0 p0 (i : Int)).get = cond (ltI ((i + Px.skipN false (p0.drop i) : Nat) : Int) p0.length)
    (some (.ret, at' E 53 [(4, .lf (.int .i64 ((i + Px.skipN false (p0.drop i) : Nat) : Int)))] [])) (some (.exit 0, at' E 53 [(1, .lf (.int .i64 ((i + Px.skipN false (p0.drop i) : Nat) : Int)))] [])) := by
  unfold lam53_0
  have h1 : (leI 0 (i : Int) && leI (i : Int) p0.length) = true := by simp only [leI_eq, Bool.and_eq_true, decide_eq_true_eq]; omega
  rw [Tree.get_ite, h1, cond_true, Int.toNat_natCast, ← Int.natCast_add]
  rfl
theorem skip37 {b : UInt8} {r : List UInt8} (h : eqI (b.toNat : Int) 37 = true) : Px.skipN false (b :: r) = Px.lineN (b :: r) + Px.skipN false ((b :: r).drop (Px.lineN (b :: r))) ∧ 0 < Px.lineN (b :: r) := by
  have hn : Px.nl b = false := by
    cases hh : Px.nl b with
    | false => rfl
    | true => rw [(Px.nl_blank hh).2] at h; cases h
  simp only [Px.skipN, Px.lineN, h, hn, cond_true, cond_false, List.drop_succ_cons]
  rw [Px.skipN_line r]; omega
theorem m53_0 {p0 : List UInt8} {x : Int} {e : Ex} {σ : St E.A} (g : okLenR (E := E) (.lf (.sl .u8 p0)) = true)
    (h : (lam53_0 p0 x).get = some (e, σ)) : ∃ fuel, iter (t53_0 p0) fuel x = some (e, σ) ∧ e ≠ .normal := by
  have hb : p0.length ≤ big := of_decide_eq_true g
  refine ⟨(p0.length - x).toNat + 1, iter_tree (lam := lam53_0 p0) (m := fun x => (p0.length - x).toNat) (fun x o h => ?_) _ x (e, σ) h (by omega), ?_⟩
  · have hx : 0 ≤ x ∧ x ≤ p0.length := by
      unfold lam53_0 at h
      rcases Tree.get_ite_some h with ⟨h1, _⟩ | ⟨_, h⟩
      · simpa only [leI_eq, Bool.and_eq_true, decide_eq_true_eq] using h1
      · cases h
    obtain ⟨i, rfl⟩ : ∃ j : Nat, x = (j : Int) := ⟨x.toNat, by omega⟩
    have hi : i ≤ p0.length := by omega
    rw [lam53_at p0 i hi] at h
    by_cases hl : i < p0.length
    · have hd := drop_cons p0 0 i hl
      cases h37 : eqI ((p0.getD i 0).toNat : Int) 37 with
      | true =>
        obtain ⟨s1, s2⟩ := skip37 (r := p0.drop (i + 1)) h37
        rw [← hd] at s1 s2
        have hle := Px.lineN_le (p0.drop i)
        rw [List.length_drop] at hle
        have hg : (leI 0 (i : Int) && leI (i : Int) p0.length) = true := by simp only [leI_eq, Bool.and_eq_true, decide_eq_true_eq]; omega
        refine .inl ⟨((i + Px.lineN (p0.drop i) : Nat) : Int), ?_, by first | omega | (simp only; omega), ?_⟩
        · simp only [t53_0, Tree.get_ite, Tree.get_leaf, ltI_nat hl, inB_nat hl, cond_true, Int.toNat_natCast, h37, hg, Int.natCast_add]
        · rw [lam53_at p0 _ (by omega)]
          rw [s1, List.drop_drop, ← Nat.add_assoc] at h
          exact h
      | false =>
        cases hbl : Px.blank ((p0.getD i 0).toNat : Int) with
        | true =>
          have s1 : Px.skipN false (p0.drop i) = Px.skipN false (p0.drop (i + 1)) + 1 := by
            rw [hd]; simp only [Px.skipN, h37, hbl, cond_true, cond_false]
          refine .inl ⟨((i + 1 : Nat) : Int), ?_, by first | omega | (simp only; omega), ?_⟩
          · simp only [t53_0, Tree.get_ite, Tree.get_leaf, ltI_nat hl, inB_nat hl, cond_true, cond_false, Int.toNat_natCast, h37, hbl, i64_succ hl hb]
          · rw [lam53_at p0 _ (by omega)]
            rw [s1, show i + (Px.skipN false (p0.drop (i + 1)) + 1) = i + 1 + Px.skipN false (p0.drop (i + 1)) by omega] at h
            exact h
        | false =>
          have s1 : Px.skipN false (p0.drop i) = 0 := by
            rw [hd]; simp only [Px.skipN, h37, hbl, cond_false]
          refine .inr ?_
          rw [s1, Nat.add_zero, ltI_nat hl, cond_true] at h
          injection h with h
          subst h
          simp only [t53_0, Tree.get_ite, Tree.get_leaf, ltI_nat hl, inB_nat hl, cond_true, cond_false, Int.toNat_natCast, h37, hbl]
    · have he : i = p0.length := by omega
      subst he
      refine .inr ?_
      rw [List.drop_length, show Px.skipN false [] = 0 from rfl, Nat.add_zero, ltI_self, cond_false] at h
      injection h with h
      subst h
      simp only [t53_0, Tree.get_ite, Tree.get_leaf, ltI_self, cond_false]
  · unfold lam53_0 at h
    rcases Tree.get_ite_some h with ⟨_, h⟩ | ⟨_, h⟩
    · rcases Tree.get_ite_some h with ⟨_, h⟩ | ⟨_, h⟩ <;> (injection h with h; injection h with h1 _; rw [← h1]; intro hh; cases hh)
    · cases h
noncomputable def rd53_0 (σ : St E.A) : Tree (Out' E) :=
  let c := clean E (L53_0 .normal) σ
  if c.sl.length = 53 then
  match c.sl.getD 0 .undef, c.sl.getD 1 .undef with
  | .lf (.sl .u8 p0), .lf (.int .i64 x1) => lam53_0 p0 (x1)
  | _, _ => .fail
  else .fail
theorem ll53_0 (hL : Laws E) (σ : St E.A) (e : Ex) (σ' : St E.A) (h : (rd53_0 σ).get = some (e, σ')) : LoopOK E (lb Go.Proofs.Tryd.f53 0) σ e σ' := by
  refine LoopOK.of_clean hL (L53_0 .normal) ?_
  unfold rd53_0 at h
  simp only at h
  split at h
  · rename_i hlen
    split at h
    · rename_i p0 x1 h0 h1
      refine LoopOK.lens 0 (fun g0 => ?_)
      rw [h0] at g0
      obtain ⟨fuel, hi, ho⟩ := m53_0 g0 h
      have hl := loop_at (Γ := G53) (Λ := (Lm53_0)) (n := 1) (body := lb Go.Proofs.Tryd.f53 0) hL (hG53 hL) (S := S53_0 p0) (t := t53_0 p0) (Lv := L53_0) ((LamOK.of (m := 1) (by kernel_rfl) (fun j hj σ e σ' hg => by
      match j, hj with
      | 0, _ => exact (show (loopAt (lb Go.Proofs.Tryd.f53 0) 0).getD .skip = lb Go.Proofs.Tryd.f53 1 from by kernel_rfl) ▸ ll53_1 hL σ e σ' hg
      ))) (h53_0 p0) hi ho
      refine LoopOK.fit hlen ?_ ?_ rfl rfl hl
      · exact ⟨h0, h1, trivial⟩
      · exact trivial
    · cases h
  · cases h
noncomputable def Lam53 : Lam E
  | 0, σ => rd53_0 σ
  | 1, σ => rd53_1 σ
  | _, _ => .fail
noncomputable def w53 (a0 : List UInt8) (a1 : Int) : Tree (RV E.A × List (Obj E.A)) :=
 .ite (ltI a1 (0 : Int))
 (.leaf (.lf (.int .i64 ((↑a0.length : Int))), []))
 (.ite (ltI (↑a0.length : Int) a1)
  (.leaf (.lf (.int .i64 ((↑a0.length : Int))), []))
  (.ite (leI (0 : Int) a1 && leI a1 (↑a0.length : Int))
   (.ite (ltI (a1 + (↑(Px.skipN false (List.drop a1.toNat a0)) : Int)) (↑a0.length : Int))
    (.leaf (.lf (.int .i64 (a1 + (↑(Px.skipN false (List.drop a1.toNat a0)) : Int))), []))
    (.leaf (.lf (.int .i64 (a1 + (↑(Px.skipN false (List.drop a1.toNat a0)) : Int))), [])))
   (.fail)))
theorem e53 (a0 : List UInt8) (a1 : Int) : execFun E G53 ((Lam53)) false Go.Proofs.Tryd.f53 [.lf (.sl .u8 a0), .lf (.int .i64 a1)] [] some = (w53 a0 a1).get := by kernel_rfl
noncomputable def raw53 : Spec E := fun args os => match args, os with
  | [.lf (.sl .u8 a0), .lf (.int .i64 a1)], [] => w53 a0 a1
  | _, _ => .fail
theorem validraw53 (hL : Laws E) : Valid E 53 raw53 :=
  valid_of_body hL (hG53 hL) (Λ := (Lam53)) (fn := Go.Proofs.Tryd.f53) (keep := false) (by kernel_rfl) (by kernel_rfl) (by kernel_rfl) ((LamOK.of (m := 2) (by kernel_rfl) (fun j hj σ e σ' hg => by
      match j, hj with
      | 0, _ => exact ll53_0 hL σ e σ' hg
      | 1, _ => exact ll53_1 hL σ e σ' hg
      ))) (fun args os r os' h => by
    unfold raw53 at h
    split at h
    · exact (e53 _ _).trans h
    · cases h)
/-- the next byte that counts -/
theorem eq53 (p : List UInt8) (i : Nat) (hi : i ≤ p.length) : (w53 p (i : Int)).get = some (.lf (.int .i64 ((i + Px.skipN false (p.drop i) : Nat) : Int)), []) := by
  have e0 : ltI (i : Int) 0 = false := by rw [ltI_eq]; exact decide_eq_false (by omega)
  have e1 : ltI (p.length : Int) (i : Int) = false := by rw [ltI_eq]; exact decide_eq_false (by omega)
  have h1 : (leI 0 (i : Int) && leI (i : Int) p.length) = true := by simp only [leI_eq, Bool.and_eq_true, decide_eq_true_eq]; omega
  unfold w53
  simp only [Tree.get_ite, Tree.get_leaf, e0, e1, h1, cond_true, cond_false, Int.toNat_natCast, Int.natCast_add]
  cases ltI ((i : Int) + (Px.skipN false (p.drop i) : Int)) (p.length : Int) <;> rfl
noncomputable def spec53 : Spec E := fun args os => match args, os with
  | [.lf (.sl .u8 p), .lf (.int .i64 i)], [] => .ite (leI 0 i && leI i (p.length : Int)) (.leaf (.lf (.int .i64 (i + (Px.skipN false (p.drop i.toNat) : Int))), [])) .fail
  | _, _ => .fail
theorem valid53 (hL : Laws E) : Valid E 53 spec53 := (validraw53 hL).less (fun args os x g1 g2 h => by
  unfold spec53 at h
  split at h
  · rename_i p i
    have h' := Tree.get_ite_some h
    clear h
    rcases h' with ⟨h1, h⟩ | ⟨_, h⟩
    · simp only [leI_eq, Bool.and_eq_true, decide_eq_true_eq] at h1
      obtain ⟨j, rfl⟩ : ∃ j : Nat, i = (j : Int) := ⟨i.toNat, by omega⟩
      rw [Int.toNat_natCast, ← Int.natCast_add] at h
      exact (eq53 p j (Int.ofNat_le.1 h1.2)).trans h
    · cases h
  · cases h)
end Go.Vx
namespace Go.Vx
open Go
noncomputable def G54 : FuncId → Option (Spec E) := fun _ => none
theorem hG54 (hL : Laws E) : ∀ f spec, G54 f = some spec → Valid E f spec := by
  intro f spec h
  cases h
def L54_0 : Ex → Live
  | .normal => ⟨[0, 6, 7, 8], []⟩
  | .exit 0 => ⟨[], []⟩
  | .ret => ⟨[2], []⟩
  | _ => ⟨[], []⟩
noncomputable def S54_0 (p0 : Int) (p6 : List UInt8) (p7 : Int) (x : Int) : St E.A := at' E 19 [(0, .lf (.int .u8 p0)), (6, .lf (.sl .u8 p6)), (7, .lf (.int .i64 p7)), (8, .lf (.int .i64 x))] []
noncomputable def t54_0 (p0 : Int) (p6 : List UInt8) (p7 : Int) (x : Int) : Tree ((Int) ⊕ Out' E) :=
 .ite (ltI x p7)
 (.ite (inB x p6.length)
  (.ite (eqI (↑(p6.getD x.toNat (0 : UInt8)).toNat : Int) p0)
   (.leaf (.inr (.ret, at' E 19 [(2, .lf (.int .i64 (x.tmod (16 : Int))))] [])))
   (.leaf (.inl ((IntKind.i64.wrap (x + (1 : Int)))))))
  (.fail))
 (.leaf (.inr (.exit 0, at' E 19 [] [])))
theorem h54_0 (p0 : Int) (p6 : List UInt8) (p7 : Int) (x : Int) (k : Ex → St E.A → Option Unit) :
    exec E G54 (fun _ _ => .fail) 1 (lb Go.Proofs.Tryd.f54 0) (S54_0 p0 p6 p7 x) (fun e σ1 => k e (clean E (L54_0 e) σ1)) = (t54_0 p0 p6 p7 x).run (Sum.elim (fun x' => k .normal (S54_0 p0 p6 p7 x')) (fun o => k o.1 o.2)) := by kernel_rfl
noncomputable def lam54_0 (p0 : Int) (p6 : List UInt8) (p7 : Int) (x : Int) : Tree (Out' E) :=
  .ite (eqI p7 p6.length && leI 0 x && leI x p7) (.ite (leI 0 (findI (fun b => eqI (b.toNat : Int) p0) x.toNat (p6.drop x.toNat))) (.leaf (.ret, at' E 19 [(2, .lf (.int .i64 ((findI (fun b => eqI (b.toNat : Int) p0) x.toNat (p6.drop x.toNat)).tmod 16)))] [])) (.leaf (.exit 0, at' E 19 [] []))) .fail
theorem m54_0 {p0 : Int} {p6 : List UInt8} {p7 x : Int} {e : Ex} {σ : St E.A} (g : okLenR (E := E) (.lf (.sl .u8 p6)) = true)
    (h : (lam54_0 p0 p6 p7 x).get = some (e, σ)) : ∃ fuel, iter (t54_0 p0 p6 p7) fuel x = some (e, σ) ∧ e ≠ .normal := by
  have hb : p6.length ≤ big := of_decide_eq_true g
  unfold lam54_0 at h
  have h' := Tree.get_ite_some h
  clear h
  rcases h' with ⟨h1, h⟩ | ⟨_, h⟩
  · simp only [eqI_eq, leI_eq, Bool.and_eq_true, decide_eq_true_eq] at h1
    obtain ⟨⟨rfl, h3⟩, h4⟩ := h1
    obtain ⟨i, rfl⟩ : ∃ j : Nat, x = (j : Int) := ⟨x.toNat, by omega⟩
    have key := range_iter (t := t54_0 p0 p6 p6.length) (l := p6) (0 : UInt8) (fun (_ : Unit) i => i) (fun i _ b => cond (eqI (b.toNat : Int) p0) (.inr (Ex.ret, at' E 19 [(2, .lf (.int .i64 ((i : Int).tmod 16)))] [])) (.inl ()))
      (fun _ => (Ex.exit 0, at' E 19 [] [])) (fun _ _ => True)
      (fun i a hi _ => ⟨by
        simp only [t54_0, Tree.get_ite, Tree.get_leaf, ltI_nat hi, inB_nat hi, cond_true, i64_succ hi hb, Int.toNat_natCast]
        cases eqI ((p6.getD i 0).toNat : Int) p0 <;> rfl, fun _ _ => trivial⟩)
      (fun a _ => by simp only [t54_0, Tree.get_ite, Tree.get_leaf, ltI_self, cond_false])
      (p6.length - i) i () (by omega) trivial
    have key := key.trans (congrArg some (run_find (fun b => eqI (b.toNat : Int) p0) (fun j => (Ex.ret, at' E 19 [(2, .lf (.int .i64 (j.tmod 16)))] [])) (Ex.exit 0, at' E 19 [] []) (p6.drop i) i))
    rw [Tree.get_ite, Tree.get_leaf, Tree.get_leaf, Int.toNat_natCast] at h
    refine ⟨_, key.trans ?_, ?_⟩
    · rw [← h]; cases leI 0 (findI (fun b => eqI (b.toNat : Int) p0) i (p6.drop i)) <;> rfl
    · cases hd : leI 0 (findI (fun b => eqI (b.toNat : Int) p0) i (p6.drop i)) <;> rw [hd] at h <;> (injection h with h; injection h with h1 _; rw [← h1]; intro hh; cases hh)
  · cases h
noncomputable def rd54_0 (σ : St E.A) : Tree (Out' E) :=
  let c := clean E (L54_0 .normal) σ
  if c.sl.length = 19 then
  match c.sl.getD 0 .undef, c.sl.getD 6 .undef, c.sl.getD 7 .undef, c.sl.getD 8 .undef with
  | .lf (.int .u8 p0), .lf (.sl .u8 p6), .lf (.int .i64 p7), .lf (.int .i64 x8) => lam54_0 p0 p6 p7 (x8)
  | _, _, _, _ => .fail
  else .fail
theorem ll54_0 (hL : Laws E) (σ : St E.A) (e : Ex) (σ' : St E.A) (h : (rd54_0 σ).get = some (e, σ')) : LoopOK E (lb Go.Proofs.Tryd.f54 0) σ e σ' := by
  refine LoopOK.of_clean hL (L54_0 .normal) ?_
  unfold rd54_0 at h
  simp only at h
  split at h
  · rename_i hlen
    split at h
    · rename_i p0 p6 p7 x8 h0 h1 h2 h3
      refine LoopOK.lens 6 (fun g0 => ?_)
      rw [h1] at g0
      obtain ⟨fuel, hi, ho⟩ := m54_0 g0 h
      have hl := loop_at (Γ := G54) (Λ := fun _ _ => .fail) (n := 1) (body := lb Go.Proofs.Tryd.f54 0) hL (hG54 hL) (S := S54_0 p0 p6 p7) (t := t54_0 p0 p6 p7) (Lv := L54_0) (LamOK.none (by kernel_rfl)) (h54_0 p0 p6 p7) hi ho
      refine LoopOK.fit hlen ?_ ?_ rfl rfl hl
      · exact ⟨h0, h1, h2, h3, trivial⟩
      · exact trivial
    · cases h
  · cases h
noncomputable def Lam54 : Lam E
  | 0, σ => rd54_0 σ
  | _, _ => .fail
noncomputable def w54 (a0 : Int) : Tree (RV E.A × List (Obj E.A)) :=
 .ite (leI (0 : Int) (findI (fun b => eqI (↑b.toNat : Int) a0) (Int.toNat (0 : Int)) (List.drop (Int.toNat (0 : Int)) [UInt8.ofNat (Int.toNat (48 : Int)), UInt8.ofNat (Int.toNat (49 : Int)), UInt8.ofNat (Int.toNat (50 : Int)), UInt8.ofNat (Int.toNat (51 : Int)), UInt8.ofNat (Int.toNat (52 : Int)), UInt8.ofNat (Int.toNat (53 : Int)), UInt8.ofNat (Int.toNat (54 : Int)), UInt8.ofNat (Int.toNat (55 : Int)), UInt8.ofNat (Int.toNat (56 : Int)), UInt8.ofNat (Int.toNat (57 : Int)), UInt8.ofNat (Int.toNat (97 : Int)), UInt8.ofNat (Int.toNat (98 : Int)), UInt8.ofNat (Int.toNat (99 : Int)), UInt8.ofNat (Int.toNat (100 : Int)), UInt8.ofNat (Int.toNat (101 : Int)), UInt8.ofNat (Int.toNat (102 : Int)), UInt8.ofNat (Int.toNat (48 : Int)), UInt8.ofNat (Int.toNat (49 : Int)), UInt8.ofNat (Int.toNat (50 : Int)), UInt8.ofNat (Int.toNat (51 : Int)), UInt8.ofNat (Int.toNat (52 : Int)), UInt8.ofNat (Int.toNat (53 : Int)), UInt8.ofNat (Int.toNat (54 : Int)), UInt8.ofNat (Int.toNat (55 : Int)), UInt8.ofNat (Int.toNat (56 : Int)), UInt8.ofNat (Int.toNat (57 : Int)), UInt8.ofNat (Int.toNat (65 : Int)), UInt8.ofNat (Int.toNat (66 : Int)), UInt8.ofNat (Int.toNat (67 : Int)), UInt8.ofNat (Int.toNat (68 : Int)), UInt8.ofNat (Int.toNat (69 : Int)), UInt8.ofNat (Int.toNat (70 : Int))])))
 (.leaf (.lf (.int .i64 ((findI (fun b => eqI (↑b.toNat : Int) a0) (Int.toNat (0 : Int)) (List.drop (Int.toNat (0 : Int)) [UInt8.ofNat (Int.toNat (48 : Int)), UInt8.ofNat (Int.toNat (49 : Int)), UInt8.ofNat (Int.toNat (50 : Int)), UInt8.ofNat (Int.toNat (51 : Int)), UInt8.ofNat (Int.toNat (52 : Int)), UInt8.ofNat (Int.toNat (53 : Int)), UInt8.ofNat (Int.toNat (54 : Int)), UInt8.ofNat (Int.toNat (55 : Int)), UInt8.ofNat (Int.toNat (56 : Int)), UInt8.ofNat (Int.toNat (57 : Int)), UInt8.ofNat (Int.toNat (97 : Int)), UInt8.ofNat (Int.toNat (98 : Int)), UInt8.ofNat (Int.toNat (99 : Int)), UInt8.ofNat (Int.toNat (100 : Int)), UInt8.ofNat (Int.toNat (101 : Int)), UInt8.ofNat (Int.toNat (102 : Int)), UInt8.ofNat (Int.toNat (48 : Int)), UInt8.ofNat (Int.toNat (49 : Int)), UInt8.ofNat (Int.toNat (50 : Int)), UInt8.ofNat (Int.toNat (51 : Int)), UInt8.ofNat (Int.toNat (52 : Int)), UInt8.ofNat (Int.toNat (53 : Int)), UInt8.ofNat (Int.toNat (54 : Int)), UInt8.ofNat (Int.toNat (55 : Int)), UInt8.ofNat (Int.toNat (56 : Int)), UInt8.ofNat (Int.toNat (57 : Int)), UInt8.ofNat (Int.toNat (65 : Int)), UInt8.ofNat (Int.toNat (66 : Int)), UInt8.ofNat (Int.toNat (67 : Int)), UInt8.ofNat (Int.toNat (68 : Int)), UInt8.ofNat (Int.toNat (69 : Int)), UInt8.ofNat (Int.toNat (70 : Int))])).tmod (16 : Int))), []))
 (.leaf (.lf (.int .i64 ((-1 : Int))), []))
theorem e54 (a0 : Int) : execFun E G54 ((Lam54)) false Go.Proofs.Tryd.f54 [.lf (.int .u8 a0)] [] some = (w54 a0).get := by kernel_rfl
noncomputable def raw54 : Spec E := fun args os => match args, os with
  | [.lf (.int .u8 a0)], [] => w54 a0
  | _, _ => .fail
theorem validraw54 (hL : Laws E) : Valid E 54 raw54 :=
  valid_of_body hL (hG54 hL) (Λ := (Lam54)) (fn := Go.Proofs.Tryd.f54) (keep := false) (by kernel_rfl) (by kernel_rfl) (by kernel_rfl) ((LamOK.of (m := 1) (by kernel_rfl) (fun j hj σ e σ' hg => by
      match j, hj with
      | 0, _ => exact ll54_0 hL σ e σ' hg
      ))) (fun args os r os' h => by
    unfold raw54 at h
    split at h
    · exact (e54 _).trans h
    · cases h)
theorem eq54 (c : Int) : (w54 c).get = some (.lf (.int .i64 (Px.digit c)), []) := by
  unfold w54
  rw [Tree.get_ite, Tree.get_leaf, Tree.get_leaf]
  unfold Px.digit
  generalize hh : findI (fun b : UInt8 => eqI (b.toNat : Int) c) 0 [48, 49, 50, 51, 52, 53, 54, 55, 56, 57, 97, 98, 99, 100, 101, 102, 48, 49, 50, 51, 52, 53, 54, 55, 56, 57, 65, 66, 67, 68, 69, 70] = f
  show cond (leI 0 (findI (fun b : UInt8 => eqI (b.toNat : Int) c) 0 [48, 49, 50, 51, 52, 53, 54, 55, 56, 57, 97, 98, 99, 100, 101, 102, 48, 49, 50, 51, 52, 53, 54, 55, 56, 57, 65, 66, 67, 68, 69, 70])) (some ((.lf (.int .i64 ((findI (fun b : UInt8 => eqI (b.toNat : Int) c) 0 [48, 49, 50, 51, 52, 53, 54, 55, 56, 57, 97, 98, 99, 100, 101, 102, 48, 49, 50, 51, 52, 53, 54, 55, 56, 57, 65, 66, 67, 68, 69, 70]).tmod 16)) : RV E.A), [])) _ = _
  rw [hh]
  cases leI 0 f <;> rfl
noncomputable def spec54 : Spec E := fun args os => match args, os with
  | [.lf (.int .u8 c)], [] => .leaf (.lf (.int .i64 (Px.digit c)), [])
  | _, _ => .fail
theorem valid54 (hL : Laws E) : Valid E 54 spec54 := (validraw54 hL).less (fun args os x g1 g2 h => by
  unfold spec54 at h
  split at h
  · exact (eq54 _).trans h
  · cases h)
end Go.Vx
namespace Go.Vx
open Go
noncomputable def G55 : FuncId → Option (Spec E) := fun _ => none
theorem hG55 (hL : Laws E) : ∀ f spec, G55 f = some spec → Valid E f spec := by
  intro f spec h
  cases h
def L55_0 : Ex → Live
  | .normal => ⟨[0, 6, 7, 8], []⟩
  | .exit 0 => ⟨[], []⟩
  | .ret => ⟨[2], []⟩
  | _ => ⟨[], []⟩
noncomputable def S55_0 (p0 : Int) (p6 : List UInt8) (p7 : Int) (x : Int) : St E.A := at' E 16 [(0, .lf (.int .u8 p0)), (6, .lf (.sl .u8 p6)), (7, .lf (.int .i64 p7)), (8, .lf (.int .i64 x))] []
noncomputable def t55_0 (p0 : Int) (p6 : List UInt8) (p7 : Int) (x : Int) : Tree ((Int) ⊕ Out' E) :=
 .ite (ltI x p7)
 (.ite (inB x p6.length)
  (.ite (eqI (↑(p6.getD x.toNat (0 : UInt8)).toNat : Int) p0)
   (.leaf (.inr (.ret, at' E 16 [(2, .lf (.bool true))] [])))
   (.leaf (.inl ((IntKind.i64.wrap (x + (1 : Int)))))))
  (.fail))
 (.leaf (.inr (.exit 0, at' E 16 [] [])))
theorem h55_0 (p0 : Int) (p6 : List UInt8) (p7 : Int) (x : Int) (k : Ex → St E.A → Option Unit) :
    exec E G55 (fun _ _ => .fail) 1 (lb Go.Proofs.Tryd.f55 0) (S55_0 p0 p6 p7 x) (fun e σ1 => k e (clean E (L55_0 e) σ1)) = (t55_0 p0 p6 p7 x).run (Sum.elim (fun x' => k .normal (S55_0 p0 p6 p7 x')) (fun o => k o.1 o.2)) := by kernel_rfl
noncomputable def lam55_0 (p0 : Int) (p6 : List UInt8) (p7 : Int) (x : Int) : Tree (Out' E) :=
  .ite (eqI p7 p6.length && leI 0 x && leI x p7) (.ite ((p6.drop x.toNat).any (fun b => eqI (b.toNat : Int) p0)) (.leaf (.ret, at' E 16 [(2, .lf (.bool true))] [])) (.leaf (.exit 0, at' E 16 [] []))) .fail
theorem m55_0 {p0 : Int} {p6 : List UInt8} {p7 x : Int} {e : Ex} {σ : St E.A} (g : okLenR (E := E) (.lf (.sl .u8 p6)) = true)
    (h : (lam55_0 p0 p6 p7 x).get = some (e, σ)) : ∃ fuel, iter (t55_0 p0 p6 p7) fuel x = some (e, σ) ∧ e ≠ .normal := by
  have hb : p6.length ≤ big := of_decide_eq_true g
  unfold lam55_0 at h
  have h' := Tree.get_ite_some h
  clear h
  rcases h' with ⟨h1, h⟩ | ⟨_, h⟩
  · simp only [eqI_eq, leI_eq, Bool.and_eq_true, decide_eq_true_eq] at h1
    obtain ⟨⟨rfl, h3⟩, h4⟩ := h1
    obtain ⟨i, rfl⟩ : ∃ j : Nat, x = (j : Int) := ⟨x.toNat, by omega⟩
    have key := range_iter (t := t55_0 p0 p6 p6.length) (l := p6) (0 : UInt8) (fun (_ : Unit) i => i) (fun _ _ b => cond (eqI (b.toNat : Int) p0) (.inr (Ex.ret, at' E 16 [(2, .lf (.bool true))] [])) (.inl ()))
      (fun _ => (Ex.exit 0, at' E 16 [] [])) (fun _ _ => True)
      (fun i a hi _ => ⟨by
        simp only [t55_0, Tree.get_ite, Tree.get_leaf, ltI_nat hi, inB_nat hi, cond_true, i64_succ hi hb, Int.toNat_natCast]
        cases eqI ((p6.getD i 0).toNat : Int) p0 <;> rfl, fun _ _ => trivial⟩)
      (fun a _ => by simp only [t55_0, Tree.get_ite, Tree.get_leaf, ltI_self, cond_false])
      (p6.length - i) i () (by omega) trivial
    rw [run_any] at key
    rw [Tree.get_ite, Tree.get_leaf, Tree.get_leaf, Int.toNat_natCast] at h
    refine ⟨_, key.trans ?_, ?_⟩
    · rw [← h]; cases (p6.drop i).any (fun b => eqI (b.toNat : Int) p0) <;> rfl
    · cases hd : (p6.drop i).any (fun b => eqI (b.toNat : Int) p0) <;> rw [hd] at h <;> (injection h with h; injection h with h1 _; rw [← h1]; intro hh; cases hh)
  · cases h
noncomputable def rd55_0 (σ : St E.A) : Tree (Out' E) :=
  let c := clean E (L55_0 .normal) σ
  if c.sl.length = 16 then
  match c.sl.getD 0 .undef, c.sl.getD 6 .undef, c.sl.getD 7 .undef, c.sl.getD 8 .undef with
  | .lf (.int .u8 p0), .lf (.sl .u8 p6), .lf (.int .i64 p7), .lf (.int .i64 x8) => lam55_0 p0 p6 p7 (x8)
  | _, _, _, _ => .fail
  else .fail
theorem ll55_0 (hL : Laws E) (σ : St E.A) (e : Ex) (σ' : St E.A) (h : (rd55_0 σ).get = some (e, σ')) : LoopOK E (lb Go.Proofs.Tryd.f55 0) σ e σ' := by
  refine LoopOK.of_clean hL (L55_0 .normal) ?_
  unfold rd55_0 at h
  simp only at h
  split at h
  · rename_i hlen
    split at h
    · rename_i p0 p6 p7 x8 h0 h1 h2 h3
      refine LoopOK.lens 6 (fun g0 => ?_)
      rw [h1] at g0
      obtain ⟨fuel, hi, ho⟩ := m55_0 g0 h
      have hl := loop_at (Γ := G55) (Λ := fun _ _ => .fail) (n := 1) (body := lb Go.Proofs.Tryd.f55 0) hL (hG55 hL) (S := S55_0 p0 p6 p7) (t := t55_0 p0 p6 p7) (Lv := L55_0) (LamOK.none (by kernel_rfl)) (h55_0 p0 p6 p7) hi ho
      refine LoopOK.fit hlen ?_ ?_ rfl rfl hl
      · exact ⟨h0, h1, h2, h3, trivial⟩
      · exact trivial
    · cases h
  · cases h
noncomputable def Lam55 : Lam E
  | 0, σ => rd55_0 σ
  | _, _ => .fail
noncomputable def w55 (a0 : Int) : Tree (RV E.A × List (Obj E.A)) :=
 .ite ((List.drop (Int.toNat (0 : Int)) [UInt8.ofNat (Int.toNat (0 : Int)), UInt8.ofNat (Int.toNat (9 : Int)), UInt8.ofNat (Int.toNat (10 : Int)), UInt8.ofNat (Int.toNat (12 : Int)), UInt8.ofNat (Int.toNat (13 : Int)), UInt8.ofNat (Int.toNat (32 : Int)), UInt8.ofNat (Int.toNat (40 : Int)), UInt8.ofNat (Int.toNat (41 : Int)), UInt8.ofNat (Int.toNat (60 : Int)), UInt8.ofNat (Int.toNat (62 : Int)), UInt8.ofNat (Int.toNat (91 : Int)), UInt8.ofNat (Int.toNat (93 : Int)), UInt8.ofNat (Int.toNat (123 : Int)), UInt8.ofNat (Int.toNat (125 : Int)), UInt8.ofNat (Int.toNat (47 : Int)), UInt8.ofNat (Int.toNat (37 : Int))]).any fun b => eqI (↑b.toNat : Int) a0)
 (.leaf (.lf (.bool true), []))
 (.leaf (.lf (.bool false), []))
theorem e55 (a0 : Int) : execFun E G55 ((Lam55)) false Go.Proofs.Tryd.f55 [.lf (.int .u8 a0)] [] some = (w55 a0).get := by kernel_rfl
noncomputable def raw55 : Spec E := fun args os => match args, os with
  | [.lf (.int .u8 a0)], [] => w55 a0
  | _, _ => .fail
theorem validraw55 (hL : Laws E) : Valid E 55 raw55 :=
  valid_of_body hL (hG55 hL) (Λ := (Lam55)) (fn := Go.Proofs.Tryd.f55) (keep := false) (by kernel_rfl) (by kernel_rfl) (by kernel_rfl) ((LamOK.of (m := 1) (by kernel_rfl) (fun j hj σ e σ' hg => by
      match j, hj with
      | 0, _ => exact ll55_0 hL σ e σ' hg
      ))) (fun args os r os' h => by
    unfold raw55 at h
    split at h
    · exact (e55 _).trans h
    · cases h)
theorem eq55 (c : Int) : (w55 c).get = some (.lf (.bool (Px.brk c)), []) := by
  unfold w55
  rw [Tree.get_ite, Tree.get_leaf, Tree.get_leaf]
  show cond (Px.brk c) _ _ = _
  cases Px.brk c <;> rfl
noncomputable def spec55 : Spec E := fun args os => match args, os with
  | [.lf (.int .u8 c)], [] => .leaf (.lf (.bool (Px.brk c)), [])
  | _, _ => .fail
theorem valid55 (hL : Laws E) : Valid E 55 spec55 := (validraw55 hL).less (fun args os x g1 g2 h => by
  unfold spec55 at h
  split at h
  · exact (eq55 _).trans h
  · cases h)
end Go.Vx
namespace Go.Vx
open Go
noncomputable def G39 : FuncId → Option (Spec E)
  | 53 => some spec53
  | 54 => some spec54
  | 55 => some spec55
  | 1000047 => some (fun _ _ => .fail)
  | _ => none
theorem hG39 (hL : Laws E) : ∀ f spec, G39 f = some spec → Valid E f spec := by
  intro f spec h
  unfold G39 at h
  split at h
  · injection h with h; subst h; exact valid53 hL
  · injection h with h; subst h; exact valid54 hL
  · injection h with h; subst h; exact valid55 hL
  · injection h with h; subst h; exact Valid.never (fun _ _ => rfl)
  · cases h
def L39_1 : Ex → Live
  | .normal => ⟨[0, 4, 5, 7, 8], [512, 3073]⟩
  | .exit 2 => ⟨[0, 4, 5, 7, 8], [512]⟩
  | .ret => ⟨[2, 3], []⟩
  | _ => ⟨[], []⟩
noncomputable def S39_1 (p0 : List UInt8) (p4 : List (List UInt8 × List UInt8 × Bool)) (x : Int × Int × (List UInt8) × Bool × (List UInt8)) : St E.A := at' E 209 [(0, .lf (.sl .u8 p0)), (4, .lf (.own 0 0 .tok p4)), (5, .lf (.int .i64 x.1)), (7, .lf (.ptr 512 0 0)), (8, .lf (.int .i64 x.2.1))] [(512, some (.cells 101 [.str x.2.2.1, .bf 3073 0, .bool x.2.2.2.1])), (3073, some (.buf .u8 x.2.2.2.2))]
noncomputable def t39_1 (p0 : List UInt8) (p4 : List (List UInt8 × List UInt8 × Bool)) (x : Int × Int × (List UInt8) × Bool × (List UInt8)) : Tree (Int × Int × (List UInt8) × Bool × (List UInt8) ⊕ Out' E) :=
 .ite (ltI x.fst (↑p0.length : Int))
 (.ite (inB x.fst p0.length)
  (.ite (!eqI (↑(p0.getD x.fst.toNat (0 : UInt8)).toNat : Int) (62 : Int))
   (.ite (inB x.fst p0.length)
    (.ite (ltI (Px.digit (↑(p0.getD x.fst.toNat (0 : UInt8)).toNat : Int)) (0 : Int))
     (.ite (inB x.fst p0.length)
      (.ite (Px.brk (↑(p0.getD x.fst.toNat (0 : UInt8)).toNat : Int))
       (.ite (inB x.fst p0.length)
        (.ite (eqI (↑(p0.getD x.fst.toNat (0 : UInt8)).toNat : Int) (0 : Int))
         (.leaf (.inl ((IntKind.i64.wrap (x.fst + (1 : Int))), x.snd.fst, x.snd.snd.fst, x.snd.snd.snd.fst, x.snd.snd.snd.snd)))
         (.ite (inB x.fst p0.length)
          (.ite (eqI (↑(p0.getD x.fst.toNat (0 : UInt8)).toNat : Int) (9 : Int))
           (.leaf (.inl ((IntKind.i64.wrap (x.fst + (1 : Int))), x.snd.fst, x.snd.snd.fst, x.snd.snd.snd.fst, x.snd.snd.snd.snd)))
           (.ite (inB x.fst p0.length)
            (.ite (eqI (↑(p0.getD x.fst.toNat (0 : UInt8)).toNat : Int) (10 : Int))
             (.leaf (.inl ((IntKind.i64.wrap (x.fst + (1 : Int))), x.snd.fst, x.snd.snd.fst, x.snd.snd.snd.fst, x.snd.snd.snd.snd)))
             (.ite (inB x.fst p0.length)
              (.ite (eqI (↑(p0.getD x.fst.toNat (0 : UInt8)).toNat : Int) (12 : Int))
               (.leaf (.inl ((IntKind.i64.wrap (x.fst + (1 : Int))), x.snd.fst, x.snd.snd.fst, x.snd.snd.snd.fst, x.snd.snd.snd.snd)))
               (.ite (inB x.fst p0.length)
                (.ite (eqI (↑(p0.getD x.fst.toNat (0 : UInt8)).toNat : Int) (13 : Int))
                 (.leaf (.inl ((IntKind.i64.wrap (x.fst + (1 : Int))), x.snd.fst, x.snd.snd.fst, x.snd.snd.snd.fst, x.snd.snd.snd.snd)))
                 (.ite (inB x.fst p0.length)
                  (.ite (eqI (↑(p0.getD x.fst.toNat (0 : UInt8)).toNat : Int) (32 : Int))
                   (.leaf (.inl ((IntKind.i64.wrap (x.fst + (1 : Int))), x.snd.fst, x.snd.snd.fst, x.snd.snd.snd.fst, x.snd.snd.snd.snd)))
                   (.ite (ltI (Px.digit (↑(p0.getD x.fst.toNat (0 : UInt8)).toNat : Int)) (0 : Int))
                    (.leaf (.inr (.ret, at' E 209 [(2, .lf (.own 0 0 .tok [])), (3, .lf (.bool false))] [])))
                    (.ite (eqI (x.snd.fst.tmod (2 : Int)) (0 : Int))
                     (.ite (decide ((x.snd.snd.snd.snd.length + [UInt8.ofNat (IntKind.u8.wrap (IntKind.i64.wrap ((16 : Int) * Px.digit (↑(p0.getD x.fst.toNat (0 : UInt8)).toNat : Int)))).toNat].length) * (1 : Nat) ≤ (140737488355328 : Nat)))
                      (.leaf (.inl ((IntKind.i64.wrap (x.fst + (1 : Int))), (IntKind.i64.wrap (x.snd.fst + (1 : Int))), x.snd.snd.fst, x.snd.snd.snd.fst, (x.snd.snd.snd.snd ++ [UInt8.ofNat (IntKind.u8.wrap (IntKind.i64.wrap ((16 : Int) * Px.digit (↑(p0.getD x.fst.toNat (0 : UInt8)).toNat : Int)))).toNat]))))
                      (.fail))
                     (.ite (inB (IntKind.i64.wrap (x.snd.fst.tdiv (2 : Int))) x.snd.snd.snd.snd.length)
                      (.ite (inB (IntKind.i64.wrap (x.snd.fst.tdiv (2 : Int))) x.snd.snd.snd.snd.length)
                       (.leaf (.inl ((IntKind.i64.wrap (x.fst + (1 : Int))), (IntKind.i64.wrap (x.snd.fst + (1 : Int))), x.snd.snd.fst, x.snd.snd.snd.fst, (x.snd.snd.snd.snd.set (IntKind.i64.wrap (x.snd.fst.tdiv (2 : Int))).toNat (UInt8.ofNat (IntKind.u8.wrap ((↑(x.snd.snd.snd.snd.getD (IntKind.i64.wrap (x.snd.fst.tdiv (2 : Int))).toNat (0 : UInt8)).toNat : Int) + IntKind.u8.wrap (Px.digit (↑(p0.getD x.fst.toNat (0 : UInt8)).toNat : Int)))).toNat)))))
                       (.fail))
                      (.fail)))))
                  (.fail)))
                (.fail)))
              (.fail)))
            (.fail)))
          (.fail)))
        (.fail))
       (.ite (ltI (Px.digit (↑(p0.getD x.fst.toNat (0 : UInt8)).toNat : Int)) (0 : Int))
        (.leaf (.inr (.ret, at' E 209 [(2, .lf (.own 0 0 .tok [])), (3, .lf (.bool false))] [])))
        (.ite (eqI (x.snd.fst.tmod (2 : Int)) (0 : Int))
         (.ite (decide ((x.snd.snd.snd.snd.length + [UInt8.ofNat (IntKind.u8.wrap (IntKind.i64.wrap ((16 : Int) * Px.digit (↑(p0.getD x.fst.toNat (0 : UInt8)).toNat : Int)))).toNat].length) * (1 : Nat) ≤ (140737488355328 : Nat)))
          (.leaf (.inl ((IntKind.i64.wrap (x.fst + (1 : Int))), (IntKind.i64.wrap (x.snd.fst + (1 : Int))), x.snd.snd.fst, x.snd.snd.snd.fst, (x.snd.snd.snd.snd ++ [UInt8.ofNat (IntKind.u8.wrap (IntKind.i64.wrap ((16 : Int) * Px.digit (↑(p0.getD x.fst.toNat (0 : UInt8)).toNat : Int)))).toNat]))))
          (.fail))
         (.ite (inB (IntKind.i64.wrap (x.snd.fst.tdiv (2 : Int))) x.snd.snd.snd.snd.length)
          (.ite (inB (IntKind.i64.wrap (x.snd.fst.tdiv (2 : Int))) x.snd.snd.snd.snd.length)
           (.leaf (.inl ((IntKind.i64.wrap (x.fst + (1 : Int))), (IntKind.i64.wrap (x.snd.fst + (1 : Int))), x.snd.snd.fst, x.snd.snd.snd.fst, (x.snd.snd.snd.snd.set (IntKind.i64.wrap (x.snd.fst.tdiv (2 : Int))).toNat (UInt8.ofNat (IntKind.u8.wrap ((↑(x.snd.snd.snd.snd.getD (IntKind.i64.wrap (x.snd.fst.tdiv (2 : Int))).toNat (0 : UInt8)).toNat : Int) + IntKind.u8.wrap (Px.digit (↑(p0.getD x.fst.toNat (0 : UInt8)).toNat : Int)))).toNat)))))
           (.fail))
          (.fail)))))
      (.fail))
     (.ite (ltI (Px.digit (↑(p0.getD x.fst.toNat (0 : UInt8)).toNat : Int)) (0 : Int))
      (.leaf (.inr (.ret, at' E 209 [(2, .lf (.own 0 0 .tok [])), (3, .lf (.bool false))] [])))
      (.ite (eqI (x.snd.fst.tmod (2 : Int)) (0 : Int))
       (.ite (decide ((x.snd.snd.snd.snd.length + [UInt8.ofNat (IntKind.u8.wrap (IntKind.i64.wrap ((16 : Int) * Px.digit (↑(p0.getD x.fst.toNat (0 : UInt8)).toNat : Int)))).toNat].length) * (1 : Nat) ≤ (140737488355328 : Nat)))
        (.leaf (.inl ((IntKind.i64.wrap (x.fst + (1 : Int))), (IntKind.i64.wrap (x.snd.fst + (1 : Int))), x.snd.snd.fst, x.snd.snd.snd.fst, (x.snd.snd.snd.snd ++ [UInt8.ofNat (IntKind.u8.wrap (IntKind.i64.wrap ((16 : Int) * Px.digit (↑(p0.getD x.fst.toNat (0 : UInt8)).toNat : Int)))).toNat]))))
        (.fail))
       (.ite (inB (IntKind.i64.wrap (x.snd.fst.tdiv (2 : Int))) x.snd.snd.snd.snd.length)
        (.ite (inB (IntKind.i64.wrap (x.snd.fst.tdiv (2 : Int))) x.snd.snd.snd.snd.length)
         (.leaf (.inl ((IntKind.i64.wrap (x.fst + (1 : Int))), (IntKind.i64.wrap (x.snd.fst + (1 : Int))), x.snd.snd.fst, x.snd.snd.snd.fst, (x.snd.snd.snd.snd.set (IntKind.i64.wrap (x.snd.fst.tdiv (2 : Int))).toNat (UInt8.ofNat (IntKind.u8.wrap ((↑(x.snd.snd.snd.snd.getD (IntKind.i64.wrap (x.snd.fst.tdiv (2 : Int))).toNat (0 : UInt8)).toNat : Int) + IntKind.u8.wrap (Px.digit (↑(p0.getD x.fst.toNat (0 : UInt8)).toNat : Int)))).toNat)))))
         (.fail))
        (.fail)))))
    (.fail))
   (.leaf (.inr (.exit 2, at' E 209 [(0, .lf (.sl .u8 p0)), (4, .lf (.own 0 0 .tok p4)), (5, .lf (.int .i64 x.fst)), (7, .lf (.ptr 512 0 0)), (8, .lf (.int .i64 x.snd.fst))] [(512, some (.cells 101 [.str x.snd.snd.fst, .sl .u8 x.snd.snd.snd.snd, .bool x.snd.snd.snd.fst]))]))))
  (.fail))
 (.leaf (.inr (.exit 2, at' E 209 [(0, .lf (.sl .u8 p0)), (4, .lf (.own 0 0 .tok p4)), (5, .lf (.int .i64 x.fst)), (7, .lf (.ptr 512 0 0)), (8, .lf (.int .i64 x.snd.fst))] [(512, some (.cells 101 [.str x.snd.snd.fst, .sl .u8 x.snd.snd.snd.snd, .bool x.snd.snd.snd.fst]))])))
theorem h39_1 (p0 : List UInt8) (p4 : List (List UInt8 × List UInt8 × Bool)) (x : Int × Int × (List UInt8) × Bool × (List UInt8)) (k : Ex → St E.A → Option Unit) :
    exec E G39 (fun _ _ => .fail) 2 (lb Go.Proofs.Tryd.f39 1) (S39_1 p0 p4 x) (fun e σ1 => k e (clean E (L39_1 e) σ1)) = (t39_1 p0 p4 x).run (Sum.elim (fun x' => k .normal (S39_1 p0 p4 x')) (fun o => k o.1 o.2)) := by kernel_rfl
end Go.Vx
namespace Px
open Go.Vx Go
theorem cond_or_chain {α : Type} (a b : Bool) (x y : α) : cond a x (cond b x y) = cond (a || b) x y := by cases a <;> rfl
theorem hi_plain {d : Nat} (h : d < 16) : UInt8.ofNat (IntKind.u8.wrap (IntKind.i64.wrap ((16 : Int) * (d : Int)))).toNat = UInt8.ofNat (16 * d) := by
  have := all_nat (m := 16) (q := fun d => Nat.beq (UInt8.ofNat (IntKind.u8.wrap (IntKind.i64.wrap ((16 : Int) * (d : Int)))).toNat).toNat (UInt8.ofNat (16 * d)).toNat) (by kernel_rfl) h
  exact UInt8.toNat_inj.1 (Nat.beq_eq ▸ this)
theorem lo_plain {a d : Nat} (ha : a < 16) (h : d < 16) : UInt8.ofNat (IntKind.u8.wrap (((16 * a : Nat) : Int) + IntKind.u8.wrap (d : Int))).toNat = UInt8.ofNat (16 * a + d) := by
  have := all_nat (m := 16) (q := fun a => (List.range 16).all fun d => Nat.beq (UInt8.ofNat (IntKind.u8.wrap (((16 * a : Nat) : Int) + IntKind.u8.wrap (d : Int))).toNat).toNat (UInt8.ofNat (16 * a + d)).toNat) (by kernel_rfl) ha
  have := all_nat this h
  exact UInt8.toNat_inj.1 (Nat.beq_eq ▸ this)
theorem blank_brk (c : UInt8) : (blank (c.toNat : Int) = true → brk (c.toNat : Int) = true ∧ hv c = 16) := by
  have := all_u8 (q := fun c => !blank (c.toNat : Int) || (brk (c.toNat : Int) && Nat.beq (hv c) 16)) (by kernel_rfl) c
  intro h
  rw [h] at this
  simpa using this
theorem run_hex {O : Type} (R : O) (f : Nat → Nat × List UInt8 → O) : ∀ (l : List UInt8) (i : Nat) (a : Nat × List UInt8),
    rangeRun (fun i a c => cond (eqI (c.toNat : Int) 62) (.inr (f i a)) (match textStep a c with | none => .inr R | some a' => .inl a')) (f (i + l.length)) i a l = match (hexRun a l).1 with | none => R | some a' => f (i + (hexRun a l).2) a'
  | [], _, _ => rfl
  | c :: l, i, a => by
    simp only [rangeRun, hexRun]
    cases he : eqI (c.toNat : Int) 62 with
    | true => rfl
    | false =>
      simp only [cond_false]
      cases h : textStep a c with
      | none => rfl
      | some a' =>
        have := run_hex R f l (i + 1) a'
        rw [List.length_cons, show i + (l.length + 1) = i + 1 + l.length by omega]
        simp only
        rw [this]
        rw [show i + ((hexRun a' l).2 + 1) = i + 1 + (hexRun a' l).2 by omega]
end Px
namespace Go.Vx
open Go
noncomputable def lam39_1 (p0 : List UInt8) (p4 : List (List UInt8 × List UInt8 × Bool)) (x : Int × Int × (List UInt8) × Bool × (List UInt8)) : Tree (Out' E) :=
  .ite (leI 0 x.1 && leI x.1 (p0.length : Int) && eqI x.2.1 0 && Nat.beq x.2.2.2.2.length 0 && decide (p0.length ≤ 1000000000))
   (.ite (Px.hexIs (p0.drop x.1.toNat))
     (.leaf (.exit 2, at' E 209 [(0, .lf (.sl .u8 p0)), (4, .lf (.own 0 0 .tok p4)), (5, .lf (.int .i64 (x.1 + (Px.hexAt (p0.drop x.1.toNat) : Int)))), (7, .lf (.ptr 512 0 0)), (8, .lf (.int .i64 (Px.hexN (p0.drop x.1.toNat))))] [(512, some (.cells 101 [.str x.2.2.1, .sl .u8 (Px.hexOut (p0.drop x.1.toNat)), .bool x.2.2.2.1]))]))
     (.leaf (.ret, at' E 209 [(2, .lf (.own 0 0 .tok [])), (3, .lf (.bool false))] []))) .fail
theorem m39_1 {p0 : List UInt8} {p4 : List (List UInt8 × List UInt8 × Bool)} {x : Int × Int × (List UInt8) × Bool × (List UInt8)} {e : Ex} {σ : St E.A} (_ : okLenR (E := E) (.lf (.sl .u8 p0)) = true) (_ : okLenR (E := E) (.lf (.own 0 0 .tok p4)) = true)
    (_ : okLenO (E := E) (.cells 101 [.str x.2.2.1, .bf 3073 0, .bool x.2.2.2.1]) = true) (_ : okLenO (E := E) (.buf .u8 x.2.2.2.2) = true)
    (h : (lam39_1 p0 p4 x).get = some (e, σ)) : ∃ fuel, iter (t39_1 p0 p4) fuel x = some (e, σ) ∧ e ≠ .normal := by
  obtain ⟨i, n, s, is, out⟩ := x
  unfold lam39_1 at h
  have h' := Tree.get_ite_some h
  clear h
  rcases h' with ⟨h1, h⟩ | ⟨_, h⟩
  · simp only [eqI_eq, leI_eq, Bool.and_eq_true, decide_eq_true_eq, Nat.beq_eq, List.length_eq_zero_iff] at h1
    obtain ⟨⟨⟨⟨h1, h2⟩, rfl⟩, rfl⟩, h5⟩ := h1
    obtain ⟨i, rfl⟩ : ∃ j : Nat, i = (j : Int) := ⟨i.toNat, by omega⟩
    have hb : p0.length ≤ big := by unfold big; omega
    have key := range_iter (t := t39_1 p0 p4) (l := p0) (0 : UInt8) (fun (a : Nat × List UInt8) i => (i, (a.1 : Int), s, is, a.2))
      (fun i a c => cond (eqI (c.toNat : Int) 62) (.inr (Ex.exit 2, at' E 209 [(0, .lf (.sl .u8 p0)), (4, .lf (.own 0 0 .tok p4)), (5, .lf (.int .i64 (i : Int))), (7, .lf (.ptr 512 0 0)), (8, .lf (.int .i64 (a.1 : Int)))] [(512, some (.cells 101 [.str s, .sl .u8 a.2, .bool is]))]))
        (match Px.textStep a c with | none => .inr (Ex.ret, at' E 209 [(2, .lf (.own 0 0 .tok [])), (3, .lf (.bool false))] []) | some a' => .inl a'))
      (fun a => (Ex.exit 2, at' E 209 [(0, .lf (.sl .u8 p0)), (4, .lf (.own 0 0 .tok p4)), (5, .lf (.int .i64 (p0.length : Int))), (7, .lf (.ptr 512 0 0)), (8, .lf (.int .i64 (a.1 : Int)))] [(512, some (.cells 101 [.str s, .sl .u8 a.2, .bool is]))])) Px.textInv
      (fun i a hi ho => ⟨by
        obtain ⟨n, out⟩ := a
        obtain ⟨i1, i2, i3⟩ := ho
        simp only at i1 i2 i3
        unfold t39_1
        simp only
        have w0 : IntKind.i64.wrap ((i : Int) + 1) = ((i + 1 : Nat) : Int) := i64_succ hi hb
        have w1 : IntKind.i64.wrap ((n : Int) + 1) = ((n + 1 : Nat) : Int) := by rw [wi64] <;> omega
        have w2 : IntKind.i64.wrap ((n : Int).tdiv 2) = ((n / 2 : Nat) : Int) := by rw [show (n : Int).tdiv 2 = ((n / 2 : Nat) : Int) from rfl, wi64] <;> omega
        simp only [Tree.get_ite, ltI_nat hi, inB_nat hi, cond_true, w0, w1, w2, Int.toNat_natCast, Px.cond_or_chain, Tree.get_leaf]
        generalize p0.getD i 0 = c
        have eb : (eqI (c.toNat : Int) 0 || (eqI (c.toNat : Int) 9 || (eqI (c.toNat : Int) 10 || (eqI (c.toNat : Int) 12 || (eqI (c.toNat : Int) 13 || eqI (c.toNat : Int) 32))))) = Px.blank (c.toNat : Int) := by
          unfold Px.blank; simp only [Bool.or_assoc]
        rw [eb]
        show cond (!eqI (c.toNat : Int) 62) (cond (ltI (Px.digit (c.toNat : Int)) 0) (cond (Px.brk (c.toNat : Int)) (cond (Px.blank (c.toNat : Int)) _ _) _) _) _ = _
        cases he : eqI (c.toNat : Int) 62 with
        | true => rfl
        | false =>
          simp only [Bool.not_false, cond_true, cond_false]
          unfold Px.textStep
          cases hbl : Px.blank (c.toNat : Int) with
          | true =>
            obtain ⟨b1, b2⟩ := Px.blank_brk c hbl
            rcases Px.digit_fact c with ⟨f1, _⟩ | ⟨_, f2⟩
            · omega
            · rw [b1, f2]; rfl
          | false =>
            rcases Px.digit_fact c with ⟨f1, f2⟩ | ⟨f1, f2⟩
            · have f0 : ltI (Px.digit (c.toNat : Int)) 0 = false := by rw [f2, ltI_eq]; exact decide_eq_false (by omega)
              have f1' : Nat.blt (Px.hv c) 16 = true := Nat.ble_eq ▸ f1
              have e2 : eqI ((n : Int).tmod 2) 0 = Nat.beq (n % 2) 0 := rfl
              simp only [f0, cond_false, f1', cond_true, e2]
              cases he : Nat.beq (n % 2) 0 with
              | true =>
                simp only [cond_true]
                rw [decide_eq_true (by simp only [List.length_cons, List.length_nil]; omega), cond_true, f2, Px.hi_plain f1]
              | false =>
                have he' : n % 2 = 1 := by
                  have : ¬ n % 2 = 0 := fun hh => by rw [hh] at he; cases he
                  omega
                obtain ⟨k, hk, hk2⟩ := i3 he'
                have hin : inB ((n / 2 : Nat) : Int) out.length = true := inB_nat (by omega)
                simp only [cond_false, hin, cond_true]
                rw [f2, hk2, Px.lo_plain hk f1]
            · have f1' : Nat.blt (Px.hv c) 16 = false := by rw [f1]; rfl
              have f0 : ltI (Px.digit (c.toNat : Int)) 0 = true := by rw [f2]; rfl
              rw [f1', f0]
              cases Px.brk (c.toNat : Int) <;> rfl, fun a' hs => by
        cases he : eqI ((p0.getD i 0).toNat : Int) 62 with
        | true => rw [he] at hs; cases hs
        | false =>
          rw [he, cond_false] at hs
          cases hst : Px.textStep a (p0.getD i 0) with
          | none => rw [hst] at hs; cases hs
          | some a'' => rw [hst] at hs; injection hs with hs; subst hs; exact Px.textInv_step ho hst⟩)
      (fun a _ => by simp only [t39_1, Tree.get_ite, Tree.get_leaf, ltI_self, cond_false])
      (p0.length - i) i ((0, []) : Nat × List UInt8) (by omega) ⟨rfl, Nat.zero_le _, fun hh => by cases hh⟩
    have hrun := Px.run_hex ((Ex.ret, at' E 209 [(2, .lf (.own 0 0 .tok [])), (3, .lf (.bool false))] []) : Out' E) (fun i a => (Ex.exit 2, at' E 209 [(0, .lf (.sl .u8 p0)), (4, .lf (.own 0 0 .tok p4)), (5, .lf (.int .i64 (i : Int))), (7, .lf (.ptr 512 0 0)), (8, .lf (.int .i64 (a.1 : Int)))] [(512, some (.cells 101 [.str s, .sl .u8 a.2, .bool is]))])) (p0.drop i) i (0, [])
    rw [show i + (p0.drop i).length = p0.length by rw [List.length_drop]; omega] at hrun
    have key := key.trans (congrArg some hrun)
    simp only [Int.toNat_natCast] at h
    refine ⟨_, key.trans ?_, ?_⟩
    · rw [← h, Tree.get_ite, Tree.get_leaf, Tree.get_leaf]
      unfold Px.hexIs Px.hexOut Px.hexN Px.hexGo Px.hexAt
      cases (Px.hexRun (0, []) (p0.drop i)).1 <;> rfl
    · rw [Tree.get_ite, Tree.get_leaf, Tree.get_leaf] at h
      cases hd : Px.hexIs (p0.drop i) <;> rw [hd] at h <;> (injection h with h; injection h with h1 _; rw [← h1]; intro hh; cases hh)
  · cases h
noncomputable def rd39_1 (σ : St E.A) : Tree (Out' E) :=
  let c := clean E (L39_1 .normal) σ
  if c.sl.length = 209 then
  match c.sl.getD 0 .undef, c.sl.getD 4 .undef, c.sl.getD 5 .undef, c.sl.getD 7 .undef, c.sl.getD 8 .undef, c.ob 512, c.ob 3073 with
  | .lf (.sl .u8 p0), .lf (.own 0 0 .tok p4), .lf (.int .i64 x5), .lf (.ptr 512 0 0), .lf (.int .i64 x8), some (.cells 101 [.str o512a, .bf 3073 0, .bool o512b]), some (.buf .u8 o3073a) => lam39_1 p0 p4 (x5, x8, o512a, o512b, o3073a)
  | _, _, _, _, _, _, _ => .fail
  else .fail
theorem ll39_1 (hL : Laws E) (σ : St E.A) (e : Ex) (σ' : St E.A) (h : (rd39_1 σ).get = some (e, σ')) : LoopOK E (lb Go.Proofs.Tryd.f39 1) σ e σ' := by
  refine LoopOK.of_clean hL (L39_1 .normal) ?_
  unfold rd39_1 at h
  simp only at h
  split at h
  · rename_i hlen
    split at h
    · rename_i p0 p4 x5 x8 o512a o512b o3073a h0 h1 h2 h3 h4 h5 h6
      refine LoopOK.lens 0 (fun g0 => ?_)
      rw [h0] at g0
      refine LoopOK.lens 4 (fun g1 => ?_)
      rw [h1] at g1
      refine LoopOK.lensO 512 (fun gg => ?_)
      have g2 := gg _ h5
      refine LoopOK.lensO 3073 (fun gg => ?_)
      have g3 := gg _ h6
      obtain ⟨fuel, hi, ho⟩ := m39_1 g0 g1 g2 g3 h
      have hl := loop_at (Γ := G39) (Λ := fun _ _ => .fail) (n := 2) (body := lb Go.Proofs.Tryd.f39 1) hL (hG39 hL) (S := S39_1 p0 p4) (t := t39_1 p0 p4) (Lv := L39_1) (LamOK.none (by kernel_rfl)) (h39_1 p0 p4) hi ho
      refine LoopOK.fit hlen ?_ ?_ rfl rfl hl
      · exact ⟨h0, h1, h2, h3, h4, trivial⟩
      · exact ⟨h5, h6, trivial⟩
    · cases h
  · cases h
def L39_2 : Ex → Live
  | .normal => ⟨[0, 4, 5, 10], []⟩
  | .exit 5 => ⟨[0, 4, 5, 10], []⟩
  | .ret => ⟨[2, 3], []⟩
  | _ => ⟨[], []⟩
noncomputable def S39_2 (p0 : List UInt8) (p4 : List (List UInt8 × List UInt8 × Bool)) (p5 : Int) (x : Int) : St E.A := at' E 209 [(0, .lf (.sl .u8 p0)), (4, .lf (.own 0 0 .tok p4)), (5, .lf (.int .i64 p5)), (10, .lf (.int .i64 x))] []
noncomputable def t39_2 (p0 : List UInt8) (p4 : List (List UInt8 × List UInt8 × Bool)) (p5 : Int) (x : Int) : Tree ((Int) ⊕ Out' E) :=
 .ite (inB p5 p0.length)
 (.ite (!Px.brk (↑(p0.getD p5.toNat (0 : UInt8)).toNat : Int))
  (.ite (ltI x (↑p0.length : Int))
   (.ite (inB x p0.length)
    (.ite (!Px.brk (↑(p0.getD x.toNat (0 : UInt8)).toNat : Int))
     (.leaf (.inl ((IntKind.i64.wrap (x + (1 : Int))))))
     (.leaf (.inr (.exit 5, at' E 209 [(0, .lf (.sl .u8 p0)), (4, .lf (.own 0 0 .tok p4)), (5, .lf (.int .i64 p5)), (10, .lf (.int .i64 x))] []))))
    (.fail))
   (.leaf (.inr (.exit 5, at' E 209 [(0, .lf (.sl .u8 p0)), (4, .lf (.own 0 0 .tok p4)), (5, .lf (.int .i64 p5)), (10, .lf (.int .i64 x))] []))))
  (.leaf (.inr (.exit 5, at' E 209 [(0, .lf (.sl .u8 p0)), (4, .lf (.own 0 0 .tok p4)), (5, .lf (.int .i64 p5)), (10, .lf (.int .i64 x))] []))))
 (.fail)
theorem h39_2 (p0 : List UInt8) (p4 : List (List UInt8 × List UInt8 × Bool)) (p5 : Int) (x : Int) (k : Ex → St E.A → Option Unit) :
    exec E G39 (fun _ _ => .fail) 3 (lb Go.Proofs.Tryd.f39 2) (S39_2 p0 p4 p5 x) (fun e σ1 => k e (clean E (L39_2 e) σ1)) = (t39_2 p0 p4 p5 x).run (Sum.elim (fun x' => k .normal (S39_2 p0 p4 p5 x')) (fun o => k o.1 o.2)) := by kernel_rfl
end Go.Vx
namespace Px
open Go.Vx Go
theorem run_word {O : Type} (f : Nat → O) : ∀ (l : List UInt8) (i : Nat),
    rangeRun (fun i (_ : Unit) (c : UInt8) => (cond (!brk (c.toNat : Int)) (.inl ()) (.inr (f i)) : Unit ⊕ O)) (fun _ => f (i + l.length)) i () l = f (i + wordN l)
  | [], _ => rfl
  | c :: l, i => by
    simp only [rangeRun, wordN]
    cases brk (c.toNat : Int) with
    | true => rfl
    | false =>
      have := run_word f l (i + 1)
      simp only [Bool.not_false, cond_true, cond_false]
      rw [List.length_cons, show i + (l.length + 1) = i + 1 + l.length by omega, this]
      rw [show i + 1 + wordN l = i + (wordN l + 1) by omega]
end Px
namespace Go.Vx
open Go
noncomputable def lam39_2 (p0 : List UInt8) (p4 : List (List UInt8 × List UInt8 × Bool)) (p5 : Int) (x : Int) : Tree (Out' E) :=
  .ite (inB p5 p0.length && leI 0 x && leI x (p0.length : Int) && decide (p0.length ≤ 1000000000))
   (.leaf (.exit 5, at' E 209 [(0, .lf (.sl .u8 p0)), (4, .lf (.own 0 0 .tok p4)), (5, .lf (.int .i64 p5)), (10, .lf (.int .i64 (x + (Px.wordM (p0.getD p5.toNat 0) (p0.drop x.toNat) : Int))))] [])) .fail
theorem m39_2 {p0 : List UInt8} {p4 : List (List UInt8 × List UInt8 × Bool)} {p5 : Int} {x : Int} {e : Ex} {σ : St E.A} (_ : okLenR (E := E) (.lf (.sl .u8 p0)) = true) (_ : okLenR (E := E) (.lf (.own 0 0 .tok p4)) = true)
    (h : (lam39_2 p0 p4 p5 x).get = some (e, σ)) : ∃ fuel, iter (t39_2 p0 p4 p5) fuel x = some (e, σ) ∧ e ≠ .normal := by
  unfold lam39_2 at h
  have h' := Tree.get_ite_some h
  clear h
  rcases h' with ⟨h1, h⟩ | ⟨_, h⟩
  · simp only [leI_eq, Bool.and_eq_true, decide_eq_true_eq] at h1
    obtain ⟨⟨⟨h0, h1⟩, h2⟩, h5⟩ := h1
    obtain ⟨i, rfl⟩ : ∃ j : Nat, x = (j : Int) := ⟨x.toNat, by omega⟩
    have hb : p0.length ≤ big := by unfold big; omega
    have hf : (e, σ) = (Ex.exit 5, at' E 209 [(0, .lf (.sl .u8 p0)), (4, .lf (.own 0 0 .tok p4)), (5, .lf (.int .i64 p5)), (10, .lf (.int .i64 ((i : Int) + (Px.wordM (p0.getD p5.toNat 0) (p0.drop i) : Int))))] []) := by
      rw [Tree.get_leaf, Int.toNat_natCast] at h
      exact (Option.some.inj h).symm
    have hn : e ≠ .normal := by injection hf with h1 _; rw [h1]; intro hh; cases hh
    cases hbr : Px.brk ((p0.getD p5.toNat 0).toNat : Int) with
    | true =>
      refine ⟨1, ?_, hn⟩
      have ht : (t39_2 p0 p4 p5 (i : Int)).get = some (.inr (e, σ)) := by
        rw [hf]
        unfold Px.wordM
        simp only [t39_2, Tree.get_ite, h0, hbr, cond_true, Bool.not_true, cond_false, Tree.get_leaf, Int.add_zero, Int.natCast_zero]
      unfold iter
      rw [ht]
    | false =>
      have key := range_iter (t := t39_2 p0 p4 p5) (l := p0) (0 : UInt8) (fun (_ : Unit) i => i)
        (fun i _ c => cond (!Px.brk (c.toNat : Int)) (.inl ()) (.inr (Ex.exit 5, at' E 209 [(0, .lf (.sl .u8 p0)), (4, .lf (.own 0 0 .tok p4)), (5, .lf (.int .i64 p5)), (10, .lf (.int .i64 (i : Int)))] [])))
        (fun _ => (Ex.exit 5, at' E 209 [(0, .lf (.sl .u8 p0)), (4, .lf (.own 0 0 .tok p4)), (5, .lf (.int .i64 p5)), (10, .lf (.int .i64 (p0.length : Int)))] [])) (fun _ _ => True)
        (fun i a hi _ => ⟨by
          simp only [t39_2, Tree.get_ite, Tree.get_leaf, h0, hbr, ltI_nat hi, inB_nat hi, cond_true, Bool.not_false, i64_succ hi hb, Int.toNat_natCast]
          cases Px.brk ((p0.getD i 0).toNat : Int) <;> rfl, fun _ _ => trivial⟩)
        (fun a _ => by simp only [t39_2, Tree.get_ite, Tree.get_leaf, h0, hbr, ltI_self, cond_true, cond_false, Bool.not_false])
        (p0.length - i) i () (by omega) trivial
      have hrun := Px.run_word (fun i => ((Ex.exit 5, at' E 209 [(0, .lf (.sl .u8 p0)), (4, .lf (.own 0 0 .tok p4)), (5, .lf (.int .i64 p5)), (10, .lf (.int .i64 (i : Int)))] []) : Out' E)) (p0.drop i) i
      rw [show i + (p0.drop i).length = p0.length by rw [List.length_drop]; omega] at hrun
      have key := key.trans (congrArg some hrun)
      refine ⟨_, key.trans ?_, hn⟩
      rw [hf]
      unfold Px.wordM
      rw [hbr, cond_false]
      rfl
  · cases h
noncomputable def rd39_2 (σ : St E.A) : Tree (Out' E) :=
  let c := clean E (L39_2 .normal) σ
  if c.sl.length = 209 then
  match c.sl.getD 0 .undef, c.sl.getD 4 .undef, c.sl.getD 5 .undef, c.sl.getD 10 .undef with
  | .lf (.sl .u8 p0), .lf (.own 0 0 .tok p4), .lf (.int .i64 p5), .lf (.int .i64 x10) => lam39_2 p0 p4 p5 (x10)
  | _, _, _, _ => .fail
  else .fail
theorem ll39_2 (hL : Laws E) (σ : St E.A) (e : Ex) (σ' : St E.A) (h : (rd39_2 σ).get = some (e, σ')) : LoopOK E (lb Go.Proofs.Tryd.f39 2) σ e σ' := by
  refine LoopOK.of_clean hL (L39_2 .normal) ?_
  unfold rd39_2 at h
  simp only at h
  split at h
  · rename_i hlen
    split at h
    · rename_i p0 p4 p5 x10 h0 h1 h2 h3
      refine LoopOK.lens 0 (fun g0 => ?_)
      rw [h0] at g0
      refine LoopOK.lens 4 (fun g1 => ?_)
      rw [h1] at g1
      obtain ⟨fuel, hi, ho⟩ := m39_2 g0 g1 h
      have hl := loop_at (Γ := G39) (Λ := fun _ _ => .fail) (n := 3) (body := lb Go.Proofs.Tryd.f39 2) hL (hG39 hL) (S := S39_2 p0 p4 p5) (t := t39_2 p0 p4 p5) (Lv := L39_2) (LamOK.none (by kernel_rfl)) (h39_2 p0 p4 p5) hi ho
      refine LoopOK.fit hlen ?_ ?_ rfl rfl hl
      · exact ⟨h0, h1, h2, h3, trivial⟩
      · exact trivial
    · cases h
  · cases h
def L39_0 : Ex → Live
  | .normal => ⟨[0, 4, 5], []⟩
  | .exit 0 => ⟨[4], []⟩
  | .ret => ⟨[2, 3], []⟩
  | _ => ⟨[], []⟩
noncomputable def S39_0 (p0 : List UInt8) (x : (List (List UInt8 × List UInt8 × Bool)) × Int) : St E.A := at' E 209 [(0, .lf (.sl .u8 p0)), (4, .lf (.own 0 0 .tok x.1)), (5, .lf (.int .i64 x.2))] []
noncomputable def Lm39_0 : Lam E
  | 1, σ => rd39_1 σ
  | 2, σ => rd39_2 σ
  | _, _ => .fail
noncomputable def t39_0 (p0 : List UInt8) (x : (List (List UInt8 × List UInt8 × Bool)) × Int) : Tree ((List (List UInt8 × List UInt8 × Bool)) × Int ⊕ Out' E) :=
 .ite (ltI x.snd (↑p0.length : Int))
 (.ite (ltI (IntKind.i64.wrap (x.snd + (1 : Int))) (↑p0.length : Int))
  (.ite (leI (0 : Int) x.snd && leI x.snd (IntKind.i64.wrap (x.snd + (2 : Int))) && leI (IntKind.i64.wrap (x.snd + (2 : Int))) (↑p0.length : Int))
   (.ite (decide (List.drop x.snd.toNat (List.take (IntKind.i64.wrap (x.snd + (2 : Int))).toNat p0) = [(60 : UInt8), (60 : UInt8)]))
    (.ite (decide ((x.fst.length + ([(List.drop x.snd.toNat (List.take (IntKind.i64.wrap (x.snd + (2 : Int))).toNat p0), [], false)] : List (List UInt8 × List UInt8 × Bool)).length) * (48 : Nat) ≤ (140737488355328 : Nat)))
     (.ite (leI (0 : Int) (IntKind.i64.wrap (x.snd + (2 : Int))) && leI (IntKind.i64.wrap (x.snd + (2 : Int))) (↑p0.length : Int))
      (.leaf (.inl ((x.fst ++ [(List.drop x.snd.toNat (List.take (IntKind.i64.wrap (x.snd + (2 : Int))).toNat p0), [], false)]), (IntKind.i64.wrap (x.snd + (2 : Int)) + (↑(Px.skipN false (List.drop (IntKind.i64.wrap (x.snd + (2 : Int))).toNat p0)) : Int)))))
      (.fail))
     (.fail))
    (.ite (decide (List.drop x.snd.toNat (List.take (IntKind.i64.wrap (x.snd + (2 : Int))).toNat p0) = [(62 : UInt8), (62 : UInt8)]))
     (.ite (decide ((x.fst.length + ([(List.drop x.snd.toNat (List.take (IntKind.i64.wrap (x.snd + (2 : Int))).toNat p0), [], false)] : List (List UInt8 × List UInt8 × Bool)).length) * (48 : Nat) ≤ (140737488355328 : Nat)))
      (.ite (leI (0 : Int) (IntKind.i64.wrap (x.snd + (2 : Int))) && leI (IntKind.i64.wrap (x.snd + (2 : Int))) (↑p0.length : Int))
       (.leaf (.inl ((x.fst ++ [(List.drop x.snd.toNat (List.take (IntKind.i64.wrap (x.snd + (2 : Int))).toNat p0), [], false)]), (IntKind.i64.wrap (x.snd + (2 : Int)) + (↑(Px.skipN false (List.drop (IntKind.i64.wrap (x.snd + (2 : Int))).toNat p0)) : Int)))))
       (.fail))
      (.fail))
     (.ite (inB x.snd p0.length)
      (.ite (eqI (↑(p0.getD x.snd.toNat (0 : UInt8)).toNat : Int) (60 : Int))
       (.ite (leI (0 : Int) (IntKind.i64.wrap (x.snd + (1 : Int))) && leI (IntKind.i64.wrap (x.snd + (1 : Int))) (↑p0.length : Int) && eqI (0 : Int) (0 : Int) && ([] : List UInt8).length.beq (0 : Nat) && decide (p0.length ≤ (1000000000 : Nat)))
        (.ite (Px.hexIs (List.drop (IntKind.i64.wrap (x.snd + (1 : Int))).toNat p0))
         (.ite (leI (↑p0.length : Int) (IntKind.i64.wrap (x.snd + (1 : Int)) + (↑(Px.hexAt (List.drop (IntKind.i64.wrap (x.snd + (1 : Int))).toNat p0)) : Int)))
          (.leaf (.inr (.ret, at' E 209 [(2, .lf (.own 0 0 .tok [])), (3, .lf (.bool false))] [])))
          (.ite (ltI (0 : Int) ((↑(Px.hexN (List.drop (IntKind.i64.wrap (x.snd + (1 : Int))).toNat p0)) : Int).tmod (2 : Int)))
           (.leaf (.inr (.ret, at' E 209 [(2, .lf (.own 0 0 .tok [])), (3, .lf (.bool false))] [])))
           (.ite (decide ((x.fst.length + ([([], Px.hexOut (List.drop (IntKind.i64.wrap (x.snd + (1 : Int))).toNat p0), true)] : List (List UInt8 × List UInt8 × Bool)).length) * (48 : Nat) ≤ (140737488355328 : Nat)))
            (.ite (leI (0 : Int) (IntKind.i64.wrap (IntKind.i64.wrap (x.snd + (1 : Int)) + (↑(Px.hexAt (List.drop (IntKind.i64.wrap (x.snd + (1 : Int))).toNat p0)) : Int) + (1 : Int))) && leI (IntKind.i64.wrap (IntKind.i64.wrap (x.snd + (1 : Int)) + (↑(Px.hexAt (List.drop (IntKind.i64.wrap (x.snd + (1 : Int))).toNat p0)) : Int) + (1 : Int))) (↑p0.length : Int))
             (.leaf (.inl ((x.fst ++ [([], Px.hexOut (List.drop (IntKind.i64.wrap (x.snd + (1 : Int))).toNat p0), true)]), (IntKind.i64.wrap (IntKind.i64.wrap (x.snd + (1 : Int)) + (↑(Px.hexAt (List.drop (IntKind.i64.wrap (x.snd + (1 : Int))).toNat p0)) : Int) + (1 : Int)) + (↑(Px.skipN false (List.drop (IntKind.i64.wrap (IntKind.i64.wrap (x.snd + (1 : Int)) + (↑(Px.hexAt (List.drop (IntKind.i64.wrap (x.snd + (1 : Int))).toNat p0)) : Int) + (1 : Int))).toNat p0)) : Int)))))
             (.fail))
            (.fail))))
         (.leaf (.inr (.ret, at' E 209 [(2, .lf (.own 0 0 .tok [])), (3, .lf (.bool false))] []))))
        (.fail))
       (.ite (inB x.snd p0.length && leI (0 : Int) (IntKind.i64.wrap (x.snd + (1 : Int))) && leI (IntKind.i64.wrap (x.snd + (1 : Int))) (↑p0.length : Int) && decide (p0.length ≤ (1000000000 : Nat)))
        (.ite (leI (0 : Int) x.snd && leI x.snd (IntKind.i64.wrap (x.snd + (1 : Int)) + (↑(Px.wordM (p0.getD x.snd.toNat (0 : UInt8)) (List.drop (IntKind.i64.wrap (x.snd + (1 : Int))).toNat p0)) : Int)) && leI (IntKind.i64.wrap (x.snd + (1 : Int)) + (↑(Px.wordM (p0.getD x.snd.toNat (0 : UInt8)) (List.drop (IntKind.i64.wrap (x.snd + (1 : Int))).toNat p0)) : Int)) (↑p0.length : Int))
         (.ite (decide (List.drop x.snd.toNat (List.take (IntKind.i64.wrap (x.snd + (1 : Int)) + (↑(Px.wordM (p0.getD x.snd.toNat (0 : UInt8)) (List.drop (IntKind.i64.wrap (x.snd + (1 : Int))).toNat p0)) : Int)).toNat p0) = [(40 : UInt8)]))
          (.leaf (.inr (.ret, at' E 209 [(2, .lf (.own 0 0 .tok [])), (3, .lf (.bool false))] [])))
          (.ite (decide (List.drop x.snd.toNat (List.take (IntKind.i64.wrap (x.snd + (1 : Int)) + (↑(Px.wordM (p0.getD x.snd.toNat (0 : UInt8)) (List.drop (IntKind.i64.wrap (x.snd + (1 : Int))).toNat p0)) : Int)).toNat p0) = [(98 : UInt8), (101 : UInt8), (103 : UInt8), (105 : UInt8), (110 : UInt8), (98 : UInt8), (102 : UInt8), (114 : UInt8), (97 : UInt8), (110 : UInt8), (103 : UInt8), (101 : UInt8)]))
           (.leaf (.inr (.ret, at' E 209 [(2, .lf (.own 0 0 .tok [])), (3, .lf (.bool false))] [])))
           (.ite (decide ((x.fst.length + ([(List.drop x.snd.toNat (List.take (IntKind.i64.wrap (x.snd + (1 : Int)) + (↑(Px.wordM (p0.getD x.snd.toNat (0 : UInt8)) (List.drop (IntKind.i64.wrap (x.snd + (1 : Int))).toNat p0)) : Int)).toNat p0), [], false)] : List (List UInt8 × List UInt8 × Bool)).length) * (48 : Nat) ≤ (140737488355328 : Nat)))
            (.ite (leI (0 : Int) (IntKind.i64.wrap (x.snd + (1 : Int)) + (↑(Px.wordM (p0.getD x.snd.toNat (0 : UInt8)) (List.drop (IntKind.i64.wrap (x.snd + (1 : Int))).toNat p0)) : Int)) && leI (IntKind.i64.wrap (x.snd + (1 : Int)) + (↑(Px.wordM (p0.getD x.snd.toNat (0 : UInt8)) (List.drop (IntKind.i64.wrap (x.snd + (1 : Int))).toNat p0)) : Int)) (↑p0.length : Int))
             (.leaf (.inl ((x.fst ++ [(List.drop x.snd.toNat (List.take (IntKind.i64.wrap (x.snd + (1 : Int)) + (↑(Px.wordM (p0.getD x.snd.toNat (0 : UInt8)) (List.drop (IntKind.i64.wrap (x.snd + (1 : Int))).toNat p0)) : Int)).toNat p0), [], false)]), (IntKind.i64.wrap (x.snd + (1 : Int)) + (↑(Px.wordM (p0.getD x.snd.toNat (0 : UInt8)) (List.drop (IntKind.i64.wrap (x.snd + (1 : Int))).toNat p0)) : Int) + (↑(Px.skipN false (List.drop (IntKind.i64.wrap (x.snd + (1 : Int)) + (↑(Px.wordM (p0.getD x.snd.toNat (0 : UInt8)) (List.drop (IntKind.i64.wrap (x.snd + (1 : Int))).toNat p0)) : Int)).toNat p0)) : Int)))))
             (.fail))
            (.fail))))
         (.fail))
        (.fail)))
      (.fail))))
   (.fail))
  (.ite (inB x.snd p0.length)
   (.ite (eqI (↑(p0.getD x.snd.toNat (0 : UInt8)).toNat : Int) (60 : Int))
    (.ite (leI (0 : Int) (IntKind.i64.wrap (x.snd + (1 : Int))) && leI (IntKind.i64.wrap (x.snd + (1 : Int))) (↑p0.length : Int) && eqI (0 : Int) (0 : Int) && ([] : List UInt8).length.beq (0 : Nat) && decide (p0.length ≤ (1000000000 : Nat)))
     (.ite (Px.hexIs (List.drop (IntKind.i64.wrap (x.snd + (1 : Int))).toNat p0))
      (.ite (leI (↑p0.length : Int) (IntKind.i64.wrap (x.snd + (1 : Int)) + (↑(Px.hexAt (List.drop (IntKind.i64.wrap (x.snd + (1 : Int))).toNat p0)) : Int)))
       (.leaf (.inr (.ret, at' E 209 [(2, .lf (.own 0 0 .tok [])), (3, .lf (.bool false))] [])))
       (.ite (ltI (0 : Int) ((↑(Px.hexN (List.drop (IntKind.i64.wrap (x.snd + (1 : Int))).toNat p0)) : Int).tmod (2 : Int)))
        (.leaf (.inr (.ret, at' E 209 [(2, .lf (.own 0 0 .tok [])), (3, .lf (.bool false))] [])))
        (.ite (decide ((x.fst.length + ([([], Px.hexOut (List.drop (IntKind.i64.wrap (x.snd + (1 : Int))).toNat p0), true)] : List (List UInt8 × List UInt8 × Bool)).length) * (48 : Nat) ≤ (140737488355328 : Nat)))
         (.ite (leI (0 : Int) (IntKind.i64.wrap (IntKind.i64.wrap (x.snd + (1 : Int)) + (↑(Px.hexAt (List.drop (IntKind.i64.wrap (x.snd + (1 : Int))).toNat p0)) : Int) + (1 : Int))) && leI (IntKind.i64.wrap (IntKind.i64.wrap (x.snd + (1 : Int)) + (↑(Px.hexAt (List.drop (IntKind.i64.wrap (x.snd + (1 : Int))).toNat p0)) : Int) + (1 : Int))) (↑p0.length : Int))
          (.leaf (.inl ((x.fst ++ [([], Px.hexOut (List.drop (IntKind.i64.wrap (x.snd + (1 : Int))).toNat p0), true)]), (IntKind.i64.wrap (IntKind.i64.wrap (x.snd + (1 : Int)) + (↑(Px.hexAt (List.drop (IntKind.i64.wrap (x.snd + (1 : Int))).toNat p0)) : Int) + (1 : Int)) + (↑(Px.skipN false (List.drop (IntKind.i64.wrap (IntKind.i64.wrap (x.snd + (1 : Int)) + (↑(Px.hexAt (List.drop (IntKind.i64.wrap (x.snd + (1 : Int))).toNat p0)) : Int) + (1 : Int))).toNat p0)) : Int)))))
          (.fail))
         (.fail))))
      (.leaf (.inr (.ret, at' E 209 [(2, .lf (.own 0 0 .tok [])), (3, .lf (.bool false))] []))))
     (.fail))
    (.ite (inB x.snd p0.length && leI (0 : Int) (IntKind.i64.wrap (x.snd + (1 : Int))) && leI (IntKind.i64.wrap (x.snd + (1 : Int))) (↑p0.length : Int) && decide (p0.length ≤ (1000000000 : Nat)))
     (.ite (leI (0 : Int) x.snd && leI x.snd (IntKind.i64.wrap (x.snd + (1 : Int)) + (↑(Px.wordM (p0.getD x.snd.toNat (0 : UInt8)) (List.drop (IntKind.i64.wrap (x.snd + (1 : Int))).toNat p0)) : Int)) && leI (IntKind.i64.wrap (x.snd + (1 : Int)) + (↑(Px.wordM (p0.getD x.snd.toNat (0 : UInt8)) (List.drop (IntKind.i64.wrap (x.snd + (1 : Int))).toNat p0)) : Int)) (↑p0.length : Int))
      (.ite (decide (List.drop x.snd.toNat (List.take (IntKind.i64.wrap (x.snd + (1 : Int)) + (↑(Px.wordM (p0.getD x.snd.toNat (0 : UInt8)) (List.drop (IntKind.i64.wrap (x.snd + (1 : Int))).toNat p0)) : Int)).toNat p0) = [(40 : UInt8)]))
       (.leaf (.inr (.ret, at' E 209 [(2, .lf (.own 0 0 .tok [])), (3, .lf (.bool false))] [])))
       (.ite (decide (List.drop x.snd.toNat (List.take (IntKind.i64.wrap (x.snd + (1 : Int)) + (↑(Px.wordM (p0.getD x.snd.toNat (0 : UInt8)) (List.drop (IntKind.i64.wrap (x.snd + (1 : Int))).toNat p0)) : Int)).toNat p0) = [(98 : UInt8), (101 : UInt8), (103 : UInt8), (105 : UInt8), (110 : UInt8), (98 : UInt8), (102 : UInt8), (114 : UInt8), (97 : UInt8), (110 : UInt8), (103 : UInt8), (101 : UInt8)]))
        (.leaf (.inr (.ret, at' E 209 [(2, .lf (.own 0 0 .tok [])), (3, .lf (.bool false))] [])))
        (.ite (decide ((x.fst.length + ([(List.drop x.snd.toNat (List.take (IntKind.i64.wrap (x.snd + (1 : Int)) + (↑(Px.wordM (p0.getD x.snd.toNat (0 : UInt8)) (List.drop (IntKind.i64.wrap (x.snd + (1 : Int))).toNat p0)) : Int)).toNat p0), [], false)] : List (List UInt8 × List UInt8 × Bool)).length) * (48 : Nat) ≤ (140737488355328 : Nat)))
         (.ite (leI (0 : Int) (IntKind.i64.wrap (x.snd + (1 : Int)) + (↑(Px.wordM (p0.getD x.snd.toNat (0 : UInt8)) (List.drop (IntKind.i64.wrap (x.snd + (1 : Int))).toNat p0)) : Int)) && leI (IntKind.i64.wrap (x.snd + (1 : Int)) + (↑(Px.wordM (p0.getD x.snd.toNat (0 : UInt8)) (List.drop (IntKind.i64.wrap (x.snd + (1 : Int))).toNat p0)) : Int)) (↑p0.length : Int))
          (.leaf (.inl ((x.fst ++ [(List.drop x.snd.toNat (List.take (IntKind.i64.wrap (x.snd + (1 : Int)) + (↑(Px.wordM (p0.getD x.snd.toNat (0 : UInt8)) (List.drop (IntKind.i64.wrap (x.snd + (1 : Int))).toNat p0)) : Int)).toNat p0), [], false)]), (IntKind.i64.wrap (x.snd + (1 : Int)) + (↑(Px.wordM (p0.getD x.snd.toNat (0 : UInt8)) (List.drop (IntKind.i64.wrap (x.snd + (1 : Int))).toNat p0)) : Int) + (↑(Px.skipN false (List.drop (IntKind.i64.wrap (x.snd + (1 : Int)) + (↑(Px.wordM (p0.getD x.snd.toNat (0 : UInt8)) (List.drop (IntKind.i64.wrap (x.snd + (1 : Int))).toNat p0)) : Int)).toNat p0)) : Int)))))
          (.fail))
         (.fail))))
      (.fail))
     (.fail)))
   (.fail)))
 (.leaf (.inr (.exit 0, at' E 209 [(4, .lf (.own 0 0 .tok x.fst))] [])))
theorem h39_0 (p0 : List UInt8) (x : (List (List UInt8 × List UInt8 × Bool)) × Int) (k : Ex → St E.A → Option Unit) :
    exec E G39 ((Lm39_0)) 1 (lb Go.Proofs.Tryd.f39 0) (S39_0 p0 x) (fun e σ1 => k e (clean E (L39_0 e) σ1)) = (t39_0 p0 x).run (Sum.elim (fun x' => k .normal (S39_0 p0 x')) (fun o => k o.1 o.2)) := by kernel_rfl
noncomputable def out39 (r : Int × List (List UInt8 × List UInt8 × Bool)) : Tree (Out' E) :=
  .ite (eqI r.1 0) (.leaf (.exit 0, at' E 209 [(4, .lf (.own 0 0 .tok r.2))] [])) (.leaf (.ret, at' E 209 [(2, .lf (.own 0 0 .tok [])), (3, .lf (.bool false))] []))
noncomputable def lam39_0 (p0 : List UInt8) (x : (List (List UInt8 × List UInt8 × Bool)) × Int) : Tree (Out' E) :=
  .ite (decide (p0.length ≤ 1000000000) && leI 0 x.2 && leI x.2 p0.length && Nat.beq x.1.length 0) (out39 (Px.toksRun (p0.length + 1) [] (p0.drop x.2.toNat))) .fail
abbrev Stp39 := (List (List UInt8 × List UInt8 × Bool)) × Int ⊕ Out' E
/-- what a round comes to -/
noncomputable def nxt39 (p : List UInt8) (acc : List (List UInt8 × List UInt8 × Bool)) (a : Nat) (o : Option ((List UInt8 × List UInt8 × Bool) × Nat)) : Stp39 :=
  match o with
  | some (t, n) => .inl (acc ++ [t], ((a + n : Nat) : Int) + (Px.skipN false (p.drop (a + n)) : Int))
  | none => .inr (.ret, at' E 209 [(2, .lf (.own 0 0 .tok [])), (3, .lf (.bool false))] [])
noncomputable def hex39 (p : List UInt8) (acc : List (List UInt8 × List UInt8 × Bool)) (a : Nat) : Tree Stp39 :=
 .ite (leI (0 : Int) (IntKind.i64.wrap ((a : Int) + (1 : Int))) && leI (IntKind.i64.wrap ((a : Int) + (1 : Int))) (↑p.length : Int) && eqI (0 : Int) (0 : Int) && ([] : List UInt8).length.beq (0 : Nat) && decide (p.length ≤ (1000000000 : Nat))) (.ite (Px.hexIs (List.drop (IntKind.i64.wrap ((a : Int) + (1 : Int))).toNat p)) (.ite (leI (↑p.length : Int) (IntKind.i64.wrap ((a : Int) + (1 : Int)) + (↑(Px.hexAt (List.drop (IntKind.i64.wrap ((a : Int) + (1 : Int))).toNat p)) : Int))) (.leaf (.inr (.ret, at' E 209 [(2, .lf (.own 0 0 .tok [])), (3, .lf (.bool false))] []))) (.ite (ltI (0 : Int) ((↑(Px.hexN (List.drop (IntKind.i64.wrap ((a : Int) + (1 : Int))).toNat p)) : Int).tmod (2 : Int))) (.leaf (.inr (.ret, at' E 209 [(2, .lf (.own 0 0 .tok [])), (3, .lf (.bool false))] []))) (.ite (decide ((acc.length + ([([], Px.hexOut (List.drop (IntKind.i64.wrap ((a : Int) + (1 : Int))).toNat p), true)] : List (List UInt8 × List UInt8 × Bool)).length) * (48 : Nat) ≤ (140737488355328 : Nat))) (.ite (leI (0 : Int) (IntKind.i64.wrap (IntKind.i64.wrap ((a : Int) + (1 : Int)) + (↑(Px.hexAt (List.drop (IntKind.i64.wrap ((a : Int) + (1 : Int))).toNat p)) : Int) + (1 : Int))) && leI (IntKind.i64.wrap (IntKind.i64.wrap ((a : Int) + (1 : Int)) + (↑(Px.hexAt (List.drop (IntKind.i64.wrap ((a : Int) + (1 : Int))).toNat p)) : Int) + (1 : Int))) (↑p.length : Int)) (.leaf (.inl ((acc ++ [([], Px.hexOut (List.drop (IntKind.i64.wrap ((a : Int) + (1 : Int))).toNat p), true)]), (IntKind.i64.wrap (IntKind.i64.wrap ((a : Int) + (1 : Int)) + (↑(Px.hexAt (List.drop (IntKind.i64.wrap ((a : Int) + (1 : Int))).toNat p)) : Int) + (1 : Int)) + (↑(Px.skipN false (List.drop (IntKind.i64.wrap (IntKind.i64.wrap ((a : Int) + (1 : Int)) + (↑(Px.hexAt (List.drop (IntKind.i64.wrap ((a : Int) + (1 : Int))).toNat p)) : Int) + (1 : Int))).toNat p)) : Int))))) (.fail)) (.fail)))) (.leaf (.inr (.ret, at' E 209 [(2, .lf (.own 0 0 .tok [])), (3, .lf (.bool false))] [])))) (.fail)
noncomputable def word39 (p : List UInt8) (acc : List (List UInt8 × List UInt8 × Bool)) (a : Nat) : Tree Stp39 :=
 .ite (inB (a : Int) p.length && leI (0 : Int) (IntKind.i64.wrap ((a : Int) + (1 : Int))) && leI (IntKind.i64.wrap ((a : Int) + (1 : Int))) (↑p.length : Int) && decide (p.length ≤ (1000000000 : Nat))) (.ite (leI (0 : Int) (a : Int) && leI (a : Int) (IntKind.i64.wrap ((a : Int) + (1 : Int)) + (↑(Px.wordM (p.getD (a : Int).toNat (0 : UInt8)) (List.drop (IntKind.i64.wrap ((a : Int) + (1 : Int))).toNat p)) : Int)) && leI (IntKind.i64.wrap ((a : Int) + (1 : Int)) + (↑(Px.wordM (p.getD (a : Int).toNat (0 : UInt8)) (List.drop (IntKind.i64.wrap ((a : Int) + (1 : Int))).toNat p)) : Int)) (↑p.length : Int)) (.ite (decide (List.drop (a : Int).toNat (List.take (IntKind.i64.wrap ((a : Int) + (1 : Int)) + (↑(Px.wordM (p.getD (a : Int).toNat (0 : UInt8)) (List.drop (IntKind.i64.wrap ((a : Int) + (1 : Int))).toNat p)) : Int)).toNat p) = [(40 : UInt8)])) (.leaf (.inr (.ret, at' E 209 [(2, .lf (.own 0 0 .tok [])), (3, .lf (.bool false))] []))) (.ite (decide (List.drop (a : Int).toNat (List.take (IntKind.i64.wrap ((a : Int) + (1 : Int)) + (↑(Px.wordM (p.getD (a : Int).toNat (0 : UInt8)) (List.drop (IntKind.i64.wrap ((a : Int) + (1 : Int))).toNat p)) : Int)).toNat p) = [(98 : UInt8), (101 : UInt8), (103 : UInt8), (105 : UInt8), (110 : UInt8), (98 : UInt8), (102 : UInt8), (114 : UInt8), (97 : UInt8), (110 : UInt8), (103 : UInt8), (101 : UInt8)])) (.leaf (.inr (.ret, at' E 209 [(2, .lf (.own 0 0 .tok [])), (3, .lf (.bool false))] []))) (.ite (decide ((acc.length + ([(List.drop (a : Int).toNat (List.take (IntKind.i64.wrap ((a : Int) + (1 : Int)) + (↑(Px.wordM (p.getD (a : Int).toNat (0 : UInt8)) (List.drop (IntKind.i64.wrap ((a : Int) + (1 : Int))).toNat p)) : Int)).toNat p), [], false)] : List (List UInt8 × List UInt8 × Bool)).length) * (48 : Nat) ≤ (140737488355328 : Nat))) (.ite (leI (0 : Int) (IntKind.i64.wrap ((a : Int) + (1 : Int)) + (↑(Px.wordM (p.getD (a : Int).toNat (0 : UInt8)) (List.drop (IntKind.i64.wrap ((a : Int) + (1 : Int))).toNat p)) : Int)) && leI (IntKind.i64.wrap ((a : Int) + (1 : Int)) + (↑(Px.wordM (p.getD (a : Int).toNat (0 : UInt8)) (List.drop (IntKind.i64.wrap ((a : Int) + (1 : Int))).toNat p)) : Int)) (↑p.length : Int)) (.leaf (.inl ((acc ++ [(List.drop (a : Int).toNat (List.take (IntKind.i64.wrap ((a : Int) + (1 : Int)) + (↑(Px.wordM (p.getD (a : Int).toNat (0 : UInt8)) (List.drop (IntKind.i64.wrap ((a : Int) + (1 : Int))).toNat p)) : Int)).toNat p), [], false)]), (IntKind.i64.wrap ((a : Int) + (1 : Int)) + (↑(Px.wordM (p.getD (a : Int).toNat (0 : UInt8)) (List.drop (IntKind.i64.wrap ((a : Int) + (1 : Int))).toNat p)) : Int) + (↑(Px.skipN false (List.drop (IntKind.i64.wrap ((a : Int) + (1 : Int)) + (↑(Px.wordM (p.getD (a : Int).toNat (0 : UInt8)) (List.drop (IntKind.i64.wrap ((a : Int) + (1 : Int))).toNat p)) : Int)).toNat p)) : Int))))) (.fail)) (.fail)))) (.fail)) (.fail)
noncomputable def br39 (p : List UInt8) (acc : List (List UInt8 × List UInt8 × Bool)) (a : Nat) : Tree Stp39 :=
 .ite (inB (a : Int) p.length) (.ite (eqI (↑(p.getD (a : Int).toNat (0 : UInt8)).toNat : Int) (60 : Int)) (hex39 p acc a) (word39 p acc a)) (.fail)
theorem top39 (p : List UInt8) (acc : List (List UInt8 × List UInt8 × Bool)) (a : Nat) : t39_0 p (acc, (a : Int)) =
 .ite (ltI (a : Int) (↑p.length : Int)) (.ite (ltI (IntKind.i64.wrap ((a : Int) + (1 : Int))) (↑p.length : Int)) (.ite (leI (0 : Int) (a : Int) && leI (a : Int) (IntKind.i64.wrap ((a : Int) + (2 : Int))) && leI (IntKind.i64.wrap ((a : Int) + (2 : Int))) (↑p.length : Int)) (.ite (decide (List.drop (a : Int).toNat (List.take (IntKind.i64.wrap ((a : Int) + (2 : Int))).toNat p) = [(60 : UInt8), (60 : UInt8)])) (.ite (decide ((acc.length + ([(List.drop (a : Int).toNat (List.take (IntKind.i64.wrap ((a : Int) + (2 : Int))).toNat p), [], false)] : List (List UInt8 × List UInt8 × Bool)).length) * (48 : Nat) ≤ (140737488355328 : Nat))) (.ite (leI (0 : Int) (IntKind.i64.wrap ((a : Int) + (2 : Int))) && leI (IntKind.i64.wrap ((a : Int) + (2 : Int))) (↑p.length : Int)) (.leaf (.inl ((acc ++ [(List.drop (a : Int).toNat (List.take (IntKind.i64.wrap ((a : Int) + (2 : Int))).toNat p), [], false)]), (IntKind.i64.wrap ((a : Int) + (2 : Int)) + (↑(Px.skipN false (List.drop (IntKind.i64.wrap ((a : Int) + (2 : Int))).toNat p)) : Int))))) (.fail)) (.fail)) (.ite (decide (List.drop (a : Int).toNat (List.take (IntKind.i64.wrap ((a : Int) + (2 : Int))).toNat p) = [(62 : UInt8), (62 : UInt8)])) (.ite (decide ((acc.length + ([(List.drop (a : Int).toNat (List.take (IntKind.i64.wrap ((a : Int) + (2 : Int))).toNat p), [], false)] : List (List UInt8 × List UInt8 × Bool)).length) * (48 : Nat) ≤ (140737488355328 : Nat))) (.ite (leI (0 : Int) (IntKind.i64.wrap ((a : Int) + (2 : Int))) && leI (IntKind.i64.wrap ((a : Int) + (2 : Int))) (↑p.length : Int)) (.leaf (.inl ((acc ++ [(List.drop (a : Int).toNat (List.take (IntKind.i64.wrap ((a : Int) + (2 : Int))).toNat p), [], false)]), (IntKind.i64.wrap ((a : Int) + (2 : Int)) + (↑(Px.skipN false (List.drop (IntKind.i64.wrap ((a : Int) + (2 : Int))).toNat p)) : Int))))) (.fail)) (.fail)) (br39 p acc a))) (.fail)) (br39 p acc a)) (.leaf (.inr (.exit 0, at' E 209 [(4, .lf (.own 0 0 .tok acc))] []))) := by kernel_rfl
section
variable {p : List UInt8} {acc : List (List UInt8 × List UInt8 × Bool)} {a : Nat} (hp : p.length ≤ 1000000000) (ha : a < p.length) (hacc : acc.length ≤ a)
include hp ha hacc
theorem hex39_get : (hex39 p acc a).get = some (nxt39 p acc a
    (cond (Px.hexIs ((p.drop a).drop 1)) (cond (Nat.ble (p.drop a).length (1 + Px.hexAt ((p.drop a).drop 1)) || ltI 0 ((Px.hexN ((p.drop a).drop 1) % 2 : Nat) : Int)) none (some (([], Px.hexOut ((p.drop a).drop 1), true), 2 + Px.hexAt ((p.drop a).drop 1)))) none)) := by
  unfold hex39
  have w1 : IntKind.i64.wrap ((a : Int) + 1) = ((a + 1 : Nat) : Int) := by rw [wi64] <;> omega
  have d1 : p.drop (a + 1) = (p.drop a).drop 1 := by rw [List.drop_drop]
  have hx := Px.hexAt_le ((p.drop a).drop 1)
  have hl : (p.drop a).length = p.length - a := List.length_drop
  have hl1 : ((p.drop a).drop 1).length = p.length - a - 1 := by rw [List.length_drop, hl]
  have w2 : ∀ n : Nat, n ≤ p.length → IntKind.i64.wrap (((a + 1 : Nat) : Int) + (n : Int) + 1) = ((a + (2 + n) : Nat) : Int) := fun n hn => by rw [wi64] <;> omega
  have s1 : ∀ t : List UInt8 × List UInt8 × Bool, decide ((acc.length + [t].length) * 48 ≤ 140737488355328) = true := fun t => decide_eq_true (by simp only [List.length_cons, List.length_nil]; omega)
  have g1 : (leI (0 : Int) ((a + 1 : Nat) : Int) && leI ((a + 1 : Nat) : Int) (p.length : Int) && eqI (0 : Int) (0 : Int) && ([] : List UInt8).length.beq (0 : Nat) && decide (p.length ≤ (1000000000 : Nat))) = true := by
    simp only [leI_eq, eqI_eq, Bool.and_eq_true, decide_eq_true_eq]
    exact ⟨⟨⟨⟨by omega, by omega⟩, trivial⟩, rfl⟩, hp⟩
  rw [w1, Tree.get_ite, g1, cond_true, Int.toNat_natCast, d1, Tree.get_ite]
  generalize (p.drop a).drop 1 = m at hx hl1 ⊢
  cases hexq : Px.hexIs m with
  | false => rfl
  | true =>
    have e1 : leI (p.length : Int) (((a + 1 : Nat) : Int) + (Px.hexAt m : Int)) = Nat.ble (p.drop a).length (1 + Px.hexAt m) := by
      rw [leI_eq, hl, Bool.eq_iff_iff, decide_eq_true_eq, Nat.ble_eq]; omega
    have e2 : (Px.hexN m : Int).tmod 2 = ((Px.hexN m % 2 : Nat) : Int) := rfl
    rw [cond_true, cond_true, Tree.get_ite, e1, w2 _ (by omega), e2]
    cases hb : Nat.ble (p.drop a).length (1 + Px.hexAt m) with
    | true => rfl
    | false =>
      have hb' : 2 + Px.hexAt m ≤ p.length - a := by
        rw [hl] at hb
        rcases Nat.lt_or_ge (1 + Px.hexAt m) (p.length - a) with h | h
        · omega
        · rw [Nat.ble_eq_true_of_le h] at hb; cases hb
      rw [cond_false, Tree.get_ite, Bool.false_or]
      cases ltI 0 ((Px.hexN m % 2 : Nat) : Int) with
      | true => rfl
      | false =>
        have g2 : (leI (0 : Int) ((a + (2 + Px.hexAt m) : Nat) : Int) && leI ((a + (2 + Px.hexAt m) : Nat) : Int) (p.length : Int)) = true := by
          simp only [leI_eq, Bool.and_eq_true, decide_eq_true_eq]; omega
        rw [cond_false, Tree.get_ite, s1, cond_true, Tree.get_ite, g2, cond_true, Tree.get_leaf, Int.toNat_natCast]
        rfl
theorem word39_get : (word39 p acc a).get = some (nxt39 p acc a
    (cond (decide ((p.drop a).take (1 + Px.wordM ((p.drop a).getD 0 0) ((p.drop a).drop 1)) = [40]) || decide ((p.drop a).take (1 + Px.wordM ((p.drop a).getD 0 0) ((p.drop a).drop 1)) = Px.wRange)) none
       (some (((p.drop a).take (1 + Px.wordM ((p.drop a).getD 0 0) ((p.drop a).drop 1)), [], false), 1 + Px.wordM ((p.drop a).getD 0 0) ((p.drop a).drop 1))))) := by
  unfold word39
  have w1 : IntKind.i64.wrap ((a : Int) + 1) = ((a + 1 : Nat) : Int) := by rw [wi64] <;> omega
  have d1 : p.drop (a + 1) = (p.drop a).drop 1 := by rw [List.drop_drop]
  have hl : (p.drop a).length = p.length - a := List.length_drop
  have hl1 : ((p.drop a).drop 1).length = p.length - a - 1 := by rw [List.length_drop, hl]
  have q1 : p.getD a 0 = (p.drop a).getD 0 0 := by simp [List.getD, List.getElem?_drop]
  have hx := Px.wordM_le ((p.drop a).getD 0 0) ((p.drop a).drop 1)
  have s1 : ∀ t : List UInt8 × List UInt8 × Bool, decide ((acc.length + [t].length) * 48 ≤ 140737488355328) = true := fun t => decide_eq_true (by simp only [List.length_cons, List.length_nil]; omega)
  have i1 : inB (a : Int) p.length = true := inB_nat ha
  have g1 : (true && leI (0 : Int) ((a + 1 : Nat) : Int) && leI ((a + 1 : Nat) : Int) (p.length : Int) && decide (p.length ≤ (1000000000 : Nat))) = true := by
    simp only [leI_eq, Bool.and_eq_true, decide_eq_true_eq]
    exact ⟨⟨⟨trivial, by omega⟩, by omega⟩, hp⟩
  rw [w1, Tree.get_ite, i1, g1, cond_true, Int.toNat_natCast, Int.toNat_natCast, d1, q1]
  generalize Px.wordM ((p.drop a).getD 0 0) ((p.drop a).drop 1) = n at hx ⊢
  have e1 : ((a + 1 : Nat) : Int) + (n : Int) = ((a + (1 + n) : Nat) : Int) := by omega
  have g2 : (leI (0 : Int) (a : Int) && leI (a : Int) ((a + (1 + n) : Nat) : Int) && leI ((a + (1 + n) : Nat) : Int) (p.length : Int)) = true := by
    simp only [leI_eq, Bool.and_eq_true, decide_eq_true_eq]; omega
  have g3 : (leI (0 : Int) ((a + (1 + n) : Nat) : Int) && leI ((a + (1 + n) : Nat) : Int) (p.length : Int)) = true := by
    simp only [leI_eq, Bool.and_eq_true, decide_eq_true_eq]; omega
  have t1 : List.drop a (List.take (a + (1 + n)) p) = (p.drop a).take (1 + n) := by rw [List.drop_take, Nat.add_sub_cancel_left]
  rw [e1, Tree.get_ite, g2, cond_true, Int.toNat_natCast, t1, Tree.get_ite]
  cases decide ((p.drop a).take (1 + n) = [40]) with
  | true => rfl
  | false =>
    rw [cond_false, Tree.get_ite, Bool.false_or]
    show cond (decide ((p.drop a).take (1 + n) = Px.wRange)) _ _ = _
    cases decide ((p.drop a).take (1 + n) = Px.wRange) with
    | true => rfl
    | false =>
      rw [cond_false, Tree.get_ite, s1, cond_true, Tree.get_ite, g3, cond_true, Tree.get_leaf]
      rfl
theorem step39 : (t39_0 p (acc, (a : Int))).get = some (nxt39 p acc a (Px.rtok (p.drop a))) := by
  have hl : (p.drop a).length = p.length - a := List.length_drop
  have hbr : Px.hasPre (p.drop a) [60, 60] = false → Px.hasPre (p.drop a) [62, 62] = false → (br39 p acc a).get = some (nxt39 p acc a (Px.rtok (p.drop a))) := fun h1 h2 => by
    unfold br39 Px.rtok
    have q1 : p.getD a 0 = (p.drop a).getD 0 0 := by simp [List.getD, List.getElem?_drop]
    rw [Tree.get_ite, inB_nat ha, cond_true, Tree.get_ite, Int.toNat_natCast, q1, h1, h2, Bool.or_self, cond_false]
    cases eqI (((p.drop a).getD 0 0).toNat : Int) 60 with
    | true => exact hex39_get hp ha hacc
    | false => exact word39_get hp ha hacc
  have w1 : IntKind.i64.wrap ((a : Int) + 1) = ((a + 1 : Nat) : Int) := by rw [wi64] <;> omega
  have w2 : IntKind.i64.wrap ((a : Int) + 2) = ((a + 2 : Nat) : Int) := by rw [wi64] <;> omega
  have s1 : ∀ t : List UInt8 × List UInt8 × Bool, decide ((acc.length + [t].length) * 48 ≤ 140737488355328) = true := fun t => decide_eq_true (by simp only [List.length_cons, List.length_nil]; omega)
  rw [top39, w1, w2, Tree.get_ite, ltI_nat ha, cond_true, Tree.get_ite, Int.toNat_natCast, Int.toNat_natCast]
  rcases Nat.lt_or_ge (a + 1) p.length with h | h
  · have t1 : List.drop a (List.take (a + 2) p) = (p.drop a).take 2 := by rw [List.drop_take, Nat.add_sub_cancel_left]
    have g2 : (leI (0 : Int) (a : Int) && leI (a : Int) ((a + 2 : Nat) : Int) && leI ((a + 2 : Nat) : Int) (p.length : Int)) = true := by
      simp only [leI_eq, Bool.and_eq_true, decide_eq_true_eq]; omega
    have g3 : (leI (0 : Int) ((a + 2 : Nat) : Int) && leI ((a + 2 : Nat) : Int) (p.length : Int)) = true := by
      simp only [leI_eq, Bool.and_eq_true, decide_eq_true_eq]; omega
    rw [ltI_nat h, cond_true, Tree.get_ite, g2, cond_true, t1, Tree.get_ite]
    show cond (Px.hasPre (p.drop a) [60, 60]) _ _ = _
    cases k1 : Px.hasPre (p.drop a) [60, 60] with
    | true =>
      rw [cond_true, Tree.get_ite, s1, cond_true, Tree.get_ite, g3, cond_true, Tree.get_leaf]
      unfold Px.rtok
      rw [k1]
      rfl
    | false =>
      rw [cond_false, Tree.get_ite]
      show cond (Px.hasPre (p.drop a) [62, 62]) _ _ = _
      cases k2 : Px.hasPre (p.drop a) [62, 62] with
      | true =>
        rw [cond_true, Tree.get_ite, s1, cond_true, Tree.get_ite, g3, cond_true, Tree.get_leaf]
        unfold Px.rtok
        rw [k1, k2]
        rfl
      | false => exact hbr k1 k2
  · have hn : ltI ((a + 1 : Nat) : Int) (p.length : Int) = false := by rw [ltI_eq]; exact decide_eq_false (by omega)
    rw [hn, cond_false]
    refine hbr ?_ ?_
    · cases k : Px.hasPre (p.drop a) [60, 60] with
      | false => rfl
      | true => have := Px.hasPre_len k; omega
    · cases k : Px.hasPre (p.drop a) [62, 62] with
      | false => rfl
      | true => have := Px.hasPre_len k; omega
end
theorem it39 (p : List UInt8) (hp : p.length ≤ 1000000000) : ∀ (n a : Nat) (acc : List (List UInt8 × List UInt8 × Bool)), p.length < n + a → a ≤ p.length → acc.length ≤ a →
    iter (t39_0 p) n (acc, (a : Int)) = (out39 (Px.toksRun n acc (p.drop a))).get
  | 0, a, acc, h, h2, _ => by omega
  | n + 1, a, acc, h, h2, h3 => by
    rw [iter]
    unfold Px.toksRun
    rcases Nat.lt_or_ge a p.length with hl | hl
    · have hne : p.drop a ≠ [] := by
        intro hh
        have := congrArg List.length hh
        simp only [List.length_drop, List.length_nil] at this
        omega
      have hem : (p.drop a).isEmpty = false := by
        cases hd : p.drop a with
        | nil => exact absurd hd hne
        | cons => rfl
      rw [step39 hp hl h3, Px.rtok_eq _ hne, hem, cond_false]
      cases q : Px.tokOk (p.drop a) with
      | false => rfl
      | true =>
        cases q2 : decide (Px.tokW (p.drop a) = [40]) with
        | true => rfl
        | false =>
          cases q3 : decide (Px.tokW (p.drop a) = Px.wRange) with
          | true => rfl
          | false =>
            obtain ⟨n1, n2⟩ := Px.tokN_ok q hne
            have hld : (p.drop a).length = p.length - a := List.length_drop
            have hs := Px.skipN_le (p.drop (a + Px.tokN (p.drop a))) false
            have hld2 : (p.drop (a + Px.tokN (p.drop a))).length = p.length - (a + Px.tokN (p.drop a)) := List.length_drop
            have ih := it39 p hp n (a + Px.tokN (p.drop a) + Px.skipN false (p.drop (a + Px.tokN (p.drop a)))) (acc ++ [(Px.tokW (p.drop a), Px.tokT (p.drop a), Px.tokI (p.drop a))]) (by omega) (by omega) (by simp only [List.length_append, List.length_cons, List.length_nil]; omega)
            have en : p.drop (a + Px.tokN (p.drop a) + Px.skipN false (p.drop (a + Px.tokN (p.drop a)))) = Px.tokNext (p.drop a) := by
              unfold Px.tokNext
              simp only [List.drop_drop, Nat.add_assoc]
            rw [en] at ih
            rw [Int.natCast_add] at ih
            exact ih
    · have e : a = p.length := by omega
      subst e
      have : (p.drop p.length).isEmpty = true := by rw [List.drop_length]; rfl
      rw [this, top39, Tree.get_ite, ltI_self, cond_false]
      rfl
theorem m39_0 {p0 : List UInt8} {x : (List (List UInt8 × List UInt8 × Bool)) × Int} {e : Ex} {σ : St E.A} (_ : okLenR (E := E) (.lf (.sl .u8 p0)) = true) (_ : okLenR (E := E) (.lf (.own 0 0 .tok x.1)) = true)
    (h : (lam39_0 p0 x).get = some (e, σ)) : ∃ fuel, iter (t39_0 p0) fuel x = some (e, σ) ∧ e ≠ .normal := by
  obtain ⟨acc, a⟩ := x
  unfold lam39_0 at h
  have h' := Tree.get_ite_some h
  clear h
  rcases h' with ⟨h1, h⟩ | ⟨_, h⟩
  · simp only [leI_eq, Bool.and_eq_true, decide_eq_true_eq, Nat.beq_eq, List.length_eq_zero_iff] at h1
    obtain ⟨⟨⟨k1, k3⟩, k4⟩, rfl⟩ := h1
    obtain ⟨m, rfl⟩ : ∃ m : Nat, a = (m : Int) := ⟨a.toNat, by omega⟩
    rw [Int.toNat_natCast] at h
    have k4' : m ≤ p0.length := Int.ofNat_le.1 k4
    refine ⟨p0.length + 1, (it39 p0 k1 (p0.length + 1) m [] (by omega) k4' (by simp)).trans h, ?_⟩
    unfold out39 at h
    rcases Tree.get_ite_some h with ⟨_, h⟩ | ⟨_, h⟩ <;> (injection h with h; injection h with h1 _; rw [← h1]; intro hh; cases hh)
  · cases h
noncomputable def rd39_0 (σ : St E.A) : Tree (Out' E) :=
  let c := clean E (L39_0 .normal) σ
  if c.sl.length = 209 then
  match c.sl.getD 0 .undef, c.sl.getD 4 .undef, c.sl.getD 5 .undef with
  | .lf (.sl .u8 p0), .lf (.own 0 0 .tok x4), .lf (.int .i64 x5) => lam39_0 p0 (x4, x5)
  | _, _, _ => .fail
  else .fail
theorem ll39_0 (hL : Laws E) (σ : St E.A) (e : Ex) (σ' : St E.A) (h : (rd39_0 σ).get = some (e, σ')) : LoopOK E (lb Go.Proofs.Tryd.f39 0) σ e σ' := by
  refine LoopOK.of_clean hL (L39_0 .normal) ?_
  unfold rd39_0 at h
  simp only at h
  split at h
  · rename_i hlen
    split at h
    · rename_i p0 x4 x5 h0 h1 h2
      refine LoopOK.lens 0 (fun g0 => ?_)
      rw [h0] at g0
      refine LoopOK.lens 4 (fun g1 => ?_)
      rw [h1] at g1
      obtain ⟨fuel, hi, ho⟩ := m39_0 g0 g1 h
      have hl := loop_at (Γ := G39) (Λ := (Lm39_0)) (n := 1) (body := lb Go.Proofs.Tryd.f39 0) hL (hG39 hL) (S := S39_0 p0) (t := t39_0 p0) (Lv := L39_0) ((LamOK.of (m := 2) (by kernel_rfl) (fun j hj σ e σ' hg => by
      match j, hj with
      | 0, _ => exact (show (loopAt (lb Go.Proofs.Tryd.f39 0) 0).getD .skip = lb Go.Proofs.Tryd.f39 1 from by kernel_rfl) ▸ ll39_1 hL σ e σ' hg
      | 1, _ => exact (show (loopAt (lb Go.Proofs.Tryd.f39 0) 1).getD .skip = lb Go.Proofs.Tryd.f39 2 from by kernel_rfl) ▸ ll39_2 hL σ e σ' hg
      ))) (h39_0 p0) hi ho
      refine LoopOK.fit hlen ?_ ?_ rfl rfl hl
      · exact ⟨h0, h1, h2, trivial⟩
      · exact trivial
    · cases h
  · cases h
noncomputable def Lam39 : Lam E
  | 0, σ => rd39_0 σ
  | 1, σ => rd39_1 σ
  | 2, σ => rd39_2 σ
  | _, _ => .fail
noncomputable def w39 (a0 : List UInt8) : Tree (RV E.A × List (Obj E.A)) :=
 .ite (decide (a0.length ≤ (1000000000 : Nat)) && leI (0 : Int) ((0 : Int) + (↑(Px.skipN false (List.drop (Int.toNat (0 : Int)) a0)) : Int)) && leI ((0 : Int) + (↑(Px.skipN false (List.drop (Int.toNat (0 : Int)) a0)) : Int)) (↑a0.length : Int) && ([] : List UInt8).length.beq (0 : Nat))
 (.ite (eqI (Px.toksRun (a0.length + (1 : Nat)) [] (List.drop ((0 : Int) + (↑(Px.skipN false (List.drop (Int.toNat (0 : Int)) a0)) : Int)).toNat a0)).fst (0 : Int))
  (.leaf (.tup [(false, [.sl .tok ((Px.toksRun (a0.length + (1 : Nat)) [] (List.drop ((0 : Int) + (↑(Px.skipN false (List.drop (Int.toNat (0 : Int)) a0)) : Int)).toNat a0)).snd)]), (false, [.bool true])], []))
  (.leaf (.tup [(false, [.sl .tok []]), (false, [.bool false])], [])))
 (.fail)
theorem e39 (a0 : List UInt8) : execFun E G39 ((Lam39)) false Go.Proofs.Tryd.f39 [.lf (.sl .u8 a0)] [] some = (w39 a0).get := by kernel_rfl
noncomputable def raw39 : Spec E := fun args os => match args, os with
  | [.lf (.sl .u8 a0)], [] => w39 a0
  | _, _ => .fail
theorem validraw39 (hL : Laws E) : Valid E 39 raw39 :=
  valid_of_body hL (hG39 hL) (Λ := (Lam39)) (fn := Go.Proofs.Tryd.f39) (keep := false) (by kernel_rfl) (by kernel_rfl) (by kernel_rfl) ((LamOK.of (m := 3) (by kernel_rfl) (fun j hj σ e σ' hg => by
      match j, hj with
      | 0, _ => exact ll39_0 hL σ e σ' hg
      | 1, _ => exact ll39_1 hL σ e σ' hg
      | 2, _ => exact ll39_2 hL σ e σ' hg
      ))) (fun args os r os' h => by
    unfold raw39 at h
    split at h
    · exact (e39 _).trans h
    · cases h)
theorem eq39 (p : List UInt8) (h1 : p.length ≤ 1000000000) : (w39 p).get = some (.tup [(false, [.sl .tok (Px.toksL p)]), (false, [.bool (Px.toksB p)])], []) := by
  unfold w39
  have hs := Px.skipN_le p false
  have e1 : (0 : Int) + ((Px.skipN false (p.drop (Int.toNat 0)) : Nat) : Int) = ((Px.skipN false p : Nat) : Int) := by
    show (0 : Int) + ((Px.skipN false p : Nat) : Int) = _
    omega
  rw [e1, Tree.get_ite]
  have c : (decide (p.length ≤ (1000000000 : Nat)) && leI (0 : Int) ((Px.skipN false p : Nat) : Int) && leI ((Px.skipN false p : Nat) : Int) (p.length : Int) && ([] : List UInt8).length.beq (0 : Nat)) = true := by
    simp only [leI_eq, Bool.and_eq_true, decide_eq_true_eq]
    exact ⟨⟨⟨h1, by omega⟩, by omega⟩, rfl⟩
  rw [c, cond_true, Tree.get_ite, Int.toNat_natCast]
  unfold Px.toksL Px.toksB Px.toks
  cases q : eqI (Px.toksRun (p.length + 1) [] (p.drop (Px.skipN false p))).1 0 with
  | true => rfl
  | false => rfl
noncomputable def spec39 : Spec E := fun args os => match args, os with
  | [.lf (.sl .u8 p)], [] => .ite (decide (p.length ≤ 1000000000)) (.leaf (.tup [(false, [.sl .tok (Px.toksL p)]), (false, [.bool (Px.toksB p)])], [])) .fail
  | _, _ => .fail
theorem valid39 (hL : Laws E) : Valid E 39 spec39 := (validraw39 hL).less (fun args os x g1 g2 h => by
  unfold spec39 at h
  split at h
  · rcases Tree.get_ite_some h with ⟨h1, h⟩ | ⟨_, h⟩
    · simp only [decide_eq_true_eq] at h1
      exact (eq39 _ h1).trans h
    · cases h
  · cases h)
end Go.Vx
namespace Go.Vx
open Go
noncomputable def G17 : FuncId → Option (Spec E)
  | 18 => some spec18
  | 21 => some spec21
  | 39 => some spec39
  | 40 => some spec40
  | _ => none
theorem hG17 (hL : Laws E) : ∀ f spec, G17 f = some spec → Valid E f spec := by
  intro f spec h
  unfold G17 at h
  split at h
  · injection h with h; subst h; exact valid18 hL
  · injection h with h; subst h; exact valid21 hL
  · injection h with h; subst h; exact valid39 hL
  · injection h with h; subst h; exact valid40 hL
  · cases h
def L17_1 : Ex → Live
  | .normal => ⟨[4, 6, 7], []⟩
  | .exit 2 => ⟨[4, 6, 7], []⟩
  | .ret => ⟨[2, 3], []⟩
  | _ => ⟨[], []⟩
noncomputable def S17_1 (p4 : List (List UInt8 × List UInt8 × Bool)) (x : (List (Int × Int)) × Int) : St E.A := at' E 108 [(4, .lf (.sl .tok p4)), (6, .lf (.own 0 0 .two x.1)), (7, .lf (.int .i64 x.2))] []
noncomputable def t17_1 (p4 : List (List UInt8 × List UInt8 × Bool)) (x : (List (Int × Int)) × Int) : Tree ((List (Int × Int)) × Int ⊕ Out' E) :=
 .ite (ltI x.snd (↑p4.length : Int))
 (.ite (inB x.snd p4.length)
  (.ite (decide ((p4.getD x.snd.toNat ([], [], false)).fst = [(101 : UInt8), (110 : UInt8), (100 : UInt8), (98 : UInt8), (102 : UInt8), (99 : UInt8), (104 : UInt8), (97 : UInt8), (114 : UInt8)]))
   (.leaf (.inr (.exit 2, at' E 108 [(4, .lf (.sl .tok p4)), (6, .lf (.own 0 0 .two x.fst)), (7, .lf (.int .i64 x.snd))] [])))
   (.ite (leI (↑p4.length : Int) (IntKind.i64.wrap (x.snd + (1 : Int))))
    (.leaf (.inr (.ret, at' E 108 [(2, .lf (.own 0 0 .two [])), (3, .lf (.bool false))] [])))
    (.ite (inB x.snd p4.length)
     (.ite (!(p4.getD x.snd.toNat ([], [], false)).snd.snd)
      (.leaf (.inr (.ret, at' E 108 [(2, .lf (.own 0 0 .two [])), (3, .lf (.bool false))] [])))
      (.ite (inB (IntKind.i64.wrap (x.snd + (1 : Int))) p4.length)
       (.ite (!(p4.getD (IntKind.i64.wrap (x.snd + (1 : Int))).toNat ([], [], false)).snd.snd)
        (.leaf (.inr (.ret, at' E 108 [(2, .lf (.own 0 0 .two [])), (3, .lf (.bool false))] [])))
        (.ite (inB x.snd p4.length)
         (.ite (!eqI (↑(p4.getD x.snd.toNat ([], [], false)).snd.fst.length : Int) (2 : Int))
          (.leaf (.inr (.ret, at' E 108 [(2, .lf (.own 0 0 .two [])), (3, .lf (.bool false))] [])))
          (.ite (inB x.snd p4.length)
           (.ite (leI (0 : Int) (0 : Int) && leI ((0 : Int) + (2 : Int)) (↑(p4.getD x.snd.toNat ([], [], false)).snd.fst.length : Int))
            (.ite (inB (IntKind.i64.wrap (x.snd + (1 : Int))) p4.length)
             (.ite (ltI (Px.rune (p4.getD (IntKind.i64.wrap (x.snd + (1 : Int))).toNat ([], [], false)).snd.fst) (0 : Int))
              (.leaf (.inr (.ret, at' E 108 [(2, .lf (.own 0 0 .two [])), (3, .lf (.bool false))] [])))
              (.ite (leI (0 : Int) (Px.find2 x.fst (Px.n2 (p4.getD x.snd.toNat ([], [], false)).snd.fst (Int.toNat (0 : Int)))))
               (.leaf (.inr (.ret, at' E 108 [(2, .lf (.own 0 0 .two [])), (3, .lf (.bool false))] [])))
               (.ite (decide ((x.fst.length + [(Px.n2 (p4.getD x.snd.toNat ([], [], false)).snd.fst (Int.toNat (0 : Int)), Px.rune (p4.getD (IntKind.i64.wrap (x.snd + (1 : Int))).toNat ([], [], false)).snd.fst)].length) * (16 : Nat) ≤ (140737488355328 : Nat)))
                (.leaf (.inl ((x.fst ++ [(Px.n2 (p4.getD x.snd.toNat ([], [], false)).snd.fst (Int.toNat (0 : Int)), Px.rune (p4.getD (IntKind.i64.wrap (x.snd + (1 : Int))).toNat ([], [], false)).snd.fst)]), (IntKind.i64.wrap (x.snd + (2 : Int))))))
                (.fail))))
             (.fail))
            (.ite (inB (IntKind.i64.wrap (x.snd + (1 : Int))) p4.length)
             (.ite (ltI (Px.rune (p4.getD (IntKind.i64.wrap (x.snd + (1 : Int))).toNat ([], [], false)).snd.fst) (0 : Int))
              (.leaf (.inr (.ret, at' E 108 [(2, .lf (.own 0 0 .two [])), (3, .lf (.bool false))] [])))
              (.ite (leI (0 : Int) (Px.find2 x.fst (0 : Int)))
               (.leaf (.inr (.ret, at' E 108 [(2, .lf (.own 0 0 .two [])), (3, .lf (.bool false))] [])))
               (.ite (decide ((x.fst.length + [((0 : Int), Px.rune (p4.getD (IntKind.i64.wrap (x.snd + (1 : Int))).toNat ([], [], false)).snd.fst)].length) * (16 : Nat) ≤ (140737488355328 : Nat)))
                (.leaf (.inl ((x.fst ++ [((0 : Int), Px.rune (p4.getD (IntKind.i64.wrap (x.snd + (1 : Int))).toNat ([], [], false)).snd.fst)]), (IntKind.i64.wrap (x.snd + (2 : Int))))))
                (.fail))))
             (.fail)))
           (.fail)))
         (.fail)))
       (.fail)))
     (.fail))))
  (.fail))
 (.ite (leI (↑p4.length : Int) (IntKind.i64.wrap (x.snd + (1 : Int))))
  (.leaf (.inr (.ret, at' E 108 [(2, .lf (.own 0 0 .two [])), (3, .lf (.bool false))] [])))
  (.ite (inB x.snd p4.length)
   (.ite (!(p4.getD x.snd.toNat ([], [], false)).snd.snd)
    (.leaf (.inr (.ret, at' E 108 [(2, .lf (.own 0 0 .two [])), (3, .lf (.bool false))] [])))
    (.ite (inB (IntKind.i64.wrap (x.snd + (1 : Int))) p4.length)
     (.ite (!(p4.getD (IntKind.i64.wrap (x.snd + (1 : Int))).toNat ([], [], false)).snd.snd)
      (.leaf (.inr (.ret, at' E 108 [(2, .lf (.own 0 0 .two [])), (3, .lf (.bool false))] [])))
      (.ite (inB x.snd p4.length)
       (.ite (!eqI (↑(p4.getD x.snd.toNat ([], [], false)).snd.fst.length : Int) (2 : Int))
        (.leaf (.inr (.ret, at' E 108 [(2, .lf (.own 0 0 .two [])), (3, .lf (.bool false))] [])))
        (.ite (inB x.snd p4.length)
         (.ite (leI (0 : Int) (0 : Int) && leI ((0 : Int) + (2 : Int)) (↑(p4.getD x.snd.toNat ([], [], false)).snd.fst.length : Int))
          (.ite (inB (IntKind.i64.wrap (x.snd + (1 : Int))) p4.length)
           (.ite (ltI (Px.rune (p4.getD (IntKind.i64.wrap (x.snd + (1 : Int))).toNat ([], [], false)).snd.fst) (0 : Int))
            (.leaf (.inr (.ret, at' E 108 [(2, .lf (.own 0 0 .two [])), (3, .lf (.bool false))] [])))
            (.ite (leI (0 : Int) (Px.find2 x.fst (Px.n2 (p4.getD x.snd.toNat ([], [], false)).snd.fst (Int.toNat (0 : Int)))))
             (.leaf (.inr (.ret, at' E 108 [(2, .lf (.own 0 0 .two [])), (3, .lf (.bool false))] [])))
             (.ite (decide ((x.fst.length + [(Px.n2 (p4.getD x.snd.toNat ([], [], false)).snd.fst (Int.toNat (0 : Int)), Px.rune (p4.getD (IntKind.i64.wrap (x.snd + (1 : Int))).toNat ([], [], false)).snd.fst)].length) * (16 : Nat) ≤ (140737488355328 : Nat)))
              (.leaf (.inl ((x.fst ++ [(Px.n2 (p4.getD x.snd.toNat ([], [], false)).snd.fst (Int.toNat (0 : Int)), Px.rune (p4.getD (IntKind.i64.wrap (x.snd + (1 : Int))).toNat ([], [], false)).snd.fst)]), (IntKind.i64.wrap (x.snd + (2 : Int))))))
              (.fail))))
           (.fail))
          (.ite (inB (IntKind.i64.wrap (x.snd + (1 : Int))) p4.length)
           (.ite (ltI (Px.rune (p4.getD (IntKind.i64.wrap (x.snd + (1 : Int))).toNat ([], [], false)).snd.fst) (0 : Int))
            (.leaf (.inr (.ret, at' E 108 [(2, .lf (.own 0 0 .two [])), (3, .lf (.bool false))] [])))
            (.ite (leI (0 : Int) (Px.find2 x.fst (0 : Int)))
             (.leaf (.inr (.ret, at' E 108 [(2, .lf (.own 0 0 .two [])), (3, .lf (.bool false))] [])))
             (.ite (decide ((x.fst.length + [((0 : Int), Px.rune (p4.getD (IntKind.i64.wrap (x.snd + (1 : Int))).toNat ([], [], false)).snd.fst)].length) * (16 : Nat) ≤ (140737488355328 : Nat)))
              (.leaf (.inl ((x.fst ++ [((0 : Int), Px.rune (p4.getD (IntKind.i64.wrap (x.snd + (1 : Int))).toNat ([], [], false)).snd.fst)]), (IntKind.i64.wrap (x.snd + (2 : Int))))))
              (.fail))))
           (.fail)))
         (.fail)))
       (.fail)))
     (.fail)))
   (.fail)))
theorem h17_1 (p4 : List (List UInt8 × List UInt8 × Bool)) (x : (List (Int × Int)) × Int) (k : Ex → St E.A → Option Unit) :
    exec E G17 (fun _ _ => .fail) 2 (lb Go.Proofs.Tryd.f17 1) (S17_1 p4 x) (fun e σ1 => k e (clean E (L17_1 e) σ1)) = (t17_1 p4 x).run (Sum.elim (fun x' => k .normal (S17_1 p4 x')) (fun o => k o.1 o.2)) := by kernel_rfl
noncomputable def out17 (p4 : List (List UInt8 × List UInt8 × Bool)) (b : Int) (r : Int × List (Int × Int)) : Tree (Out' E) :=
  .ite (leI 1 r.1) (.leaf (.exit 2, at' E 108 [(4, .lf (.sl .tok p4)), (6, .lf (.own 0 0 .two r.2)), (7, .lf (.int .i64 (b + r.1 - 1)))] [])) (.leaf (.ret, at' E 108 [(2, .lf (.own 0 0 .two [])), (3, .lf (.bool false))] []))
noncomputable def lam17_1 (p4 : List (List UInt8 × List UInt8 × Bool)) (x : (List (Int × Int)) × Int) : Tree (Out' E) :=
  .ite (decide (p4.length ≤ 1000000000) && leI 0 x.2 && leI x.2 p4.length && leI x.1.length x.2) (out17 p4 x.2 (Px.pairsRun (p4.drop x.2.toNat) 0 x.1)) .fail
theorem step17 {l : List (List UInt8 × List UInt8 × Bool)} {m : List (Int × Int)} {i : Nat} (hl : l.length ≤ 1000000000) (hi : i < l.length) (hm : m.length ≤ i) :
    (t17_1 l (m, (i : Int))).get = some (cond (decide ((l.getD i ([], [], false)).1 = Px.wEnd)) (.inr (.exit 2, at' E 108 [(4, .lf (.sl .tok l)), (6, .lf (.own 0 0 .two m)), (7, .lf (.int .i64 (i : Int)))] []))
      (cond (decide (i + 1 < l.length) && Px.pairOk m (l.getD i ([], [], false)) (l.getD (i + 1) ([], [], false))) (.inl (m ++ [(Px.n2 (l.getD i ([], [], false)).2.1 0, Px.rune (l.getD (i + 1) ([], [], false)).2.1)], ((i + 2 : Nat) : Int)))
        (.inr (.ret, at' E 108 [(2, .lf (.own 0 0 .two [])), (3, .lf (.bool false))] [])))) := by
  unfold t17_1
  have w1 : IntKind.i64.wrap ((i : Int) + 1) = ((i + 1 : Nat) : Int) := by rw [wi64] <;> omega
  have w2 : IntKind.i64.wrap ((i : Int) + 2) = ((i + 2 : Nat) : Int) := by rw [wi64] <;> omega
  obtain ⟨t, ht⟩ : ∃ t, l.getD i ([], [], false) = t := ⟨_, rfl⟩
  simp only [Tree.get_ite, ltI_nat hi, inB_nat hi, cond_true, w1, w2, Int.toNat_natCast, ht]
  show cond (decide (t.1 = Px.wEnd)) _ _ = _
  cases decide (t.1 = Px.wEnd) with
  | true => rfl
  | false =>
    simp only [cond_false]
    rcases Nat.lt_or_ge (i + 1) l.length with h | h
    · have e1 : leI (l.length : Int) ((i + 1 : Nat) : Int) = false := by rw [leI_eq]; exact decide_eq_false (by omega)
      have e2 : inB ((i + 1 : Nat) : Int) l.length = true := inB_nat h
      have e3 : decide (i + 1 < l.length) = true := decide_eq_true h
      obtain ⟨u, hu⟩ : ∃ u, l.getD (i + 1) ([], [], false) = u := ⟨_, rfl⟩
      simp only [e1, e2, e3, cond_true, cond_false, Bool.true_and, hu]
      unfold Px.pairOk
      cases t.2.2 with
      | false => rfl
      | true =>
        cases u.2.2 with
        | false => rfl
        | true =>
          simp only [Bool.not_true, cond_false, Bool.true_and]
          cases e4 : eqI (t.2.1.length : Int) 2 with
          | false => rfl
          | true =>
            have e5 : (leI (0 : Int) (0 : Int) && leI ((0 : Int) + (2 : Int)) (t.2.1.length : Int)) = true := by
              rw [eqI_eq, decide_eq_true_eq] at e4
              simp only [leI_eq, Bool.and_eq_true, decide_eq_true_eq]; omega
            have e6 : ltI (Px.rune u.2.1) 0 = !leI 0 (Px.rune u.2.1) := by
              rw [ltI_eq, leI_eq, ← decide_not]; exact decide_eq_decide.2 (by omega)
            simp only [Bool.not_true, cond_false, e5, cond_true, e6]
            cases leI 0 (Px.rune u.2.1) with
            | false => rfl
            | true =>
              simp only [Bool.not_true, cond_false, Bool.true_and, Px.find2_some]
              show cond (Px.mg m (Px.n2 t.2.1 0)).isSome _ _ = _
              cases (Px.mg m (Px.n2 t.2.1 0)).isSome with
              | true => rfl
              | false =>
                rw [cond_false, decide_eq_true (by simp only [List.length_cons, List.length_nil]; omega)]
                rfl
    · have e1 : leI (l.length : Int) ((i + 1 : Nat) : Int) = true := by rw [leI_eq]; exact decide_eq_true (by omega)
      have e3 : decide (i + 1 < l.length) = false := decide_eq_false (by omega)
      simp only [e1, e3, cond_true, Bool.false_and, cond_false]
      rfl
theorem end17 {l : List (List UInt8 × List UInt8 × Bool)} {m : List (Int × Int)} (hl : l.length ≤ 1000000000) :
    (t17_1 l (m, (l.length : Int))).get = some (.inr (.ret, at' E 108 [(2, .lf (.own 0 0 .two [])), (3, .lf (.bool false))] [])) := by
  unfold t17_1
  have w1 : IntKind.i64.wrap ((l.length : Int) + 1) = ((l.length + 1 : Nat) : Int) := by rw [wi64] <;> omega
  have e1 : leI (l.length : Int) ((l.length + 1 : Nat) : Int) = true := by rw [leI_eq]; exact decide_eq_true (by omega)
  simp only [Tree.get_ite, ltI_self, cond_false, w1, e1, cond_true, Tree.get_leaf]
theorem it17_1 (l : List (List UInt8 × List UInt8 × Bool)) (hl : l.length ≤ 1000000000) : ∀ (n i k : Nat) (m : List (Int × Int)), l.length < n + i → i ≤ l.length → m.length ≤ i →
    iter (t17_1 l) n (m, (i : Int)) = (out17 l ((i : Int) - k) (Px.pairsRun (l.drop i) k m)).get
  | 0, i, k, m, h, h2, _ => by omega
  | n + 1, i, k, m, h, h2, h3 => by
    rw [iter]
    rcases Nat.lt_or_ge i l.length with hi | hi
    · rw [step17 hl hi h3, drop_cons l ([], [], false) i hi]
      generalize ht : l.getD i ([], [], false) = t
      rcases Nat.lt_or_ge (i + 1) l.length with h1 | h1
      · rw [drop_cons l ([], [], false) (i + 1) h1]
        generalize hu : l.getD (i + 1) ([], [], false) = u
        unfold Px.pairsRun
        cases decide (t.1 = Px.wEnd) with
        | true =>
          simp only [cond_true]
          unfold out17
          have c : leI 1 ((k + 1 : Nat) : Int) = true := by rw [leI_eq]; exact decide_eq_true (by omega)
          rw [Tree.get_ite, c, cond_true, Tree.get_leaf, show (i : Int) - k + ((k + 1 : Nat) : Int) - 1 = i by omega]
        | false =>
          rw [decide_eq_true h1, Bool.true_and]
          simp only [cond_false]
          cases hp : Px.pairOk m t u with
          | false => rfl
          | true =>
            have hns : (Px.mg m (Px.n2 t.2.1 0)).isSome = false := by
              unfold Px.pairOk at hp
              simp only [Bool.and_eq_true, Bool.not_eq_true'] at hp
              exact hp.2
            simp only [cond_true]
            rw [Px.ms_new _ _ m hns]
            have ih := it17_1 l hl n (i + 2) (k + 2) (m ++ [(Px.n2 t.2.1 0, Px.rune u.2.1)]) (by omega) (by omega) (by simp only [List.length_append, List.length_cons, List.length_nil]; omega)
            rw [show ((i + 2 : Nat) : Int) - ((k + 2 : Nat) : Int) = (i : Int) - k by omega] at ih
            exact ih
      · have e : l.drop (i + 1) = [] := List.drop_eq_nil_of_le h1
        rw [e, show decide (i + 1 < l.length) = false from decide_eq_false (by omega), Bool.false_and]
        unfold Px.pairsRun
        cases decide (t.1 = Px.wEnd) with
        | true =>
          simp only [cond_true]
          unfold out17
          have c : leI 1 ((k + 1 : Nat) : Int) = true := by rw [leI_eq]; exact decide_eq_true (by omega)
          rw [Tree.get_ite, c, cond_true, Tree.get_leaf, show (i : Int) - k + ((k + 1 : Nat) : Int) - 1 = i by omega]
        | false => rfl
    · obtain rfl : i = l.length := by omega
      rw [end17 hl, List.drop_length]
      rfl
theorem m17_1 {p4 : List (List UInt8 × List UInt8 × Bool)} {x : (List (Int × Int)) × Int} {e : Ex} {σ : St E.A} (_ : okLenR (E := E) (.lf (.sl .tok p4)) = true) (_ : okLenR (E := E) (.lf (.own 0 0 .two x.1)) = true)
    (h : (lam17_1 p4 x).get = some (e, σ)) : ∃ fuel, iter (t17_1 p4) fuel x = some (e, σ) ∧ e ≠ .normal := by
  obtain ⟨m, i⟩ := x
  unfold lam17_1 at h
  have h' := Tree.get_ite_some h
  clear h
  rcases h' with ⟨h1, h⟩ | ⟨_, h⟩
  · simp only [leI_eq, Bool.and_eq_true, decide_eq_true_eq] at h1
    obtain ⟨⟨⟨k1, k2⟩, k3⟩, k4⟩ := h1
    obtain ⟨i, rfl⟩ : ∃ j : Nat, i = (j : Int) := ⟨i.toNat, by omega⟩
    rw [Int.toNat_natCast] at h
    have k3' : i ≤ p4.length := Int.ofNat_le.1 k3
    have k4' : m.length ≤ i := Int.ofNat_le.1 k4
    have key := it17_1 p4 k1 (p4.length + 1) i 0 m (by omega) k3' k4'
    rw [show (i : Int) - ((0 : Nat) : Int) = i by omega] at key
    refine ⟨p4.length + 1, key.trans h, ?_⟩
    unfold out17 at h
    rcases Tree.get_ite_some h with ⟨_, h⟩ | ⟨_, h⟩ <;> (injection h with h; injection h with h1 _; rw [← h1]; intro hh; cases hh)
  · cases h
noncomputable def rd17_1 (σ : St E.A) : Tree (Out' E) :=
  let c := clean E (L17_1 .normal) σ
  if c.sl.length = 108 then
  match c.sl.getD 4 .undef, c.sl.getD 6 .undef, c.sl.getD 7 .undef with
  | .lf (.sl .tok p4), .lf (.own 0 0 .two x6), .lf (.int .i64 x7) => lam17_1 p4 (x6, x7)
  | _, _, _ => .fail
  else .fail
theorem ll17_1 (hL : Laws E) (σ : St E.A) (e : Ex) (σ' : St E.A) (h : (rd17_1 σ).get = some (e, σ')) : LoopOK E (lb Go.Proofs.Tryd.f17 1) σ e σ' := by
  refine LoopOK.of_clean hL (L17_1 .normal) ?_
  unfold rd17_1 at h
  simp only at h
  split at h
  · rename_i hlen
    split at h
    · rename_i p4 x6 x7 h0 h1 h2
      refine LoopOK.lens 4 (fun g0 => ?_)
      rw [h0] at g0
      refine LoopOK.lens 6 (fun g1 => ?_)
      rw [h1] at g1
      obtain ⟨fuel, hi, ho⟩ := m17_1 g0 g1 h
      have hl := loop_at (Γ := G17) (Λ := fun _ _ => .fail) (n := 2) (body := lb Go.Proofs.Tryd.f17 1) hL (hG17 hL) (S := S17_1 p4) (t := t17_1 p4) (Lv := L17_1) (LamOK.none (by kernel_rfl)) (h17_1 p4) hi ho
      refine LoopOK.fit hlen ?_ ?_ rfl rfl hl
      · exact ⟨h0, h1, h2, trivial⟩
      · exact trivial
    · cases h
  · cases h
def L17_0 : Ex → Live
  | .normal => ⟨[4, 6, 7], []⟩
  | .exit 0 => ⟨[6], []⟩
  | .ret => ⟨[2, 3], []⟩
  | _ => ⟨[], []⟩
noncomputable def S17_0 (p4 : List (List UInt8 × List UInt8 × Bool)) (x : (List (Int × Int)) × Int) : St E.A := at' E 108 [(4, .lf (.sl .tok p4)), (6, .lf (.own 0 0 .two x.1)), (7, .lf (.int .i64 x.2))] []
noncomputable def Lm17_0 : Lam E
  | 1, σ => rd17_1 σ
  | _, _ => .fail
noncomputable def t17_0 (p4 : List (List UInt8 × List UInt8 × Bool)) (x : (List (Int × Int)) × Int) : Tree ((List (Int × Int)) × Int ⊕ Out' E) :=
 .ite (ltI x.snd (↑p4.length : Int))
 (.ite (inB x.snd p4.length)
  (.ite (!decide ((p4.getD x.snd.toNat ([], [], false)).fst = [(98 : UInt8), (101 : UInt8), (103 : UInt8), (105 : UInt8), (110 : UInt8), (98 : UInt8), (102 : UInt8), (99 : UInt8), (104 : UInt8), (97 : UInt8), (114 : UInt8)]))
   (.leaf (.inl (x.fst, (IntKind.i64.wrap (x.snd + (1 : Int))))))
   (.ite (decide (p4.length ≤ (1000000000 : Nat)) && leI (0 : Int) (IntKind.i64.wrap (x.snd + (1 : Int))) && leI (IntKind.i64.wrap (x.snd + (1 : Int))) (↑p4.length : Int) && leI (↑x.fst.length : Int) (IntKind.i64.wrap (x.snd + (1 : Int))))
    (.ite (leI (1 : Int) (Px.pairsRun (List.drop (IntKind.i64.wrap (x.snd + (1 : Int))).toNat p4) (0 : Nat) x.fst).fst)
     (.leaf (.inl (((Px.pairsRun (List.drop (IntKind.i64.wrap (x.snd + (1 : Int))).toNat p4) (0 : Nat) x.fst).snd), (IntKind.i64.wrap (IntKind.i64.wrap (x.snd + (1 : Int)) + (Px.pairsRun (List.drop (IntKind.i64.wrap (x.snd + (1 : Int))).toNat p4) (0 : Nat) x.fst).fst - (1 : Int) + (1 : Int))))))
     (.leaf (.inr (.ret, at' E 108 [(2, .lf (.own 0 0 .two [])), (3, .lf (.bool false))] []))))
    (.fail)))
  (.fail))
 (.leaf (.inr (.exit 0, at' E 108 [(6, .lf (.own 0 0 .two x.fst))] [])))
theorem h17_0 (p4 : List (List UInt8 × List UInt8 × Bool)) (x : (List (Int × Int)) × Int) (k : Ex → St E.A → Option Unit) :
    exec E G17 ((Lm17_0)) 1 (lb Go.Proofs.Tryd.f17 0) (S17_0 p4 x) (fun e σ1 => k e (clean E (L17_0 e) σ1)) = (t17_0 p4 x).run (Sum.elim (fun x' => k .normal (S17_0 p4 x')) (fun o => k o.1 o.2)) := by kernel_rfl
noncomputable def fin17 (r : Bool × List (Int × Int)) : Tree (Out' E) :=
  .ite r.1 (.leaf (.exit 0, at' E 108 [(6, .lf (.own 0 0 .two r.2))] [])) (.leaf (.ret, at' E 108 [(2, .lf (.own 0 0 .two [])), (3, .lf (.bool false))] []))
noncomputable def lam17_0 (p4 : List (List UInt8 × List UInt8 × Bool)) (x : (List (Int × Int)) × Int) : Tree (Out' E) :=
  .ite (decide (p4.length ≤ 1000000000) && leI 0 x.2 && leI x.2 p4.length && leI x.1.length x.2) (fin17 (Px.parseRun (p4.length + 1) (p4.drop x.2.toNat) x.1)) .fail
theorem it17_0 (l : List (List UInt8 × List UInt8 × Bool)) (hl : l.length ≤ 1000000000) : ∀ (n i : Nat) (m : List (Int × Int)), l.length < n + i → i ≤ l.length → m.length ≤ i →
    iter (t17_0 l) n (m, (i : Int)) = (fin17 (Px.parseRun n (l.drop i) m)).get
  | 0, i, m, h, h2, _ => by omega
  | n + 1, i, m, h, h2, h3 => by
    rw [iter]
    unfold t17_0
    rcases Nat.lt_or_ge i l.length with hi | hi
    · have w1 : IntKind.i64.wrap ((i : Int) + 1) = ((i + 1 : Nat) : Int) := by rw [wi64] <;> omega
      rw [drop_cons l ([], [], false) i hi]
      obtain ⟨t, ht⟩ : ∃ t, l.getD i ([], [], false) = t := ⟨_, rfl⟩
      simp only [Tree.get_ite, ltI_nat hi, inB_nat hi, cond_true, w1, Int.toNat_natCast, ht]
      unfold Px.parseRun
      have hbeg : ∀ x, decide (t.1 = Px.wBegin) = x → decide (t.1 = [(98 : UInt8), 101, 103, 105, 110, 98, 102, 99, 104, 97, 114]) = x := fun x hx => hx
      cases q1 : decide (t.1 = Px.wBegin) with
      | false =>
        rw [hbeg _ q1, Bool.not_false, cond_true, Tree.get_leaf, cond_false]
        exact it17_0 l hl n (i + 1) m (by omega) (by omega) (by omega)
      | true =>
        have g : (decide (l.length ≤ 1000000000) && leI (0 : Int) ((i + 1 : Nat) : Int) && leI ((i + 1 : Nat) : Int) (l.length : Int) && leI (m.length : Int) ((i + 1 : Nat) : Int)) = true := by
          simp only [leI_eq, Bool.and_eq_true, decide_eq_true_eq]
          exact ⟨⟨⟨hl, by omega⟩, by omega⟩, by omega⟩
        rw [hbeg _ q1, Bool.not_true, cond_false, g, cond_true]
        have hle := Px.pairsRun_le (l.drop (i + 1)) 0 m
        have hln := Px.pairsRun_len (l.drop (i + 1)) 0 m
        have hd : (l.drop (i + 1)).length = l.length - (i + 1) := List.length_drop
        cases q2 : leI 1 (Px.pairsRun (l.drop (i + 1)) 0 m).1 with
        | false => rfl
        | true =>
          have hln := hln q2
          rw [leI_eq, decide_eq_true_eq] at q2
          obtain ⟨k, hk⟩ : ∃ k : Nat, (Px.pairsRun (l.drop (i + 1)) 0 m).1 = (k : Int) := ⟨(Px.pairsRun (l.drop (i + 1)) 0 m).1.toNat, by omega⟩
          rw [hk] at hle hln q2 ⊢
          have w2 : IntKind.i64.wrap (((i + 1 : Nat) : Int) + (k : Int) - 1 + 1) = ((i + 1 + k : Nat) : Int) := by rw [wi64] <;> omega
          rw [cond_true, w2, Tree.get_leaf]
          simp only [cond_true, Int.toNat_natCast, List.drop_drop]
          exact it17_0 l hl n (i + 1 + k) (Px.pairsRun (l.drop (i + 1)) 0 m).2 (by omega) (by omega) (by omega)
    · obtain rfl : i = l.length := by omega
      rw [List.drop_length]
      simp only [Tree.get_ite, ltI_self, cond_false]
      rfl
theorem m17_0 {p4 : List (List UInt8 × List UInt8 × Bool)} {x : (List (Int × Int)) × Int} {e : Ex} {σ : St E.A} (_ : okLenR (E := E) (.lf (.sl .tok p4)) = true) (_ : okLenR (E := E) (.lf (.own 0 0 .two x.1)) = true)
    (h : (lam17_0 p4 x).get = some (e, σ)) : ∃ fuel, iter (t17_0 p4) fuel x = some (e, σ) ∧ e ≠ .normal := by
  obtain ⟨m, i⟩ := x
  unfold lam17_0 at h
  have h' := Tree.get_ite_some h
  clear h
  rcases h' with ⟨h1, h⟩ | ⟨_, h⟩
  · simp only [leI_eq, Bool.and_eq_true, decide_eq_true_eq] at h1
    obtain ⟨⟨⟨k1, k2⟩, k3⟩, k4⟩ := h1
    obtain ⟨i, rfl⟩ : ∃ j : Nat, i = (j : Int) := ⟨i.toNat, by omega⟩
    rw [Int.toNat_natCast] at h
    have k3' : i ≤ p4.length := Int.ofNat_le.1 k3
    have k4' : m.length ≤ i := Int.ofNat_le.1 k4
    refine ⟨p4.length + 1, (it17_0 p4 k1 (p4.length + 1) i m (by omega) k3' k4').trans h, ?_⟩
    unfold fin17 at h
    rcases Tree.get_ite_some h with ⟨_, h⟩ | ⟨_, h⟩ <;> (injection h with h; injection h with h1 _; rw [← h1]; intro hh; cases hh)
  · cases h
noncomputable def rd17_0 (σ : St E.A) : Tree (Out' E) :=
  let c := clean E (L17_0 .normal) σ
  if c.sl.length = 108 then
  match c.sl.getD 4 .undef, c.sl.getD 6 .undef, c.sl.getD 7 .undef with
  | .lf (.sl .tok p4), .lf (.own 0 0 .two x6), .lf (.int .i64 x7) => lam17_0 p4 (x6, x7)
  | _, _, _ => .fail
  else .fail
theorem ll17_0 (hL : Laws E) (σ : St E.A) (e : Ex) (σ' : St E.A) (h : (rd17_0 σ).get = some (e, σ')) : LoopOK E (lb Go.Proofs.Tryd.f17 0) σ e σ' := by
  refine LoopOK.of_clean hL (L17_0 .normal) ?_
  unfold rd17_0 at h
  simp only at h
  split at h
  · rename_i hlen
    split at h
    · rename_i p4 x6 x7 h0 h1 h2
      refine LoopOK.lens 4 (fun g0 => ?_)
      rw [h0] at g0
      refine LoopOK.lens 6 (fun g1 => ?_)
      rw [h1] at g1
      obtain ⟨fuel, hi, ho⟩ := m17_0 g0 g1 h
      have hl := loop_at (Γ := G17) (Λ := (Lm17_0)) (n := 1) (body := lb Go.Proofs.Tryd.f17 0) hL (hG17 hL) (S := S17_0 p4) (t := t17_0 p4) (Lv := L17_0) ((LamOK.of (m := 1) (by kernel_rfl) (fun j hj σ e σ' hg => by
      match j, hj with
      | 0, _ => exact (show (loopAt (lb Go.Proofs.Tryd.f17 0) 0).getD .skip = lb Go.Proofs.Tryd.f17 1 from by kernel_rfl) ▸ ll17_1 hL σ e σ' hg
      ))) (h17_0 p4) hi ho
      refine LoopOK.fit hlen ?_ ?_ rfl rfl hl
      · exact ⟨h0, h1, h2, trivial⟩
      · exact trivial
    · cases h
  · cases h
noncomputable def Lam17 : Lam E
  | 0, σ => rd17_0 σ
  | 1, σ => rd17_1 σ
  | _, _ => .fail
noncomputable def w17 (a0 : List UInt8) : Tree (RV E.A × List (Obj E.A)) :=
 .ite (decide (a0.length ≤ (1000000000 : Nat)))
 (.ite (!Px.toksB a0)
  (.leaf (.tup [(false, [.sl .two []]), (false, [.bool false])], []))
  (.ite (decide ((Px.toksL a0).length ≤ (1000000000 : Nat)) && leI (0 : Int) (0 : Int) && leI (0 : Int) (↑(Px.toksL a0).length : Int) && leI (↑([] : List UInt8).length : Int) (0 : Int))
   (.ite ((Px.parseRun ((Px.toksL a0).length + (1 : Nat)) (List.drop (Int.toNat (0 : Int)) (Px.toksL a0)) []).fst)
    (.leaf (.tup [(false, [.sl .two ((Px.parseRun ((Px.toksL a0).length + (1 : Nat)) (List.drop (Int.toNat (0 : Int)) (Px.toksL a0)) []).snd)]), (false, [.bool true])], []))
    (.leaf (.tup [(false, [.sl .two []]), (false, [.bool false])], [])))
   (.fail)))
 (.fail)
theorem e17 (a0 : List UInt8) : execFun E G17 ((Lam17)) false Go.Proofs.Tryd.f17 [.lf (.sl .u8 a0)] [] some = (w17 a0).get := by kernel_rfl
noncomputable def raw17 : Spec E := fun args os => match args, os with
  | [.lf (.sl .u8 a0)], [] => w17 a0
  | _, _ => .fail
theorem validraw17 (hL : Laws E) : Valid E 17 raw17 :=
  valid_of_body hL (hG17 hL) (Λ := (Lam17)) (fn := Go.Proofs.Tryd.f17) (keep := false) (by kernel_rfl) (by kernel_rfl) (by kernel_rfl) ((LamOK.of (m := 2) (by kernel_rfl) (fun j hj σ e σ' hg => by
      match j, hj with
      | 0, _ => exact ll17_0 hL σ e σ' hg
      | 1, _ => exact ll17_1 hL σ e σ' hg
      ))) (fun args os r os' h => by
    unfold raw17 at h
    split at h
    · exact (e17 _).trans h
    · cases h)
theorem eq17 (p : List UInt8) (h1 : p.length ≤ 1000000000) : (w17 p).get = some (.tup [(false, [.sl .two (Px.refL p)]), (false, [.bool (Px.refB p)])], []) := by
  unfold w17
  obtain ⟨_, s2⟩ := Px.toks_short h1
  have hT : (Px.toksL p).length ≤ 1000000000 := by
    unfold Px.toksL
    cases eqI (Px.toks p).1 0 with
    | true => exact s2
    | false => exact Nat.zero_le _
  rw [Tree.get_ite, decide_eq_true h1, cond_true, Tree.get_ite]
  unfold Px.refL Px.refB
  cases Px.toksB p with
  | false => rfl
  | true =>
    have g : (decide ((Px.toksL p).length ≤ (1000000000 : Nat)) && leI (0 : Int) (0 : Int) && leI (0 : Int) ((Px.toksL p).length : Int) && leI (([] : List UInt8).length : Int) (0 : Int)) = true := by
      simp only [leI_eq, Bool.and_eq_true, decide_eq_true_eq]
      exact ⟨⟨⟨hT, by omega⟩, by omega⟩, by decide⟩
    rw [Bool.not_true, cond_false, Tree.get_ite, g, cond_true, Tree.get_ite, Bool.true_and]
    show cond (Px.parseRun ((Px.toksL p).length + 1) (Px.toksL p) []).1 _ _ = _
    cases hq : (Px.parseRun ((Px.toksL p).length + 1) (Px.toksL p) []).1 <;> rfl
noncomputable def spec17 : Spec E := fun args os => match args, os with
  | [.lf (.sl .u8 p)], [] => .ite (decide (p.length ≤ 1000000000)) (.leaf (.tup [(false, [.sl .two (Px.refL' p)]), (false, [.bool (Px.refB' p)])], [])) .fail
  | _, _ => .fail
theorem valid17 (hL : Laws E) : Valid E 17 spec17 := (validraw17 hL).less (fun args os x g1 g2 h => by
  unfold spec17 at h
  split at h
  · rcases Tree.get_ite_some h with ⟨h1, h⟩ | ⟨_, h⟩
    · simp only [decide_eq_true_eq] at h1
      rw [Px.refL'_eq, Px.refB'_eq] at h
      exact (eq17 _ h1).trans h
    · cases h
  · cases h)
end Go.Vx
namespace Go.Vx
open Go
noncomputable def G4 : FuncId → Option (Spec E)
  | 9 => some spec9
  | 12 => some spec12
  | 14 => some spec14
  | 15 => some spec15
  | 16 => some spec16
  | 17 => some spec17
  | 18 => some spec18
  | _ => none
theorem hG4 (hL : Laws E) : ∀ f spec, G4 f = some spec → Valid E f spec := by
  intro f spec h
  unfold G4 at h
  split at h
  · injection h with h; subst h; exact valid9 hL
  · injection h with h; subst h; exact valid12 hL
  · injection h with h; subst h; exact valid14 hL
  · injection h with h; subst h; exact valid15 hL
  · injection h with h; subst h; exact valid16 hL
  · injection h with h; subst h; exact valid17 hL
  · injection h with h; subst h; exact valid18 hL
  · cases h
def L4_0 : Ex → Live
  | .normal => ⟨[1, 5, 7, 51, 52, 53], [384, 1408]⟩
  | .exit 0 => ⟨[1, 5, 7], [384, 1408]⟩
  | .ret => ⟨[4], []⟩
  | _ => ⟨[], []⟩
noncomputable def S4_0 (p1 : Int) (p7 : List (Int × Int)) (p51 : List (Int × Int)) (p52 : Int) (x : Int × (List (Int × Int))) : St E.A := at' E 88 [(1, .lf (.int .u16 p1)), (5, .lf (.ptr 384 0 0)), (7, .lf (.sl .two p7)), (51, .lf (.sl .two p51)), (52, .lf (.int .i64 p52)), (53, .lf (.int .i64 x.1))] [(384, some (.cells 34 [.mp 1408 0])), (1408, some (.map .u16 .i32 x.2))]
noncomputable def t4_0 (p1 : Int) (p7 : List (Int × Int)) (p51 : List (Int × Int)) (p52 : Int) (x : Int × (List (Int × Int))) : Tree (Int × (List (Int × Int)) ⊕ Out' E) :=
 .ite (ltI x.fst p52)
 (.ite (inB x.fst p51.length)
  (.ite (!(mget_u16_i32 x.snd (IntKind.u16.wrap (p51.getD x.fst.toNat ((0 : Int), (0 : Int))).fst)).isSome)
   (.leaf (.inr (.ret, at' E 88 [(4, .lf (.bool false))] [])))
   (.ite (!eqI (IntKind.i64.wrap ((mget_u16_i32 x.snd (IntKind.u16.wrap (p51.getD x.fst.toNat ((0 : Int), (0 : Int))).fst)).getD (Int.ofNat (0 : Nat)))) (p51.getD x.fst.toNat ((0 : Int), (0 : Int))).snd)
    (.leaf (.inr (.ret, at' E 88 [(4, .lf (.bool false))] [])))
    (.leaf (.inl ((IntKind.i64.wrap (x.fst + (1 : Int))), x.snd)))))
  (.fail))
 (.leaf (.inr (.exit 0, at' E 88 [(1, .lf (.int .u16 p1)), (5, .lf (.ptr 384 0 0)), (7, .lf (.sl .two p7))] [(384, some (.cells 34 [.mp 1408 0])), (1408, some (.map .u16 .i32 x.snd))])))
theorem h4_0 (p1 : Int) (p7 : List (Int × Int)) (p51 : List (Int × Int)) (p52 : Int) (x : Int × (List (Int × Int))) (k : Ex → St E.A → Option Unit) :
    exec E G4 (fun _ _ => .fail) 1 (lb Go.Proofs.Tryd.f4 0) (S4_0 p1 p7 p51 p52 x) (fun e σ1 => k e (clean E (L4_0 e) σ1)) = (t4_0 p1 p7 p51 p52 x).run (Sum.elim (fun x' => k .normal (S4_0 p1 p7 p51 p52 x')) (fun o => k o.1 o.2)) := by kernel_rfl
noncomputable def lam4_0 (p1 : Int) (p7 : List (Int × Int)) (p51 : List (Int × Int)) (p52 : Int) (x : Int × (List (Int × Int))) : Tree (Out' E) :=
  .ite (decide (p51.length ≤ 1000000000) && eqI p52 p51.length && leI 0 x.1 && leI x.1 p52 && Px.allOk' x.2 p51)
    (.leaf (.exit 0, at' E 88 [(1, .lf (.int .u16 p1)), (5, .lf (.ptr 384 0 0)), (7, .lf (.sl .two p7))] [(384, some (.cells 34 [.mp 1408 0])), (1408, some (.map .u16 .i32 x.2))])) .fail
theorem lo4 {O : Type} (m : List (Int × Int)) (done : List (Int × Int) → O) : ∀ (l : List (Int × Int)), Px.allOk m l = true → loopO (fun m e => if Px.lookOk m e then some (.inl m) else none) done l m = some (done m)
  | [], _ => rfl
  | e :: l, h => by
    unfold Px.allOk at h
    rw [List.all_cons, Bool.and_eq_true] at h
    unfold loopO
    simp only [h.1, if_true]
    exact lo4 m done l h.2
theorem m4_0 {p1 : Int} {p7 p51 : List (Int × Int)} {p52 : Int} {x : Int × (List (Int × Int))} {e : Ex} {σ : St E.A} (_ : okLenR (E := E) (.lf (.sl .two p7)) = true) (_ : okLenR (E := E) (.lf (.sl .two p51)) = true)
    (h : (lam4_0 p1 p7 p51 p52 x).get = some (e, σ)) : ∃ fuel, iter (t4_0 p1 p7 p51 p52) fuel x = some (e, σ) ∧ e ≠ .normal := by
  obtain ⟨i, m⟩ := x
  unfold lam4_0 at h
  rw [Px.allOk'_eq] at h
  have h' := Tree.get_ite_some h
  clear h
  rcases h' with ⟨h1, h⟩ | ⟨_, h⟩
  · simp only [eqI_eq, leI_eq, Bool.and_eq_true, decide_eq_true_eq] at h1
    obtain ⟨⟨⟨⟨k1, rfl⟩, k2⟩, k3⟩, k4⟩ := h1
    obtain ⟨i, rfl⟩ : ∃ j : Nat, i = (j : Int) := ⟨i.toNat, by omega⟩
    refine ⟨_, iter_idx (t := t4_0 p1 p7 p51 p51.length) (fun i m => (i, m)) p51 (0, 0) (fun m e => if Px.lookOk m e then some (.inl m) else none)
      (fun m => (.exit 0, at' E 88 [(1, .lf (.int .u16 p1)), (5, .lf (.ptr 384 0 0)), (7, .lf (.sl .two p7))] [(384, some (.cells 34 [.mp 1408 0])), (1408, some (.map .u16 .i32 m))])) (fun i m y hi hy => ?_) (fun m => ?_) _ i m _ ?_ (Nat.lt_succ_self _) (by omega), ?_⟩
    · split at hy
      · rename_i hs
        injection hy with hy; subst hy
        obtain ⟨c, hc⟩ : ∃ c, p51.getD i (0, 0) = c := ⟨_, rfl⟩
        rw [hc] at hs
        unfold Px.lookOk at hs
        simp only [leI_eq, Bool.and_eq_true, decide_eq_true_eq] at hs
        obtain ⟨⟨⟨⟨s1, s2⟩, s3⟩, s4⟩, s5⟩ := hs
        have e1 : IntKind.i64.wrap ((i : Int) + 1) = ((i + 1 : Nat) : Int) := by rw [wi64] <;> omega
        have e2 : IntKind.u16.wrap c.1 = c.1 := by rw [wu16] <;> omega
        have e3 : mget_u16_i32 m c.1 = some c.2 := s5
        have e4 : IntKind.i64.wrap c.2 = c.2 := by rw [wi64] <;> omega
        have e5 : eqI c.2 c.2 = true := by rw [eqI_eq]; exact decide_eq_true rfl
        unfold t4_0
        simp only [Tree.get_ite, ltI_nat hi, inB_nat hi, cond_true, Int.toNat_natCast, hc, e1, e2, e3, Option.isSome_some, Bool.not_true, cond_false, Option.getD_some, e4, e5]
        rfl
      · cases hy
    · unfold t4_0
      simp only [Tree.get_ite, ltI_self, cond_false]
      rfl
    · rw [lo4 m _ _ (List.all_eq_true.2 fun b hb => List.all_eq_true.1 k4 b (List.mem_of_mem_drop hb))]
      exact h
    · injection h with h; injection h with h1 _; rw [← h1]; intro hh; cases hh
  · cases h
noncomputable def rd4_0 (σ : St E.A) : Tree (Out' E) :=
  let c := clean E (L4_0 .normal) σ
  if c.sl.length = 88 then
  match c.sl.getD 1 .undef, c.sl.getD 5 .undef, c.sl.getD 7 .undef, c.sl.getD 51 .undef, c.sl.getD 52 .undef, c.sl.getD 53 .undef, c.ob 384, c.ob 1408 with
  | .lf (.int .u16 p1), .lf (.ptr 384 0 0), .lf (.sl .two p7), .lf (.sl .two p51), .lf (.int .i64 p52), .lf (.int .i64 x53), some (.cells 34 [.mp 1408 0]), some (.map .u16 .i32 o1408a) => lam4_0 p1 p7 p51 p52 (x53, o1408a)
  | _, _, _, _, _, _, _, _ => .fail
  else .fail
theorem ll4_0 (hL : Laws E) (σ : St E.A) (e : Ex) (σ' : St E.A) (h : (rd4_0 σ).get = some (e, σ')) : LoopOK E (lb Go.Proofs.Tryd.f4 0) σ e σ' := by
  refine LoopOK.of_clean hL (L4_0 .normal) ?_
  unfold rd4_0 at h
  simp only at h
  split at h
  · rename_i hlen
    split at h
    · rename_i p1 p7 p51 p52 x53 o1408a h0 h1 h2 h3 h4 h5 h6 h7
      refine LoopOK.lens 7 (fun g0 => ?_)
      rw [h2] at g0
      refine LoopOK.lens 51 (fun g1 => ?_)
      rw [h3] at g1
      obtain ⟨fuel, hi, ho⟩ := m4_0 g0 g1 h
      have hl := loop_at (Γ := G4) (Λ := fun _ _ => .fail) (n := 1) (body := lb Go.Proofs.Tryd.f4 0) hL (hG4 hL) (S := S4_0 p1 p7 p51 p52) (t := t4_0 p1 p7 p51 p52) (Lv := L4_0) (LamOK.none (by kernel_rfl)) (h4_0 p1 p7 p51 p52) hi ho
      refine LoopOK.fit hlen ?_ ?_ rfl rfl hl
      · exact ⟨h0, h1, h2, h3, h4, h5, trivial⟩
      · exact ⟨h6, h7, trivial⟩
    · cases h
  · cases h
noncomputable def Lam4 : Lam E
  | 0, σ => rd4_0 σ
  | _, _ => .fail
noncomputable def w4 (a0 : List UInt8) (a1 : Int) : Tree (RV E.A × List (Obj E.A)) :=
 .ite (leI (0 : Int) (600 : Int) && decide (a0.length ≤ (140737488355328 : Nat)))
 (.ite (decide ((List.take (Int.toNat (600 : Int)) a0).length ≤ (1000000000 : Nat)))
  (.ite (eqI (Px.parse' (List.take (Int.toNat (600 : Int)) a0)).fst (0 : Int))
   (.ite (decide ((List.take (Int.toNat (600 : Int)) a0).length ≤ (1000000000 : Nat)))
    (.ite (!Px.refB' (List.take (Int.toNat (600 : Int)) a0))
     (.leaf (.lf (.bool false), []))
     (.ite (decide ((Px.parse' (List.take (Int.toNat (600 : Int)) a0)).snd.length ≤ (2 : Nat) ^ (62 : Nat)))
      (.ite (!eqI (↑(Px.parse' (List.take (Int.toNat (600 : Int)) a0)).snd.length : Int) (↑(List.length (Px.refL' (List.take (Int.toNat (600 : Int)) a0))) : Int))
       (.leaf (.lf (.bool false), []))
       (.ite (decide (List.length (Px.refL' (List.take (Int.toNat (600 : Int)) a0)) ≤ (1000000000 : Nat)) && eqI (↑(List.length (Px.refL' (List.take (Int.toNat (600 : Int)) a0))) : Int) (↑(List.length (Px.refL' (List.take (Int.toNat (600 : Int)) a0))) : Int) && leI (0 : Int) (0 : Int) && leI (0 : Int) (↑(List.length (Px.refL' (List.take (Int.toNat (600 : Int)) a0))) : Int) && Px.allOk' (Px.parse' (List.take (Int.toNat (600 : Int)) a0)).snd (Px.refL' (List.take (Int.toNat (600 : Int)) a0)))
        (.leaf (.lf (.bool ((mget_u16_i32 (Px.parse' (List.take (Int.toNat (600 : Int)) a0)).snd a1).isSome == leI (0 : Int) (Px.find2 (Px.refL' (List.take (Int.toNat (600 : Int)) a0)) (IntKind.i64.wrap a1)))), []))
        (.fail)))
      (.fail)))
    (.fail))
   (.ite (decide ((List.take (Int.toNat (600 : Int)) a0).length ≤ (1000000000 : Nat)))
    (.ite (!Px.refB' (List.take (Int.toNat (600 : Int)) a0))
     (.ite (eqI (Px.parse' (List.take (Int.toNat (600 : Int)) a0)).fst (2 : Int))
      (.leaf (.lf (.bool (eqI (0 : Int) (0 : Int))), []))
      (.ite (eqI (Px.parse' (List.take (Int.toNat (600 : Int)) a0)).fst (14 : Int))
       (.leaf (.lf (.bool (eqI (0 : Int) (0 : Int))), []))
       (.leaf (.lf (.bool false), []))))
     (.ite (!eqI (Px.parse' (List.take (Int.toNat (600 : Int)) a0)).fst (0 : Int))
      (.leaf (.lf (.bool false), []))
      (.ite (!eqI (0 : Int) (↑(List.length (Px.refL' (List.take (Int.toNat (600 : Int)) a0))) : Int))
       (.leaf (.lf (.bool false), []))
       (.fail))))
    (.fail)))
  (.fail))
 (.fail)
theorem e4 (a0 : List UInt8) (a1 : Int) : execFun E G4 ((Lam4)) false Go.Proofs.Tryd.f4 [.lf (.sl .u8 a0), .lf (.int .u16 a1)] [] some = (w4 a0 a1).get := by kernel_rfl
noncomputable def raw4 : Spec E := fun args os => match args, os with
  | [.lf (.sl .u8 a0), .lf (.int .u16 a1)], [] => w4 a0 a1
  | _, _ => .fail
theorem validraw4 (hL : Laws E) : Valid E 4 raw4 :=
  valid_of_body hL (hG4 hL) (Λ := (Lam4)) (fn := Go.Proofs.Tryd.f4) (keep := false) (by kernel_rfl) (by kernel_rfl) (by kernel_rfl) ((LamOK.of (m := 1) (by kernel_rfl) (fun j hj σ e σ' hg => by
      match j, hj with
      | 0, _ => exact ll4_0 hL σ e σ' hg
      ))) (fun args os r os' h => by
    unfold raw4 at h
    split at h
    · exact (e4 _ _).trans h
    · cases h)
theorem eq4 (p : List UInt8) (c : Int) (h1 : p.length ≤ 140737488355328) (hc : 0 ≤ c ∧ c ≤ 65535) : (w4 p c).get = some (.lf (.bool true), []) := by
  unfold w4
  rw [Px.parse'_eq, Px.refB'_eq, Px.refL'_eq, Px.allOk'_eq]
  have hq : (p.take (Int.toNat 600)).length ≤ 600 := List.length_take_le _ _
  have w1 : IntKind.i64.wrap c = c := by rw [wi64] <;> omega
  have g0 : (leI (0 : Int) (600 : Int) && decide (p.length ≤ (140737488355328 : Nat))) = true := by rw [decide_eq_true h1]; rfl
  rw [Tree.get_ite, g0, cond_true, w1]
  generalize p.take (Int.toNat 600) = q at hq ⊢
  have g1 : decide (q.length ≤ 1000000000) = true := decide_eq_true (by omega)
  rw [Tree.get_ite, g1, cond_true, Tree.get_ite]
  cases hB : Px.refB q with
  | false =>
    rcases Px.parse_no hB with h | h
    · rw [h]; rfl
    · rw [h]; rfl
  | true =>
    rw [Px.parse_yes hB]
    have hL := Px.refL_len (p := q) (by omega)
    have hg := Px.refL_good q
    have hA : Px.allOk (Px.refL q) (Px.refL q) = true := List.all_eq_true.2 hg
    have hF := Px.find2_some (Px.refL q) c
    generalize Px.refL q = l at hL hg hA hF ⊢
    have e0 : eqI (0 : Int) 0 = true := rfl
    have e1 : eqI (l.length : Int) (l.length : Int) = true := by rw [eqI_eq]; exact decide_eq_true rfl
    have e2 : decide (l.length ≤ (2 : Nat) ^ (62 : Nat)) = true := decide_eq_true (Nat.le_trans hL (by decide))
    have e3 : (decide (l.length ≤ (1000000000 : Nat)) && eqI (l.length : Int) (l.length : Int) && leI (0 : Int) (0 : Int) && leI (0 : Int) (l.length : Int) && Px.allOk l l) = true := by
      rw [hA, e1, decide_eq_true hL, show leI (0 : Int) (l.length : Int) = true by rw [leI_eq]; exact decide_eq_true (by omega)]; rfl
    simp only [e0, cond_true, Tree.get_ite, Bool.not_true, cond_false, e1, e2]
    rw [e1] at e3
    rw [e3, cond_true, hF]
    have : mget_u16_i32 l c = Px.mg l c := rfl
    rw [this]
    cases (Px.mg l c).isSome <;> rfl
noncomputable def spec4 : Spec E := fun args os => match args, os with
  | [.lf (.sl .u8 p), .lf (.int .u16 c)], [] => .ite (leI 0 c && leI c 65535 && decide (p.length ≤ 140737488355328)) (.leaf (.lf (.bool true), [])) .fail
  | _, _ => .fail
theorem valid4 (hL : Laws E) : Valid E 4 spec4 := (validraw4 hL).less (fun args os x _ _ h => by
  unfold spec4 at h
  split at h
  · rcases Tree.get_ite_some h with ⟨h1, h⟩ | ⟨_, h⟩
    · simp only [leI_eq, Bool.and_eq_true, decide_eq_true_eq] at h1
      exact (eq4 _ _ h1.2 h1.1).trans h
    · cases h
  · cases h)
theorem sp4 (p : List UInt8) (c : Int) (h1 : inRb .u16 c = true) (h2 : p.length ≤ big ∧ p.length * 1 ≤ 140737488355328) : (spec4 [.lf (.sl .u8 p), .lf (.int .u16 c)] []).get = some (.lf (.bool true), []) := by
  simp only [inRb, Bool.and_eq_true, decide_eq_true_eq] at h1
  have a1 : (0 : Int) ≤ c := h1.1
  have a2 : c ≤ 65535 := h1.2
  have g : (leI 0 c && leI c 65535 && decide (p.length ≤ 140737488355328)) = true := by
    simp only [leI_eq, Bool.and_eq_true, decide_eq_true_eq]; omega
  show Tree.get (.ite (leI 0 c && leI c 65535 && decide (p.length ≤ 140737488355328)) (.leaf ((.lf (.bool true) : RV E.A), ([] : List (Obj E.A)))) .fail) = _
  rw [g]; rfl
end Go.Vx
namespace Go.Vx
open Go Go.RowKit
/-- Nobody's own at the beginning. -/
def Gh.none : Gh := { blk := fun _ => Option.none, tok := fun _ => Option.none, ver := zero0, cur := zero0, oth := fun _ _ => False, bl := fun _ => (0, 0, 0) }
theorem none_pur (b o : Nat) : Gh.none.pur b o := by
  refine ⟨⟨fun _ h => ?_, fun _ _ _ h => ?_⟩, fun h => h⟩
  · cases h
  · cases h
theorem none_hrel {Key : Type} [DecidableEq Key] {E : Env Key} {w : World} (hg : ∀ g cs, E.gl g = some cs → Glob E Gh.none w cs g) : HRel E (fun i => ([] : List (Obj E.A))[i]?) Gh.none w where
  ob i o h := by simp at h
  lt _ _ h := by cases h
  inj _ _ _ h := by cases h
  tokb _ _ _ _ h := by cases h
  tokj _ _ _ _ _ _ _ _ h := by cases h
  gl := hg
  othf _ _ h := h.elim
theorem none_below {G' : Gh} {w w' : World} (h : Fr Gh.none w G' w') : Below w.heap.size w w' :=
  ⟨h.os, h.tape, h.output, h.size, fun k hk => (h.blk k hk ⟨fun _ h => (by cases h), fun _ _ _ h => (by cases h)⟩).1⟩
/-- The call, out of the contract. -/
theorem calls_of_valid {Key : Type} [DecidableEq Key] {E : Env Key} {f : FuncId} {spec : Spec E} (hV : Valid E f spec) {args : List (RV E.A)} {w : World} {vals : Array Value} {fn : Func} (hf : E.P.funcs[f]? = some fn) (hb : fn.body.isSome = true) (hnm : (fn.name == "runtime.NumGoroutine") = false) {b : Bool}
    (hs : (spec args []).get = some (.lf (.bool b), [])) (ha : ARel E Gh.none w args vals)
    (hg : ∀ g cs, E.gl g = some cs → Glob E Gh.none w cs g) :
    Calls E.P f vals w fun e w' => e = .returned (.bool b) ∧ Below w.heap.size w w' := by
  unfold Valid at hV
  have h := hV args [] _ _ hs Gh.none w vals ha (none_hrel hg) rfl rfl
  have hcf : (callFunc f vals).run E.P w = .ok (.enter f vals) w := by
    obtain ⟨c, hc⟩ := Option.isSome_iff_exists.1 hb
    unfold callFunc
    have hne : ¬ fn.name = "runtime.NumGoroutine" := by simpa using hnm
    simp [hf, hc, hne]
  rw [hcf] at h
  refine Calls.mono (show Calls E.P f vals w _ from h) ?_
  rintro e w' ⟨v, G', rfl, hbk⟩
  refine ⟨?_, none_below hbk.fr⟩
  cases hbk.val with
  | lf h => cases h; rfl
def IsRow (k : IntKind) (w : World) (a : Option Addr) (len cap : Nat) (zs : List Int) : Prop :=
  (a = Option.none ∧ len = 0 ∧ cap = 0 ∧ zs = []) ∨
  ∃ x, a = some x ∧ len ≤ cap ∧ cap ≤ maxLen ∧ zs.length = cap ∧ (∀ i, i < zs.length → w.cell? (x.add i) = some (.int k (zs.getD i 0))) ∧ ∀ n ∈ zs, (Lit.int k n).wf = true
theorem IsRow.len {k : IntKind} {w : World} {a : Option Addr} {len cap : Nat} {zs : List Int} (h : IsRow k w a len cap zs) : min len zs.length = len ∧ len ≤ big := by
  rcases h with ⟨_, rfl, _, rfl⟩ | ⟨_, _, h1, h2, h3, _⟩
  · exact ⟨rfl, by decide⟩
  · exact ⟨by omega, by unfold big; unfold maxLen at h2; omega⟩
theorem arel1 {w : World} {l0 : Leaf E.A} {v0 : Value} (h0 : Rep E Gh.none w l0 v0) : ARel E Gh.none w [.lf l0] #[v0] := by
  refine ⟨rfl, fun j r hj => ?_⟩
  match j with
  | 0 => injection hj with hj; subst hj; exact .lf h0
  | j + 1 => cases hj
theorem arel2 {w : World} {l0 l1 : Leaf E.A} {v0 v1 : Value} (h0 : Rep E Gh.none w l0 v0) (h1 : Rep E Gh.none w l1 v1) : ARel E Gh.none w [.lf l0, .lf l1] #[v0, v1] := by
  refine ⟨rfl, fun j r hj => ?_⟩
  match j with
  | 0 => injection hj with hj; subst hj; exact .lf h0
  | 1 => injection hj with hj; subst hj; exact .lf h1
  | j + 2 => cases hj
theorem arel3 {w : World} {l0 l1 l2 : Leaf E.A} {v0 v1 v2 : Value} (h0 : Rep E Gh.none w l0 v0) (h1 : Rep E Gh.none w l1 v1) (h2 : Rep E Gh.none w l2 v2) : ARel E Gh.none w [.lf l0, .lf l1, .lf l2] #[v0, v1, v2] := by
  refine ⟨rfl, fun j r hj => ?_⟩
  match j with
  | 0 => injection hj with hj; subst hj; exact .lf h0
  | 1 => injection hj with hj; subst hj; exact .lf h1
  | 2 => injection hj with hj; subst hj; exact .lf h2
  | j + 3 => cases hj
theorem arel4 {w : World} {l0 l1 l2 l3 : Leaf E.A} {v0 v1 v2 v3 : Value} (h0 : Rep E Gh.none w l0 v0) (h1 : Rep E Gh.none w l1 v1) (h2 : Rep E Gh.none w l2 v2) (h3 : Rep E Gh.none w l3 v3) :
    ARel E Gh.none w [.lf l0, .lf l1, .lf l2, .lf l3] #[v0, v1, v2, v3] := by
  refine ⟨rfl, fun j r hj => ?_⟩
  match j with
  | 0 => injection hj with hj; subst hj; exact .lf h0
  | 1 => injection hj with hj; subst hj; exact .lf h1
  | 2 => injection hj with hj; subst hj; exact .lf h2
  | 3 => injection hj with hj; subst hj; exact .lf h3
  | j + 4 => cases hj
theorem wf_inRb {k : IntKind} {n : Int} (h : (Lit.int k n).wf = true) : inRb k n = true := by
  simpa [Lit.wf, inRb] using h
theorem row_ok {α : Type} {zs : List Int} {len eb : Nat} (f : Int → α) (h : min len zs.length = len ∧ len ≤ big) (y : len * eb ≤ 140737488355328) : ((zs.take len).map f).length ≤ big ∧ ((zs.take len).map f).length * eb ≤ 140737488355328 := by
  rw [List.length_map, List.length_take, h.1]
  exact ⟨h.2, y⟩
theorem row_in {k : IntKind} {w : World} {a : Option Addr} {len cap : Nat} {zs : List Int} (h : IsRow k w a len cap zs) : ∀ z ∈ (zs.take len).map (fun z : Int => z), inRb k z = true := by
  intro z hz
  rw [List.map_id'] at hz
  have hm := List.mem_of_mem_take hz
  rcases h with ⟨_, _, _, rfl⟩ | ⟨_, _, _, _, _, _, h⟩
  · cases hm
  · exact wf_inRb (h z hm)
theorem sized_row {H : Type} {P : Program} {ts : List TypeId} {ds : List (DataW H)} (h : (DataW.weightsEach P ts ds).all (· ≤ reachBytes) = true) {j : Nat} {t e : TypeId} {k : IntKind} {zs : List Int} {len eb : Nat}
    (ht : ts[j]? = some t) (hd : ds[j]? = some (.slice (Go.ChangeShapes.lits k (zs.take len)) (Go.ChangeShapes.lits k (zs.drop len)))) (hu : P.underlying t = some (.slice e)) (hb : P.bytesOf e = eb) (hl : len ≤ zs.length) : len * eb ≤ 140737488355328 := by
  have h1 := sized_slice h ht hd hu
  have h2 := reachBytes_lt
  rw [hb] at h1
  have e1 : (Go.ChangeShapes.lits (H := H) k (zs.take len)).length = len := by simp [Go.ChangeShapes.lits]; omega
  rw [e1] at h1
  have : len * eb ≤ (len + (Go.ChangeShapes.lits (H := H) k (zs.drop len)).length) * eb := Nat.mul_le_mul_right _ (Nat.le_add_right _ _)
  omega
theorem rep_row {K0 : K} {ik : IntKind} (f : Int → E.A K0) (hs : E.sz K0 = 1) (henc : ∀ z, inRb ik z = true → E.enc K0 (f z) = [.int ik z]) {w : World}
    {a : Option Addr} {len cap : Nat} {zs : List Int} (h : IsRow ik w a len cap zs) : Rep E Gh.none w (.sl K0 ((zs.take len).map f)) (.slice a len cap) := by
  rcases h with ⟨rfl, rfl, rfl, rfl⟩ | ⟨x, rfl, hl, hm, hz, hc, hw⟩
  · exact .sl0 K0 _ _ (by decide)
  · rcases Nat.eq_zero_or_pos len with h0 | h0
    · subst h0; exact .sl0 K0 _ _ hm
    · have hx : x.spot = Option.none := by
        have := hc 0 (by omega)
        rw [show x.add 0 = x from rfl] at this
        unfold World.cell? at this
        split at this
        · cases hq : x.spot with
          | none => rfl
          | some q => rw [hq] at this; simp at this
        · cases this
      obtain ⟨b, off, sp⟩ := x
      obtain rfl : sp = Option.none := hx
      have e : ((zs.take len).map f).length = len := by simp; omega
      have hrep := Rep.sl (E := E) (G := Gh.none) (w := w) K0 ((zs.take len).map f) b off cap (fun i _ => .int ik (zs.getD i 0)) (by rw [e]; exact hl) hm
        (fun i j hi hj => by
          rw [hs] at hj ⊢
          obtain rfl : j = 0 := by omega
          refine ⟨?_, none_pur _ _⟩
          have := hc i (by rw [e] at hi; omega)
          simp only [Addr.add] at this
          split at this
          · rename_i h; subst h; simpa using this
          · simpa using this)
        (fun i y hy j l hl' => by
          rw [List.getElem?_map, Option.map_eq_some_iff] at hy
          obtain ⟨z, hz1, rfl⟩ := hy
          have hlt : i < len := by
            have := (List.getElem?_eq_some_iff.1 hz1).1
            simp at this; omega
          rw [List.getElem?_take_of_lt hlt] at hz1
          have hmem : z ∈ zs := List.mem_of_getElem? hz1
          rw [henc z (wf_inRb (hw z hmem))] at hl'
          match j with
          | 0 =>
            injection hl' with hl'
            subst hl'
            have : zs.getD i 0 = z := by rw [List.getD, hz1]; rfl
            rw [this]
            exact .int (wf_inRb (hw z hmem))
          | j + 1 => cases hl')
      rw [e] at hrep
      exact hrep
theorem enc_u8 (z : Int) (h : inRb .u8 z = true) : E.enc .u8 (UInt8.ofNat z.toNat) = [.int .u8 z] := by
  show [Leaf.int IntKind.u8 ((UInt8.ofNat z.toNat).toNat : Int)] = _
  simp only [inRb, Bool.and_eq_true, decide_eq_true_eq] at h
  have h1 : (0 : Int) ≤ z := h.1
  have h2 : z ≤ 255 := h.2
  have : ((UInt8.ofNat z.toNat).toNat : Int) = z := by simp; omega
  rw [this]; rfl
theorem int_of_shaped {P : Program} {w : World} {g : Nat} {t : TypeId} {zero : Array Value} {k : IntKind} (h : w.ShapedOpen P) (hg : g < P.globals.size)
    (h0 : ((begin P (fun _ _ => 0) default).world.heap[g]?).bind Obj.row? = some (zero, t)) (hz : zero.size = 1) (hb : P.buildable t = true) (hc : P.cellTypes P.depth t = some [t]) (hu : P.underlying t = some (.int k)) :
    ∃ m, k.has m ∧ w.cell? ⟨g, 0, none⟩ = some (.int k m) := by
  obtain ⟨cs, hh, hs, hr⟩ := h.1 g zero t hg h0
  obtain ⟨ts, hts, _, hall⟩ := hr hb
  rw [hc] at hts
  cases hts
  have h1 : 0 < cs.size := by omega
  obtain ⟨u, hu', hok⟩ := hall 0 cs[0] (by simp [h1])
  have : u = t := by simpa using hu'.symm
  subst this
  have hcell : w.cell? ⟨g, 0, none⟩ = some cs[0] := by simp [World.cell?, hh, h1]
  rw [hcell]
  unfold Cell.ok at hok
  rw [hu] at hok
  cases hv : cs[0] <;> rw [hv] at hok <;> simp at hok
  case int k' n => exact ⟨n, hok.2, by rw [hok.1]⟩
theorem shape_of_shaped {P : Program} {w : World} {g : Nat} {t : TypeId} {zero : Array Value} {n : Nat} (h : w.ShapedOpen P) (hg : g < P.globals.size)
    (h0 : ((begin P (fun _ _ => 0) default).world.heap[g]?).bind Obj.row? = some (zero, t)) (hz : zero.size = n) : ∃ t, w.shape? g = some (t, n) := by
  obtain ⟨cs, hh, hs, _⟩ := h.1 g zero t hg h0
  refine ⟨t, ?_⟩
  unfold World.shape?
  rw [hh]
  simp [hs, hz]
/-- A variable of the program's that holds these numbers. -/
theorem glob_of_cells {w : World} {ik : IntKind} {n g : Nat} (f : Nat → Int) (hf : ∀ i, i < n → inRb ik (f i) = true) (hc : ∀ i, i < n → w.cell? ⟨g, i, none⟩ = some (.int ik (f i))) (hs : ∃ t, w.shape? g = some (t, n)) (hga : E.ga g = none) :
    Glob E Gh.none w ((List.range n).map fun c => .int ik (f c)) g := by
  refine ⟨.pp _ g 0 (fun j => .int ik (f j)) (List.all_eq_true.2 fun l hl => ?_) (fun j hj => ⟨?_, none_pur _ _⟩) (fun j l hl => ?_), ?_, fun k hk => ?_⟩
  · obtain ⟨c, _, rfl⟩ := List.mem_map.1 hl
    rfl
  · rw [Nat.zero_add]
    exact hc j (by simpa using hj)
  · rw [List.getElem?_map, Option.map_eq_some_iff] at hl
    obtain ⟨z, hz, rfl⟩ := hl
    have hj : j < n := by
      have := (List.getElem?_eq_some_iff.1 hz).1
      simpa using this
    rw [List.getElem?_range hj] at hz
    injection hz with hz; subst hz
    exact .int (hf j hj)
  · rw [List.length_map, List.length_range]; exact hs
  · rw [hga] at hk; cases hk
theorem glob_of_tab {w : World} (h : Lib.TabIs E.P w "internal/strconv.uint64pow10" .u64 Lib.pow10Tab) (hs : ∃ t, w.shape? 1 = some (t, 20)) : Glob E Gh.none w ((Go.Lib.pow10Tab).map fun z => .int .u64 z) 1 := by
  have hg : E.P.globalNamed "internal/strconv.uint64pow10" = some 1 := by kernel_rfl
  have e : ((Go.Lib.pow10Tab).map fun z => (Leaf.int (A := E.A) .u64 z)) = (List.range 20).map fun c => .int .u64 (Lib.pow10Tab.getD c 0) := by kernel_rfl
  rw [e]
  refine glob_of_cells (fun c => Lib.pow10Tab.getD c 0) (fun i hi => ?_) (fun i hi => h.cell hg i hi) hs rfl
  have : (List.range 20).all (fun i => inRb .u64 (Lib.pow10Tab.getD i 0)) = true := by decide
  exact List.all_eq_true.1 this i (List.mem_range.2 hi)
theorem first_of_reads {w : World} (h : Lib.VarReads E.P w "unicode/utf8.first" Lib.firstData) (c : Nat) (hc : c < 256) : w.cell? ⟨2, c, none⟩ = some (.int .u8 (Lib.firstT c : Int)) := by
  obtain ⟨g, t, cs, fuel, p, hg, hty, hvar, hd⟩ := h
  obtain rfl := Option.some.inj ((show E.P.globalNamed "unicode/utf8.first" = some 2 from by kernel_rfl).symm.trans hg)
  obtain rfl := Option.some.inj ((show (E.P.globals[2]?).map (·.type) = some 153 from by kernel_rfl).symm.trans hty)
  have hcs := Lib.cells_of_tab (t := 153) (e := 5) (n := 256) (by kernel_rfl) (by kernel_rfl) (by kernel_rfl) (by kernel_rfl) hd
  have := World.var?_cell hg hvar c
  rw [this, ← Array.getElem?_toList, hcs]
  simp [Lib.firstTab, hc]
theorem accept_of_reads {w : World} (h : Lib.VarReads E.P w "unicode/utf8.acceptRanges" Lib.acceptData) (i : Nat) (hi : i < 16) :
    w.cell? ⟨3, 2 * i, none⟩ = some (.int .u8 (Lib.accLo i : Int)) ∧ w.cell? ⟨3, 2 * i + 1, none⟩ = some (.int .u8 (Lib.accHi i : Int)) := by
  obtain ⟨g, t, cs, fuel, p, hg, hty, hvar, hd⟩ := h
  obtain rfl := Option.some.inj ((show E.P.globalNamed "unicode/utf8.acceptRanges" = some 3 from by kernel_rfl).symm.trans hg)
  obtain rfl := Option.some.inj ((show (E.P.globals[3]?).map (·.type) = some 156 from by kernel_rfl).symm.trans hty)
  obtain ⟨fuel', d, q, hdi, he⟩ := Lib.array_elem (n := 16) (e := 155) (by kernel_rfl) hd i hi
  simp only [List.getElem?_map, List.getElem?_range hi, Option.map_some, Option.some.injEq] at hdi
  subst hdi
  have c2 : E.P.cellsOf 155 = 2 := by kernel_rfl
  have c5 : E.P.cellsOf 5 = 1 := by kernel_rfl
  have u5 : E.P.underlying 5 = some (.int .u8) := by kernel_rfl
  rw [c2] at he
  have hcs := Lib.ints_of_struct Go.Proofs.Tryd.underlying155 (fun j f hj => by
    match j, hj with
    | 0, hj => simp at hj; subst hj; exact ⟨u5, rfl, c5⟩
    | 1, hj => simp at hj; subst hj; exact ⟨u5, rfl, c5⟩
    | j + 2, hj => simp at hj) (c2.trans rfl) he
  have e0 := congrArg (·[0]?) hcs
  have e1 := congrArg (·[1]?) hcs
  simp only [List.getElem?_take, List.getElem?_drop] at e0 e1
  constructor
  · rw [World.var?_cell hg hvar (2 * i), ← Array.getElem?_toList]
    simpa [Nat.mul_comm] using e0
  · rw [World.var?_cell hg hvar (2 * i + 1), ← Array.getElem?_toList]
    simpa [Nat.mul_comm] using e1
theorem gl_of_laid {w : World} {laid : List (String × DataW Unit)} (hf : laid.filter (fun x => x.1 == "internal/strconv.uint64pow10") = [("internal/strconv.uint64pow10", Lib.tabData .u64 Lib.pow10Tab)])
    (hf2 : laid.filter (fun x => x.1 == "unicode/utf8.first") = [("unicode/utf8.first", Lib.firstData)]) (hf3 : laid.filter (fun x => x.1 == "unicode/utf8.acceptRanges") = [("unicode/utf8.acceptRanges", Lib.acceptData)])
    (h : laidMetH E.P laid w) (hs : w.ShapedOpen E.P) :
    ∀ g cs, E.gl g = some cs → Glob E Gh.none w cs g := by
  intro g cs hg
  match g, hg with
  | 0, hg =>
    injection hg with hg; subst hg
    obtain ⟨m, hm, hc⟩ := int_of_shaped (g := 0) (t := 3) (k := .i64) (zero := #[.int .i64 0]) hs (by decide +kernel) (by kernel_rfl) rfl (by kernel_rfl) (by kernel_rfl) (by kernel_rfl)
    refine ⟨.pp _ 0 0 (fun _ => .int .i64 m) rfl (fun j hj => ⟨?_, none_pur _ _⟩) (fun j l hl => ?_), shape_of_shaped (g := 0) (t := 3) (zero := #[.int .i64 0]) hs (by decide +kernel) (by kernel_rfl) rfl, fun k hk => ?_⟩
    · have hj' : j < 1 := hj
      obtain rfl : j = 0 := by omega
      exact hc
    · match j, hl with
      | 0, hl => injection hl with hl; subst hl; exact .dead rfl
      | j + 1, hl => cases hl
    · injection hk with hk; subst hk
      refine ⟨m, ?_, hc, none_pur _ _⟩
      unfold IntKind.has at hm
      unfold inRb
      simpa using hm
  | 1, hg =>
    injection hg with hg; subst hg
    have h1 := laidMetH.filter (fun x => x.1 == "internal/strconv.uint64pow10") h
    rw [hf] at h1
    have h2 : laidMet E.P [("internal/strconv.uint64pow10", Lib.tabData .u64 Lib.pow10Tab)] w := h1
    have h3 : Lib.TabIs E.P w "internal/strconv.uint64pow10" .u64 Lib.pow10Tab := Lib.tabIs_of_head (g := 1) (t := 146) (e := 67) (n := 20) (by kernel_rfl) (by kernel_rfl) (by kernel_rfl) (by kernel_rfl) (by kernel_rfl) (by kernel_rfl) h2
    exact glob_of_tab h3 (shape_of_shaped (g := 1) (t := 146) (zero := Array.replicate 20 (.int .u64 0)) hs (by decide +kernel) (by kernel_rfl) Array.size_replicate)
  | 2, hg =>
    injection hg with hg; subst hg
    have h1 := laidMetH.filter (fun x => x.1 == "unicode/utf8.first") h
    rw [hf2] at h1
    have h2 : laidMet E.P [("unicode/utf8.first", Lib.firstData)] w := h1
    have h3 := Lib.laidMet.reads h2 (List.mem_singleton.2 rfl)
    refine glob_of_cells (fun c => (Lib.firstT c : Int)) (fun i hi => ?_) (first_of_reads h3) (shape_of_shaped (g := 2) (t := 153) (zero := Array.replicate 256 (.int .u8 0)) hs (by decide +kernel) (by kernel_rfl) Array.size_replicate) rfl
    have : (List.range 256).all (fun i => inRb .u8 (Lib.firstT i : Int)) = true := by decide +kernel
    exact List.all_eq_true.1 this i (List.mem_range.2 hi)
  | 3, hg =>
    injection hg with hg; subst hg
    have h1 := laidMetH.filter (fun x => x.1 == "unicode/utf8.acceptRanges") h
    rw [hf3] at h1
    have h2 : laidMet E.P [("unicode/utf8.acceptRanges", Lib.acceptData)] w := h1
    have h3 := Lib.laidMet.reads h2 (List.mem_singleton.2 rfl)
    refine glob_of_cells (fun c => if c % 2 = 0 then (Lib.accLo (c / 2) : Int) else (Lib.accHi (c / 2) : Int)) (fun i hi => ?_) (fun i hi => ?_) (shape_of_shaped (g := 3) (t := 156) (zero := Array.replicate 32 (.int .u8 0)) hs (by decide +kernel) (by kernel_rfl) Array.size_replicate) rfl
    · have : (List.range 32).all (fun c => inRb .u8 (if c % 2 = 0 then (Lib.accLo (c / 2) : Int) else (Lib.accHi (c / 2) : Int))) = true := by decide +kernel
      exact List.all_eq_true.1 this i (List.mem_range.2 hi)
    · obtain ⟨k1, k2⟩ := accept_of_reads h3 (i / 2) (by omega)
      rcases Nat.mod_two_eq_zero_or_one i with e | e
      · rw [if_pos e]
        rw [show 2 * (i / 2) = i by omega] at k1
        exact k1
      · rw [if_neg (by omega)]
        rw [show 2 * (i / 2) + 1 = i by omega] at k2
        exact k2
  | g + 4, hg => cases hg
variable {H : Type} {enc : TypeId × Value → H}
/-- From the contract to the row, the world's shape kept. -/
theorem returns_shaped {a : Assume} {C : Checked} {os : Os} {f : FuncId} {fn : Func} {s : ChangeSpec} {conds : List PathCond} {apart fresh handsOn again : Bool} {X : World → Array Value → Prop}
    (hX : ∀ (w w' : World) (args : Array Value), w.heap = w'.heap → X w args → X w' args)
    (own : ownKnob C.prog.godebug = none) (started : os.Started) (noInit : C.prog.inits.idxOf? f = none) (hfn : C.prog.funcs[f]? = some fn)
    (witness : ∃ (w : World) (tape : Tape) (i : Input), w.os = os ∧ (w.forCall tape i).Shaped C.prog ∧ i.vars = [] ∧ Input.okWide C.prog (w.forCall tape i) .any w.heap.size f i ∧
      ((s.pre enc C.prog fn conds apart (w.forCall tape i).memory i.args ∧ X (w.forCall tape i).memory i.args) ∧ sizedMet enc C.prog fn (OpenSpec.ofChange s) apart (w.forCall tape i).memory i.args) ∧ a.holds C.prog (lone (Frame.enter C.prog f i.args .normal) [] (w.forCall tape i)))
    (contract : ∀ (W : World) (base : Nat) (args : Array Value) (ds gs : List (DataW H)) (before : List MemPlace),
      (∀ (j : Nat) t v, fn.params[j]? = some t → args[j]? = some v → Value.okWide C.prog W .any base t v) →
      DataW.Whole enc C.prog fn.params.toList s.vars apart W args.toList ds gs before →
      conds.all (PathCond.test C.prog ⟨fn.params.toList, ds, s.plain.varTypes C.prog, gs⟩) = true →
      (DataW.weightsEach C.prog (fn.params.toList ++ s.plain.varTypes C.prog) (ds ++ gs)).all (· ≤ reachBytes) = true → X W args → W.ShapedOpen C.prog →
      Calls C.prog f args W fun e W' => ∃ v, e = .returned v ∧ s.post enc C.prog fn apart fresh handsOn again W args v W') :
    ReturnsInHanded a C os f .any (fun w args => (s.pre enc C.prog fn conds apart w args ∧ X w args) ∧ sizedMet enc C.prog fn (OpenSpec.ofChange s) apart w args) (s.post enc C.prog fn apart fresh handsOn again) := by
  refine returnsInHanded_of_calls own started noInit witness ?_
  intro w tape i _ hsh _ hok hpre _
  obtain ⟨_, _, _, fn', hfn', _, _, _, _, hval⟩ := hok
  have e : fn' = fn := Option.some.inj (hfn'.symm.trans hfn)
  subst e
  obtain ⟨⟨⟨ds, gs, before, hw, hc⟩, hx⟩, hz⟩ := hpre
  have hw' := DataW.Whole.of_heap (w' := w.forCall tape i) (by rfl) hw
  refine (contract (w.forCall tape i) w.heap.size i.args ds gs before hval hw' hc (hz.weights hw) (hX _ _ _ (by rfl) hx) hsh).mono fun e W' ⟨v, he, hp⟩ => ?_
  subst he
  exact ChangeSpec.post_blind hp
end Go.Vx
