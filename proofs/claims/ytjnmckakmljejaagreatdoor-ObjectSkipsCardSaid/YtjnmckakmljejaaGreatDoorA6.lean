/-
  Part 6 of the proof: the second reading of the model, its laws, and the functions' contracts. Lemmas alone.
-/
import Derived.KernelRfl
import Derived.Test.YtjnmckakmljejaaGreatDoorRows
import Derived.WalkKit
import Derived.ProofKit
import Derived.OpenShut
import Derived.ShutString
import Derived.ChangeOld
import Derived.Below
import Derived.SizedLaws
import Derived.LaidSub
import Derived.Lib.LaidTab
import Derived.Lib.LaidU8
import Derived.LaidLaws
import Derived.WideShapes
import Derived.Test.YtjnmckakmljejaaGreatDoorA1
import Derived.Test.YtjnmckakmljejaaGreatDoorA2
import Derived.Test.YtjnmckakmljejaaGreatDoorA3
import Derived.Test.YtjnmckakmljejaaGreatDoorA4
import Derived.Test.YtjnmckakmljejaaGreatDoorA5
set_option linter.unusedSectionVars false
set_option linter.unusedVariables false
set_option linter.unusedSimpArgs false
namespace Go.Vx
open Go
/-- internal/bytealg.IndexByteString -/
def spec90 : Spec E := fun args os => match args with
  | [.lf (.str s), .lf (.int .u8 c)] => .leaf (.lf (.int .i64 (Lib.indexByte s (UInt8.ofNat c.toNat))), os)
  | _ => .fail
theorem indexByte_le (c : UInt8) : ∀ l : List UInt8, -1 ≤ Lib.indexByte l c ∧ Lib.indexByte l c < (l.length : Int)
  | [] => ⟨Int.le_refl _, show (-1 : Int) < 0 by decide⟩
  | b :: l => by
    have ih := indexByte_le c l
    simp only [Lib.indexByte, List.length_cons]
    split
    · omega
    · split
      · omega
      · omega
theorem indexByte_in {l : List UInt8} {c : UInt8} (h : l.length ≤ big) : inRb .i64 (Lib.indexByte l c) = true := by
  have := indexByte_le c l
  unfold big at h
  rw [inRb_iff]
  simp [IntKind.min, IntKind.max, IntKind.signed, IntKind.bits]
  omega
theorem valid90 (_ : Laws E) : Valid E 90 spec90 :=
  valid_extern (fn := Go.Proofs.Tryz.f90) (e := Extern.BytealgIndexByte.indexByte) (by kernel_rfl) (by kernel_rfl) (by kernel_rfl) (by kernel_rfl) (by kernel_rfl) (fun args os r os' h => by
    unfold spec90 at h
    split at h
    · injection h with h; injection h with h1 h2
      subst h1; subst h2
      refine ⟨rfl, fun G w vals ha => ?_⟩
      obtain ⟨v, u, rfl, hv, hu⟩ := arel_two ha
      obtain ⟨ba, rfl, rfl, hsz⟩ := hv.str_inv
      obtain ⟨rfl, _⟩ := hu.int_inv
      exact ⟨_, Lib.run_indexByteString ba _ w, .lf (.int (indexByte_in hsz))⟩
    · cases h)
end Go.Vx
namespace Go.Vx
open Go
noncomputable def G75 : FuncId → Option (Spec E)
  | 90 => some spec90
  | _ => none
theorem hG75 (hL : Laws E) : ∀ f spec, G75 f = some spec → Valid E f spec := by
  intro f spec h
  unfold G75 at h
  split at h
  · injection h with h; subst h; exact valid90 hL
  · cases h
noncomputable def w75 (a0 : List UInt8) (a1 : Int) : Tree (RV E.A × List (Obj E.A)) :=
 .leaf (.lf (.int .i64 (Go.Lib.indexByte a0 (UInt8.ofNat a1.toNat))), [])
theorem e75 (a0 : List UInt8) (a1 : Int) : execFun E G75 (fun _ _ => .fail) false Go.Proofs.Tryz.f75 [.lf (.str a0), .lf (.int .u8 a1)] [] some = (w75 a0 a1).get := by kernel_rfl
noncomputable def spec75 : Spec E := fun args os => match args, os with
  | [.lf (.str a0), .lf (.int .u8 a1)], [] => w75 a0 a1
  | _, _ => .fail
theorem valid75 (hL : Laws E) : Valid E 75 spec75 :=
  valid_of_body hL (hG75 hL) (Λ := fun _ _ => .fail) (fn := Go.Proofs.Tryz.f75) (keep := false) (by kernel_rfl) (by kernel_rfl) (by kernel_rfl) (LamOK.none (by kernel_rfl)) (fun args os r os' h => by
    unfold spec75 at h
    split at h
    · exact (e75 _ _).trans h
    · cases h)
end Go.Vx
namespace Go.Vx
open Go
noncomputable def G49 : FuncId → Option (Spec E)
  | 75 => some spec75
  | _ => none
theorem hG49 (hL : Laws E) : ∀ f spec, G49 f = some spec → Valid E f spec := by
  intro f spec h
  unfold G49 at h
  split at h
  · injection h with h; subst h; exact valid75 hL
  · cases h
noncomputable def w49 (a0 : List UInt8) (a1 : Int) : Tree (RV E.A × List (Obj E.A)) :=
 .leaf (.lf (.int .i64 (Go.Lib.indexByte a0 (UInt8.ofNat a1.toNat))), [])
theorem e49 (a0 : List UInt8) (a1 : Int) : execFun E G49 (fun _ _ => .fail) false Go.Proofs.Tryz.f49 [.lf (.str a0), .lf (.int .u8 a1)] [] some = (w49 a0 a1).get := by kernel_rfl
noncomputable def spec49 : Spec E := fun args os => match args, os with
  | [.lf (.str a0), .lf (.int .u8 a1)], [] => w49 a0 a1
  | _, _ => .fail
theorem valid49 (hL : Laws E) : Valid E 49 spec49 :=
  valid_of_body hL (hG49 hL) (Λ := fun _ _ => .fail) (fn := Go.Proofs.Tryz.f49) (keep := false) (by kernel_rfl) (by kernel_rfl) (by kernel_rfl) (LamOK.none (by kernel_rfl)) (fun args os r os' h => by
    unfold spec49 at h
    split at h
    · exact (e49 _ _).trans h
    · cases h)
end Go.Vx
namespace Go.Vx
open Go
noncomputable def G34 : FuncId → Option (Spec E)
  | 49 => some spec49
  | _ => none
theorem hG34 (hL : Laws E) : ∀ f spec, G34 f = some spec → Valid E f spec := by
  intro f spec h
  unfold G34 at h
  split at h
  · injection h with h; subst h; exact valid49 hL
  · cases h
noncomputable def w34 (a0 : List UInt8) (a1 : Int) (a2 : List UInt8) : Tree (RV E.A × List (Obj E.A)) :=
 .ite (ltI a1 (↑a0.length : Int))
 (.ite (inB a1 a0.length)
  (.leaf (.lf (.bool (leI (0 : Int) (Go.Lib.indexByte a2 (UInt8.ofNat (↑(a0.getD a1.toNat (0 : UInt8)).toNat : Int).toNat)))), []))
  (.fail))
 (.leaf (.lf (.bool false), []))
theorem e34 (a0 : List UInt8) (a1 : Int) (a2 : List UInt8) : execFun E G34 (fun _ _ => .fail) false Go.Proofs.Tryz.f34 [.lf (.sl .u8 a0), .lf (.int .i64 a1), .lf (.str a2)] [] some = (w34 a0 a1 a2).get := by kernel_rfl
noncomputable def spec34 : Spec E := fun args os => match args, os with
  | [.lf (.sl .u8 a0), .lf (.int .i64 a1), .lf (.str a2)], [] => w34 a0 a1 a2
  | _, _ => .fail
theorem valid34 (hL : Laws E) : Valid E 34 spec34 :=
  valid_of_body hL (hG34 hL) (Λ := fun _ _ => .fail) (fn := Go.Proofs.Tryz.f34) (keep := false) (by kernel_rfl) (by kernel_rfl) (by kernel_rfl) (LamOK.none (by kernel_rfl)) (fun args os r os' h => by
    unfold spec34 at h
    split at h
    · exact (e34 _ _ _).trans h
    · cases h)
end Go.Vx
namespace Go.Vx
open Go
noncomputable def G12 : FuncId → Option (Spec E)
  | 34 => some spec34
  | _ => none
theorem hG12 (hL : Laws E) : ∀ f spec, G12 f = some spec → Valid E f spec := by
  intro f spec h
  unfold G12 at h
  split at h
  · injection h with h; subst h; exact valid34 hL
  · cases h
def L12_0 : Ex → Live
  | .normal => ⟨[0, 1, 5], []⟩
  | .exit 0 => ⟨[1], []⟩
  | .ret => ⟨[4], []⟩
  | _ => ⟨[], []⟩
noncomputable def S12_0 (p0 : List UInt8) (x : Int × Bool) : St E.A := at' E 41 [(0, .lf (.sl .u8 p0)), (1, .lf (.int .i64 x.1)), (5, .lf (.bool x.2))] []
noncomputable def t12_0 (p0 : List UInt8) (x : Int × Bool) : Tree (Int × Bool ⊕ Out' E) :=
 .ite (ltI x.fst (↑p0.length : Int))
 (.ite x.snd
  (.ite (ltI x.fst (↑p0.length : Int))
   (.ite (inB x.fst p0.length)
    (.leaf (.inl ((IntKind.i64.wrap (x.fst + (1 : Int))), (!leI (0 : Int) (Go.Lib.indexByte [(10 : UInt8), (13 : UInt8)] (UInt8.ofNat (↑(p0.getD x.fst.toNat (0 : UInt8)).toNat : Int).toNat))))))
    (.fail))
   (.leaf (.inl ((IntKind.i64.wrap (x.fst + (1 : Int))), !false))))
  (.ite (inB x.fst p0.length)
   (.ite (eqI (↑(p0.getD x.fst.toNat (0 : UInt8)).toNat : Int) (37 : Int))
    (.leaf (.inl ((IntKind.i64.wrap (x.fst + (1 : Int))), true)))
    (.ite (ltI x.fst (↑p0.length : Int))
     (.ite (inB x.fst p0.length)
      (.ite (!leI (0 : Int) (Go.Lib.indexByte [(0 : UInt8), (9 : UInt8), (10 : UInt8), (12 : UInt8), (13 : UInt8), (32 : UInt8)] (UInt8.ofNat (↑(p0.getD x.fst.toNat (0 : UInt8)).toNat : Int).toNat)))
       (.leaf (.inr (.ret, at' E 41 [(4, .lf (.int .i64 x.fst))] [])))
       (.leaf (.inl ((IntKind.i64.wrap (x.fst + (1 : Int))), x.snd))))
      (.fail))
     (.leaf (.inr (.ret, at' E 41 [(4, .lf (.int .i64 x.fst))] [])))))
   (.fail)))
 (.leaf (.inr (.exit 0, at' E 41 [(1, .lf (.int .i64 x.fst))] [])))
theorem h12_0 (p0 : List UInt8) (x : Int × Bool) (k : Ex → St E.A → Option Unit) :
    exec E G12 (fun _ _ => .fail) 1 (lb Go.Proofs.Tryz.f12 0) (S12_0 p0 x) (fun e σ1 => k e (clean E (L12_0 e) σ1)) = (t12_0 p0 x).run (Sum.elim (fun x' => k .normal (S12_0 p0 x')) (fun o => k o.1 o.2)) := by kernel_rfl
noncomputable def lam12_0 (p0 : List UInt8) (x : Int × Bool) : Tree (Out' E) :=
  .ite (leI 0 x.1 && leI x.1 p0.length) (.ite (ltI (x.1 + (Px.skipN x.2 (p0.drop x.1.toNat) : Int)) p0.length)
    (.leaf (.ret, at' E 41 [(4, .lf (.int .i64 (x.1 + (Px.skipN x.2 (p0.drop x.1.toNat) : Int))))] []))
    (.leaf (.exit 0, at' E 41 [(1, .lf (.int .i64 (x.1 + (Px.skipN x.2 (p0.drop x.1.toNat) : Int))))] []))) .fail
/-- one byte of it -/
def step12 {O : Type} (f : Int → O) (i : Nat) (c : Bool) (b : UInt8) : Bool ⊕ O :=
  cond c (.inl (!Px.nl b)) (cond (eqI (b.toNat : Int) 37) (.inl true) (cond (Px.blank (b.toNat : Int)) (.inl false) (.inr (f (i : Int)))))
theorem run12 {O : Type} (f g : Int → O) (n : Nat) : ∀ (l : List UInt8) (i : Nat) (c : Bool), i + l.length = n →
    rangeRun (step12 f) (fun _ => g (n : Int)) i c l = cond (ltI ((i + Px.skipN c l : Nat) : Int) (n : Int)) (f ((i + Px.skipN c l : Nat) : Int)) (g ((i + Px.skipN c l : Nat) : Int))
  | [], i, c, h => by
    have e : Px.skipN c [] = 0 := by cases c <;> rfl
    simp only [List.length_nil, Nat.add_zero] at h
    subst h
    rw [e, Nat.add_zero, ltI_self]; rfl
  | b :: l, i, c, h => by
    have ih := fun c => run12 f g n l (i + 1) c (by simp at h; omega)
    simp only [rangeRun, step12]
    cases c with
    | true =>
      simp only [cond_true, Px.skipN]
      rw [ih, show i + (Px.skipN (!Px.nl b) l + 1) = i + 1 + Px.skipN (!Px.nl b) l by omega]
    | false =>
      simp only [cond_false, Px.skipN]
      cases eqI (b.toNat : Int) 37 with
      | true =>
        simp only [cond_true]
        rw [ih, show i + (Px.skipN true l + 1) = i + 1 + Px.skipN true l by omega]
      | false =>
        cases Px.blank (b.toNat : Int) with
        | true =>
          simp only [cond_true, cond_false]
          rw [ih, show i + (Px.skipN false l + 1) = i + 1 + Px.skipN false l by omega]
        | false =>
          simp only [cond_false, Nat.add_zero]
          have : i < n := by simp at h; omega
          rw [ltI_nat this]; rfl
theorem m12_0 {p0 : List UInt8} {x : Int × Bool} {e : Ex} {σ : St E.A} (g : okLenR (E := E) (.lf (.sl .u8 p0)) = true)
    (h : (lam12_0 p0 x).get = some (e, σ)) : ∃ fuel, iter (t12_0 p0) fuel x = some (e, σ) ∧ e ≠ .normal := by
  have hb : p0.length ≤ big := of_decide_eq_true g
  obtain ⟨i, c⟩ := x
  unfold lam12_0 at h
  have h' := Tree.get_ite_some h
  clear h
  rcases h' with ⟨h1, h⟩ | ⟨_, h⟩
  · simp only [leI_eq, Bool.and_eq_true, decide_eq_true_eq] at h1
    obtain ⟨i, rfl⟩ : ∃ j : Nat, i = (j : Int) := ⟨i.toNat, by omega⟩
    have key := range_iter (t := t12_0 p0) (l := p0) (0 : UInt8) (fun (c : Bool) i => (i, c)) (step12 (fun j => (Ex.ret, at' E 41 [(4, .lf (.int .i64 j))] [])))
      (fun _ => (Ex.exit 0, at' E 41 [(1, .lf (.int .i64 (p0.length : Int)))] [])) (fun _ _ => True)
      (fun i c hi _ => ⟨by
        simp only [t12_0, Tree.get_ite, Tree.get_leaf, ltI_nat hi, inB_nat hi, cond_true, i64_succ hi hb, Int.toNat_natCast, UInt8.ofNat_toNat, nl_any, blank_any, step12]
        cases c <;> cases eqI ((p0.getD i 0).toNat : Int) 37 <;> cases Px.blank ((p0.getD i 0).toNat : Int) <;> rfl, fun _ _ => trivial⟩)
      (fun a _ => by simp only [t12_0, Tree.get_ite, Tree.get_leaf, ltI_self, cond_false])
      (p0.length - i) i c (by omega) trivial
    rw [run12 (fun j => (Ex.ret, at' E 41 [(4, .lf (.int .i64 j))] [])) (fun j => (Ex.exit 0, at' E 41 [(1, .lf (.int .i64 j))] [])) p0.length _ _ _ (by simp; omega)] at key
    rw [Tree.get_ite, Tree.get_leaf, Tree.get_leaf] at h
    simp only [Int.toNat_natCast, ← Int.natCast_add] at h
    refine ⟨_, key.trans ?_, ?_⟩
    · rw [← h]; cases ltI ((i + Px.skipN c (p0.drop i) : Nat) : Int) (p0.length : Int) <;> rfl
    · cases hd : ltI ((i + Px.skipN c (p0.drop i) : Nat) : Int) (p0.length : Int) <;> rw [hd] at h <;> (injection h with h; injection h with h1 _; rw [← h1]; intro hh; cases hh)
  · cases h
noncomputable def rd12_0 (σ : St E.A) : Tree (Out' E) :=
  let c := clean E (L12_0 .normal) σ
  if c.sl.length = 41 then
  match c.sl.getD 0 .undef, c.sl.getD 1 .undef, c.sl.getD 5 .undef with
  | .lf (.sl .u8 p0), .lf (.int .i64 x1), .lf (.bool x5) => lam12_0 p0 (x1, x5)
  | _, _, _ => .fail
  else .fail
theorem ll12_0 (hL : Laws E) (σ : St E.A) (e : Ex) (σ' : St E.A) (h : (rd12_0 σ).get = some (e, σ')) : LoopOK E (lb Go.Proofs.Tryz.f12 0) σ e σ' := by
  refine LoopOK.of_clean hL (L12_0 .normal) ?_
  unfold rd12_0 at h
  simp only at h
  split at h
  · rename_i hlen
    split at h
    · rename_i p0 x1 x5 h0 h1 h2
      refine LoopOK.lens 0 (fun g0 => ?_)
      rw [h0] at g0
      obtain ⟨fuel, hi, ho⟩ := m12_0 g0 h
      have hl := loop_at (Γ := G12) (Λ := fun _ _ => .fail) (n := 1) (body := lb Go.Proofs.Tryz.f12 0) hL (hG12 hL) (S := S12_0 p0) (t := t12_0 p0) (Lv := L12_0) (LamOK.none (by kernel_rfl)) (h12_0 p0) hi ho
      refine LoopOK.fit hlen ?_ ?_ rfl rfl hl
      · exact ⟨h0, h1, h2, trivial⟩
      · exact trivial
    · cases h
  · cases h
noncomputable def Lam12 : Lam E
  | 0, σ => rd12_0 σ
  | _, _ => .fail
noncomputable def w12 (a0 : List UInt8) (a1 : Int) : Tree (RV E.A × List (Obj E.A)) :=
 .ite (ltI a1 (0 : Int))
 (.leaf (.lf (.int .i64 ((↑a0.length : Int))), []))
 (.ite (ltI (↑a0.length : Int) a1)
  (.leaf (.lf (.int .i64 ((↑a0.length : Int))), []))
  (.ite (leI (0 : Int) a1 && leI a1 (↑a0.length : Int))
   (.ite (ltI (a1 + (↑(Px.skipN false (List.drop a1.toNat a0)) : Int)) (↑a0.length : Int))
    (.leaf (.lf (.int .i64 (a1 + (↑(Px.skipN false (List.drop a1.toNat a0)) : Int))), []))
    (.leaf (.lf (.int .i64 (a1 + (↑(Px.skipN false (List.drop a1.toNat a0)) : Int))), [])))
   (.fail)))
theorem e12 (a0 : List UInt8) (a1 : Int) : execFun E G12 ((Lam12)) false Go.Proofs.Tryz.f12 [.lf (.sl .u8 a0), .lf (.int .i64 a1)] [] some = (w12 a0 a1).get := by kernel_rfl
noncomputable def raw12 : Spec E := fun args os => match args, os with
  | [.lf (.sl .u8 a0), .lf (.int .i64 a1)], [] => w12 a0 a1
  | _, _ => .fail
theorem validraw12 (hL : Laws E) : Valid E 12 raw12 :=
  valid_of_body hL (hG12 hL) (Λ := (Lam12)) (fn := Go.Proofs.Tryz.f12) (keep := false) (by kernel_rfl) (by kernel_rfl) (by kernel_rfl) ((LamOK.of (m := 1) (by kernel_rfl) (fun j hj σ e σ' hg => by
      match j, hj with
      | 0, _ => exact ll12_0 hL σ e σ' hg
      ))) (fun args os r os' h => by
    unfold raw12 at h
    split at h
    · exact (e12 _ _).trans h
    · cases h)
end Go.Vx
namespace Px
open Go.Vx Go
/-- the next byte that counts, from any place on -/
def skipI (p : List UInt8) (i : Int) : Int := cond (ltI i 0 || ltI (p.length : Int) i) (p.length : Int) (i + (skipN false (p.drop i.toNat) : Int))
end Px
namespace Go.Vx
open Go
theorem eq12 (p : List UInt8) (i : Nat) (hi : i ≤ p.length) : (w12 p (i : Int)).get = some (.lf (.int .i64 ((i + Px.skipN false (p.drop i) : Nat) : Int)), []) := by
  have e0 : ltI (i : Int) 0 = false := by rw [ltI_eq]; exact decide_eq_false (by omega)
  have e1 : ltI (p.length : Int) (i : Int) = false := by rw [ltI_eq]; exact decide_eq_false (by omega)
  have h1 : (leI 0 (i : Int) && leI (i : Int) p.length) = true := by simp only [leI_eq, Bool.and_eq_true, decide_eq_true_eq]; omega
  unfold w12
  simp only [Tree.get_ite, Tree.get_leaf, e0, e1, h1, cond_true, cond_false, Int.toNat_natCast, Int.natCast_add]
  cases ltI ((i : Int) + (Px.skipN false (p.drop i) : Int)) (p.length : Int) <;> rfl
theorem eqI12 (p : List UInt8) (i : Int) : (w12 p i).get = some (.lf (.int .i64 (Px.skipI p i)), []) := by
  unfold Px.skipI
  cases c1 : ltI i 0 with
  | true => unfold w12; rw [Tree.get_ite, c1]; rfl
  | false =>
    cases c2 : ltI (p.length : Int) i with
    | true => unfold w12; rw [Tree.get_ite, c1, cond_false, Tree.get_ite, c2]; rfl
    | false =>
      rw [ltI_eq, decide_eq_false_iff_not] at c1 c2
      obtain ⟨j, rfl⟩ : ∃ j : Nat, i = (j : Int) := ⟨i.toNat, by omega⟩
      rw [eq12 p j (by omega), Int.toNat_natCast, ← Int.natCast_add]
      rfl
noncomputable def spec12 : Spec E := fun args os => match args, os with
  | [.lf (.sl .u8 p), .lf (.int .i64 i)], [] => .leaf (.lf (.int .i64 (Px.skipI p i)), [])
  | _, _ => .fail
theorem valid12 (hL : Laws E) : Valid E 12 spec12 := (validraw12 hL).less (fun args os x _ _ h => by
  unfold spec12 at h
  split at h
  · exact (eqI12 _ _).trans h
  · cases h)
end Go.Vx
namespace Go.Vx
open Go
/-- internal/bytealg.IndexByte -/
def spec91 : Spec E := fun args os => match args with
  | [.lf (.sl .u8 s), .lf (.int .u8 c)] => .leaf (.lf (.int .i64 (Lib.indexByte s (UInt8.ofNat c.toNat))), os)
  | _ => .fail
theorem bytesOf_nat : ∀ s : List UInt8, Lib.bytesOf (s.map fun b => (b.toNat : Int)) = s
  | [] => rfl
  | b :: s => by
    have ih := bytesOf_nat s
    simp only [Lib.bytesOf, List.map_cons, List.map_map] at ih ⊢
    rw [ih]
    congr 1
    simp
theorem valid91 (_ : Laws E) : Valid E 91 spec91 :=
  valid_extern (fn := Go.Proofs.Tryz.f91) (e := Extern.BytealgIndexByte.indexByte) (by kernel_rfl) (by kernel_rfl) (by kernel_rfl) (by kernel_rfl) (by kernel_rfl) (fun args os r os' h => by
    unfold spec91 at h
    split at h
    · rename_i s c
      injection h with h; injection h with h1 h2
      subst h1; subst h2
      refine ⟨rfl, fun G w vals ha => ?_⟩
      obtain ⟨v, u, rfl, hv, hu⟩ := arel_two ha
      obtain ⟨rfl, _⟩ := hu.int_inv
      have hb : s.length ≤ big := by
        have := okLen_ok hv.lf_inv
        exact of_decide_eq_true this
      refine ⟨_, ?_, .lf (.int (indexByte_in hb))⟩
      cases hv.lf_inv with
      | sl0 k a cap _ =>
        cases a with
        | none => exact @Lib.run_indexByteNil E.P w 0 cap c
        | some a =>
          exact @Lib.run_indexByteNil E.P w 0 cap c
      | sl k xs b off cap vals h1 h2 h3 h4 =>
        have := Lib.run_indexByteSlice (P := E.P) (w := w) b off s.length cap (s.map fun b => (b.toNat : Int)) (by simp) (fun i hi => by
          have hx : s[i]? = some s[i] := List.getElem?_eq_getElem hi
          have hc := (h3 i 0 hi (by decide)).1
          have hr := h4 i _ hx 0 _ rfl
          have e1 : (s.map fun b => (b.toNat : Int)).getD i 0 = (s[i].toNat : Int) := by simp [List.getD, hx]
          rw [e1]
          have e2 : off + i * E.sz .u8 + 0 = off + i := by show off + i * 1 + 0 = _; omega
          rw [e2] at hc
          rw [hc]
          generalize vals i 0 = vv at hr
          obtain ⟨rfl, _⟩ := (RRep.lf hr).int_inv
          rfl) c
        exact this.trans (congrArg (fun l => Result.ok (Value.int IntKind.i64 (Lib.indexByte l c.toNat.toUInt8)) w) (bytesOf_nat s))
    · cases h)
end Go.Vx
namespace Go.Vx
open Go
noncomputable def G76 : FuncId → Option (Spec E)
  | 91 => some spec91
  | _ => none
theorem hG76 (hL : Laws E) : ∀ f spec, G76 f = some spec → Valid E f spec := by
  intro f spec h
  unfold G76 at h
  split at h
  · injection h with h; subst h; exact valid91 hL
  · cases h
noncomputable def w76 (a0 : List UInt8) (a1 : Int) : Tree (RV E.A × List (Obj E.A)) :=
 .leaf (.lf (.int .i64 (Go.Lib.indexByte a0 (UInt8.ofNat a1.toNat))), [])
theorem e76 (a0 : List UInt8) (a1 : Int) : execFun E G76 (fun _ _ => .fail) false Go.Proofs.Tryz.f76 [.lf (.sl .u8 a0), .lf (.int .u8 a1)] [] some = (w76 a0 a1).get := by kernel_rfl
noncomputable def spec76 : Spec E := fun args os => match args, os with
  | [.lf (.sl .u8 a0), .lf (.int .u8 a1)], [] => w76 a0 a1
  | _, _ => .fail
theorem valid76 (hL : Laws E) : Valid E 76 spec76 :=
  valid_of_body hL (hG76 hL) (Λ := fun _ _ => .fail) (fn := Go.Proofs.Tryz.f76) (keep := false) (by kernel_rfl) (by kernel_rfl) (by kernel_rfl) (LamOK.none (by kernel_rfl)) (fun args os r os' h => by
    unfold spec76 at h
    split at h
    · exact (e76 _ _).trans h
    · cases h)
end Go.Vx
namespace Go.Vx
open Go
noncomputable def G92 : FuncId → Option (Spec E) := fun _ => none
theorem hG92 (hL : Laws E) : ∀ f spec, G92 f = some spec → Valid E f spec := by
  intro f spec h
  cases h
noncomputable def w92 (a0 : List UInt8) (a1 : List UInt8) : Tree (RV E.A × List (Obj E.A)) :=
 .leaf (.lf (.bool (decide (a0 = a1))), [])
theorem e92 (a0 : List UInt8) (a1 : List UInt8) : execFun E G92 (fun _ _ => .fail) false Go.Proofs.Tryz.f92 [.lf (.sl .u8 a0), .lf (.sl .u8 a1)] [] some = (w92 a0 a1).get := by kernel_rfl
noncomputable def spec92 : Spec E := fun args os => match args, os with
  | [.lf (.sl .u8 a0), .lf (.sl .u8 a1)], [] => w92 a0 a1
  | _, _ => .fail
theorem valid92 (hL : Laws E) : Valid E 92 spec92 :=
  valid_of_body hL (hG92 hL) (Λ := fun _ _ => .fail) (fn := Go.Proofs.Tryz.f92) (keep := false) (by kernel_rfl) (by kernel_rfl) (by kernel_rfl) (LamOK.none (by kernel_rfl)) (fun args os r os' h => by
    unfold spec92 at h
    split at h
    · exact (e92 _ _).trans h
    · cases h)
end Go.Vx
namespace Go.Vx
open Go
noncomputable def G78 : FuncId → Option (Spec E)
  | 92 => some spec92
  | _ => none
theorem hG78 (hL : Laws E) : ∀ f spec, G78 f = some spec → Valid E f spec := by
  intro f spec h
  unfold G78 at h
  split at h
  · injection h with h; subst h; exact valid92 hL
  · cases h
noncomputable def w78 (a0 : List UInt8) (a1 : List UInt8) : Tree (RV E.A × List (Obj E.A)) :=
 .ite (leI (↑a1.length : Int) (↑a0.length : Int))
 (.ite (leI (0 : Int) (↑(0 : Nat) : Int) && leI (↑(0 : Nat) : Int) (↑a1.length : Int) && leI (↑a1.length : Int) (↑a0.length : Int))
  (.leaf (.lf (.bool (decide (List.drop (↑(0 : Nat) : Int).toNat (List.take (↑a1.length : Int).toNat a0) = a1))), []))
  (.fail))
 (.leaf (.lf (.bool false), []))
theorem e78 (a0 : List UInt8) (a1 : List UInt8) : execFun E G78 (fun _ _ => .fail) false Go.Proofs.Tryz.f78 [.lf (.sl .u8 a0), .lf (.sl .u8 a1)] [] some = (w78 a0 a1).get := by kernel_rfl
noncomputable def raw78 : Spec E := fun args os => match args, os with
  | [.lf (.sl .u8 a0), .lf (.sl .u8 a1)], [] => w78 a0 a1
  | _, _ => .fail
theorem validraw78 (hL : Laws E) : Valid E 78 raw78 :=
  valid_of_body hL (hG78 hL) (Λ := fun _ _ => .fail) (fn := Go.Proofs.Tryz.f78) (keep := false) (by kernel_rfl) (by kernel_rfl) (by kernel_rfl) (LamOK.none (by kernel_rfl)) (fun args os r os' h => by
    unfold raw78 at h
    split at h
    · exact (e78 _ _).trans h
    · cases h)
theorem eq78 (s p : List UInt8) : (w78 s p).get = some (.lf (.bool (Px.hasPre s p)), []) := by
  unfold w78
  have hl : (leI (p.length : Int) (s.length : Int)) = decide (p.length ≤ s.length) := by rw [leI_eq]; exact decide_eq_decide.2 (by omega)
  rw [Tree.get_ite, hl]
  by_cases h : p.length ≤ s.length
  · have c : (leI (0 : Int) (↑(0 : Nat) : Int) && leI (↑(0 : Nat) : Int) (↑p.length : Int) && true) = true := by
      simp [leI_eq]
    rw [decide_eq_true h, cond_true, Tree.get_ite, c]
    rfl
  · rw [decide_eq_false h, cond_false]
    have : Px.hasPre s p = false := decide_eq_false fun hh => h (by rw [← hh, List.length_take]; omega)
    rw [this]; rfl
noncomputable def spec78 : Spec E := fun args os => match args, os with
  | [.lf (.sl .u8 s), .lf (.sl .u8 p)], [] => .leaf (.lf (.bool (Px.hasPre s p)), [])
  | _, _ => .fail
theorem valid78 (hL : Laws E) : Valid E 78 spec78 := (validraw78 hL).less (fun args os x g1 g2 h => by
  unfold spec78 at h
  split at h
  · exact (eq78 _ _).trans h
  · cases h)
end Go.Vx
namespace Go.Vx
open Go
theorem loopAt_in : ∀ (c : Code) (j : Nat) (b : Code) (i : Nat) (b' : Code), loopAt c j = some b → loopAt b i = some b' → loopAt c (j + 1 + i) = some b'
  | .seq a d, j, b, i, b', h, hi => by
    simp only [loopAt] at h ⊢
    split at h
    · have := loopAt_in a j b i b' h hi
      have hl := loopAt_lt a _ _ this
      rw [if_pos hl]; exact this
    · have := loopAt_in d _ b i b' h hi
      rw [if_neg (by omega), show j + 1 + i - loops a = j - loops a + 1 + i by omega]; exact this
  | .cond _ a d, j, b, i, b', h, hi => by
    simp only [loopAt] at h ⊢
    split at h
    · have := loopAt_in a j b i b' h hi
      have hl := loopAt_lt a _ _ this
      rw [if_pos hl]; exact this
    · have := loopAt_in d _ b i b' h hi
      rw [if_neg (by omega), show j + 1 + i - loops a = j - loops a + 1 + i by omega]; exact this
  | .block _ a, j, b, i, b', h, hi => by
    simp only [loopAt] at h ⊢
    exact loopAt_in a j b i b' h hi
  | .scope a, j, b, i, b', h, hi => by
    simp only [loopAt] at h ⊢
    exact loopAt_in a j b i b' h hi
  | .loop a, j, b, i, b', h, hi => by
    simp only [loopAt] at h ⊢
    rw [if_neg (by omega)]
    split at h
    · injection h with h; subst h
      rw [show j + 1 + i - 1 = i by omega]; exact hi
    · have := loopAt_in a _ b i b' h hi
      rw [show j + 1 + i - 1 = j - 1 + 1 + i by omega]; exact this
  | .rangeFunc _ _ _ a, j, b, i, b', h, hi => by
    simp only [loopAt] at h ⊢
    rw [if_neg (by omega)]
    split at h
    · cases h
    · have := loopAt_in a _ b i b' h hi
      rw [show j + 1 + i - 1 = j - 1 + 1 + i by omega]; exact this
  | .skip, _, _, _, _, h, _ => by cases h
  | .region .., _, _, _, _, h, _ => by cases h
  | .exit _, _, _, _, _, h, _ => by cases h
  | .ret, _, _, _, _, h, _ => by cases h
  | .refuse _, _, _, _, _, h, _ => by cases h
theorem ranges_in : ∀ (c : Code) (j : Nat) (b : Code), loopAt c j = some b → ranges c = false → ranges b = false
  | .seq a d, j, b, h, hr => by
    simp only [loopAt] at h
    simp only [ranges, Bool.or_eq_false_iff] at hr
    split at h
    · exact ranges_in a j b h hr.1
    · exact ranges_in d _ b h hr.2
  | .cond _ a d, j, b, h, hr => by
    simp only [loopAt] at h
    simp only [ranges, Bool.or_eq_false_iff] at hr
    split at h
    · exact ranges_in a j b h hr.1
    · exact ranges_in d _ b h hr.2
  | .block _ a, j, b, h, hr => ranges_in a j b h hr
  | .scope a, j, b, h, hr => ranges_in a j b h hr
  | .loop a, j, b, h, hr => by
    simp only [loopAt] at h
    split at h
    · injection h with h; subst h; exact hr
    · exact ranges_in a _ b h hr
  | .rangeFunc _ _ _ a, j, b, h, hr => by cases hr
  | .skip, _, _, h, _ => by cases h
  | .region .., _, _, h, _ => by cases h
  | .exit _, _, _, h, _ => by cases h
  | .ret, _, _, h, _ => by cases h
  | .refuse _, _, _, h, _ => by cases h
section
variable {Key : Type} [DecidableEq Key] (E : Env Key)
/-- a loop, round by round -/
def unroll (run : St E.A → (Ex → St E.A → Option (Ex × St E.A)) → Option (Ex × St E.A)) : Nat → St E.A → Option (Ex × St E.A)
  | 0, _ => none
  | n + 1, σ => run σ fun e σ1 => match e with
    | .normal => unroll run n σ1
    | e => some (e, σ1)
def ofOpt {α : Type} : Option α → Tree α
  | some x => .leaf x
  | none => .fail
/-- a code's loops, as deep as that -/
noncomputable def lamD (Γ : FuncId → Option (Spec E)) (c : Code) (fuel : Nat) : Nat → Lam E
  | 0 => fun _ _ => .fail
  | d + 1 => fun j σ => match loopAt c j with
    | some body => ofOpt (unroll E (exec E Γ (lamD Γ c fuel d) (j + 1) body) fuel σ)
    | none => .fail
/-- callees: those that are told, the places of rows that are written into, and the others in their places -/
def gam (base : FuncId → Option (Spec E)) (bufs : List Nat) (next : FuncId → Spec E) : FuncId → Option (Spec E) := fun g =>
  cond (Nat.ble bufBase g) (cond (bufs.contains (g - bufBase)) (some fun _ _ => .fail) none) (match base g with | some s => some s | none => some (next g))
/-- a function, told by running it -/
noncomputable def deep (base : FuncId → Option (Spec E)) (bufs : FuncId → List Nat) (fuel depth : Nat) : Nat → FuncId → Spec E
  | 0, _ => fun _ _ => .fail
  | n + 1, f => fun args os => match E.P.funcs[f]? with
    | some fn => cond (fn.body.isSome && !(fn.name == "runtime.NumGoroutine") && !ranges (fn.body.getD .skip))
        (ofOpt (execFun E (gam E base (bufs f) (deep base bufs fuel depth n)) (lamD E (gam E base (bufs f) (deep base bufs fuel depth n)) (fn.body.getD .skip) fuel depth) false fn args os some)) .fail
    | none => .fail
variable {E}
theorem ofOpt_get {α : Type} {o : Option α} : (ofOpt o).get = o := by cases o <;> rfl
theorem loop_unroll (hL : Laws E) {Γ : FuncId → Option (Spec E)} (hΓ : ∀ f spec, Γ f = some spec → Valid E f spec) {Λ : Lam E} {n : Nat} {body : Code} (hΛ : LamOK E Λ n body) (hno : ranges body = false)
    (fuel : Nat) (σ : St E.A) (e : Ex) (σ' : St E.A) (h : unroll E (exec E Γ Λ n body) fuel σ = some (e, σ')) : LoopOK E body σ e σ' := by
  intro Y G0 w0 a0 hr0
  have key : ∀ (fuel : Nat) (σ : St E.A), unroll E (exec E Γ Λ n body) fuel σ = some (e, σ') → ∀ (G : Gh) (w : World) (a : Act) (Q : Exit → Act → World → Prop), VRel E σ G w a.tmps → (∀ a' w', Good E σ' a G w a' w' → Q (exOf e) a' w') → roundsS Y.W body Q fuel a w := by
    intro fuel
    induction fuel with
    | zero => intro σ hi; cases hi
    | succ fuel ih =>
      intro σ hi G w a Q hr hQ
      show Y.W body (Exit.then (roundsS Y.W body Q fuel) Q) a w
      simp only [unroll] at hi
      refine Y.mono (exec_ok Y false (fun h => by cases h) hL hΓ body n hΛ (fun h => by cases h) (fun _ => hno) σ _ G w a hr hi) (fun e1 a1 w1 hw => ?_)
      obtain ⟨ex, σ1, rfl, hkk, hg1⟩ := hw
      have hg := hg1.good
      obtain ⟨hd, G1, hr1, hf1⟩ := hg
      cases ex with
      | normal => exact ih σ1 hkk G1 w1 a1 Q hr1 (fun a' w' hg => hQ a' w' (Good.trans (σ := σ) hd hf1 hg))
      | exit id => injection hkk with hkk; injection hkk with h1 h2; subst h1; subst h2; exact hQ a1 w1 ⟨hd, G1, hr1, hf1⟩
      | ret => injection hkk with hkk; injection hkk with h1 h2; subst h1; subst h2; exact hQ a1 w1 ⟨hd, G1, hr1, hf1⟩
  exact Y.rounds fuel (key fuel σ h G0 w0 a0 _ hr0 (fun a' w' hg => ⟨rfl, hg⟩))
theorem lamD_ok (hL : Laws E) {Γ : FuncId → Option (Spec E)} (hΓ : ∀ f spec, Γ f = some spec → Valid E f spec) {c : Code} (hno : ranges c = false) (fuel : Nat) :
    ∀ (d : Nat) (j : Nat) (body : Code), loopAt c j = some body → ∀ σ e σ', (lamD E Γ c fuel d j σ).get = some (e, σ') → LoopOK E body σ e σ'
  | 0, j, body, hj, σ, e, σ', h => by cases h
  | d + 1, j, body, hj, σ, e, σ', h => by
    simp only [lamD, hj, ofOpt_get] at h
    refine loop_unroll hL hΓ (n := j + 1) (fun i b hi σ1 e1 σ2 hg => ?_) (ranges_in c j body hj hno) fuel σ e σ' h
    exact lamD_ok hL hΓ hno fuel d (j + 1 + i) b (loopAt_in c j body i b hj hi) σ1 e1 σ2 hg
theorem valid_deep (hL : Laws E) {base : FuncId → Option (Spec E)} (hb : ∀ f spec, base f = some spec → Valid E f spec) (bufs : FuncId → List Nat) (fuel depth : Nat) :
    ∀ (n : Nat) (f : FuncId), Valid E f (deep E base bufs fuel depth n f)
  | 0, f => Valid.never fun _ _ => rfl
  | n + 1, f => by
    have ih := valid_deep hL hb bufs fuel depth n
    have hG : ∀ g spec, gam E base (bufs f) (deep E base bufs fuel depth n) g = some spec → Valid E g spec := by
      intro g spec hg
      unfold gam at hg
      cases h1 : Nat.ble bufBase g with
      | true =>
        rw [h1, cond_true] at hg
        cases h2 : (bufs f).contains (g - bufBase) with
        | true => rw [h2, cond_true] at hg; injection hg with hg; subst hg; exact Valid.never fun _ _ => rfl
        | false => rw [h2, cond_false] at hg; cases hg
      | false =>
        rw [h1, cond_false] at hg
        split at hg
        · rename_i s hs
          injection hg with hg; subst hg
          exact hb g s hs
        · injection hg with hg; subst hg; exact ih g
    cases hf : E.P.funcs[f]? with
    | none => exact Valid.never fun args os => by simp only [deep, hf]; rfl
    | some fn =>
      cases hc : (fn.body.isSome && !(fn.name == "runtime.NumGoroutine") && !ranges (fn.body.getD .skip)) with
      | false => exact Valid.never fun args os => by simp only [deep, hf, hc]; rfl
      | true =>
        simp only [Bool.and_eq_true, Bool.not_eq_true'] at hc
        obtain ⟨⟨c1, c2⟩, c3⟩ := hc
        have hbody : fn.body = some (fn.body.getD .skip) := by
          cases hh : fn.body with
          | none => rw [hh] at c1; cases c1
          | some c => rfl
        refine valid_of_body hL hG (Λ := lamD E (gam E base (bufs f) (deep E base bufs fuel depth n)) (fn.body.getD .skip) fuel depth) (keep := false) hf hbody c2 ⟨fun j body hj σ e σ' hg => ?_, c3⟩ (fun args os r os' h => ?_)
        · rw [Nat.zero_add] at hg
          exact lamD_ok hL hG c3 fuel depth j body hj σ e σ' hg
        · simp only [deep, hf, c1, c2, c3, Bool.not_false, Bool.and_self, cond_true, ofOpt_get] at h
          exact h
end
end Go.Vx
namespace Go.Vx
open Go
/-- callees that are told -/
noncomputable def B10 : FuncId → Option (Spec E)
  | 12 => some spec12
  | 34 => some spec34
  | 49 => some spec49
  | 75 => some spec75
  | 76 => some spec76
  | 78 => some spec78
  | 80 => some spec80
  | 90 => some spec90
  | 92 => some spec92
  | 94 => some spec94
  | 95 => some spec95
  | 96 => some spec96
  | 97 => some spec97
  | 98 => some spec98
  | _ => none
theorem hB10 (hL : Laws E) : ∀ f spec, B10 f = some spec → Valid E f spec := by
  intro f spec h
  unfold B10 at h
  split at h
  · injection h with h; subst h; exact valid12 hL
  · injection h with h; subst h; exact valid34 hL
  · injection h with h; subst h; exact valid49 hL
  · injection h with h; subst h; exact valid75 hL
  · injection h with h; subst h; exact valid76 hL
  · injection h with h; subst h; exact valid78 hL
  · injection h with h; subst h; exact valid80 hL
  · injection h with h; subst h; exact valid90 hL
  · injection h with h; subst h; exact valid92 hL
  · injection h with h; subst h; exact valid94 hL
  · injection h with h; subst h; exact valid95 hL
  · injection h with h; subst h; exact valid96 hL
  · injection h with h; subst h; exact valid97 hL
  · injection h with h; subst h; exact valid98 hL
  · cases h
theorem e10 : (deep E B10 (fun _ => []) 60 3 40 10 [] []).get = some (.lf (.bool true), []) := by kernel_rfl
noncomputable def spec10 : Spec E := fun args os => match args, os with
  | [], [] => .leaf (.lf (.bool true), [])
  | _, _ => .fail
theorem valid10 (hL : Laws E) : Valid E 10 spec10 := (valid_deep hL (hB10 hL) (fun _ => []) 60 3 40 10).less (fun args os x _ _ h => by
  unfold spec10 at h
  split at h
  · exact e10.trans h
  · cases h)
end Go.Vx
namespace Go.Vx
open Go
noncomputable def G11 : FuncId → Option (Spec E) := fun _ => none
theorem hG11 (hL : Laws E) : ∀ f spec, G11 f = some spec → Valid E f spec := by
  intro f spec h
  cases h
def L11_0 : Ex → Live
  | .normal => ⟨[1, 5, 8, 9, 10], []⟩
  | .exit 0 => ⟨[5], []⟩
  | .ret => ⟨[4], []⟩
  | _ => ⟨[], []⟩
noncomputable def S11_0 (p1 : Int) (p8 : List UInt8) (p9 : Int) (x : (List UInt8) × Int) : St E.A := at' E 24 [(1, .lf (.int .i64 p1)), (5, .lf (.own 0 0 .u8 x.1)), (8, .lf (.sl .u8 p8)), (9, .lf (.int .i64 p9)), (10, .lf (.int .i64 x.2))] []
noncomputable def t11_0 (p1 : Int) (p8 : List UInt8) (p9 : Int) (x : (List UInt8) × Int) : Tree ((List UInt8) × Int ⊕ Out' E) :=
 .ite (ltI x.snd p9)
 (.ite (inB x.snd p8.length)
  (.ite (ltI x.snd p1)
   (.ite (decide ((x.fst.length + [UInt8.ofNat (↑(p8.getD x.snd.toNat (0 : UInt8)).toNat : Int).toNat].length) * (1 : Nat) ≤ (140737488355328 : Nat)))
    (.leaf (.inl ((x.fst ++ [UInt8.ofNat (↑(p8.getD x.snd.toNat (0 : UInt8)).toNat : Int).toNat]), (IntKind.i64.wrap (x.snd + (1 : Int))))))
    (.fail))
   (.leaf (.inl (x.fst, (IntKind.i64.wrap (x.snd + (1 : Int)))))))
  (.fail))
 (.leaf (.inr (.exit 0, at' E 24 [(5, .lf (.own 0 0 .u8 x.fst))] [])))
theorem h11_0 (p1 : Int) (p8 : List UInt8) (p9 : Int) (x : (List UInt8) × Int) (k : Ex → St E.A → Option Unit) :
    exec E G11 (fun _ _ => .fail) 1 (lb Go.Proofs.Tryz.f11 0) (S11_0 p1 p8 p9 x) (fun e σ1 => k e (clean E (L11_0 e) σ1)) = (t11_0 p1 p8 p9 x).run (Sum.elim (fun x' => k .normal (S11_0 p1 p8 p9 x')) (fun o => k o.1 o.2)) := by kernel_rfl
noncomputable def lam11_0 (p1 : Int) (p8 : List UInt8) (p9 : Int) (x : (List UInt8) × Int) : Tree (Out' E) :=
  .ite (eqI p9 p8.length && leI 0 x.2 && leI x.2 p9 && leI 0 p1 && decide (x.1.length + (p8.length - x.2.toNat) ≤ 140737488355328))
   (.leaf (.exit 0, at' E 24 [(5, .lf (.own 0 0 .u8 (x.1 ++ (p8.drop x.2.toNat).take (p1.toNat - x.2.toNat))))] [])) .fail
theorem run11 (m : Nat) (f : List UInt8 → Out' E) : ∀ (l : List UInt8) (i : Nat) (acc : List UInt8),
    rangeRun (fun i (acc : List UInt8) (b : UInt8) => (.inl (if i < m then acc ++ [b] else acc) : List UInt8 ⊕ Out' E)) f i acc l = f (acc ++ l.take (m - i))
  | [], i, acc => by simp [rangeRun]
  | c :: l, i, acc => by
    simp only [rangeRun]
    rw [run11 m f l (i + 1)]
    by_cases hi : i < m
    · rw [if_pos hi]
      have : m - i = (m - (i + 1)) + 1 := by omega
      rw [this, List.take_succ_cons]; simp
    · rw [if_neg hi]
      have e1 : m - (i + 1) = 0 := by omega
      have e2 : m - i = 0 := by omega
      rw [e1, e2]; simp
theorem m11_0 {p1 : Int} {p8 : List UInt8} {p9 : Int} {x : (List UInt8) × Int} {e : Ex} {σ : St E.A} (_ : okLenR (E := E) (.lf (.own 0 0 .u8 x.1)) = true) (g : okLenR (E := E) (.lf (.sl .u8 p8)) = true)
    (h : (lam11_0 p1 p8 p9 x).get = some (e, σ)) : ∃ fuel, iter (t11_0 p1 p8 p9) fuel x = some (e, σ) ∧ e ≠ .normal := by
  have hb : p8.length ≤ big := of_decide_eq_true g
  obtain ⟨acc, i⟩ := x
  unfold lam11_0 at h
  have h' := Tree.get_ite_some h
  clear h
  rcases h' with ⟨h1, h⟩ | ⟨_, h⟩
  · simp only [eqI_eq, leI_eq, Bool.and_eq_true, decide_eq_true_eq] at h1
    obtain ⟨⟨⟨⟨rfl, h3⟩, h4⟩, h5⟩, h6⟩ := h1
    simp only at h3 h4 h6 h
    obtain ⟨i, rfl⟩ : ∃ j : Nat, i = (j : Int) := ⟨i.toNat, by omega⟩
    obtain ⟨m, rfl⟩ : ∃ j : Nat, p1 = (j : Int) := ⟨p1.toNat, by omega⟩
    rw [Int.toNat_natCast] at h6
    have key := range_iter (t := t11_0 m p8 p8.length) (l := p8) (0 : UInt8) (fun (a : List UInt8) i => (a, i)) (fun i a b => .inl (if i < m then a ++ [b] else a))
      (fun a => (Ex.exit 0, at' E 24 [(5, .lf (.own 0 0 .u8 a))] [])) (fun i a => a.length + (p8.length - i) ≤ 140737488355328)
      (fun i a hi ho => ⟨by
        have hr : (a.length + 1) * 1 ≤ 140737488355328 := by omega
        simp only [t11_0, Tree.get_ite, Tree.get_leaf, ltI_nat hi, inB_nat hi, cond_true, i64_succ hi hb, Int.toNat_natCast, u8_rt, List.length_cons, List.length_nil, Nat.zero_add, hr, decide_true, ltI_eq]
        by_cases hc : i < m
        · have : (i : Int) < (m : Int) := by omega
          simp [hc, this]
        · have : ¬ (i : Int) < (m : Int) := by omega
          simp [hc, this], fun a' h => by
        injection h with h
        subst h
        split
        · simp; omega
        · omega⟩)
      (fun a _ => by simp only [t11_0, Tree.get_ite, Tree.get_leaf, ltI_self, cond_false])
      (p8.length - i) i acc (by omega) h6
    rw [run11] at key
    refine ⟨_, key.trans h, ?_⟩
    injection h with h; injection h with h1 _; rw [← h1]; intro hh; cases hh
  · cases h
noncomputable def rd11_0 (σ : St E.A) : Tree (Out' E) :=
  let c := clean E (L11_0 .normal) σ
  if c.sl.length = 24 then
  match c.sl.getD 1 .undef, c.sl.getD 5 .undef, c.sl.getD 8 .undef, c.sl.getD 9 .undef, c.sl.getD 10 .undef with
  | .lf (.int .i64 p1), .lf (.own 0 0 .u8 x5), .lf (.sl .u8 p8), .lf (.int .i64 p9), .lf (.int .i64 x10) => lam11_0 p1 p8 p9 (x5, x10)
  | _, _, _, _, _ => .fail
  else .fail
theorem ll11_0 (hL : Laws E) (σ : St E.A) (e : Ex) (σ' : St E.A) (h : (rd11_0 σ).get = some (e, σ')) : LoopOK E (lb Go.Proofs.Tryz.f11 0) σ e σ' := by
  refine LoopOK.of_clean hL (L11_0 .normal) ?_
  unfold rd11_0 at h
  simp only at h
  split at h
  · rename_i hlen
    split at h
    · rename_i p1 x5 p8 p9 x10 h0 h1 h2 h3 h4
      refine LoopOK.lens 5 (fun g0 => ?_)
      rw [h1] at g0
      refine LoopOK.lens 8 (fun g1 => ?_)
      rw [h2] at g1
      obtain ⟨fuel, hi, ho⟩ := m11_0 g0 g1 h
      have hl := loop_at (Γ := G11) (Λ := fun _ _ => .fail) (n := 1) (body := lb Go.Proofs.Tryz.f11 0) hL (hG11 hL) (S := S11_0 p1 p8 p9) (t := t11_0 p1 p8 p9) (Lv := L11_0) (LamOK.none (by kernel_rfl)) (h11_0 p1 p8 p9) hi ho
      refine LoopOK.fit hlen ?_ ?_ rfl rfl hl
      · exact ⟨h0, h1, h2, h3, h4, trivial⟩
      · exact trivial
    · cases h
  · cases h
noncomputable def Lam11 : Lam E
  | 0, σ => rd11_0 σ
  | _, _ => .fail
noncomputable def w11 (a0 : List UInt8) (a1 : Int) : Tree (RV E.A × List (Obj E.A)) :=
 .ite (eqI (↑a0.length : Int) (↑a0.length : Int) && leI (0 : Int) (0 : Int) && leI (0 : Int) (↑a0.length : Int) && leI (0 : Int) a1 && decide (([] : List UInt8).length + (a0.length - Int.toNat (0 : Int)) ≤ (140737488355328 : Nat)))
 (.leaf (.lf (.sl .u8 ([] ++ List.take (a1.toNat - Int.toNat (0 : Int)) (List.drop (Int.toNat (0 : Int)) a0))), []))
 (.fail)
theorem e11 (a0 : List UInt8) (a1 : Int) : execFun E G11 ((Lam11)) false Go.Proofs.Tryz.f11 [.lf (.sl .u8 a0), .lf (.int .i64 a1)] [] some = (w11 a0 a1).get := by kernel_rfl
noncomputable def raw11 : Spec E := fun args os => match args, os with
  | [.lf (.sl .u8 a0), .lf (.int .i64 a1)], [] => w11 a0 a1
  | _, _ => .fail
theorem validraw11 (hL : Laws E) : Valid E 11 raw11 :=
  valid_of_body hL (hG11 hL) (Λ := (Lam11)) (fn := Go.Proofs.Tryz.f11) (keep := false) (by kernel_rfl) (by kernel_rfl) (by kernel_rfl) ((LamOK.of (m := 1) (by kernel_rfl) (fun j hj σ e σ' hg => by
      match j, hj with
      | 0, _ => exact ll11_0 hL σ e σ' hg
      ))) (fun args os r os' h => by
    unfold raw11 at h
    split at h
    · exact (e11 _ _).trans h
    · cases h)
theorem eq11 (a : List UInt8) (m : Int) (h1 : 0 ≤ m) (h2 : a.length ≤ 140737488355328) : (w11 a m).get = some (.lf (.sl .u8 (a.take m.toNat)), []) := by
  unfold w11
  have e : (eqI (a.length : Int) (a.length : Int) && leI 0 0 && leI 0 (a.length : Int) && leI 0 m && decide (([] : List UInt8).length + (a.length - Int.toNat 0) ≤ 140737488355328)) = true := by
    simp only [eqI_eq, leI_eq, Bool.and_eq_true, decide_eq_true_eq]
    exact ⟨⟨⟨⟨trivial, by omega⟩, by omega⟩, h1⟩, by simp; omega⟩
  rw [Tree.get_ite, e]
  rfl
noncomputable def spec11 : Spec E := fun args os => match args, os with
  | [.lf (.sl .u8 a), .lf (.int .i64 m)], [] => .ite (leI 0 m && decide (a.length ≤ 140737488355328)) (.leaf (.lf (.sl .u8 (a.take m.toNat)), [])) .fail
  | _, _ => .fail
theorem valid11 (hL : Laws E) : Valid E 11 spec11 := (validraw11 hL).less (fun args os x _ _ h => by
  unfold spec11 at h
  split at h
  · rcases Tree.get_ite_some h with ⟨h1, h⟩ | ⟨_, h⟩
    · simp only [leI_eq, Bool.and_eq_true, decide_eq_true_eq] at h1
      exact (eq11 _ _ h1.1 h1.2).trans h
    · cases h
  · cases h)
end Go.Vx
namespace Go.Vx
open Go
noncomputable def G35 : FuncId → Option (Spec E) := fun _ => none
theorem hG35 (hL : Laws E) : ∀ f spec, G35 f = some spec → Valid E f spec := by
  intro f spec h
  cases h
noncomputable def w35 (a0 : Int) : Tree (RV E.A × List (Obj E.A)) :=
 .ite (eqI a0 (0 : Int))
 (.leaf (.lf (.bool true), []))
 (.ite (eqI a0 (9 : Int))
  (.leaf (.lf (.bool true), []))
  (.ite (eqI a0 (10 : Int))
   (.leaf (.lf (.bool true), []))
   (.ite (eqI a0 (12 : Int))
    (.leaf (.lf (.bool true), []))
    (.ite (eqI a0 (13 : Int))
     (.leaf (.lf (.bool true), []))
     (.leaf (.lf (.bool (eqI a0 (32 : Int))), []))))))
theorem e35 (a0 : Int) : execFun E G35 (fun _ _ => .fail) false Go.Proofs.Tryz.f35 [.lf (.int .u8 a0)] [] some = (w35 a0).get := by kernel_rfl
noncomputable def raw35 : Spec E := fun args os => match args, os with
  | [.lf (.int .u8 a0)], [] => w35 a0
  | _, _ => .fail
theorem validraw35 (hL : Laws E) : Valid E 35 raw35 :=
  valid_of_body hL (hG35 hL) (Λ := fun _ _ => .fail) (fn := Go.Proofs.Tryz.f35) (keep := false) (by kernel_rfl) (by kernel_rfl) (by kernel_rfl) (LamOK.none (by kernel_rfl)) (fun args os r os' h => by
    unfold raw35 at h
    split at h
    · exact (e35 _).trans h
    · cases h)
theorem eq35 (a : Int) : (w35 a).get = some (.lf (.bool (Px.blank a)), []) := by
  unfold w35 Px.blank
  simp only [Tree.get_ite, Tree.get_leaf, eqI_eq, cond_dec]
  repeat' split
  all_goals (refine someB ?_; rw [Bool.eq_iff_iff]; simp [eqI_eq]; try omega)
noncomputable def spec35 : Spec E := fun args os => match args, os with
  | [.lf (.int .u8 a0)], [] => .leaf (.lf (.bool (Px.blank a0)), [])
  | _, _ => .fail
theorem valid35 (hL : Laws E) : Valid E 35 spec35 := (validraw35 hL).less (fun args os x _ _ h => by
  unfold spec35 at h
  split at h
  · exact (eq35 _).trans h
  · cases h)
end Go.Vx
namespace Go.Vx
open Go
noncomputable def G13 : FuncId → Option (Spec E)
  | 35 => some spec35
  | _ => none
theorem hG13 (hL : Laws E) : ∀ f spec, G13 f = some spec → Valid E f spec := by
  intro f spec h
  unfold G13 at h
  split at h
  · injection h with h; subst h; exact valid35 hL
  · cases h
def L13_1 : Ex → Live
  | .normal => ⟨[0, 1], []⟩
  | .exit 2 => ⟨[0, 1], []⟩
  | .ret => ⟨[4], []⟩
  | _ => ⟨[], []⟩
noncomputable def S13_1 (p0 : List UInt8) (x : Int) : St E.A := at' E 53 [(0, .lf (.sl .u8 p0)), (1, .lf (.int .i64 x))] []
noncomputable def t13_1 (p0 : List UInt8) (x : Int) : Tree ((Int) ⊕ Out' E) :=
 .ite (ltI x (↑p0.length : Int))
 (.ite (inB x p0.length)
  (.ite (!eqI (↑(p0.getD x.toNat (0 : UInt8)).toNat : Int) (10 : Int))
   (.ite (inB x p0.length)
    (.ite (!eqI (↑(p0.getD x.toNat (0 : UInt8)).toNat : Int) (13 : Int))
     (.leaf (.inl ((IntKind.i64.wrap (x + (1 : Int))))))
     (.leaf (.inr (.exit 2, at' E 53 [(0, .lf (.sl .u8 p0)), (1, .lf (.int .i64 x))] []))))
    (.fail))
   (.leaf (.inr (.exit 2, at' E 53 [(0, .lf (.sl .u8 p0)), (1, .lf (.int .i64 x))] []))))
  (.fail))
 (.leaf (.inr (.exit 2, at' E 53 [(0, .lf (.sl .u8 p0)), (1, .lf (.int .i64 x))] [])))
theorem h13_1 (p0 : List UInt8) (x : Int) (k : Ex → St E.A → Option Unit) :
    exec E G13 (fun _ _ => .fail) 2 (lb Go.Proofs.Tryz.f13 1) (S13_1 p0 x) (fun e σ1 => k e (clean E (L13_1 e) σ1)) = (t13_1 p0 x).run (Sum.elim (fun x' => k .normal (S13_1 p0 x')) (fun o => k o.1 o.2)) := by kernel_rfl
noncomputable def lam13_1 (p0 : List UInt8) (x : Int) : Tree (Out' E) :=
  .ite (leI 0 x && leI x p0.length) (.leaf (.exit 2, at' E 53 [(0, .lf (.sl .u8 p0)), (1, .lf (.int .i64 (x + (Px.lineN (p0.drop x.toNat) : Int))))] [])) .fail
theorem m13_1 {p0 : List UInt8} {x : Int} {e : Ex} {σ : St E.A} (g : okLenR (E := E) (.lf (.sl .u8 p0)) = true)
    (h : (lam13_1 p0 x).get = some (e, σ)) : ∃ fuel, iter (t13_1 p0) fuel x = some (e, σ) ∧ e ≠ .normal := by
  have hb : p0.length ≤ big := of_decide_eq_true g
  unfold lam13_1 at h
  have h' := Tree.get_ite_some h
  clear h
  rcases h' with ⟨h1, h⟩ | ⟨_, h⟩
  · simp only [leI_eq, Bool.and_eq_true, decide_eq_true_eq] at h1
    obtain ⟨i, rfl⟩ : ∃ j : Nat, x = (j : Int) := ⟨x.toNat, by omega⟩
    have key := range_iter (t := t13_1 p0) (l := p0) (0 : UInt8) (fun (_ : Unit) i => i) (fun i _ b => cond (Px.nl b) (.inr (Ex.exit 2, at' E 53 [(0, .lf (.sl .u8 p0)), (1, .lf (.int .i64 (i : Int)))] [])) (.inl ()))
      (fun _ => (Ex.exit 2, at' E 53 [(0, .lf (.sl .u8 p0)), (1, .lf (.int .i64 (p0.length : Int)))] [])) (fun _ _ => True)
      (fun i a hi _ => ⟨by
        simp only [t13_1, Tree.get_ite, Tree.get_leaf, ltI_nat hi, inB_nat hi, cond_true, i64_succ hi hb, Int.toNat_natCast, Px.nl]
        cases eqI ((p0.getD i 0).toNat : Int) 10 <;> cases eqI ((p0.getD i 0).toNat : Int) 13 <;> rfl, fun _ _ => trivial⟩)
      (fun a _ => by simp only [t13_1, Tree.get_ite, Tree.get_leaf, ltI_self, cond_false])
      (p0.length - i) i () (by omega) trivial
    rw [run_line (fun j => (Ex.exit 2, at' E 53 [(0, .lf (.sl .u8 p0)), (1, .lf (.int .i64 j))] [])) p0.length _ _ (by simp; omega)] at key
    rw [Int.toNat_natCast] at h
    refine ⟨_, key.trans h, ?_⟩
    injection h with h; injection h with h1 _; rw [← h1]; intro hh; cases hh
  · cases h
noncomputable def rd13_1 (σ : St E.A) : Tree (Out' E) :=
  let c := clean E (L13_1 .normal) σ
  if c.sl.length = 53 then
  match c.sl.getD 0 .undef, c.sl.getD 1 .undef with
  | .lf (.sl .u8 p0), .lf (.int .i64 x1) => lam13_1 p0 (x1)
  | _, _ => .fail
  else .fail
theorem ll13_1 (hL : Laws E) (σ : St E.A) (e : Ex) (σ' : St E.A) (h : (rd13_1 σ).get = some (e, σ')) : LoopOK E (lb Go.Proofs.Tryz.f13 1) σ e σ' := by
  refine LoopOK.of_clean hL (L13_1 .normal) ?_
  unfold rd13_1 at h
  simp only at h
  split at h
  · rename_i hlen
    split at h
    · rename_i p0 x1 h0 h1
      refine LoopOK.lens 0 (fun g0 => ?_)
      rw [h0] at g0
      obtain ⟨fuel, hi, ho⟩ := m13_1 g0 h
      have hl := loop_at (Γ := G13) (Λ := fun _ _ => .fail) (n := 2) (body := lb Go.Proofs.Tryz.f13 1) hL (hG13 hL) (S := S13_1 p0) (t := t13_1 p0) (Lv := L13_1) (LamOK.none (by kernel_rfl)) (h13_1 p0) hi ho
      refine LoopOK.fit hlen ?_ ?_ rfl rfl hl
      · exact ⟨h0, h1, trivial⟩
      · exact trivial
    · cases h
  · cases h
def L13_0 : Ex → Live
  | .normal => ⟨[0, 1], []⟩
  | .exit 0 => ⟨[1], []⟩
  | .ret => ⟨[4], []⟩
  | _ => ⟨[], []⟩
noncomputable def S13_0 (p0 : List UInt8) (x : Int) : St E.A := at' E 53 [(0, .lf (.sl .u8 p0)), (1, .lf (.int .i64 x))] []
noncomputable def Lm13_0 : Lam E
  | 1, σ => rd13_1 σ
  | _, _ => .fail
noncomputable def t13_0 (p0 : List UInt8) (x : Int) : Tree ((Int) ⊕ Out' E) :=
 .ite (ltI x (↑p0.length : Int))
 (.ite (inB x p0.length)
  (.ite (eqI (↑(p0.getD x.toNat (0 : UInt8)).toNat : Int) (37 : Int))
   (.ite (leI (0 : Int) x && leI x (↑p0.length : Int))
    (.leaf (.inl ((x + (↑(Px.lineN (List.drop x.toNat p0)) : Int)))))
    (.fail))
   (.ite (inB x p0.length)
    (.ite (Px.blank (↑(p0.getD x.toNat (0 : UInt8)).toNat : Int))
     (.leaf (.inl ((IntKind.i64.wrap (x + (1 : Int))))))
     (.leaf (.inr (.ret, at' E 53 [(4, .lf (.int .i64 x))] []))))
    (.fail)))
  (.fail))
 (.leaf (.inr (.exit 0, at' E 53 [(1, .lf (.int .i64 x))] [])))
theorem h13_0 (p0 : List UInt8) (x : Int) (k : Ex → St E.A → Option Unit) :
    exec E G13 ((Lm13_0)) 1 (lb Go.Proofs.Tryz.f13 0) (S13_0 p0 x) (fun e σ1 => k e (clean E (L13_0 e) σ1)) = (t13_0 p0 x).run (Sum.elim (fun x' => k .normal (S13_0 p0 x')) (fun o => k o.1 o.2)) := by kernel_rfl
noncomputable def lam13_0 (p0 : List UInt8) (x : Int) : Tree (Out' E) :=
  .ite (leI 0 x && leI x p0.length) (.ite (ltI (x + (Px.skipN false (p0.drop x.toNat) : Int)) p0.length)
    (.leaf (.ret, at' E 53 [(4, .lf (.int .i64 (x + (Px.skipN false (p0.drop x.toNat) : Int))))] []))
    (.leaf (.exit 0, at' E 53 [(1, .lf (.int .i64 (x + (Px.skipN false (p0.drop x.toNat) : Int))))] []))) .fail
theorem lam13_at (p0 : List UInt8) (i : Nat) (hi : i ≤ p0.length) : (lam13_0 p0 (i : Int)).get = cond (ltI ((i + Px.skipN false (p0.drop i) : Nat) : Int) p0.length)
    (some (.ret, at' E 53 [(4, .lf (.int .i64 ((i + Px.skipN false (p0.drop i) : Nat) : Int)))] [])) (some (.exit 0, at' E 53 [(1, .lf (.int .i64 ((i + Px.skipN false (p0.drop i) : Nat) : Int)))] [])) := by
  unfold lam13_0
  have h1 : (leI 0 (i : Int) && leI (i : Int) p0.length) = true := by simp only [leI_eq, Bool.and_eq_true, decide_eq_true_eq]; omega
  rw [Tree.get_ite, h1, cond_true, Int.toNat_natCast, ← Int.natCast_add]
  rfl
theorem skip37 {b : UInt8} {r : List UInt8} (h : eqI (b.toNat : Int) 37 = true) : Px.skipN false (b :: r) = Px.lineN (b :: r) + Px.skipN false ((b :: r).drop (Px.lineN (b :: r))) ∧ 0 < Px.lineN (b :: r) := by
  have hn : Px.nl b = false := by
    cases hh : Px.nl b with
    | false => rfl
    | true => rw [(Px.nl_blank hh).2] at h; cases h
  simp only [Px.skipN, Px.lineN, h, hn, cond_true, cond_false, List.drop_succ_cons]
  rw [Px.skipN_line r]; omega
theorem m13_0 {p0 : List UInt8} {x : Int} {e : Ex} {σ : St E.A} (g : okLenR (E := E) (.lf (.sl .u8 p0)) = true)
    (h : (lam13_0 p0 x).get = some (e, σ)) : ∃ fuel, iter (t13_0 p0) fuel x = some (e, σ) ∧ e ≠ .normal := by
  have hb : p0.length ≤ big := of_decide_eq_true g
  refine ⟨(p0.length - x).toNat + 1, iter_tree (lam := lam13_0 p0) (m := fun x => (p0.length - x).toNat) (fun x o h => ?_) _ x (e, σ) h (by omega), ?_⟩
  · have hx : 0 ≤ x ∧ x ≤ p0.length := by
      unfold lam13_0 at h
      rcases Tree.get_ite_some h with ⟨h1, _⟩ | ⟨_, h⟩
      · simpa only [leI_eq, Bool.and_eq_true, decide_eq_true_eq] using h1
      · cases h
    obtain ⟨i, rfl⟩ : ∃ j : Nat, x = (j : Int) := ⟨x.toNat, by omega⟩
    have hi : i ≤ p0.length := by omega
    rw [lam13_at p0 i hi] at h
    by_cases hl : i < p0.length
    · have hd := drop_cons p0 0 i hl
      cases h37 : eqI ((p0.getD i 0).toNat : Int) 37 with
      | true =>
        obtain ⟨s1, s2⟩ := skip37 (r := p0.drop (i + 1)) h37
        rw [← hd] at s1 s2
        have hle := Px.lineN_le (p0.drop i)
        rw [List.length_drop] at hle
        have hg : (leI 0 (i : Int) && leI (i : Int) p0.length) = true := by simp only [leI_eq, Bool.and_eq_true, decide_eq_true_eq]; omega
        refine .inl ⟨((i + Px.lineN (p0.drop i) : Nat) : Int), ?_, by first | omega | (simp only; omega), ?_⟩
        · simp only [t13_0, Tree.get_ite, Tree.get_leaf, ltI_nat hl, inB_nat hl, cond_true, Int.toNat_natCast, h37, hg, Int.natCast_add]
        · rw [lam13_at p0 _ (by omega)]
          rw [s1, List.drop_drop, ← Nat.add_assoc] at h
          exact h
      | false =>
        cases hbl : Px.blank ((p0.getD i 0).toNat : Int) with
        | true =>
          have s1 : Px.skipN false (p0.drop i) = Px.skipN false (p0.drop (i + 1)) + 1 := by
            rw [hd]; simp only [Px.skipN, h37, hbl, cond_true, cond_false]
          refine .inl ⟨((i + 1 : Nat) : Int), ?_, by first | omega | (simp only; omega), ?_⟩
          · simp only [t13_0, Tree.get_ite, Tree.get_leaf, ltI_nat hl, inB_nat hl, cond_true, cond_false, Int.toNat_natCast, h37, hbl, i64_succ hl hb]
          · rw [lam13_at p0 _ (by omega)]
            rw [s1, show i + (Px.skipN false (p0.drop (i + 1)) + 1) = i + 1 + Px.skipN false (p0.drop (i + 1)) by omega] at h
            exact h
        | false =>
          have s1 : Px.skipN false (p0.drop i) = 0 := by
            rw [hd]; simp only [Px.skipN, h37, hbl, cond_false]
          refine .inr ?_
          rw [s1, Nat.add_zero, ltI_nat hl, cond_true] at h
          injection h with h
          subst h
          simp only [t13_0, Tree.get_ite, Tree.get_leaf, ltI_nat hl, inB_nat hl, cond_true, cond_false, Int.toNat_natCast, h37, hbl]
    · have he : i = p0.length := by omega
      subst he
      refine .inr ?_
      rw [List.drop_length, show Px.skipN false [] = 0 from rfl, Nat.add_zero, ltI_self, cond_false] at h
      injection h with h
      subst h
      simp only [t13_0, Tree.get_ite, Tree.get_leaf, ltI_self, cond_false]
  · unfold lam13_0 at h
    rcases Tree.get_ite_some h with ⟨_, h⟩ | ⟨_, h⟩
    · rcases Tree.get_ite_some h with ⟨_, h⟩ | ⟨_, h⟩ <;> (injection h with h; injection h with h1 _; rw [← h1]; intro hh; cases hh)
    · cases h
noncomputable def rd13_0 (σ : St E.A) : Tree (Out' E) :=
  let c := clean E (L13_0 .normal) σ
  if c.sl.length = 53 then
  match c.sl.getD 0 .undef, c.sl.getD 1 .undef with
  | .lf (.sl .u8 p0), .lf (.int .i64 x1) => lam13_0 p0 (x1)
  | _, _ => .fail
  else .fail
theorem ll13_0 (hL : Laws E) (σ : St E.A) (e : Ex) (σ' : St E.A) (h : (rd13_0 σ).get = some (e, σ')) : LoopOK E (lb Go.Proofs.Tryz.f13 0) σ e σ' := by
  refine LoopOK.of_clean hL (L13_0 .normal) ?_
  unfold rd13_0 at h
  simp only at h
  split at h
  · rename_i hlen
    split at h
    · rename_i p0 x1 h0 h1
      refine LoopOK.lens 0 (fun g0 => ?_)
      rw [h0] at g0
      obtain ⟨fuel, hi, ho⟩ := m13_0 g0 h
      have hl := loop_at (Γ := G13) (Λ := (Lm13_0)) (n := 1) (body := lb Go.Proofs.Tryz.f13 0) hL (hG13 hL) (S := S13_0 p0) (t := t13_0 p0) (Lv := L13_0) ((LamOK.of (m := 1) (by kernel_rfl) (fun j hj σ e σ' hg => by
      match j, hj with
      | 0, _ => exact (show (loopAt (lb Go.Proofs.Tryz.f13 0) 0).getD .skip = lb Go.Proofs.Tryz.f13 1 from by kernel_rfl) ▸ ll13_1 hL σ e σ' hg
      ))) (h13_0 p0) hi ho
      refine LoopOK.fit hlen ?_ ?_ rfl rfl hl
      · exact ⟨h0, h1, trivial⟩
      · exact trivial
    · cases h
  · cases h
noncomputable def Lam13 : Lam E
  | 0, σ => rd13_0 σ
  | 1, σ => rd13_1 σ
  | _, _ => .fail
noncomputable def w13 (a0 : List UInt8) (a1 : Int) : Tree (RV E.A × List (Obj E.A)) :=
 .ite (ltI a1 (0 : Int))
 (.leaf (.lf (.int .i64 ((↑a0.length : Int))), []))
 (.ite (ltI (↑a0.length : Int) a1)
  (.leaf (.lf (.int .i64 ((↑a0.length : Int))), []))
  (.ite (leI (0 : Int) a1 && leI a1 (↑a0.length : Int))
   (.ite (ltI (a1 + (↑(Px.skipN false (List.drop a1.toNat a0)) : Int)) (↑a0.length : Int))
    (.leaf (.lf (.int .i64 (a1 + (↑(Px.skipN false (List.drop a1.toNat a0)) : Int))), []))
    (.leaf (.lf (.int .i64 (a1 + (↑(Px.skipN false (List.drop a1.toNat a0)) : Int))), [])))
   (.fail)))
theorem e13 (a0 : List UInt8) (a1 : Int) : execFun E G13 ((Lam13)) false Go.Proofs.Tryz.f13 [.lf (.sl .u8 a0), .lf (.int .i64 a1)] [] some = (w13 a0 a1).get := by kernel_rfl
noncomputable def raw13 : Spec E := fun args os => match args, os with
  | [.lf (.sl .u8 a0), .lf (.int .i64 a1)], [] => w13 a0 a1
  | _, _ => .fail
theorem validraw13 (hL : Laws E) : Valid E 13 raw13 :=
  valid_of_body hL (hG13 hL) (Λ := (Lam13)) (fn := Go.Proofs.Tryz.f13) (keep := false) (by kernel_rfl) (by kernel_rfl) (by kernel_rfl) ((LamOK.of (m := 2) (by kernel_rfl) (fun j hj σ e σ' hg => by
      match j, hj with
      | 0, _ => exact ll13_0 hL σ e σ' hg
      | 1, _ => exact ll13_1 hL σ e σ' hg
      ))) (fun args os r os' h => by
    unfold raw13 at h
    split at h
    · exact (e13 _ _).trans h
    · cases h)
/-- the next byte that counts -/
theorem eq13 (p : List UInt8) (i : Nat) (hi : i ≤ p.length) : (w13 p (i : Int)).get = some (.lf (.int .i64 ((i + Px.skipN false (p.drop i) : Nat) : Int)), []) := by
  have e0 : ltI (i : Int) 0 = false := by rw [ltI_eq]; exact decide_eq_false (by omega)
  have e1 : ltI (p.length : Int) (i : Int) = false := by rw [ltI_eq]; exact decide_eq_false (by omega)
  have h1 : (leI 0 (i : Int) && leI (i : Int) p.length) = true := by simp only [leI_eq, Bool.and_eq_true, decide_eq_true_eq]; omega
  unfold w13
  simp only [Tree.get_ite, Tree.get_leaf, e0, e1, h1, cond_true, cond_false, Int.toNat_natCast, Int.natCast_add]
  cases ltI ((i : Int) + (Px.skipN false (p.drop i) : Int)) (p.length : Int) <;> rfl
theorem eqI13 (p : List UInt8) (i : Int) : (w13 p i).get = some (.lf (.int .i64 (Px.skipI p i)), []) := by
  unfold Px.skipI
  cases c1 : ltI i 0 with
  | true => unfold w13; rw [Tree.get_ite, c1]; rfl
  | false =>
    cases c2 : ltI (p.length : Int) i with
    | true => unfold w13; rw [Tree.get_ite, c1, cond_false, Tree.get_ite, c2]; rfl
    | false =>
      rw [ltI_eq, decide_eq_false_iff_not] at c1 c2
      obtain ⟨j, rfl⟩ : ∃ j : Nat, i = (j : Int) := ⟨i.toNat, by omega⟩
      rw [eq13 p j (by omega), Int.toNat_natCast, ← Int.natCast_add]
      rfl
noncomputable def spec13 : Spec E := fun args os => match args, os with
  | [.lf (.sl .u8 p), .lf (.int .i64 i)], [] => .leaf (.lf (.int .i64 (Px.skipI p i)), [])
  | _, _ => .fail
theorem valid13 (hL : Laws E) : Valid E 13 spec13 := (validraw13 hL).less (fun args os x _ _ h => by
  unfold spec13 at h
  split at h
  · exact (eqI13 _ _).trans h
  · cases h)
end Go.Vx
namespace Go.Vx
open Go
noncomputable def G3 : FuncId → Option (Spec E)
  | 10 => some spec10
  | 11 => some spec11
  | 12 => some spec12
  | 13 => some spec13
  | _ => none
theorem hG3 (hL : Laws E) : ∀ f spec, G3 f = some spec → Valid E f spec := by
  intro f spec h
  unfold G3 at h
  split at h
  · injection h with h; subst h; exact valid10 hL
  · injection h with h; subst h; exact valid11 hL
  · injection h with h; subst h; exact valid12 hL
  · injection h with h; subst h; exact valid13 hL
  · cases h
def L3_0 : Ex → Live
  | .normal => ⟨[0, 1, 12, 13], []⟩
  | .exit 0 => ⟨[0, 1], []⟩
  | .ret => ⟨[4], []⟩
  | _ => ⟨[], []⟩
noncomputable def S3_0 (p0 : List UInt8) (p1 : Int) (p12 : Int) (x : Int) : St E.A := at' E 35 [(0, .lf (.sl .u8 p0)), (1, .lf (.int .i64 p1)), (12, .lf (.int .i64 p12)), (13, .lf (.int .i64 x))] []
noncomputable def t3_0 (p0 : List UInt8) (p1 : Int) (p12 : Int) (x : Int) : Tree ((Int) ⊕ Out' E) :=
 .ite (ltI x p12)
 (.ite (!eqI (Px.skipI p0 x) (Px.skipI p0 x))
  (.leaf (.inr (.ret, at' E 35 [(4, .lf (.bool false))] [])))
  (.leaf (.inl ((IntKind.i64.wrap (x + (1 : Int)))))))
 (.leaf (.inr (.exit 0, at' E 35 [(0, .lf (.sl .u8 p0)), (1, .lf (.int .i64 p1))] [])))
theorem h3_0 (p0 : List UInt8) (p1 : Int) (p12 : Int) (x : Int) (k : Ex → St E.A → Option Unit) :
    exec E G3 (fun _ _ => .fail) 1 (lb Go.Proofs.Tryz.f3 0) (S3_0 p0 p1 p12 x) (fun e σ1 => k e (clean E (L3_0 e) σ1)) = (t3_0 p0 p1 p12 x).run (Sum.elim (fun x' => k .normal (S3_0 p0 p1 p12 x')) (fun o => k o.1 o.2)) := by kernel_rfl
noncomputable def lam3_0 (p0 : List UInt8) (p1 : Int) (p12 : Int) (x : Int) : Tree (Out' E) :=
  .ite (leI 0 x && leI x p12 && leI p12 1000000000) (.leaf (.exit 0, at' E 35 [(0, .lf (.sl .u8 p0)), (1, .lf (.int .i64 p1))] [])) .fail
theorem it3_0 (p0 : List UInt8) (p1 : Int) (m : Nat) (hm : m ≤ 1000000000) : ∀ (n i : Nat), m < n + i → i ≤ m → iter (t3_0 p0 p1 (m : Int)) n (i : Int) = some (.exit 0, at' E 35 [(0, .lf (.sl .u8 p0)), (1, .lf (.int .i64 p1))] [])
  | 0, i, h, h2 => by omega
  | n + 1, i, h, h2 => by
    rw [iter]
    rcases Nat.lt_or_ge i m with hi | hi
    · have w1 : IntKind.i64.wrap ((i : Int) + 1) = ((i + 1 : Nat) : Int) := by rw [wi64] <;> omega
      have e1 : ∀ z : Int, eqI z z = true := fun z => by rw [eqI_eq]; exact decide_eq_true rfl
      have ht : (t3_0 p0 p1 (m : Int) (i : Int)).get = some (.inl ((i + 1 : Nat) : Int)) := by
        unfold t3_0
        simp only [Tree.get_ite, ltI_nat hi, cond_true, e1, Bool.not_true, cond_false, w1, Tree.get_leaf]
      rw [ht]
      exact it3_0 p0 p1 m hm n (i + 1) (by omega) (by omega)
    · obtain rfl : i = m := by omega
      have ht : (t3_0 p0 p1 (i : Int) (i : Int)).get = some (.inr (.exit 0, at' E 35 [(0, .lf (.sl .u8 p0)), (1, .lf (.int .i64 p1))] [])) := by
        unfold t3_0
        simp only [Tree.get_ite, ltI_self, cond_false, Tree.get_leaf]
      rw [ht]
theorem m3_0 {p0 : List UInt8} {p1 p12 x : Int} {e : Ex} {σ : St E.A} (_ : okLenR (E := E) (.lf (.sl .u8 p0)) = true)
    (h : (lam3_0 p0 p1 p12 x).get = some (e, σ)) : ∃ fuel, iter (t3_0 p0 p1 p12) fuel x = some (e, σ) ∧ e ≠ .normal := by
  unfold lam3_0 at h
  have h' := Tree.get_ite_some h
  clear h
  rcases h' with ⟨h1, h⟩ | ⟨_, h⟩
  · simp only [leI_eq, Bool.and_eq_true, decide_eq_true_eq] at h1
    obtain ⟨⟨k1, k2⟩, k3⟩ := h1
    obtain ⟨i, rfl⟩ : ∃ j : Nat, x = (j : Int) := ⟨x.toNat, by omega⟩
    obtain ⟨m, rfl⟩ : ∃ j : Nat, p12 = (j : Int) := ⟨p12.toNat, by omega⟩
    refine ⟨m + 1, (it3_0 p0 p1 m (by omega) (m + 1) i (by omega) (by omega)).trans h, ?_⟩
    injection h with h; injection h with h1 _; rw [← h1]; intro hh; cases hh
  · cases h
noncomputable def rd3_0 (σ : St E.A) : Tree (Out' E) :=
  let c := clean E (L3_0 .normal) σ
  if c.sl.length = 35 then
  match c.sl.getD 0 .undef, c.sl.getD 1 .undef, c.sl.getD 12 .undef, c.sl.getD 13 .undef with
  | .lf (.sl .u8 p0), .lf (.int .i64 p1), .lf (.int .i64 p12), .lf (.int .i64 x13) => lam3_0 p0 p1 p12 (x13)
  | _, _, _, _ => .fail
  else .fail
theorem ll3_0 (hL : Laws E) (σ : St E.A) (e : Ex) (σ' : St E.A) (h : (rd3_0 σ).get = some (e, σ')) : LoopOK E (lb Go.Proofs.Tryz.f3 0) σ e σ' := by
  refine LoopOK.of_clean hL (L3_0 .normal) ?_
  unfold rd3_0 at h
  simp only at h
  split at h
  · rename_i hlen
    split at h
    · rename_i p0 p1 p12 x13 h0 h1 h2 h3
      refine LoopOK.lens 0 (fun g0 => ?_)
      rw [h0] at g0
      obtain ⟨fuel, hi, ho⟩ := m3_0 g0 h
      have hl := loop_at (Γ := G3) (Λ := fun _ _ => .fail) (n := 1) (body := lb Go.Proofs.Tryz.f3 0) hL (hG3 hL) (S := S3_0 p0 p1 p12) (t := t3_0 p0 p1 p12) (Lv := L3_0) (LamOK.none (by kernel_rfl)) (h3_0 p0 p1 p12) hi ho
      refine LoopOK.fit hlen ?_ ?_ rfl rfl hl
      · exact ⟨h0, h1, h2, h3, trivial⟩
      · exact trivial
    · cases h
  · cases h
noncomputable def Lam3 : Lam E
  | 0, σ => rd3_0 σ
  | _, _ => .fail
noncomputable def w3 (a0 : List UInt8) (a1 : Int) : Tree (RV E.A × List (Obj E.A)) :=
 .ite (leI (0 : Int) (60 : Int) && decide (a0.length ≤ (140737488355328 : Nat)))
 (.ite (leI (0 : Int) (0 : Int) && leI (0 : Int) (IntKind.i64.wrap ((↑(List.take (Int.toNat (60 : Int)) a0).length : Int) + (1 : Int))) && leI (IntKind.i64.wrap ((↑(List.take (Int.toNat (60 : Int)) a0).length : Int) + (1 : Int))) (1000000000 : Int))
  (.ite (eqI (Px.skipI (List.take (Int.toNat (60 : Int)) a0) a1) (Px.skipI (List.take (Int.toNat (60 : Int)) a0) a1))
   (.leaf (.lf (.bool (eqI (Px.skipI [] (0 : Int)) (0 : Int))), []))
   (.leaf (.lf (.bool false), [])))
  (.fail))
 (.fail)
theorem e3 (a0 : List UInt8) (a1 : Int) : execFun E G3 ((Lam3)) false Go.Proofs.Tryz.f3 [.lf (.sl .u8 a0), .lf (.int .i64 a1)] [] some = (w3 a0 a1).get := by kernel_rfl
noncomputable def raw3 : Spec E := fun args os => match args, os with
  | [.lf (.sl .u8 a0), .lf (.int .i64 a1)], [] => w3 a0 a1
  | _, _ => .fail
theorem validraw3 (hL : Laws E) : Valid E 3 raw3 :=
  valid_of_body hL (hG3 hL) (Λ := (Lam3)) (fn := Go.Proofs.Tryz.f3) (keep := false) (by kernel_rfl) (by kernel_rfl) (by kernel_rfl) ((LamOK.of (m := 1) (by kernel_rfl) (fun j hj σ e σ' hg => by
      match j, hj with
      | 0, _ => exact ll3_0 hL σ e σ' hg
      ))) (fun args os r os' h => by
    unfold raw3 at h
    split at h
    · exact (e3 _ _).trans h
    · cases h)
theorem eq3 (p : List UInt8) (c : Int) (h1 : p.length ≤ 140737488355328) : (w3 p c).get = some (.lf (.bool true), []) := by
  unfold w3
  have hq : (p.take (Int.toNat 60)).length ≤ 60 := List.length_take_le _ _
  have g0 : (leI (0 : Int) (60 : Int) && decide (p.length ≤ (140737488355328 : Nat))) = true := by rw [decide_eq_true h1]; rfl
  rw [Tree.get_ite, g0, cond_true]
  generalize p.take (Int.toNat 60) = q at hq ⊢
  have w1 : IntKind.i64.wrap ((q.length : Int) + 1) = (q.length : Int) + 1 := by rw [wi64] <;> omega
  have g1 : (leI (0 : Int) 0 && leI 0 ((q.length : Int) + 1) && leI ((q.length : Int) + 1) 1000000000) = true := by
    simp only [leI_eq, Bool.and_eq_true, decide_eq_true_eq]; omega
  have e1 : ∀ z : Int, eqI z z = true := fun z => by rw [eqI_eq]; exact decide_eq_true rfl
  rw [w1, Tree.get_ite, g1, cond_true, Tree.get_ite, e1]
  rfl
noncomputable def spec3 : Spec E := fun args os => match args, os with
  | [.lf (.sl .u8 p), .lf (.int .i64 c)], [] => .ite (decide (p.length ≤ 140737488355328)) (.leaf (.lf (.bool true), [])) .fail
  | _, _ => .fail
theorem valid3 (hL : Laws E) : Valid E 3 spec3 := (validraw3 hL).less (fun args os x _ _ h => by
  unfold spec3 at h
  split at h
  · rcases Tree.get_ite_some h with ⟨h1, h⟩ | ⟨_, h⟩
    · exact (eq3 _ _ (of_decide_eq_true h1)).trans h
    · cases h
  · cases h)
theorem sp3 (p : List UInt8) (c : Int) (h2 : p.length ≤ big ∧ p.length * 1 ≤ 140737488355328) : (spec3 [.lf (.sl .u8 p), .lf (.int .i64 c)] []).get = some (.lf (.bool true), []) := by
  show Tree.get (.ite (decide (p.length ≤ 140737488355328)) (.leaf ((.lf (.bool true) : RV E.A), ([] : List (Obj E.A)))) .fail) = _
  rw [decide_eq_true (by omega)]; rfl
end Go.Vx
namespace Go.Vx
open Go Go.RowKit
/-- Nobody's own at the beginning. -/
def Gh.none : Gh := { blk := fun _ => Option.none, tok := fun _ => Option.none, ver := zero0, cur := zero0, oth := fun _ _ => False, bl := fun _ => (0, 0, 0) }
theorem none_pur (b o : Nat) : Gh.none.pur b o := by
  refine ⟨⟨fun _ h => ?_, fun _ _ _ h => ?_⟩, fun h => h⟩
  · cases h
  · cases h
theorem none_hrel {Key : Type} [DecidableEq Key] {E : Env Key} {w : World} (hg : ∀ g cs, E.gl g = some cs → Glob E Gh.none w cs g) : HRel E (fun i => ([] : List (Obj E.A))[i]?) Gh.none w where
  ob i o h := by simp at h
  lt _ _ h := by cases h
  inj _ _ _ h := by cases h
  tokb _ _ _ _ h := by cases h
  tokj _ _ _ _ _ _ _ _ h := by cases h
  gl := hg
  othf _ _ h := h.elim
theorem none_below {G' : Gh} {w w' : World} (h : Fr Gh.none w G' w') : Below w.heap.size w w' :=
  ⟨h.os, h.tape, h.output, h.size, fun k hk => (h.blk k hk ⟨fun _ h => (by cases h), fun _ _ _ h => (by cases h)⟩).1⟩
/-- The call, out of the contract. -/
theorem calls_of_valid {Key : Type} [DecidableEq Key] {E : Env Key} {f : FuncId} {spec : Spec E} (hV : Valid E f spec) {args : List (RV E.A)} {w : World} {vals : Array Value} {fn : Func} (hf : E.P.funcs[f]? = some fn) (hb : fn.body.isSome = true) (hnm : (fn.name == "runtime.NumGoroutine") = false) {b : Bool}
    (hs : (spec args []).get = some (.lf (.bool b), [])) (ha : ARel E Gh.none w args vals)
    (hg : ∀ g cs, E.gl g = some cs → Glob E Gh.none w cs g) :
    Calls E.P f vals w fun e w' => e = .returned (.bool b) ∧ Below w.heap.size w w' := by
  unfold Valid at hV
  have h := hV args [] _ _ hs Gh.none w vals ha (none_hrel hg) rfl rfl
  have hcf : (callFunc f vals).run E.P w = .ok (.enter f vals) w := by
    obtain ⟨c, hc⟩ := Option.isSome_iff_exists.1 hb
    unfold callFunc
    have hne : ¬ fn.name = "runtime.NumGoroutine" := by simpa using hnm
    simp [hf, hc, hne]
  rw [hcf] at h
  refine Calls.mono (show Calls E.P f vals w _ from h) ?_
  rintro e w' ⟨v, G', rfl, hbk⟩
  refine ⟨?_, none_below hbk.fr⟩
  cases hbk.val with
  | lf h => cases h; rfl
def IsRow (k : IntKind) (w : World) (a : Option Addr) (len cap : Nat) (zs : List Int) : Prop :=
  (a = Option.none ∧ len = 0 ∧ cap = 0 ∧ zs = []) ∨
  ∃ x, a = some x ∧ len ≤ cap ∧ cap ≤ maxLen ∧ zs.length = cap ∧ (∀ i, i < zs.length → w.cell? (x.add i) = some (.int k (zs.getD i 0))) ∧ ∀ n ∈ zs, (Lit.int k n).wf = true
theorem IsRow.len {k : IntKind} {w : World} {a : Option Addr} {len cap : Nat} {zs : List Int} (h : IsRow k w a len cap zs) : min len zs.length = len ∧ len ≤ big := by
  rcases h with ⟨_, rfl, _, rfl⟩ | ⟨_, _, h1, h2, h3, _⟩
  · exact ⟨rfl, by decide⟩
  · exact ⟨by omega, by unfold big; unfold maxLen at h2; omega⟩
theorem arel1 {w : World} {l0 : Leaf E.A} {v0 : Value} (h0 : Rep E Gh.none w l0 v0) : ARel E Gh.none w [.lf l0] #[v0] := by
  refine ⟨rfl, fun j r hj => ?_⟩
  match j with
  | 0 => injection hj with hj; subst hj; exact .lf h0
  | j + 1 => cases hj
theorem arel2 {w : World} {l0 l1 : Leaf E.A} {v0 v1 : Value} (h0 : Rep E Gh.none w l0 v0) (h1 : Rep E Gh.none w l1 v1) : ARel E Gh.none w [.lf l0, .lf l1] #[v0, v1] := by
  refine ⟨rfl, fun j r hj => ?_⟩
  match j with
  | 0 => injection hj with hj; subst hj; exact .lf h0
  | 1 => injection hj with hj; subst hj; exact .lf h1
  | j + 2 => cases hj
theorem arel3 {w : World} {l0 l1 l2 : Leaf E.A} {v0 v1 v2 : Value} (h0 : Rep E Gh.none w l0 v0) (h1 : Rep E Gh.none w l1 v1) (h2 : Rep E Gh.none w l2 v2) : ARel E Gh.none w [.lf l0, .lf l1, .lf l2] #[v0, v1, v2] := by
  refine ⟨rfl, fun j r hj => ?_⟩
  match j with
  | 0 => injection hj with hj; subst hj; exact .lf h0
  | 1 => injection hj with hj; subst hj; exact .lf h1
  | 2 => injection hj with hj; subst hj; exact .lf h2
  | j + 3 => cases hj
theorem arel4 {w : World} {l0 l1 l2 l3 : Leaf E.A} {v0 v1 v2 v3 : Value} (h0 : Rep E Gh.none w l0 v0) (h1 : Rep E Gh.none w l1 v1) (h2 : Rep E Gh.none w l2 v2) (h3 : Rep E Gh.none w l3 v3) :
    ARel E Gh.none w [.lf l0, .lf l1, .lf l2, .lf l3] #[v0, v1, v2, v3] := by
  refine ⟨rfl, fun j r hj => ?_⟩
  match j with
  | 0 => injection hj with hj; subst hj; exact .lf h0
  | 1 => injection hj with hj; subst hj; exact .lf h1
  | 2 => injection hj with hj; subst hj; exact .lf h2
  | 3 => injection hj with hj; subst hj; exact .lf h3
  | j + 4 => cases hj
theorem wf_inRb {k : IntKind} {n : Int} (h : (Lit.int k n).wf = true) : inRb k n = true := by
  simpa [Lit.wf, inRb] using h
theorem row_ok {α : Type} {zs : List Int} {len eb : Nat} (f : Int → α) (h : min len zs.length = len ∧ len ≤ big) (y : len * eb ≤ 140737488355328) : ((zs.take len).map f).length ≤ big ∧ ((zs.take len).map f).length * eb ≤ 140737488355328 := by
  rw [List.length_map, List.length_take, h.1]
  exact ⟨h.2, y⟩
theorem row_in {k : IntKind} {w : World} {a : Option Addr} {len cap : Nat} {zs : List Int} (h : IsRow k w a len cap zs) : ∀ z ∈ (zs.take len).map (fun z : Int => z), inRb k z = true := by
  intro z hz
  rw [List.map_id'] at hz
  have hm := List.mem_of_mem_take hz
  rcases h with ⟨_, _, _, rfl⟩ | ⟨_, _, _, _, _, _, h⟩
  · cases hm
  · exact wf_inRb (h z hm)
theorem sized_row {H : Type} {P : Program} {ts : List TypeId} {ds : List (DataW H)} (h : (DataW.weightsEach P ts ds).all (· ≤ reachBytes) = true) {j : Nat} {t e : TypeId} {k : IntKind} {zs : List Int} {len eb : Nat}
    (ht : ts[j]? = some t) (hd : ds[j]? = some (.slice (Go.ChangeShapes.lits k (zs.take len)) (Go.ChangeShapes.lits k (zs.drop len)))) (hu : P.underlying t = some (.slice e)) (hb : P.bytesOf e = eb) (hl : len ≤ zs.length) : len * eb ≤ 140737488355328 := by
  have h1 := sized_slice h ht hd hu
  have h2 := reachBytes_lt
  rw [hb] at h1
  have e1 : (Go.ChangeShapes.lits (H := H) k (zs.take len)).length = len := by simp [Go.ChangeShapes.lits]; omega
  rw [e1] at h1
  have : len * eb ≤ (len + (Go.ChangeShapes.lits (H := H) k (zs.drop len)).length) * eb := Nat.mul_le_mul_right _ (Nat.le_add_right _ _)
  omega
theorem rep_row {K0 : K} {ik : IntKind} (f : Int → E.A K0) (hs : E.sz K0 = 1) (henc : ∀ z, inRb ik z = true → E.enc K0 (f z) = [.int ik z]) {w : World}
    {a : Option Addr} {len cap : Nat} {zs : List Int} (h : IsRow ik w a len cap zs) : Rep E Gh.none w (.sl K0 ((zs.take len).map f)) (.slice a len cap) := by
  rcases h with ⟨rfl, rfl, rfl, rfl⟩ | ⟨x, rfl, hl, hm, hz, hc, hw⟩
  · exact .sl0 K0 _ _ (by decide)
  · rcases Nat.eq_zero_or_pos len with h0 | h0
    · subst h0; exact .sl0 K0 _ _ hm
    · have hx : x.spot = Option.none := by
        have := hc 0 (by omega)
        rw [show x.add 0 = x from rfl] at this
        unfold World.cell? at this
        split at this
        · cases hq : x.spot with
          | none => rfl
          | some q => rw [hq] at this; simp at this
        · cases this
      obtain ⟨b, off, sp⟩ := x
      obtain rfl : sp = Option.none := hx
      have e : ((zs.take len).map f).length = len := by simp; omega
      have hrep := Rep.sl (E := E) (G := Gh.none) (w := w) K0 ((zs.take len).map f) b off cap (fun i _ => .int ik (zs.getD i 0)) (by rw [e]; exact hl) hm
        (fun i j hi hj => by
          rw [hs] at hj ⊢
          obtain rfl : j = 0 := by omega
          refine ⟨?_, none_pur _ _⟩
          have := hc i (by rw [e] at hi; omega)
          simp only [Addr.add] at this
          split at this
          · rename_i h; subst h; simpa using this
          · simpa using this)
        (fun i y hy j l hl' => by
          rw [List.getElem?_map, Option.map_eq_some_iff] at hy
          obtain ⟨z, hz1, rfl⟩ := hy
          have hlt : i < len := by
            have := (List.getElem?_eq_some_iff.1 hz1).1
            simp at this; omega
          rw [List.getElem?_take_of_lt hlt] at hz1
          have hmem : z ∈ zs := List.mem_of_getElem? hz1
          rw [henc z (wf_inRb (hw z hmem))] at hl'
          match j with
          | 0 =>
            injection hl' with hl'
            subst hl'
            have : zs.getD i 0 = z := by rw [List.getD, hz1]; rfl
            rw [this]
            exact .int (wf_inRb (hw z hmem))
          | j + 1 => cases hl')
      rw [e] at hrep
      exact hrep
theorem enc_u8 (z : Int) (h : inRb .u8 z = true) : E.enc .u8 (UInt8.ofNat z.toNat) = [.int .u8 z] := by
  show [Leaf.int IntKind.u8 ((UInt8.ofNat z.toNat).toNat : Int)] = _
  simp only [inRb, Bool.and_eq_true, decide_eq_true_eq] at h
  have h1 : (0 : Int) ≤ z := h.1
  have h2 : z ≤ 255 := h.2
  have : ((UInt8.ofNat z.toNat).toNat : Int) = z := by simp; omega
  rw [this]; rfl
theorem int_of_shaped {P : Program} {w : World} {g : Nat} {t : TypeId} {zero : Array Value} {k : IntKind} (h : w.ShapedOpen P) (hg : g < P.globals.size)
    (h0 : ((begin P (fun _ _ => 0) default).world.heap[g]?).bind Obj.row? = some (zero, t)) (hz : zero.size = 1) (hb : P.buildable t = true) (hc : P.cellTypes P.depth t = some [t]) (hu : P.underlying t = some (.int k)) :
    ∃ m, k.has m ∧ w.cell? ⟨g, 0, none⟩ = some (.int k m) := by
  obtain ⟨cs, hh, hs, hr⟩ := h.1 g zero t hg h0
  obtain ⟨ts, hts, _, hall⟩ := hr hb
  rw [hc] at hts
  cases hts
  have h1 : 0 < cs.size := by omega
  obtain ⟨u, hu', hok⟩ := hall 0 cs[0] (by simp [h1])
  have : u = t := by simpa using hu'.symm
  subst this
  have hcell : w.cell? ⟨g, 0, none⟩ = some cs[0] := by simp [World.cell?, hh, h1]
  rw [hcell]
  unfold Cell.ok at hok
  rw [hu] at hok
  cases hv : cs[0] <;> rw [hv] at hok <;> simp at hok
  case int k' n => exact ⟨n, hok.2, by rw [hok.1]⟩
theorem shape_of_shaped {P : Program} {w : World} {g : Nat} {t : TypeId} {zero : Array Value} {n : Nat} (h : w.ShapedOpen P) (hg : g < P.globals.size)
    (h0 : ((begin P (fun _ _ => 0) default).world.heap[g]?).bind Obj.row? = some (zero, t)) (hz : zero.size = n) : ∃ t, w.shape? g = some (t, n) := by
  obtain ⟨cs, hh, hs, _⟩ := h.1 g zero t hg h0
  refine ⟨t, ?_⟩
  unfold World.shape?
  rw [hh]
  simp [hs, hz]
/-- A variable of the program's that holds these numbers. -/
theorem glob_of_cells {w : World} {ik : IntKind} {n g : Nat} (f : Nat → Int) (hf : ∀ i, i < n → inRb ik (f i) = true) (hc : ∀ i, i < n → w.cell? ⟨g, i, none⟩ = some (.int ik (f i))) (hs : ∃ t, w.shape? g = some (t, n)) (hga : E.ga g = none) :
    Glob E Gh.none w ((List.range n).map fun c => .int ik (f c)) g := by
  refine ⟨.pp _ g 0 (fun j => .int ik (f j)) (List.all_eq_true.2 fun l hl => ?_) (fun j hj => ⟨?_, none_pur _ _⟩) (fun j l hl => ?_), ?_, fun k hk => ?_⟩
  · obtain ⟨c, _, rfl⟩ := List.mem_map.1 hl
    rfl
  · rw [Nat.zero_add]
    exact hc j (by simpa using hj)
  · rw [List.getElem?_map, Option.map_eq_some_iff] at hl
    obtain ⟨z, hz, rfl⟩ := hl
    have hj : j < n := by
      have := (List.getElem?_eq_some_iff.1 hz).1
      simpa using this
    rw [List.getElem?_range hj] at hz
    injection hz with hz; subst hz
    exact .int (hf j hj)
  · rw [List.length_map, List.length_range]; exact hs
  · rw [hga] at hk; cases hk
theorem glob_of_tab {w : World} (h : Lib.TabIs E.P w "internal/strconv.uint64pow10" .u64 Lib.pow10Tab) (hs : ∃ t, w.shape? 2 = some (t, 20)) : Glob E Gh.none w ((Go.Lib.pow10Tab).map fun z => .int .u64 z) 2 := by
  have hg : E.P.globalNamed "internal/strconv.uint64pow10" = some 2 := by kernel_rfl
  have e : ((Go.Lib.pow10Tab).map fun z => (Leaf.int (A := E.A) .u64 z)) = (List.range 20).map fun c => .int .u64 (Lib.pow10Tab.getD c 0) := by kernel_rfl
  rw [e]
  refine glob_of_cells (fun c => Lib.pow10Tab.getD c 0) (fun i hi => ?_) (fun i hi => h.cell hg i hi) hs rfl
  have : (List.range 20).all (fun i => inRb .u64 (Lib.pow10Tab.getD i 0)) = true := by decide
  exact List.all_eq_true.1 this i (List.mem_range.2 hi)
theorem first_of_reads {w : World} (h : Lib.VarReads E.P w "unicode/utf8.first" Lib.firstData) (c : Nat) (hc : c < 256) : w.cell? ⟨3, c, none⟩ = some (.int .u8 (Lib.firstT c : Int)) := by
  obtain ⟨g, t, cs, fuel, p, hg, hty, hvar, hd⟩ := h
  obtain rfl := Option.some.inj ((show E.P.globalNamed "unicode/utf8.first" = some 3 from by kernel_rfl).symm.trans hg)
  obtain rfl := Option.some.inj ((show (E.P.globals[3]?).map (·.type) = some 170 from by kernel_rfl).symm.trans hty)
  have hcs := Lib.cells_of_tab (t := 170) (e := 5) (n := 256) (by kernel_rfl) (by kernel_rfl) (by kernel_rfl) (by kernel_rfl) hd
  have := World.var?_cell hg hvar c
  rw [this, ← Array.getElem?_toList, hcs]
  simp [Lib.firstTab, hc]
theorem accept_of_reads {w : World} (h : Lib.VarReads E.P w "unicode/utf8.acceptRanges" Lib.acceptData) (i : Nat) (hi : i < 16) :
    w.cell? ⟨4, 2 * i, none⟩ = some (.int .u8 (Lib.accLo i : Int)) ∧ w.cell? ⟨4, 2 * i + 1, none⟩ = some (.int .u8 (Lib.accHi i : Int)) := by
  obtain ⟨g, t, cs, fuel, p, hg, hty, hvar, hd⟩ := h
  obtain rfl := Option.some.inj ((show E.P.globalNamed "unicode/utf8.acceptRanges" = some 4 from by kernel_rfl).symm.trans hg)
  obtain rfl := Option.some.inj ((show (E.P.globals[4]?).map (·.type) = some 173 from by kernel_rfl).symm.trans hty)
  obtain ⟨fuel', d, q, hdi, he⟩ := Lib.array_elem (n := 16) (e := 172) (by kernel_rfl) hd i hi
  simp only [List.getElem?_map, List.getElem?_range hi, Option.map_some, Option.some.injEq] at hdi
  subst hdi
  have c2 : E.P.cellsOf 172 = 2 := by kernel_rfl
  have c5 : E.P.cellsOf 5 = 1 := by kernel_rfl
  have u5 : E.P.underlying 5 = some (.int .u8) := by kernel_rfl
  rw [c2] at he
  have hcs := Lib.ints_of_struct Go.Proofs.Tryz.underlying172 (fun j f hj => by
    match j, hj with
    | 0, hj => simp at hj; subst hj; exact ⟨u5, rfl, c5⟩
    | 1, hj => simp at hj; subst hj; exact ⟨u5, rfl, c5⟩
    | j + 2, hj => simp at hj) (c2.trans rfl) he
  have e0 := congrArg (·[0]?) hcs
  have e1 := congrArg (·[1]?) hcs
  simp only [List.getElem?_take, List.getElem?_drop] at e0 e1
  constructor
  · rw [World.var?_cell hg hvar (2 * i), ← Array.getElem?_toList]
    simpa [Nat.mul_comm] using e0
  · rw [World.var?_cell hg hvar (2 * i + 1), ← Array.getElem?_toList]
    simpa [Nat.mul_comm] using e1
theorem err_ty (u : TypeId) (hu : E.P.typeName? 3 u = some "*errors.errorString") : u = 181 := by
  have e : some "*errors.errorString" = some ("*" ++ "errors.errorString") := by decide +kernel
  rw [e] at hu
  exact typeName_ptr_named (P := E.P) (nm := "errors.errorString") (tp := 181) (by decide +kernel) (by decide +kernel) (by decide +kernel) u hu
theorem err_of_laid {P : Program} {w : World} {n : String} {d : DataW Unit} {g ti : Nat} {ms : Array (String × TypeId)} {e : TypeId} (hg : P.globalNamed n = some g) (hty : (P.globals[g]?).map (·.type) = some ti) (hms : P.underlying ti = some (.interface ms))
    (hnm : ∀ u, P.typeName? 3 u = some "*errors.errorString" → u = 181) (hpt : P.underlying 181 = some (.pointer e)) (h : laidMet P [(n, .iface "*errors.errorString" (.ptr d))] w) :
    ∃ v : Value, w.cell? ⟨g, 0, none⟩ = some (.iface 181 v) ∧ v.oneCell' = true := by
  obtain ⟨ps, ⟨g', t', cs, fuel, p, q, h1, h2, hvar, hd, hq, rfl⟩, _, hall⟩ := h
  obtain rfl := Option.some.inj (hg.symm.trans h1)
  obtain rfl := Option.some.inj (hty.symm.trans h2)
  obtain ⟨fuel', u, v, hcs, hn, _⟩ := iface_of_trod hms hd
  have hc0 : w.cell? ⟨g, 0, none⟩ = some (.iface u v) := by
    rw [World.var?_cell hg hvar 0, ← Array.getElem?_toList, hcs]; rfl
  have hsz : cs.size = 1 := by rw [← Array.length_toList, hcs]; rfl
  have hok := (hall g 0 (by rw [hsz]; simp [MemPlace.row])).2 u v hc0
  obtain rfl := hnm u hn
  obtain ⟨a, rfl⟩ := WideShapes.okWide_pointer hpt hok
  exact ⟨_, hc0, rfl⟩
theorem glob_of_err {w : World} {g : Nat} (h : ∃ v : Value, w.cell? ⟨g, 0, none⟩ = some (.iface 181 v) ∧ v.oneCell' = true) (hs : ∃ t, w.shape? g = some (t, 1)) (hga : E.ga g = none) : Glob E Gh.none w [.ifc 181 .dead] g := by
  obtain ⟨v, hc, hv⟩ := h
  refine ⟨.pp _ g 0 (fun _ => .iface 181 v) rfl (fun j hj => ⟨?_, none_pur _ _⟩) (fun j l hl => ?_), hs, fun k hk => by rw [hga] at hk; cases hk⟩
  · have hj' : j < 1 := hj
    obtain rfl : j = 0 := by omega
    exact hc
  · match j, hl with
    | 0, hl => injection hl with hl; subst hl; exact .ifc (.dead hv)
    | j + 1, hl => cases hl
def errS : DataW Unit := .agg [.lit (.string [105, 110, 118, 97, 108, 105, 100, 32, 115, 121, 110, 116, 97, 120])]
def errR : DataW Unit := .agg [.lit (.string [118, 97, 108, 117, 101, 32, 111, 117, 116, 32, 111, 102, 32, 114, 97, 110, 103, 101])]
theorem gl_of_laid {w : World} {laid : List (String × DataW Unit)} (hf : laid.filter (fun x => x.1 == "internal/strconv.uint64pow10") = [("internal/strconv.uint64pow10", Lib.tabData .u64 Lib.pow10Tab)])
    (hf2 : laid.filter (fun x => x.1 == "unicode/utf8.first") = [("unicode/utf8.first", Lib.firstData)]) (hf3 : laid.filter (fun x => x.1 == "unicode/utf8.acceptRanges") = [("unicode/utf8.acceptRanges", Lib.acceptData)])
    (hf5 : laid.filter (fun x => x.1 == "strconv.ErrSyntax") = [("strconv.ErrSyntax", .iface "*errors.errorString" (.ptr errS))]) (hf6 : laid.filter (fun x => x.1 == "strconv.ErrRange") = [("strconv.ErrRange", .iface "*errors.errorString" (.ptr errR))])
    (h : laidMetH E.P laid w) (hs : w.ShapedOpen E.P) :
    ∀ g cs, E.gl g = some cs → Glob E Gh.none w cs g := by
  intro g cs hg
  match g, hg with
  | 0, hg => cases hg
  | 1, hg =>
    injection hg with hg; subst hg
    obtain ⟨m, hm, hc⟩ := int_of_shaped (g := 1) (t := 3) (k := .i64) (zero := #[.int .i64 0]) hs (by decide +kernel) (by kernel_rfl) rfl (by kernel_rfl) (by kernel_rfl) (by kernel_rfl)
    refine ⟨.pp _ 1 0 (fun _ => .int .i64 m) rfl (fun j hj => ⟨?_, none_pur _ _⟩) (fun j l hl => ?_), shape_of_shaped (g := 1) (t := 3) (zero := #[.int .i64 0]) hs (by decide +kernel) (by kernel_rfl) rfl, fun k hk => ?_⟩
    · have hj' : j < 1 := hj
      obtain rfl : j = 0 := by omega
      exact hc
    · match j, hl with
      | 0, hl => injection hl with hl; subst hl; exact .dead rfl
      | j + 1, hl => cases hl
    · injection hk with hk; subst hk
      refine ⟨m, ?_, hc, none_pur _ _⟩
      unfold IntKind.has at hm
      unfold inRb
      simpa using hm
  | 2, hg =>
    injection hg with hg; subst hg
    have h1 := laidMetH.filter (fun x => x.1 == "internal/strconv.uint64pow10") h
    rw [hf] at h1
    have h2 : laidMet E.P [("internal/strconv.uint64pow10", Lib.tabData .u64 Lib.pow10Tab)] w := h1
    have h3 : Lib.TabIs E.P w "internal/strconv.uint64pow10" .u64 Lib.pow10Tab := Lib.tabIs_of_head (g := 2) (t := 150) (e := 54) (n := 20) (by kernel_rfl) (by kernel_rfl) (by kernel_rfl) (by kernel_rfl) (by kernel_rfl) (by kernel_rfl) h2
    exact glob_of_tab h3 (shape_of_shaped (g := 2) (t := 150) (zero := Array.replicate 20 (.int .u64 0)) hs (by decide +kernel) (by kernel_rfl) Array.size_replicate)
  | 3, hg =>
    injection hg with hg; subst hg
    have h1 := laidMetH.filter (fun x => x.1 == "unicode/utf8.first") h
    rw [hf2] at h1
    have h2 : laidMet E.P [("unicode/utf8.first", Lib.firstData)] w := h1
    have h3 := Lib.laidMet.reads h2 (List.mem_singleton.2 rfl)
    refine glob_of_cells (fun c => (Lib.firstT c : Int)) (fun i hi => ?_) (first_of_reads h3) (shape_of_shaped (g := 3) (t := 170) (zero := Array.replicate 256 (.int .u8 0)) hs (by decide +kernel) (by kernel_rfl) Array.size_replicate) rfl
    have : (List.range 256).all (fun i => inRb .u8 (Lib.firstT i : Int)) = true := by decide +kernel
    exact List.all_eq_true.1 this i (List.mem_range.2 hi)
  | 4, hg =>
    injection hg with hg; subst hg
    have h1 := laidMetH.filter (fun x => x.1 == "unicode/utf8.acceptRanges") h
    rw [hf3] at h1
    have h2 : laidMet E.P [("unicode/utf8.acceptRanges", Lib.acceptData)] w := h1
    have h3 := Lib.laidMet.reads h2 (List.mem_singleton.2 rfl)
    refine glob_of_cells (fun c => if c % 2 = 0 then (Lib.accLo (c / 2) : Int) else (Lib.accHi (c / 2) : Int)) (fun i hi => ?_) (fun i hi => ?_) (shape_of_shaped (g := 4) (t := 173) (zero := Array.replicate 32 (.int .u8 0)) hs (by decide +kernel) (by kernel_rfl) Array.size_replicate) rfl
    · have : (List.range 32).all (fun c => inRb .u8 (if c % 2 = 0 then (Lib.accLo (c / 2) : Int) else (Lib.accHi (c / 2) : Int))) = true := by decide +kernel
      exact List.all_eq_true.1 this i (List.mem_range.2 hi)
    · obtain ⟨k1, k2⟩ := accept_of_reads h3 (i / 2) (by omega)
      rcases Nat.mod_two_eq_zero_or_one i with e | e
      · rw [if_pos e]
        rw [show 2 * (i / 2) = i by omega] at k1
        exact k1
      · rw [if_neg (by omega)]
        rw [show 2 * (i / 2) + 1 = i by omega] at k2
        exact k2
  | 5, hg =>
    injection hg with hg; subst hg
    have h1 := laidMetH.filter (fun x => x.1 == "strconv.ErrSyntax") h
    rw [hf5] at h1
    have h2 : laidMet E.P [("strconv.ErrSyntax", .iface "*errors.errorString" (.ptr errS))] w := h1
    exact glob_of_err (err_of_laid (g := 5) (ti := 103) (e := 183) (by kernel_rfl) (by kernel_rfl) Go.Proofs.Tryz.underlying103 err_ty (by kernel_rfl) h2) (shape_of_shaped (g := 5) (t := 103) (zero := #[.nilIface]) hs (by decide +kernel) (by kernel_rfl) rfl) rfl
  | 6, hg =>
    injection hg with hg; subst hg
    have h1 := laidMetH.filter (fun x => x.1 == "strconv.ErrRange") h
    rw [hf6] at h1
    have h2 : laidMet E.P [("strconv.ErrRange", .iface "*errors.errorString" (.ptr errR))] w := h1
    exact glob_of_err (err_of_laid (g := 6) (ti := 103) (e := 183) (by kernel_rfl) (by kernel_rfl) Go.Proofs.Tryz.underlying103 err_ty (by kernel_rfl) h2) (shape_of_shaped (g := 6) (t := 103) (zero := #[.nilIface]) hs (by decide +kernel) (by kernel_rfl) rfl) rfl
  | g + 7, hg => cases hg
variable {H : Type} {enc : TypeId × Value → H}
/-- From the contract to the row, the world's shape kept. -/
theorem returns_shaped {a : Assume} {C : Checked} {os : Os} {f : FuncId} {fn : Func} {s : ChangeSpec} {conds : List PathCond} {apart fresh handsOn again : Bool} {X : World → Array Value → Prop}
    (hX : ∀ (w w' : World) (args : Array Value), w.heap = w'.heap → X w args → X w' args)
    (own : ownKnob C.prog.godebug = none) (started : os.Started) (noInit : C.prog.inits.idxOf? f = none) (hfn : C.prog.funcs[f]? = some fn)
    (witness : ∃ (w : World) (tape : Tape) (i : Input), w.os = os ∧ (w.forCall tape i).Shaped C.prog ∧ i.vars = [] ∧ Input.okWide C.prog (w.forCall tape i) .any w.heap.size f i ∧
      ((s.pre enc C.prog fn conds apart (w.forCall tape i).memory i.args ∧ X (w.forCall tape i).memory i.args) ∧ sizedMet enc C.prog fn (OpenSpec.ofChange s) apart (w.forCall tape i).memory i.args) ∧ a.holds C.prog (lone (Frame.enter C.prog f i.args .normal) [] (w.forCall tape i)))
    (contract : ∀ (W : World) (base : Nat) (args : Array Value) (ds gs : List (DataW H)) (before : List MemPlace),
      (∀ (j : Nat) t v, fn.params[j]? = some t → args[j]? = some v → Value.okWide C.prog W .any base t v) →
      DataW.Whole enc C.prog fn.params.toList s.vars apart W args.toList ds gs before →
      conds.all (PathCond.test C.prog ⟨fn.params.toList, ds, s.plain.varTypes C.prog, gs⟩) = true →
      (DataW.weightsEach C.prog (fn.params.toList ++ s.plain.varTypes C.prog) (ds ++ gs)).all (· ≤ reachBytes) = true → X W args → W.ShapedOpen C.prog →
      Calls C.prog f args W fun e W' => ∃ v, e = .returned v ∧ s.post enc C.prog fn apart fresh handsOn again W args v W') :
    ReturnsInHanded a C os f .any (fun w args => (s.pre enc C.prog fn conds apart w args ∧ X w args) ∧ sizedMet enc C.prog fn (OpenSpec.ofChange s) apart w args) (s.post enc C.prog fn apart fresh handsOn again) := by
  refine returnsInHanded_of_calls own started noInit witness ?_
  intro w tape i _ hsh _ hok hpre _
  obtain ⟨_, _, _, fn', hfn', _, _, _, _, hval⟩ := hok
  have e : fn' = fn := Option.some.inj (hfn'.symm.trans hfn)
  subst e
  obtain ⟨⟨⟨ds, gs, before, hw, hc⟩, hx⟩, hz⟩ := hpre
  have hw' := DataW.Whole.of_heap (w' := w.forCall tape i) (by rfl) hw
  refine (contract (w.forCall tape i) w.heap.size i.args ds gs before hval hw' hc (hz.weights hw) (hX _ _ _ (by rfl) hx) hsh).mono fun e W' ⟨v, he, hp⟩ => ?_
  subst he
  exact ChangeSpec.post_blind hp
end Go.Vx
