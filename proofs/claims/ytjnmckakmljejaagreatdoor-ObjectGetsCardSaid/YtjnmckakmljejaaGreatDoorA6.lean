/-
  Part 6 of the proof: the second reading of the model, its laws, and the functions' contracts. Lemmas alone.
-/
import Derived.KernelRfl
import Derived.Test.YtjnmckakmljejaaGreatDoorRows
import Derived.WalkKit
import Derived.ProofKit
import Derived.OpenShut
import Derived.ShutString
import Derived.ChangeOld
import Derived.Below
import Derived.SizedLaws
import Derived.LaidSub
import Derived.Lib.LaidTab
import Derived.Lib.LaidU8
import Derived.LaidLaws
import Derived.WideShapes
import Derived.Deep.Slices
import Derived.Test.YtjnmckakmljejaaGreatDoorA2
import Derived.Test.YtjnmckakmljejaaGreatDoorA3
import Derived.Test.YtjnmckakmljejaaGreatDoorA4
import Derived.Test.YtjnmckakmljejaaGreatDoorA5
set_option linter.unusedSectionVars false
set_option linter.unusedVariables false
set_option linter.unusedSimpArgs false
namespace Go.Vx
open Go
/-- the first place's answer, if there is one -/
def scan {α O : Type} (q : Nat → α → Option O) (fin : O) : Nat → List α → O
  | _, [] => fin
  | i, b :: r => match q i b with | some o => o | none => scan q fin (i + 1) r
theorem scan_iter {α O : Type} {t : Int → Tree (Int ⊕ O)} {l : List α} (d : α) (q : Nat → α → Option O) (fin : O)
    (hs : ∀ i, i < l.length → (t (i : Int)).get = some (match q i (l.getD i d) with | some o => .inr o | none => .inl ((i + 1 : Nat) : Int)))
    (hf : (t (l.length : Int)).get = some (.inr fin)) : ∀ k i : Nat, k + i = l.length → iter t (k + 1) (i : Int) = some (scan q fin i (l.drop i))
  | 0, i, hk => by
    have hi : i = l.length := by omega
    subst hi
    simp only [iter, hf, List.drop_length, scan]
  | k + 1, i, hk => by
    have hi : i < l.length := by omega
    rw [drop_cons l d i hi, iter, hs i hi, scan]
    cases q i (l.getD i d) with
    | some o => rfl
    | none => exact scan_iter d q fin hs hf k (i + 1) (by omega)
/-- the first place at which it holds -/
theorem scan_find {α O : Type} (q : α → Bool) (f : Int → O) (fin : O) : ∀ (l : List α) (i : Nat), scan (fun i b => cond (q b) (some (f (i : Int))) none) fin i l = cond (leI 0 (findI q i l)) (f (findI q i l)) fin
  | [], i => rfl
  | b :: l, i => by
    rw [scan, findI]
    cases q b with
    | true =>
      have : leI 0 (i : Int) = true := by rw [leI_eq]; exact decide_eq_true (by omega)
      simp only [cond_true, this]
    | false => exact scan_find q f fin l (i + 1)
theorem scan_any {α O : Type} (q : α → Bool) (o fin : O) : ∀ (l : List α) (i : Nat), scan (fun _ b => cond (q b) (some o) none) fin i l = cond (l.any q) o fin
  | [], i => rfl
  | b :: l, i => by
    rw [scan, List.any_cons]
    cases q b with
    | true => rfl
    | false => exact scan_any q o fin l (i + 1)
theorem inRb_u8 (b : UInt8) : inRb .u8 (b.toNat : Int) = true := by
  have := b.toNat_lt
  simp only [inRb, Bool.and_eq_true, decide_eq_true_eq]
  exact ⟨show (0 : Int) ≤ _ by omega, show (b.toNat : Int) ≤ 255 by omega⟩
theorem ltI_33 (n : Nat) : ltI (n : Int) 33 = leI (n : Int) 32 := by
  rw [ltI_eq, leI_eq]; exact decide_eq_decide.2 (by omega)
theorem some_cond {α : Type} (b : Bool) (x y : α) : some (cond b x y) = cond b (some x) (some y) := by cases b <;> rfl
end Go.Vx
namespace Px
open Go.Vx Go
/-! ### kept from being reckoned -/
theorem sealed {α : Type} (f : α) : Nonempty {g : α // g = f} := ⟨⟨f, rfl⟩⟩
/-- the place of a key; -1: it is none -/
def keyAt (k : List UInt8) (l : List (List UInt8)) : Int := findI (fun x => decide (k = x)) 0 l
def likeS (a b : List (List UInt8)) : Bool := decide (a = b)
def marks : List UInt8 := [40, 41, 60, 62, 91, 93, 123, 125, 47, 37]
def mark (b : UInt8) : Bool := leI 0 (Lib.indexByte marks b)
def badB (b : UInt8) : Bool := leI (b.toNat : Int) 32 || (ltI 126 (b.toNat : Int) || (eqI (b.toNat : Int) 35 || mark b))
def anyBad (l : List UInt8) : Bool := l.any badB
noncomputable def anyBad' : List UInt8 → Bool := (Classical.choice (sealed anyBad)).1
theorem anyBad'_eq : anyBad' = anyBad := (Classical.choice (sealed anyBad)).2
/-- may it be a name? -/
def plain (s : List UInt8) : Bool := !s.isEmpty && !anyBad s
noncomputable def plain' : List UInt8 → Bool := (Classical.choice (sealed plain)).1
theorem plain'_eq : plain' = plain := (Classical.choice (sealed plain)).2
def anyIs (c : Int) (l : List UInt8) : Bool := l.any fun m => eqI c (m.toNat : Int)
theorem anyIs_index : ∀ (b : UInt8) (l : List UInt8), anyIs (b.toNat : Int) l = leI 0 (Lib.indexByte l b)
  | b, [] => rfl
  | b, m :: l => by
    have ih := anyIs_index b l
    unfold anyIs at ih ⊢
    rw [List.any_cons, ih]
    by_cases h : m = b
    · subst h
      have e : eqI (m.toNat : Int) (m.toNat : Int) = true := by rw [eqI_eq]; exact decide_eq_true rfl
      rw [e, Bool.true_or]
      simp only [Lib.indexByte, beq_self_eq_true, if_true]
      rfl
    · have e : eqI (b.toNat : Int) (m.toNat : Int) = false := by
        rw [eqI_eq]; exact decide_eq_false (fun hh => h (UInt8.toNat_inj.1 (by omega)))
      have e2 : (m == b) = false := beq_eq_false_iff_ne.2 h
      rw [e, Bool.false_or]
      simp only [Lib.indexByte, e2, Bool.false_eq_true, if_false]
      have hb := indexByte_bound b l
      rw [leI_eq, leI_eq]
      refine decide_eq_decide.2 ?_
      split
      · rename_i hh; simp only [beq_iff_eq] at hh; omega
      · rename_i hh; simp only [beq_iff_eq] at hh; omega
end Px
namespace Px
open Go.Vx Go
theorem plain_one (b : UInt8) : plain [b] = !badB b := by
  unfold plain anyBad
  simp
/-- the first eight bytes that may stand in a name -/
def nameGo (out : List UInt8) : Nat → List UInt8 → List UInt8
  | _, [] => out
  | i, b :: r => nameGo (cond (ltI (i : Int) 8 && !badB b) (out ++ [b]) out) (i + 1) r
noncomputable def nameGo' : List UInt8 → Nat → List UInt8 → List UInt8 := (Classical.choice (sealed nameGo)).1
theorem nameGo'_eq : nameGo' = nameGo := (Classical.choice (sealed nameGo)).2
def nameOf (s : List UInt8) : List UInt8 := (s.take 8).filter fun b => !badB b
theorem nameGo_eq : ∀ (l out : List UInt8) (i : Nat), nameGo out i l = out ++ (l.take (8 - i)).filter fun b => !badB b
  | [], out, i => by simp [nameGo]
  | b :: r, out, i => by
    rw [nameGo, nameGo_eq r]
    by_cases h : i < 8
    · have e : ltI (i : Int) 8 = true := by rw [ltI_eq]; exact decide_eq_true (by omega)
      have e2 : 8 - i = (8 - (i + 1)) + 1 := by omega
      rw [e, Bool.true_and, e2, List.take_succ_cons, List.filter_cons]
      cases badB b <;> simp
    · have e : ltI (i : Int) 8 = false := by rw [ltI_eq]; exact decide_eq_false (by omega)
      rw [e, Bool.false_and, show 8 - i = 0 by omega, show 8 - (i + 1) = 0 by omega]
      simp
theorem nameOf_eq (s : List UInt8) : nameGo [] 0 s = nameOf s := by rw [nameGo_eq]; rfl
theorem nameOf_len (s : List UInt8) : (nameOf s).length ≤ 8 := by
  unfold nameOf
  exact Nat.le_trans (List.length_filter_le _ _) (by rw [List.length_take]; omega)
theorem slice1 (l : List UInt8) {i : Nat} (h : i < l.length) : List.drop i (List.take (i + 1) l) = [l.getD i 0] := by
  rw [List.drop_take, show i + 1 - i = 1 by omega, drop_cons l 0 i h]
  rfl
theorem nameGo_run {O : Type} (f : List UInt8 → O) : ∀ (l : List UInt8) (i : Nat) (a : List UInt8),
    rangeRun (fun i a b => (.inl (cond (ltI (i : Int) 8 && !badB b) (a ++ [b]) a) : List UInt8 ⊕ O)) f i a l = f (nameGo a i l)
  | [], _, _ => rfl
  | b :: l, i, a => by
    rw [rangeRun, nameGo]
    exact nameGo_run f l (i + 1) _
end Px
namespace Px
open Go.Vx Go
def bkey (k : Nat) (t : List UInt8) : List UInt8 := [75, UInt8.ofNat (97 + k)] ++ nameOf t
/-- up to m parts of a value more: the k-th, and so on -/
def growLoop (g : List Bit → Val × List Bit) (dict : Bool) (t : List UInt8) (ok : Bool) : Nat → Nat → List Bit → List Val → List (List UInt8) → List Val × List (List UInt8) × List Bit
  | 0, _, l, vs, ks => (vs, ks, l)
  | m + 1, k, l, vs, ks => cond (l.isEmpty || !ok) (vs, ks, l) (growLoop g dict t ok m (k + 1) (g l).2 (vs ++ [(g l).1]) (cond dict (ks ++ [bkey k t]) ks))
/-- a value, and what is left over; m: how much deeper it may go -/
def growF : Nat → List Bit → Val × List Bit
  | 0, l => (v0, l)
  | _ + 1, [] => (v0, [])
  | m + 1, b :: l =>
    let k := b.1.tmod 8
    let n := cond (eqI k 1) (vbits Go.BinOp.and IntKind.i64 b.2.1 1) (cond (eqI k 2) b.2.1 (cond (eqI k 7) (IntKind.i64.wrap (1 + vbits Go.BinOp.and IntKind.i64 b.2.1 65535)) 0))
    let g := cond (eqI k 7 || b.2.2.2.2.2) (IntKind.i64.wrap b.2.2.1) 0
    let t := cond (eqI k 3) ([78] ++ nameOf b.2.2.2.1) (cond (eqI k 4) (b.2.2.2.1.take 20) [])
    let r := cond (eqI k 5 || eqI k 6) (growLoop (growF m) (eqI k 6) b.2.2.2.1 (Nat.ble 1 m) (b.2.2.2.2.1.tmod 4).toNat 0 l [] []) ([], [], l)
    (.mk k n g t r.1 r.2.1, r.2.2)
def grow (deep : Int) (l : List Bit) : Val × List Bit := growF (22 - deep).toNat l
def growV (deep : Int) (l : List Bit) : Val := (grow deep l).1
def growL (deep : Int) (l : List Bit) : List Bit := (grow deep l).2
end Px
namespace Px
open Go.Vx Go
/-- what is made from a place on -/
def growR (p1 : Int) (dict : Bool) (t : List UInt8) (m k : Int) (l : List Bit) (ls : List Val) (ks : List (List UInt8)) : List Val × List (List UInt8) × List Bit :=
  growLoop (grow (p1 + 1)) dict t (leI p1 20) m.toNat k.toNat l ls ks
noncomputable def growR' : Int → Bool → List UInt8 → Int → Int → List Bit → List Val → List (List UInt8) → List Val × List (List UInt8) × List Bit := (Classical.choice (sealed growR)).1
theorem growR'_eq : growR' = growR := (Classical.choice (sealed growR)).2
end Px
namespace Px
open Go.Vx Go
def made (l : List Bit) : Val := if l.length = 0 then v0 else growV 0 (l.take 40)
mutual
/-- how deep a value's list is -/
def depth : Val → Nat | .mk _ _ _ _ l _ => depthL l + 1
def depthL : List Val → Nat | [] => 0 | v :: r => max (depth v) (depthL r)
end
theorem depth_vl (v : Val) : depth v = depthL (vl v) + 1 := by cases v; rw [depth]; rfl
theorem depth_get : ∀ {l : List Val} {i : Nat}, i < l.length → depth (l.getD i v0) ≤ depthL l
  | v :: r, 0, _ => by rw [depthL]; exact Nat.le_max_left _ _
  | v :: r, i + 1, h => by
    rw [depthL]
    exact Nat.le_trans (depth_get (l := r) (by simpa using h)) (Nat.le_max_right _ _)
  | [], i, h => by simp at h
open Classical in
noncomputable def alike (a b : Val) : Bool := decide (a = b)
open Classical in
noncomputable def alikes (a b : List Val) : Bool := decide (a = b)
/-- a key's value; which is there -/
def getI (k : Int) (l : List Val) (ks : List (List UInt8)) (key : List UInt8) : Bool := eqI k 6 && leI 0 (keyAt key ks) && ltI (keyAt key ks) l.length
def getV (k : Int) (l : List Val) (ks : List (List UInt8)) (key : List UInt8) : Val := cond (getI k l ks key) (l.getD (keyAt key ks).toNat v0) v0
end Px
namespace Px
open Go.Vx Go
open Classical in
theorem alike_iff (a b : Val) : alike a b = true ↔ a = b := by unfold alike; exact decide_eq_true_iff
open Classical in
theorem alikes_iff (a b : List Val) : alikes a b = true ↔ a = b := by unfold alikes; exact decide_eq_true_iff
theorem alikes_cons (a b : Val) (l m : List Val) : alikes (a :: l) (b :: m) = (alike a b && alikes l m) := by
  rw [Bool.eq_iff_iff, Bool.and_eq_true, alikes_iff, alikes_iff, alike_iff, List.cons.injEq]
noncomputable def alikes' : List Val → List Val → Bool := (Classical.choice (sealed alikes)).1
theorem alikes'_eq : alikes' = alikes := (Classical.choice (sealed alikes)).2
theorem scan_alike {O : Type} (o fin : O) (m : List Val) : ∀ (l : List Val) (i : Nat), i + l.length = m.length →
    scan (fun i b => cond (!alike b (m.getD i v0)) (some o) none) fin i l = cond (alikes l (m.drop i)) fin o
  | [], i, h => by
    have : m.drop i = [] := List.drop_eq_nil_of_le (by simp only [List.length_nil] at h; omega)
    rw [this, (alikes_iff [] []).2 rfl]
    rfl
  | b :: l, i, h => by
    simp only [List.length_cons] at h
    rw [scan, drop_cons m v0 i (by omega), alikes_cons, scan_alike o fin m l (i + 1) (by omega)]
    cases alike b (m.getD i v0) <;> rfl
end Px
namespace Px
open Go.Vx Go
/-- of names and values, from the i-th on; n: how many there are in all -/
def mapR (n : Nat) : Nat → List Val → List Val → List (List UInt8) → Bool × List Val × List (List UInt8)
  | _, [], ls, ks => (true, ls, ks)
  | i, v :: r, ls, ks => cond (Nat.beq (i % 2) 1) (mapR n (i + 1) r (ls ++ [v]) ks) (cond (!eqI (vk v) 3 || Nat.beq (i + 1) n) (false, [], []) (mapR n (i + 1) r ls (ks ++ [vt v])))
noncomputable def mapR' : Nat → Nat → List Val → List Val → List (List UInt8) → Bool × List Val × List (List UInt8) := (Classical.choice (sealed mapR)).1
theorem mapR'_eq : mapR' = mapR := (Classical.choice (sealed mapR)).2
def mapStep {O : Type} (n : Nat) (R : O) (i : Nat) (a : List Val × List (List UInt8)) (v : Val) : (List Val × List (List UInt8)) ⊕ O :=
  cond (Nat.beq (i % 2) 1) (.inl (a.1 ++ [v], a.2)) (cond (!eqI (vk v) 3 || Nat.beq (i + 1) n) (.inr R) (.inl (a.1, a.2 ++ [vt v])))
theorem mapR_run {O : Type} (n : Nat) (R : O) (fin : List Val × List (List UInt8) → O) : ∀ (l : List Val) (i : Nat) (a : List Val × List (List UInt8)),
    rangeRun (mapStep n R) fin i a l = cond (mapR n i l a.1 a.2).1 (fin (mapR n i l a.1 a.2).2) R
  | [], i, a => rfl
  | v :: r, i, a => by
    rw [rangeRun, mapR]
    unfold mapStep
    cases Nat.beq (i % 2) 1
    · cases !eqI (vk v) 3 || Nat.beq (i + 1) n
      · exact mapR_run n R fin r (i + 1) _
      · rfl
    · exact mapR_run n R fin r (i + 1) _
end Px
namespace Px
open Go.Vx Go
def mapV (l : List Val) : Val := cond (mapR l.length 0 l [] []).1 (Val.mk 6 0 0 [] (mapR l.length 0 l [] []).2.1 (mapR l.length 0 l [] []).2.2) v0
end Px
namespace Px
open Go.Vx Go
/-- each key's value is the one of its place -/
def GoodGet (k : Int) (l : List Val) (ks : List (List UInt8)) : Prop := ∀ i, i < ks.length → i < l.length → getI k l ks (ks.getD i []) = true ∧ getV k l ks (ks.getD i []) = l.getD i v0
open Classical in
noncomputable def goodGet (k : Int) (l : List Val) (ks : List (List UInt8)) : Bool := decide (GoodGet k l ks)
open Classical in
theorem goodGet_iff (k : Int) (l : List Val) (ks : List (List UInt8)) : goodGet k l ks = true ↔ GoodGet k l ks := by unfold goodGet; exact decide_eq_true_iff
noncomputable def goodGet' : Int → List Val → List (List UInt8) → Bool := (Classical.choice (sealed goodGet)).1
theorem goodGet'_eq : goodGet' = goodGet := (Classical.choice (sealed goodGet)).2
def anyKey (key : List UInt8) (ks : List (List UInt8)) : Bool := ks.any fun k => decide (k = key)
noncomputable def anyKey' : List UInt8 → List (List UInt8) → Bool := (Classical.choice (sealed anyKey)).1
theorem anyKey'_eq : anyKey' = anyKey := (Classical.choice (sealed anyKey)).2
end Px
namespace Go.Vx
open Go
/-- internal/bytealg.IndexByteString -/
def spec90 : Spec E := fun args os => match args with
  | [.lf (.str s), .lf (.int .u8 c)] => .leaf (.lf (.int .i64 (Lib.indexByte s (UInt8.ofNat c.toNat))), os)
  | _ => .fail
theorem indexByte_le (c : UInt8) : ∀ l : List UInt8, -1 ≤ Lib.indexByte l c ∧ Lib.indexByte l c < (l.length : Int)
  | [] => ⟨Int.le_refl _, show (-1 : Int) < 0 by decide⟩
  | b :: l => by
    have ih := indexByte_le c l
    simp only [Lib.indexByte, List.length_cons]
    split
    · omega
    · split
      · omega
      · omega
theorem indexByte_in {l : List UInt8} {c : UInt8} (h : l.length ≤ big) : inRb .i64 (Lib.indexByte l c) = true := by
  have := indexByte_le c l
  unfold big at h
  rw [inRb_iff]
  simp [IntKind.min, IntKind.max, IntKind.signed, IntKind.bits]
  omega
theorem valid90 (_ : Laws E) : Valid E 90 spec90 :=
  valid_extern (fn := Go.Proofs.Tryz.f90) (e := Extern.BytealgIndexByte.indexByte) (by kernel_rfl) (by kernel_rfl) (by kernel_rfl) (by kernel_rfl) (by kernel_rfl) (fun args os r os' h => by
    unfold spec90 at h
    split at h
    · injection h with h; injection h with h1 h2
      subst h1; subst h2
      refine ⟨rfl, fun G w vals ha => ?_⟩
      obtain ⟨v, u, rfl, hv, hu⟩ := arel_two ha
      obtain ⟨ba, rfl, rfl, hsz⟩ := hv.str_inv
      obtain ⟨rfl, _⟩ := hu.int_inv
      exact ⟨_, Lib.run_indexByteString ba _ w, .lf (.int (indexByte_in hsz))⟩
    · cases h)
end Go.Vx
namespace Go.Vx
open Go
noncomputable def G75 : FuncId → Option (Spec E)
  | 90 => some spec90
  | _ => none
theorem hG75 (hL : Laws E) : ∀ f spec, G75 f = some spec → Valid E f spec := by
  intro f spec h
  unfold G75 at h
  split at h
  · injection h with h; subst h; exact valid90 hL
  · cases h
noncomputable def w75 (a0 : List UInt8) (a1 : Int) : Tree (RV E.A × List (Obj E.A)) :=
 .leaf (.lf (.int .i64 (Go.Lib.indexByte a0 (UInt8.ofNat a1.toNat))), [])
theorem e75 (a0 : List UInt8) (a1 : Int) : execFun E G75 (fun _ _ => .fail) false Go.Proofs.Tryz.f75 [.lf (.str a0), .lf (.int .u8 a1)] [] some = (w75 a0 a1).get := by kernel_rfl
noncomputable def spec75 : Spec E := fun args os => match args, os with
  | [.lf (.str a0), .lf (.int .u8 a1)], [] => w75 a0 a1
  | _, _ => .fail
theorem valid75 (hL : Laws E) : Valid E 75 spec75 :=
  valid_of_body hL (hG75 hL) (Λ := fun _ _ => .fail) (fn := Go.Proofs.Tryz.f75) (keep := false) (by kernel_rfl) (by kernel_rfl) (by kernel_rfl) (LamOK.none (by kernel_rfl)) (fun args os r os' h => by
    unfold spec75 at h
    split at h
    · exact (e75 _ _).trans h
    · cases h)
end Go.Vx
namespace Go.Vx
open Go
noncomputable def G49 : FuncId → Option (Spec E)
  | 75 => some spec75
  | _ => none
theorem hG49 (hL : Laws E) : ∀ f spec, G49 f = some spec → Valid E f spec := by
  intro f spec h
  unfold G49 at h
  split at h
  · injection h with h; subst h; exact valid75 hL
  · cases h
noncomputable def w49 (a0 : List UInt8) (a1 : Int) : Tree (RV E.A × List (Obj E.A)) :=
 .leaf (.lf (.int .i64 (Go.Lib.indexByte a0 (UInt8.ofNat a1.toNat))), [])
theorem e49 (a0 : List UInt8) (a1 : Int) : execFun E G49 (fun _ _ => .fail) false Go.Proofs.Tryz.f49 [.lf (.str a0), .lf (.int .u8 a1)] [] some = (w49 a0 a1).get := by kernel_rfl
noncomputable def spec49 : Spec E := fun args os => match args, os with
  | [.lf (.str a0), .lf (.int .u8 a1)], [] => w49 a0 a1
  | _, _ => .fail
theorem valid49 (hL : Laws E) : Valid E 49 spec49 :=
  valid_of_body hL (hG49 hL) (Λ := fun _ _ => .fail) (fn := Go.Proofs.Tryz.f49) (keep := false) (by kernel_rfl) (by kernel_rfl) (by kernel_rfl) (LamOK.none (by kernel_rfl)) (fun args os r os' h => by
    unfold spec49 at h
    split at h
    · exact (e49 _ _).trans h
    · cases h)
end Go.Vx
namespace Go.Vx
open Go
noncomputable def G34 : FuncId → Option (Spec E)
  | 49 => some spec49
  | _ => none
theorem hG34 (hL : Laws E) : ∀ f spec, G34 f = some spec → Valid E f spec := by
  intro f spec h
  unfold G34 at h
  split at h
  · injection h with h; subst h; exact valid49 hL
  · cases h
noncomputable def w34 (a0 : List UInt8) (a1 : Int) (a2 : List UInt8) : Tree (RV E.A × List (Obj E.A)) :=
 .ite (ltI a1 (↑a0.length : Int))
 (.ite (inB a1 a0.length)
  (.leaf (.lf (.bool (leI (0 : Int) (Go.Lib.indexByte a2 (UInt8.ofNat (↑(a0.getD a1.toNat (0 : UInt8)).toNat : Int).toNat)))), []))
  (.fail))
 (.leaf (.lf (.bool false), []))
theorem e34 (a0 : List UInt8) (a1 : Int) (a2 : List UInt8) : execFun E G34 (fun _ _ => .fail) false Go.Proofs.Tryz.f34 [.lf (.sl .u8 a0), .lf (.int .i64 a1), .lf (.str a2)] [] some = (w34 a0 a1 a2).get := by kernel_rfl
noncomputable def spec34 : Spec E := fun args os => match args, os with
  | [.lf (.sl .u8 a0), .lf (.int .i64 a1), .lf (.str a2)], [] => w34 a0 a1 a2
  | _, _ => .fail
theorem valid34 (hL : Laws E) : Valid E 34 spec34 :=
  valid_of_body hL (hG34 hL) (Λ := fun _ _ => .fail) (fn := Go.Proofs.Tryz.f34) (keep := false) (by kernel_rfl) (by kernel_rfl) (by kernel_rfl) (LamOK.none (by kernel_rfl)) (fun args os r os' h => by
    unfold spec34 at h
    split at h
    · exact (e34 _ _ _).trans h
    · cases h)
end Go.Vx
namespace Go.Vx
open Go
noncomputable def G12 : FuncId → Option (Spec E)
  | 34 => some spec34
  | _ => none
theorem hG12 (hL : Laws E) : ∀ f spec, G12 f = some spec → Valid E f spec := by
  intro f spec h
  unfold G12 at h
  split at h
  · injection h with h; subst h; exact valid34 hL
  · cases h
def L12_0 : Ex → Live
  | .normal => ⟨[0, 1, 5], []⟩
  | .exit 0 => ⟨[1], []⟩
  | .ret => ⟨[4], []⟩
  | _ => ⟨[], []⟩
noncomputable def S12_0 (p0 : List UInt8) (x : Int × Bool) : St E.A := at' E 41 [(0, .lf (.sl .u8 p0)), (1, .lf (.int .i64 x.1)), (5, .lf (.bool x.2))] []
noncomputable def t12_0 (p0 : List UInt8) (x : Int × Bool) : Tree (Int × Bool ⊕ Out' E) :=
 .ite (ltI x.fst (↑p0.length : Int))
 (.ite x.snd
  (.ite (ltI x.fst (↑p0.length : Int))
   (.ite (inB x.fst p0.length)
    (.leaf (.inl ((IntKind.i64.wrap (x.fst + (1 : Int))), (!leI (0 : Int) (Go.Lib.indexByte [(10 : UInt8), (13 : UInt8)] (UInt8.ofNat (↑(p0.getD x.fst.toNat (0 : UInt8)).toNat : Int).toNat))))))
    (.fail))
   (.leaf (.inl ((IntKind.i64.wrap (x.fst + (1 : Int))), !false))))
  (.ite (inB x.fst p0.length)
   (.ite (eqI (↑(p0.getD x.fst.toNat (0 : UInt8)).toNat : Int) (37 : Int))
    (.leaf (.inl ((IntKind.i64.wrap (x.fst + (1 : Int))), true)))
    (.ite (ltI x.fst (↑p0.length : Int))
     (.ite (inB x.fst p0.length)
      (.ite (!leI (0 : Int) (Go.Lib.indexByte [(0 : UInt8), (9 : UInt8), (10 : UInt8), (12 : UInt8), (13 : UInt8), (32 : UInt8)] (UInt8.ofNat (↑(p0.getD x.fst.toNat (0 : UInt8)).toNat : Int).toNat)))
       (.leaf (.inr (.ret, at' E 41 [(4, .lf (.int .i64 x.fst))] [])))
       (.leaf (.inl ((IntKind.i64.wrap (x.fst + (1 : Int))), x.snd))))
      (.fail))
     (.leaf (.inr (.ret, at' E 41 [(4, .lf (.int .i64 x.fst))] [])))))
   (.fail)))
 (.leaf (.inr (.exit 0, at' E 41 [(1, .lf (.int .i64 x.fst))] [])))
theorem h12_0 (p0 : List UInt8) (x : Int × Bool) (k : Ex → St E.A → Option Unit) :
    exec E G12 (fun _ _ => .fail) 1 (lb Go.Proofs.Tryz.f12 0) (S12_0 p0 x) (fun e σ1 => k e (clean E (L12_0 e) σ1)) = (t12_0 p0 x).run (Sum.elim (fun x' => k .normal (S12_0 p0 x')) (fun o => k o.1 o.2)) := by kernel_rfl
noncomputable def lam12_0 (p0 : List UInt8) (x : Int × Bool) : Tree (Out' E) :=
  .ite (leI 0 x.1 && leI x.1 p0.length) (.ite (ltI (x.1 + (Px.skipN x.2 (p0.drop x.1.toNat) : Int)) p0.length)
    (.leaf (.ret, at' E 41 [(4, .lf (.int .i64 (x.1 + (Px.skipN x.2 (p0.drop x.1.toNat) : Int))))] []))
    (.leaf (.exit 0, at' E 41 [(1, .lf (.int .i64 (x.1 + (Px.skipN x.2 (p0.drop x.1.toNat) : Int))))] []))) .fail
/-- one byte of it -/
def step12 {O : Type} (f : Int → O) (i : Nat) (c : Bool) (b : UInt8) : Bool ⊕ O :=
  cond c (.inl (!Px.nl b)) (cond (eqI (b.toNat : Int) 37) (.inl true) (cond (Px.blank (b.toNat : Int)) (.inl false) (.inr (f (i : Int)))))
theorem run12 {O : Type} (f g : Int → O) (n : Nat) : ∀ (l : List UInt8) (i : Nat) (c : Bool), i + l.length = n →
    rangeRun (step12 f) (fun _ => g (n : Int)) i c l = cond (ltI ((i + Px.skipN c l : Nat) : Int) (n : Int)) (f ((i + Px.skipN c l : Nat) : Int)) (g ((i + Px.skipN c l : Nat) : Int))
  | [], i, c, h => by
    have e : Px.skipN c [] = 0 := by cases c <;> rfl
    simp only [List.length_nil, Nat.add_zero] at h
    subst h
    rw [e, Nat.add_zero, ltI_self]; rfl
  | b :: l, i, c, h => by
    have ih := fun c => run12 f g n l (i + 1) c (by simp at h; omega)
    simp only [rangeRun, step12]
    cases c with
    | true =>
      simp only [cond_true, Px.skipN]
      rw [ih, show i + (Px.skipN (!Px.nl b) l + 1) = i + 1 + Px.skipN (!Px.nl b) l by omega]
    | false =>
      simp only [cond_false, Px.skipN]
      cases eqI (b.toNat : Int) 37 with
      | true =>
        simp only [cond_true]
        rw [ih, show i + (Px.skipN true l + 1) = i + 1 + Px.skipN true l by omega]
      | false =>
        cases Px.blank (b.toNat : Int) with
        | true =>
          simp only [cond_true, cond_false]
          rw [ih, show i + (Px.skipN false l + 1) = i + 1 + Px.skipN false l by omega]
        | false =>
          simp only [cond_false, Nat.add_zero]
          have : i < n := by simp at h; omega
          rw [ltI_nat this]; rfl
theorem m12_0 {p0 : List UInt8} {x : Int × Bool} {e : Ex} {σ : St E.A} (g : okLenR (E := E) (.lf (.sl .u8 p0)) = true)
    (h : (lam12_0 p0 x).get = some (e, σ)) : ∃ fuel, iter (t12_0 p0) fuel x = some (e, σ) ∧ e ≠ .normal := by
  have hb : p0.length ≤ big := of_decide_eq_true g
  obtain ⟨i, c⟩ := x
  unfold lam12_0 at h
  have h' := Tree.get_ite_some h
  clear h
  rcases h' with ⟨h1, h⟩ | ⟨_, h⟩
  · simp only [leI_eq, Bool.and_eq_true, decide_eq_true_eq] at h1
    obtain ⟨i, rfl⟩ : ∃ j : Nat, i = (j : Int) := ⟨i.toNat, by omega⟩
    have key := range_iter (t := t12_0 p0) (l := p0) (0 : UInt8) (fun (c : Bool) i => (i, c)) (step12 (fun j => (Ex.ret, at' E 41 [(4, .lf (.int .i64 j))] [])))
      (fun _ => (Ex.exit 0, at' E 41 [(1, .lf (.int .i64 (p0.length : Int)))] [])) (fun _ _ => True)
      (fun i c hi _ => ⟨by
        simp only [t12_0, Tree.get_ite, Tree.get_leaf, ltI_nat hi, inB_nat hi, cond_true, i64_succ hi hb, Int.toNat_natCast, UInt8.ofNat_toNat, nl_any, blank_any, step12]
        cases c <;> cases eqI ((p0.getD i 0).toNat : Int) 37 <;> cases Px.blank ((p0.getD i 0).toNat : Int) <;> rfl, fun _ _ => trivial⟩)
      (fun a _ => by simp only [t12_0, Tree.get_ite, Tree.get_leaf, ltI_self, cond_false])
      (p0.length - i) i c (by omega) trivial
    rw [run12 (fun j => (Ex.ret, at' E 41 [(4, .lf (.int .i64 j))] [])) (fun j => (Ex.exit 0, at' E 41 [(1, .lf (.int .i64 j))] [])) p0.length _ _ _ (by simp; omega)] at key
    rw [Tree.get_ite, Tree.get_leaf, Tree.get_leaf] at h
    simp only [Int.toNat_natCast, ← Int.natCast_add] at h
    refine ⟨_, key.trans ?_, ?_⟩
    · rw [← h]; cases ltI ((i + Px.skipN c (p0.drop i) : Nat) : Int) (p0.length : Int) <;> rfl
    · cases hd : ltI ((i + Px.skipN c (p0.drop i) : Nat) : Int) (p0.length : Int) <;> rw [hd] at h <;> (injection h with h; injection h with h1 _; rw [← h1]; intro hh; cases hh)
  · cases h
noncomputable def rd12_0 (σ : St E.A) : Tree (Out' E) :=
  let c := clean E (L12_0 .normal) σ
  if c.sl.length = 41 then
  match c.sl.getD 0 .undef, c.sl.getD 1 .undef, c.sl.getD 5 .undef with
  | .lf (.sl .u8 p0), .lf (.int .i64 x1), .lf (.bool x5) => lam12_0 p0 (x1, x5)
  | _, _, _ => .fail
  else .fail
theorem ll12_0 (hL : Laws E) (σ : St E.A) (e : Ex) (σ' : St E.A) (h : (rd12_0 σ).get = some (e, σ')) : LoopOK E (lb Go.Proofs.Tryz.f12 0) σ e σ' := by
  refine LoopOK.of_clean hL (L12_0 .normal) ?_
  unfold rd12_0 at h
  simp only at h
  split at h
  · rename_i hlen
    split at h
    · rename_i p0 x1 x5 h0 h1 h2
      refine LoopOK.lens 0 (fun g0 => ?_)
      rw [h0] at g0
      obtain ⟨fuel, hi, ho⟩ := m12_0 g0 h
      have hl := loop_at (Γ := G12) (Λ := fun _ _ => .fail) (n := 1) (body := lb Go.Proofs.Tryz.f12 0) hL (hG12 hL) (S := S12_0 p0) (t := t12_0 p0) (Lv := L12_0) (LamOK.none (by kernel_rfl)) (h12_0 p0) hi ho
      refine LoopOK.fit hlen ?_ ?_ rfl rfl hl
      · exact ⟨h0, h1, h2, trivial⟩
      · exact trivial
    · cases h
  · cases h
noncomputable def Lam12 : Lam E
  | 0, σ => rd12_0 σ
  | _, _ => .fail
noncomputable def w12 (a0 : List UInt8) (a1 : Int) : Tree (RV E.A × List (Obj E.A)) :=
 .ite (ltI a1 (0 : Int))
 (.leaf (.lf (.int .i64 ((↑a0.length : Int))), []))
 (.ite (ltI (↑a0.length : Int) a1)
  (.leaf (.lf (.int .i64 ((↑a0.length : Int))), []))
  (.ite (leI (0 : Int) a1 && leI a1 (↑a0.length : Int))
   (.ite (ltI (a1 + (↑(Px.skipN false (List.drop a1.toNat a0)) : Int)) (↑a0.length : Int))
    (.leaf (.lf (.int .i64 (a1 + (↑(Px.skipN false (List.drop a1.toNat a0)) : Int))), []))
    (.leaf (.lf (.int .i64 (a1 + (↑(Px.skipN false (List.drop a1.toNat a0)) : Int))), [])))
   (.fail)))
theorem e12 (a0 : List UInt8) (a1 : Int) : execFun E G12 ((Lam12)) false Go.Proofs.Tryz.f12 [.lf (.sl .u8 a0), .lf (.int .i64 a1)] [] some = (w12 a0 a1).get := by kernel_rfl
noncomputable def raw12 : Spec E := fun args os => match args, os with
  | [.lf (.sl .u8 a0), .lf (.int .i64 a1)], [] => w12 a0 a1
  | _, _ => .fail
theorem validraw12 (hL : Laws E) : Valid E 12 raw12 :=
  valid_of_body hL (hG12 hL) (Λ := (Lam12)) (fn := Go.Proofs.Tryz.f12) (keep := false) (by kernel_rfl) (by kernel_rfl) (by kernel_rfl) ((LamOK.of (m := 1) (by kernel_rfl) (fun j hj σ e σ' hg => by
      match j, hj with
      | 0, _ => exact ll12_0 hL σ e σ' hg
      ))) (fun args os r os' h => by
    unfold raw12 at h
    split at h
    · exact (e12 _ _).trans h
    · cases h)
end Go.Vx
namespace Px
open Go.Vx Go
/-- the next byte that counts, from any place on -/
def skipI (p : List UInt8) (i : Int) : Int := cond (ltI i 0 || ltI (p.length : Int) i) (p.length : Int) (i + (skipN false (p.drop i.toNat) : Int))
end Px
namespace Go.Vx
open Go
theorem eq12 (p : List UInt8) (i : Nat) (hi : i ≤ p.length) : (w12 p (i : Int)).get = some (.lf (.int .i64 ((i + Px.skipN false (p.drop i) : Nat) : Int)), []) := by
  have e0 : ltI (i : Int) 0 = false := by rw [ltI_eq]; exact decide_eq_false (by omega)
  have e1 : ltI (p.length : Int) (i : Int) = false := by rw [ltI_eq]; exact decide_eq_false (by omega)
  have h1 : (leI 0 (i : Int) && leI (i : Int) p.length) = true := by simp only [leI_eq, Bool.and_eq_true, decide_eq_true_eq]; omega
  unfold w12
  simp only [Tree.get_ite, Tree.get_leaf, e0, e1, h1, cond_true, cond_false, Int.toNat_natCast, Int.natCast_add]
  cases ltI ((i : Int) + (Px.skipN false (p.drop i) : Int)) (p.length : Int) <;> rfl
theorem eqI12 (p : List UInt8) (i : Int) : (w12 p i).get = some (.lf (.int .i64 (Px.skipI p i)), []) := by
  unfold Px.skipI
  cases c1 : ltI i 0 with
  | true => unfold w12; rw [Tree.get_ite, c1]; rfl
  | false =>
    cases c2 : ltI (p.length : Int) i with
    | true => unfold w12; rw [Tree.get_ite, c1, cond_false, Tree.get_ite, c2]; rfl
    | false =>
      rw [ltI_eq, decide_eq_false_iff_not] at c1 c2
      obtain ⟨j, rfl⟩ : ∃ j : Nat, i = (j : Int) := ⟨i.toNat, by omega⟩
      rw [eq12 p j (by omega), Int.toNat_natCast, ← Int.natCast_add]
      rfl
noncomputable def spec12 : Spec E := fun args os => match args, os with
  | [.lf (.sl .u8 p), .lf (.int .i64 i)], [] => .leaf (.lf (.int .i64 (Px.skipI p i)), [])
  | _, _ => .fail
theorem valid12 (hL : Laws E) : Valid E 12 spec12 := (validraw12 hL).less (fun args os x _ _ h => by
  unfold spec12 at h
  split at h
  · exact (eqI12 _ _).trans h
  · cases h)
end Go.Vx
namespace Go.Vx
open Go
/-- internal/bytealg.IndexByte -/
def spec91 : Spec E := fun args os => match args with
  | [.lf (.sl .u8 s), .lf (.int .u8 c)] => .leaf (.lf (.int .i64 (Lib.indexByte s (UInt8.ofNat c.toNat))), os)
  | _ => .fail
theorem bytesOf_nat : ∀ s : List UInt8, Lib.bytesOf (s.map fun b => (b.toNat : Int)) = s
  | [] => rfl
  | b :: s => by
    have ih := bytesOf_nat s
    simp only [Lib.bytesOf, List.map_cons, List.map_map] at ih ⊢
    rw [ih]
    congr 1
    simp
theorem valid91 (_ : Laws E) : Valid E 91 spec91 :=
  valid_extern (fn := Go.Proofs.Tryz.f91) (e := Extern.BytealgIndexByte.indexByte) (by kernel_rfl) (by kernel_rfl) (by kernel_rfl) (by kernel_rfl) (by kernel_rfl) (fun args os r os' h => by
    unfold spec91 at h
    split at h
    · rename_i s c
      injection h with h; injection h with h1 h2
      subst h1; subst h2
      refine ⟨rfl, fun G w vals ha => ?_⟩
      obtain ⟨v, u, rfl, hv, hu⟩ := arel_two ha
      obtain ⟨rfl, _⟩ := hu.int_inv
      have hb : s.length ≤ big := by
        have := okLen_ok hv.lf_inv
        exact of_decide_eq_true this
      refine ⟨_, ?_, .lf (.int (indexByte_in hb))⟩
      cases hv.lf_inv with
      | sl0 k a cap _ =>
        cases a with
        | none => exact @Lib.run_indexByteNil E.P w 0 cap c
        | some a =>
          exact @Lib.run_indexByteNil E.P w 0 cap c
      | sl k xs b off cap vals h1 h2 h3 h4 =>
        have := Lib.run_indexByteSlice (P := E.P) (w := w) b off s.length cap (s.map fun b => (b.toNat : Int)) (by simp) (fun i hi => by
          have hx : s[i]? = some s[i] := List.getElem?_eq_getElem hi
          have hc := (h3 i 0 hi (by decide)).1
          have hr := h4 i _ hx 0 _ rfl
          have e1 : (s.map fun b => (b.toNat : Int)).getD i 0 = (s[i].toNat : Int) := by simp [List.getD, hx]
          rw [e1]
          have e2 : off + i * E.sz .u8 + 0 = off + i := by show off + i * 1 + 0 = _; omega
          rw [e2] at hc
          rw [hc]
          generalize vals i 0 = vv at hr
          obtain ⟨rfl, _⟩ := (RRep.lf hr).int_inv
          rfl) c
        exact this.trans (congrArg (fun l => Result.ok (Value.int IntKind.i64 (Lib.indexByte l c.toNat.toUInt8)) w) (bytesOf_nat s))
    · cases h)
end Go.Vx
namespace Go.Vx
open Go
noncomputable def G76 : FuncId → Option (Spec E)
  | 91 => some spec91
  | _ => none
theorem hG76 (hL : Laws E) : ∀ f spec, G76 f = some spec → Valid E f spec := by
  intro f spec h
  unfold G76 at h
  split at h
  · injection h with h; subst h; exact valid91 hL
  · cases h
noncomputable def w76 (a0 : List UInt8) (a1 : Int) : Tree (RV E.A × List (Obj E.A)) :=
 .leaf (.lf (.int .i64 (Go.Lib.indexByte a0 (UInt8.ofNat a1.toNat))), [])
theorem e76 (a0 : List UInt8) (a1 : Int) : execFun E G76 (fun _ _ => .fail) false Go.Proofs.Tryz.f76 [.lf (.sl .u8 a0), .lf (.int .u8 a1)] [] some = (w76 a0 a1).get := by kernel_rfl
noncomputable def spec76 : Spec E := fun args os => match args, os with
  | [.lf (.sl .u8 a0), .lf (.int .u8 a1)], [] => w76 a0 a1
  | _, _ => .fail
theorem valid76 (hL : Laws E) : Valid E 76 spec76 :=
  valid_of_body hL (hG76 hL) (Λ := fun _ _ => .fail) (fn := Go.Proofs.Tryz.f76) (keep := false) (by kernel_rfl) (by kernel_rfl) (by kernel_rfl) (LamOK.none (by kernel_rfl)) (fun args os r os' h => by
    unfold spec76 at h
    split at h
    · exact (e76 _ _).trans h
    · cases h)
end Go.Vx
namespace Go.Vx
open Go
noncomputable def G92 : FuncId → Option (Spec E) := fun _ => none
theorem hG92 (hL : Laws E) : ∀ f spec, G92 f = some spec → Valid E f spec := by
  intro f spec h
  cases h
noncomputable def w92 (a0 : List UInt8) (a1 : List UInt8) : Tree (RV E.A × List (Obj E.A)) :=
 .leaf (.lf (.bool (decide (a0 = a1))), [])
theorem e92 (a0 : List UInt8) (a1 : List UInt8) : execFun E G92 (fun _ _ => .fail) false Go.Proofs.Tryz.f92 [.lf (.sl .u8 a0), .lf (.sl .u8 a1)] [] some = (w92 a0 a1).get := by kernel_rfl
noncomputable def spec92 : Spec E := fun args os => match args, os with
  | [.lf (.sl .u8 a0), .lf (.sl .u8 a1)], [] => w92 a0 a1
  | _, _ => .fail
theorem valid92 (hL : Laws E) : Valid E 92 spec92 :=
  valid_of_body hL (hG92 hL) (Λ := fun _ _ => .fail) (fn := Go.Proofs.Tryz.f92) (keep := false) (by kernel_rfl) (by kernel_rfl) (by kernel_rfl) (LamOK.none (by kernel_rfl)) (fun args os r os' h => by
    unfold spec92 at h
    split at h
    · exact (e92 _ _).trans h
    · cases h)
end Go.Vx
namespace Go.Vx
open Go
noncomputable def G78 : FuncId → Option (Spec E)
  | 92 => some spec92
  | _ => none
theorem hG78 (hL : Laws E) : ∀ f spec, G78 f = some spec → Valid E f spec := by
  intro f spec h
  unfold G78 at h
  split at h
  · injection h with h; subst h; exact valid92 hL
  · cases h
noncomputable def w78 (a0 : List UInt8) (a1 : List UInt8) : Tree (RV E.A × List (Obj E.A)) :=
 .ite (leI (↑a1.length : Int) (↑a0.length : Int))
 (.ite (leI (0 : Int) (↑(0 : Nat) : Int) && leI (↑(0 : Nat) : Int) (↑a1.length : Int) && leI (↑a1.length : Int) (↑a0.length : Int))
  (.leaf (.lf (.bool (decide (List.drop (↑(0 : Nat) : Int).toNat (List.take (↑a1.length : Int).toNat a0) = a1))), []))
  (.fail))
 (.leaf (.lf (.bool false), []))
theorem e78 (a0 : List UInt8) (a1 : List UInt8) : execFun E G78 (fun _ _ => .fail) false Go.Proofs.Tryz.f78 [.lf (.sl .u8 a0), .lf (.sl .u8 a1)] [] some = (w78 a0 a1).get := by kernel_rfl
noncomputable def raw78 : Spec E := fun args os => match args, os with
  | [.lf (.sl .u8 a0), .lf (.sl .u8 a1)], [] => w78 a0 a1
  | _, _ => .fail
theorem validraw78 (hL : Laws E) : Valid E 78 raw78 :=
  valid_of_body hL (hG78 hL) (Λ := fun _ _ => .fail) (fn := Go.Proofs.Tryz.f78) (keep := false) (by kernel_rfl) (by kernel_rfl) (by kernel_rfl) (LamOK.none (by kernel_rfl)) (fun args os r os' h => by
    unfold raw78 at h
    split at h
    · exact (e78 _ _).trans h
    · cases h)
theorem eq78 (s p : List UInt8) : (w78 s p).get = some (.lf (.bool (Px.hasPre s p)), []) := by
  unfold w78
  have hl : (leI (p.length : Int) (s.length : Int)) = decide (p.length ≤ s.length) := by rw [leI_eq]; exact decide_eq_decide.2 (by omega)
  rw [Tree.get_ite, hl]
  by_cases h : p.length ≤ s.length
  · have c : (leI (0 : Int) (↑(0 : Nat) : Int) && leI (↑(0 : Nat) : Int) (↑p.length : Int) && true) = true := by
      simp [leI_eq]
    rw [decide_eq_true h, cond_true, Tree.get_ite, c]
    rfl
  · rw [decide_eq_false h, cond_false]
    have : Px.hasPre s p = false := decide_eq_false fun hh => h (by rw [← hh, List.length_take]; omega)
    rw [this]; rfl
noncomputable def spec78 : Spec E := fun args os => match args, os with
  | [.lf (.sl .u8 s), .lf (.sl .u8 p)], [] => .leaf (.lf (.bool (Px.hasPre s p)), [])
  | _, _ => .fail
theorem valid78 (hL : Laws E) : Valid E 78 spec78 := (validraw78 hL).less (fun args os x g1 g2 h => by
  unfold spec78 at h
  split at h
  · exact (eq78 _ _).trans h
  · cases h)
end Go.Vx
namespace Go.Vx
open Go
theorem loopAt_in : ∀ (c : Code) (j : Nat) (b : Code) (i : Nat) (b' : Code), loopAt c j = some b → loopAt b i = some b' → loopAt c (j + 1 + i) = some b'
  | .seq a d, j, b, i, b', h, hi => by
    simp only [loopAt] at h ⊢
    split at h
    · have := loopAt_in a j b i b' h hi
      have hl := loopAt_lt a _ _ this
      rw [if_pos hl]; exact this
    · have := loopAt_in d _ b i b' h hi
      rw [if_neg (by omega), show j + 1 + i - loops a = j - loops a + 1 + i by omega]; exact this
  | .cond _ a d, j, b, i, b', h, hi => by
    simp only [loopAt] at h ⊢
    split at h
    · have := loopAt_in a j b i b' h hi
      have hl := loopAt_lt a _ _ this
      rw [if_pos hl]; exact this
    · have := loopAt_in d _ b i b' h hi
      rw [if_neg (by omega), show j + 1 + i - loops a = j - loops a + 1 + i by omega]; exact this
  | .block _ a, j, b, i, b', h, hi => by
    simp only [loopAt] at h ⊢
    exact loopAt_in a j b i b' h hi
  | .scope a, j, b, i, b', h, hi => by
    simp only [loopAt] at h ⊢
    exact loopAt_in a j b i b' h hi
  | .loop a, j, b, i, b', h, hi => by
    simp only [loopAt] at h ⊢
    rw [if_neg (by omega)]
    split at h
    · injection h with h; subst h
      rw [show j + 1 + i - 1 = i by omega]; exact hi
    · have := loopAt_in a _ b i b' h hi
      rw [show j + 1 + i - 1 = j - 1 + 1 + i by omega]; exact this
  | .rangeFunc _ _ _ a, j, b, i, b', h, hi => by
    simp only [loopAt] at h ⊢
    rw [if_neg (by omega)]
    split at h
    · cases h
    · have := loopAt_in a _ b i b' h hi
      rw [show j + 1 + i - 1 = j - 1 + 1 + i by omega]; exact this
  | .skip, _, _, _, _, h, _ => by cases h
  | .region .., _, _, _, _, h, _ => by cases h
  | .exit _, _, _, _, _, h, _ => by cases h
  | .ret, _, _, _, _, h, _ => by cases h
  | .refuse _, _, _, _, _, h, _ => by cases h
theorem ranges_in : ∀ (c : Code) (j : Nat) (b : Code), loopAt c j = some b → ranges c = false → ranges b = false
  | .seq a d, j, b, h, hr => by
    simp only [loopAt] at h
    simp only [ranges, Bool.or_eq_false_iff] at hr
    split at h
    · exact ranges_in a j b h hr.1
    · exact ranges_in d _ b h hr.2
  | .cond _ a d, j, b, h, hr => by
    simp only [loopAt] at h
    simp only [ranges, Bool.or_eq_false_iff] at hr
    split at h
    · exact ranges_in a j b h hr.1
    · exact ranges_in d _ b h hr.2
  | .block _ a, j, b, h, hr => ranges_in a j b h hr
  | .scope a, j, b, h, hr => ranges_in a j b h hr
  | .loop a, j, b, h, hr => by
    simp only [loopAt] at h
    split at h
    · injection h with h; subst h; exact hr
    · exact ranges_in a _ b h hr
  | .rangeFunc _ _ _ a, j, b, h, hr => by cases hr
  | .skip, _, _, h, _ => by cases h
  | .region .., _, _, h, _ => by cases h
  | .exit _, _, _, h, _ => by cases h
  | .ret, _, _, h, _ => by cases h
  | .refuse _, _, _, h, _ => by cases h
section
variable {Key : Type} [DecidableEq Key] (E : Env Key)
/-- a loop, round by round -/
def unroll (run : St E.A → (Ex → St E.A → Option (Ex × St E.A)) → Option (Ex × St E.A)) : Nat → St E.A → Option (Ex × St E.A)
  | 0, _ => none
  | n + 1, σ => run σ fun e σ1 => match e with
    | .normal => unroll run n σ1
    | e => some (e, σ1)
def ofOpt {α : Type} : Option α → Tree α
  | some x => .leaf x
  | none => .fail
/-- a code's loops, as deep as that -/
noncomputable def lamD (Γ : FuncId → Option (Spec E)) (c : Code) (fuel : Nat) : Nat → Lam E
  | 0 => fun _ _ => .fail
  | d + 1 => fun j σ => match loopAt c j with
    | some body => ofOpt (unroll E (exec E Γ (lamD Γ c fuel d) (j + 1) body) fuel σ)
    | none => .fail
/-- callees: those that are told, the places of rows that are written into, and the others in their places -/
def gam (base : FuncId → Option (Spec E)) (bufs : List Nat) (next : FuncId → Spec E) : FuncId → Option (Spec E) := fun g =>
  cond (Nat.ble bufBase g) (cond (bufs.contains (g - bufBase)) (some fun _ _ => .fail) none) (match base g with | some s => some s | none => some (next g))
/-- a function, told by running it -/
noncomputable def deep (base : FuncId → Option (Spec E)) (bufs : FuncId → List Nat) (fuel depth : Nat) : Nat → FuncId → Spec E
  | 0, _ => fun _ _ => .fail
  | n + 1, f => fun args os => match E.P.funcs[f]? with
    | some fn => cond (fn.body.isSome && !(fn.name == "runtime.NumGoroutine") && !ranges (fn.body.getD .skip))
        (ofOpt (execFun E (gam E base (bufs f) (deep base bufs fuel depth n)) (lamD E (gam E base (bufs f) (deep base bufs fuel depth n)) (fn.body.getD .skip) fuel depth) false fn args os some)) .fail
    | none => .fail
variable {E}
theorem ofOpt_get {α : Type} {o : Option α} : (ofOpt o).get = o := by cases o <;> rfl
theorem loop_unroll (hL : Laws E) {Γ : FuncId → Option (Spec E)} (hΓ : ∀ f spec, Γ f = some spec → Valid E f spec) {Λ : Lam E} {n : Nat} {body : Code} (hΛ : LamOK E Λ n body) (hno : ranges body = false)
    (fuel : Nat) (σ : St E.A) (e : Ex) (σ' : St E.A) (h : unroll E (exec E Γ Λ n body) fuel σ = some (e, σ')) : LoopOK E body σ e σ' := by
  intro Y G0 w0 a0 hr0
  have key : ∀ (fuel : Nat) (σ : St E.A), unroll E (exec E Γ Λ n body) fuel σ = some (e, σ') → ∀ (G : Gh) (w : World) (a : Act) (Q : Exit → Act → World → Prop), VRel E σ G w a.tmps → (∀ a' w', Good E σ' a G w a' w' → Q (exOf e) a' w') → roundsS Y.W body Q fuel a w := by
    intro fuel
    induction fuel with
    | zero => intro σ hi; cases hi
    | succ fuel ih =>
      intro σ hi G w a Q hr hQ
      show Y.W body (Exit.then (roundsS Y.W body Q fuel) Q) a w
      simp only [unroll] at hi
      refine Y.mono (exec_ok Y false (fun h => by cases h) hL hΓ body n hΛ (fun h => by cases h) (fun _ => hno) σ _ G w a hr hi) (fun e1 a1 w1 hw => ?_)
      obtain ⟨ex, σ1, rfl, hkk, hg1⟩ := hw
      have hg := hg1.good
      obtain ⟨hd, G1, hr1, hf1⟩ := hg
      cases ex with
      | normal => exact ih σ1 hkk G1 w1 a1 Q hr1 (fun a' w' hg => hQ a' w' (Good.trans (σ := σ) hd hf1 hg))
      | exit id => injection hkk with hkk; injection hkk with h1 h2; subst h1; subst h2; exact hQ a1 w1 ⟨hd, G1, hr1, hf1⟩
      | ret => injection hkk with hkk; injection hkk with h1 h2; subst h1; subst h2; exact hQ a1 w1 ⟨hd, G1, hr1, hf1⟩
  exact Y.rounds fuel (key fuel σ h G0 w0 a0 _ hr0 (fun a' w' hg => ⟨rfl, hg⟩))
theorem lamD_ok (hL : Laws E) {Γ : FuncId → Option (Spec E)} (hΓ : ∀ f spec, Γ f = some spec → Valid E f spec) {c : Code} (hno : ranges c = false) (fuel : Nat) :
    ∀ (d : Nat) (j : Nat) (body : Code), loopAt c j = some body → ∀ σ e σ', (lamD E Γ c fuel d j σ).get = some (e, σ') → LoopOK E body σ e σ'
  | 0, j, body, hj, σ, e, σ', h => by cases h
  | d + 1, j, body, hj, σ, e, σ', h => by
    simp only [lamD, hj, ofOpt_get] at h
    refine loop_unroll hL hΓ (n := j + 1) (fun i b hi σ1 e1 σ2 hg => ?_) (ranges_in c j body hj hno) fuel σ e σ' h
    exact lamD_ok hL hΓ hno fuel d (j + 1 + i) b (loopAt_in c j body i b hj hi) σ1 e1 σ2 hg
theorem valid_deep (hL : Laws E) {base : FuncId → Option (Spec E)} (hb : ∀ f spec, base f = some spec → Valid E f spec) (bufs : FuncId → List Nat) (fuel depth : Nat) :
    ∀ (n : Nat) (f : FuncId), Valid E f (deep E base bufs fuel depth n f)
  | 0, f => Valid.never fun _ _ => rfl
  | n + 1, f => by
    have ih := valid_deep hL hb bufs fuel depth n
    have hG : ∀ g spec, gam E base (bufs f) (deep E base bufs fuel depth n) g = some spec → Valid E g spec := by
      intro g spec hg
      unfold gam at hg
      cases h1 : Nat.ble bufBase g with
      | true =>
        rw [h1, cond_true] at hg
        cases h2 : (bufs f).contains (g - bufBase) with
        | true => rw [h2, cond_true] at hg; injection hg with hg; subst hg; exact Valid.never fun _ _ => rfl
        | false => rw [h2, cond_false] at hg; cases hg
      | false =>
        rw [h1, cond_false] at hg
        split at hg
        · rename_i s hs
          injection hg with hg; subst hg
          exact hb g s hs
        · injection hg with hg; subst hg; exact ih g
    cases hf : E.P.funcs[f]? with
    | none => exact Valid.never fun args os => by simp only [deep, hf]; rfl
    | some fn =>
      cases hc : (fn.body.isSome && !(fn.name == "runtime.NumGoroutine") && !ranges (fn.body.getD .skip)) with
      | false => exact Valid.never fun args os => by simp only [deep, hf, hc]; rfl
      | true =>
        simp only [Bool.and_eq_true, Bool.not_eq_true'] at hc
        obtain ⟨⟨c1, c2⟩, c3⟩ := hc
        have hbody : fn.body = some (fn.body.getD .skip) := by
          cases hh : fn.body with
          | none => rw [hh] at c1; cases c1
          | some c => rfl
        refine valid_of_body hL hG (Λ := lamD E (gam E base (bufs f) (deep E base bufs fuel depth n)) (fn.body.getD .skip) fuel depth) (keep := false) hf hbody c2 ⟨fun j body hj σ e σ' hg => ?_, c3⟩ (fun args os r os' h => ?_)
        · rw [Nat.zero_add] at hg
          exact lamD_ok hL hG c3 fuel depth j body hj σ e σ' hg
        · simp only [deep, hf, c1, c2, c3, Bool.not_false, Bool.and_self, cond_true, ofOpt_get] at h
          exact h
end
end Go.Vx
namespace Go.Vx
open Go
/-- callees that are told -/
noncomputable def B10 : FuncId → Option (Spec E)
  | 12 => some spec12
  | 34 => some spec34
  | 49 => some spec49
  | 75 => some spec75
  | 76 => some spec76
  | 78 => some spec78
  | 80 => some spec80
  | 90 => some spec90
  | 92 => some spec92
  | 94 => some spec94
  | 95 => some spec95
  | 96 => some spec96
  | 97 => some spec97
  | 98 => some spec98
  | _ => none
theorem hB10 (hL : Laws E) : ∀ f spec, B10 f = some spec → Valid E f spec := by
  intro f spec h
  unfold B10 at h
  split at h
  · injection h with h; subst h; exact valid12 hL
  · injection h with h; subst h; exact valid34 hL
  · injection h with h; subst h; exact valid49 hL
  · injection h with h; subst h; exact valid75 hL
  · injection h with h; subst h; exact valid76 hL
  · injection h with h; subst h; exact valid78 hL
  · injection h with h; subst h; exact valid80 hL
  · injection h with h; subst h; exact valid90 hL
  · injection h with h; subst h; exact valid92 hL
  · injection h with h; subst h; exact valid94 hL
  · injection h with h; subst h; exact valid95 hL
  · injection h with h; subst h; exact valid96 hL
  · injection h with h; subst h; exact valid97 hL
  · injection h with h; subst h; exact valid98 hL
  · cases h
theorem e10 : (deep E B10 (fun _ => []) 60 3 40 10 [] []).get = some (.lf (.bool true), []) := by kernel_rfl
noncomputable def spec10 : Spec E := fun args os => match args, os with
  | [], [] => .leaf (.lf (.bool true), [])
  | _, _ => .fail
theorem valid10 (hL : Laws E) : Valid E 10 spec10 := (valid_deep hL (hB10 hL) (fun _ => []) 60 3 40 10).less (fun args os x _ _ h => by
  unfold spec10 at h
  split at h
  · exact e10.trans h
  · cases h)
end Go.Vx
namespace Go.Vx
open Go
noncomputable def spec16N (n : Nat) : Spec E := fun args os => match args, os with
  | [.agg [.int .u8 a0, .int .i64 a1, .int .i64 a2, .str a3, .sl .val a4, .sl .str a5], .agg [.int .u8 b0, .int .i64 b1, .int .i64 b2, .str b3, .sl .val b4, .sl .str b5]], [] =>
    .ite (Nat.blt (Px.depthL a4) n) (.leaf (.lf (.bool (Px.alike (Val.mk a0 a1 a2 a3 a4 a5) (Val.mk b0 b1 b2 b3 b4 b5))), [])) .fail
  | _, _ => .fail
noncomputable def G39 (n : Nat) : FuncId → Option (Spec E)
  | 16 => some (spec16N n)
  | _ => none
theorem hG39 (hL : Laws E) (n : Nat) (hN : Valid E 16 (spec16N n)) : ∀ f spec, (G39 n) f = some spec → Valid E f spec := by
  intro f spec h
  unfold G39 at h
  split at h
  · injection h with h; subst h; exact hN
  · cases h
def L39_0 : Ex → Live
  | .normal => ⟨[1, 2, 15, 16, 17], []⟩
  | .exit 0 => ⟨[], []⟩
  | .ret => ⟨[6], []⟩
  | _ => ⟨[], []⟩
noncomputable def S39_0 (p1 : List Val) (p15 : List Val) (p16 : Int) (x : Int) : St E.A := at' E 32 [(1, .lf (.sl .val p1)), (2, .lf (.fn 16 [])), (15, .lf (.sl .val p15)), (16, .lf (.int .i64 p16)), (17, .lf (.int .i64 x))] []
noncomputable def t39_0 (n : Nat) (p1 : List Val) (p15 : List Val) (p16 : Int) (x : Int) : Tree ((Int) ⊕ Out' E) :=
 .ite (ltI x p16)
 (.ite (inB x p15.length)
  (.ite (inB x p1.length)
   (.ite ((Px.depthL (Px.vl (p15.getD x.toNat (Val.mk (0 : Int) (0 : Int) (0 : Int) [] [] [])))).blt n)
    (.ite (!Px.alike (Val.mk (Px.vk (p15.getD x.toNat (Val.mk (0 : Int) (0 : Int) (0 : Int) [] [] []))) (Px.vn (p15.getD x.toNat (Val.mk (0 : Int) (0 : Int) (0 : Int) [] [] []))) (Px.vg (p15.getD x.toNat (Val.mk (0 : Int) (0 : Int) (0 : Int) [] [] []))) (Px.vt (p15.getD x.toNat (Val.mk (0 : Int) (0 : Int) (0 : Int) [] [] []))) (Px.vl (p15.getD x.toNat (Val.mk (0 : Int) (0 : Int) (0 : Int) [] [] []))) (Px.vs (p15.getD x.toNat (Val.mk (0 : Int) (0 : Int) (0 : Int) [] [] [])))) (Val.mk (Px.vk (p1.getD x.toNat (Val.mk (0 : Int) (0 : Int) (0 : Int) [] [] []))) (Px.vn (p1.getD x.toNat (Val.mk (0 : Int) (0 : Int) (0 : Int) [] [] []))) (Px.vg (p1.getD x.toNat (Val.mk (0 : Int) (0 : Int) (0 : Int) [] [] []))) (Px.vt (p1.getD x.toNat (Val.mk (0 : Int) (0 : Int) (0 : Int) [] [] []))) (Px.vl (p1.getD x.toNat (Val.mk (0 : Int) (0 : Int) (0 : Int) [] [] []))) (Px.vs (p1.getD x.toNat (Val.mk (0 : Int) (0 : Int) (0 : Int) [] [] [])))))
     (.leaf (.inr (.ret, at' E 32 [(6, .lf (.bool false))] [])))
     (.leaf (.inl ((IntKind.i64.wrap (x + (1 : Int)))))))
    (.fail))
   (.fail))
  (.fail))
 (.leaf (.inr (.exit 0, at' E 32 [] [])))
theorem h39_0 (n : Nat) (p1 : List Val) (p15 : List Val) (p16 : Int) (x : Int) (k : Ex → St E.A → Option Unit) :
    exec E (G39 n) (fun _ _ => .fail) 1 (lb Go.Proofs.Tryz.f39 0) (S39_0 p1 p15 p16 x) (fun e σ1 => k e (clean E (L39_0 e) σ1)) = (t39_0 n p1 p15 p16 x).run (Sum.elim (fun x' => k .normal (S39_0 p1 p15 p16 x')) (fun o => k o.1 o.2)) := by kernel_rfl
noncomputable def lam39_0 (n : Nat) (p1 : List Val) (p15 : List Val) (p16 : Int) (x : Int) : Tree (Out' E) :=
  .ite (eqI p16 p15.length && eqI p1.length p15.length && leI 0 x && leI x p16 && Nat.ble (Px.depthL p15) n)
   (.ite (Px.alikes' (p15.drop x.toNat) (p1.drop x.toNat)) (.leaf (.exit 0, at' E 32 [] [])) (.leaf (.ret, at' E 32 [(6, .lf (.bool false))] []))) .fail
theorem m39_0 {n : Nat} {p1 : List Val} {p15 : List Val} {p16 : Int} {x : Int} {e : Ex} {σ : St E.A} (_ : okLenR (E := E) (.lf (.sl .val p1)) = true) (g : okLenR (E := E) (.lf (.sl .val p15)) = true)
    (h : (lam39_0 n p1 p15 p16 x).get = some (e, σ)) : ∃ fuel, iter (t39_0 n p1 p15 p16) fuel x = some (e, σ) ∧ e ≠ .normal := by
  have hb : p15.length ≤ big := of_decide_eq_true g
  unfold lam39_0 at h
  have h' := Tree.get_ite_some h
  clear h
  rcases h' with ⟨h1, h⟩ | ⟨_, h⟩
  · simp only [eqI_eq, leI_eq, Bool.and_eq_true, decide_eq_true_eq, Nat.ble_eq] at h1
    obtain ⟨⟨⟨⟨rfl, hl⟩, k1⟩, k2⟩, k3⟩ := h1
    have hl : p1.length = p15.length := by omega
    obtain ⟨i, rfl⟩ : ∃ j : Nat, x = (j : Int) := ⟨x.toNat, by omega⟩
    have key := scan_iter (t := t39_0 n p1 p15 p15.length) (l := p15) Px.v0 (fun i b => cond (!Px.alike b (p1.getD i Px.v0)) (some (Ex.ret, at' E 32 [(6, .lf (.bool false))] [])) none) (Ex.exit 0, at' E 32 [] [])
      (fun i hi => by
        have hi1 : i < p1.length := by omega
        have hd : (Px.depthL (Px.vl (p15.getD i Px.v0))).blt n = true := by
          have h1 := Px.depth_get hi
          rw [Px.depth_vl] at h1
          exact Nat.ble_eq ▸ Nat.le_trans h1 k3
        have hz : (Val.mk (0 : Int) (0 : Int) (0 : Int) [] [] []) = Px.v0 := rfl
        unfold t39_0
        simp only [Tree.get_ite, Tree.get_leaf, ltI_nat hi, inB_nat hi, inB_nat hi1, cond_true, i64_succ hi hb, Int.toNat_natCast, hz, hd, Px.v_eta]
        cases Px.alike (p15.getD i Px.v0) (p1.getD i Px.v0) <;> rfl)
      (by unfold t39_0; simp only [Tree.get_ite, Tree.get_leaf, ltI_self, cond_false])
      (p15.length - i) i (by omega)
    rw [Px.scan_alike _ _ _ _ _ (by rw [List.length_drop]; omega)] at key
    rw [Tree.get_ite, Tree.get_leaf, Tree.get_leaf, Int.toNat_natCast, Px.alikes'_eq] at h
    refine ⟨_, key.trans ?_, ?_⟩
    · rw [← h]; exact some_cond _ _ _
    · intro hh; subst hh
      cases q : Px.alikes (p15.drop i) (p1.drop i) <;> rw [q] at h <;> cases h
  · cases h
noncomputable def rd39_0 (n : Nat) (σ : St E.A) : Tree (Out' E) :=
  let c := clean E (L39_0 .normal) σ
  if c.sl.length = 32 then
  match c.sl.getD 1 .undef, c.sl.getD 2 .undef, c.sl.getD 15 .undef, c.sl.getD 16 .undef, c.sl.getD 17 .undef with
  | .lf (.sl .val p1), .lf (.fn 16 []), .lf (.sl .val p15), .lf (.int .i64 p16), .lf (.int .i64 x17) => lam39_0 n p1 p15 p16 (x17)
  | _, _, _, _, _ => .fail
  else .fail
theorem ll39_0 (hL : Laws E) (n : Nat) (hN : Valid E 16 (spec16N n)) (σ : St E.A) (e : Ex) (σ' : St E.A) (h : (rd39_0 n σ).get = some (e, σ')) : LoopOK E (lb Go.Proofs.Tryz.f39 0) σ e σ' := by
  refine LoopOK.of_clean hL (L39_0 .normal) ?_
  unfold rd39_0 at h
  simp only at h
  split at h
  · rename_i hlen
    split at h
    · rename_i p1 p15 p16 x17 h0 h1 h2 h3 h4
      refine LoopOK.lens 1 (fun g0 => ?_)
      rw [h0] at g0
      refine LoopOK.lens 15 (fun g1 => ?_)
      rw [h2] at g1
      obtain ⟨fuel, hi, ho⟩ := m39_0 g0 g1 h
      have hl := loop_at (Γ := (G39 n)) (Λ := fun _ _ => .fail) (n := 1) (body := lb Go.Proofs.Tryz.f39 0) hL (hG39 hL n hN) (S := S39_0 p1 p15 p16) (t := t39_0 n p1 p15 p16) (Lv := L39_0) (LamOK.none (by kernel_rfl)) (h39_0 n p1 p15 p16) hi ho
      refine LoopOK.fit hlen ?_ ?_ rfl rfl hl
      · exact ⟨h0, h1, h2, h3, h4, trivial⟩
      · exact trivial
    · cases h
  · cases h
noncomputable def Lam39 (n : Nat) : Lam E
  | 0, σ => rd39_0 n σ
  | _, _ => .fail
noncomputable def w39 (n : Nat) (a : List Val) (b : List Val) : Tree (RV E.A × List (Obj E.A)) :=
 .ite (!eqI (↑a.length : Int) (↑b.length : Int))
 (.leaf (.lf (.bool false), []))
 (.ite (eqI (↑a.length : Int) (↑a.length : Int) && eqI (↑b.length : Int) (↑a.length : Int) && leI (0 : Int) (0 : Int) && leI (0 : Int) (↑a.length : Int) && (Px.depthL a).ble n)
  (.ite (Px.alikes' (List.drop (Int.toNat (0 : Int)) a) (List.drop (Int.toNat (0 : Int)) b))
   (.leaf (.lf (.bool true), []))
   (.leaf (.lf (.bool false), [])))
  (.fail))
theorem e39 (n : Nat) (a : List Val) (b : List Val) : execFun E (G39 n) ((Lam39 n)) false Go.Proofs.Tryz.f39 [.lf (.sl .val a), .lf (.sl .val b), .lf (.fn 16 [])] [] some = (w39 n a b).get := by kernel_rfl
noncomputable def raw39 (n : Nat) : Spec E := fun args os => match args, os with
  | [.lf (.sl .val a), .lf (.sl .val b), .lf (.fn 16 [])], [] => w39 n a b
  | _, _ => .fail
theorem validraw39 (hL : Laws E) (n : Nat) (hN : Valid E 16 (spec16N n)) : Valid E 39 (raw39 n) :=
  valid_of_body hL (hG39 hL n hN) (Λ := (Lam39 n)) (fn := Go.Proofs.Tryz.f39) (keep := false) (by kernel_rfl) (by kernel_rfl) (by kernel_rfl) ((LamOK.of (m := 1) (by kernel_rfl) (fun j hj σ e σ' hg => by
      match j, hj with
      | 0, _ => exact ll39_0 hL n hN σ e σ' hg
      ))) (fun args os r os' h => by
    unfold raw39 at h
    split at h
    · exact (e39 _ _ _).trans h
    · cases h)
noncomputable def spec39N (n : Nat) : Spec E := fun args os => match args, os with
  | [.lf (.sl .val a), .lf (.sl .val b), .lf (.fn 16 [])], [] => .ite (Nat.ble (Px.depthL a) n) (.leaf (.lf (.bool (Px.alikes a b)), [])) .fail
  | _, _ => .fail
theorem eq39 {n : Nat} {a b : List Val} (h : Px.depthL a ≤ n) : (w39 n a b).get = some (.lf (.bool (Px.alikes a b)), []) := by
  have hz : (Val.mk (0 : Int) (0 : Int) (0 : Int) [] [] []) = Px.v0 := rfl
  have hn : Nat.ble (Px.depthL a) n = true := Nat.ble_eq ▸ h
  unfold w39
  simp only [Tree.get_ite, Tree.get_leaf, Px.alikes'_eq, hn]
  by_cases hl : a.length = b.length
  · have e1 : eqI (a.length : Int) (b.length : Int) = true := by rw [eqI_eq]; exact decide_eq_true (by omega)
    have e2 : (eqI (a.length : Int) (a.length : Int) && eqI (b.length : Int) (a.length : Int) && leI 0 0 && leI 0 (a.length : Int) && true) = true := by
      rw [hl]; simp [eqI_eq, leI_eq]
    rw [e1, e2]
    show cond (Px.alikes a b) _ _ = _
    cases Px.alikes a b <;> rfl
  · have e1 : eqI (a.length : Int) (b.length : Int) = false := by rw [eqI_eq]; exact decide_eq_false (by omega)
    have e2 : Px.alikes a b = false := by
      rw [Bool.eq_false_iff]; intro h; exact hl (congrArg List.length ((Px.alikes_iff a b).1 h))
    rw [e1, e2]; rfl
theorem valid39N (hL : Laws E) (n : Nat) (hN : Valid E 16 (spec16N n)) : Valid E 39 (spec39N n) := (validraw39 hL n hN).less (fun args os x u1 u2 h => by
  clear u1 u2
  unfold spec39N at h
  split at h
  · rename_i a b
    rcases Tree.get_ite_some h with ⟨h1, h⟩ | ⟨_, h⟩
    · exact (eq39 (Nat.le_of_ble_eq_true h1)).trans h
    · cases h
  · cases h)
end Go.Vx
namespace Go.Vx
open Go
noncomputable def G38 : FuncId → Option (Spec E) := fun _ => none
theorem hG38 (hL : Laws E) : ∀ f spec, G38 f = some spec → Valid E f spec := by
  intro f spec h
  cases h
def L38_0 : Ex → Live
  | .normal => ⟨[0, 1, 12, 13], []⟩
  | .exit 0 => ⟨[], []⟩
  | .ret => ⟨[4], []⟩
  | _ => ⟨[], []⟩
noncomputable def S38_0 (p0 : List (List UInt8)) (p1 : List (List UInt8)) (p12 : Int) (x : Int) : St E.A := at' E 26 [(0, .lf (.sl .str p0)), (1, .lf (.sl .str p1)), (12, .lf (.int .i64 p12)), (13, .lf (.int .i64 x))] []
noncomputable def t38_0 (p0 : List (List UInt8)) (p1 : List (List UInt8)) (p12 : Int) (x : Int) : Tree ((Int) ⊕ Out' E) :=
 .ite (ltI x p12)
 (.ite (inB x p0.length)
  (.ite (inB x p1.length)
   (.ite (!decide (p0.getD x.toNat [] = p1.getD x.toNat []))
    (.leaf (.inr (.ret, at' E 26 [(4, .lf (.bool false))] [])))
    (.leaf (.inl ((IntKind.i64.wrap (x + (1 : Int)))))))
   (.fail))
  (.fail))
 (.leaf (.inr (.exit 0, at' E 26 [] [])))
theorem h38_0 (p0 : List (List UInt8)) (p1 : List (List UInt8)) (p12 : Int) (x : Int) (k : Ex → St E.A → Option Unit) :
    exec E G38 (fun _ _ => .fail) 1 (lb Go.Proofs.Tryz.f38 0) (S38_0 p0 p1 p12 x) (fun e σ1 => k e (clean E (L38_0 e) σ1)) = (t38_0 p0 p1 p12 x).run (Sum.elim (fun x' => k .normal (S38_0 p0 p1 p12 x')) (fun o => k o.1 o.2)) := by kernel_rfl
end Go.Vx
namespace Px
open Go.Vx Go
/-- rows alike, so far as the first goes? -/
def likeR : List (List UInt8) → List (List UInt8) → Bool
  | [], _ => true
  | a :: r, s => decide (a = s.getD 0 []) && likeR r (s.drop 1)
end Px
namespace Go.Vx
open Go
noncomputable def lam38_0 (p0 p1 : List (List UInt8)) (p12 : Int) (x : Int) : Tree (Out' E) :=
  .ite (eqI p12 p0.length && leI 0 x && leI x p12 && eqI p0.length p1.length)
   (.ite (Px.likeR (p0.drop x.toNat) (p1.drop x.toNat)) (.leaf (.exit 0, at' E 26 [] [])) (.leaf (.ret, at' E 26 [(4, .lf (.bool false))] []))) .fail
theorem scan38 {O : Type} (p1 : List (List UInt8)) (o fin : O) : ∀ (l : List (List UInt8)) (i : Nat), scan (fun i b => cond (!decide (b = p1.getD i [])) (some o) none) fin i l = cond (Px.likeR l (p1.drop i)) fin o
  | [], i => rfl
  | a :: r, i => by
    rw [scan, Px.likeR]
    have e1 : (p1.drop i).getD 0 [] = p1.getD i [] := by simp [List.getD, List.getElem?_drop]
    have e2 : (p1.drop i).drop 1 = p1.drop (i + 1) := by rw [List.drop_drop]
    rw [e1, e2]
    cases decide (a = p1.getD i []) with
    | true => exact scan38 p1 o fin r (i + 1)
    | false => rfl
theorem m38_0 {p0 p1 : List (List UInt8)} {p12 x : Int} {e : Ex} {σ : St E.A} (g : okLenR (E := E) (.lf (.sl .str p0)) = true) (_ : okLenR (E := E) (.lf (.sl .str p1)) = true)
    (h : (lam38_0 p0 p1 p12 x).get = some (e, σ)) : ∃ fuel, iter (t38_0 p0 p1 p12) fuel x = some (e, σ) ∧ e ≠ .normal := by
  have hb : p0.length ≤ big := of_decide_eq_true g
  unfold lam38_0 at h
  have h' := Tree.get_ite_some h
  clear h
  rcases h' with ⟨h1, h⟩ | ⟨_, h⟩
  · simp only [eqI_eq, leI_eq, Bool.and_eq_true, decide_eq_true_eq] at h1
    obtain ⟨⟨⟨rfl, k1⟩, k2⟩, k3⟩ := h1
    obtain ⟨i, rfl⟩ : ∃ j : Nat, x = (j : Int) := ⟨x.toNat, by omega⟩
    have key := scan_iter (t := t38_0 p0 p1 p0.length) (l := p0) [] (fun i b => cond (!decide (b = p1.getD i [])) (some (Ex.ret, at' E 26 [(4, .lf (.bool false))] [])) none) (Ex.exit 0, at' E 26 [] [])
      (fun i hi => by
        have hi1 : i < p1.length := by omega
        unfold t38_0
        simp only [Tree.get_ite, Tree.get_leaf, ltI_nat hi, inB_nat hi, inB_nat hi1, cond_true, i64_succ hi hb, Int.toNat_natCast]
        cases decide (p0.getD i [] = p1.getD i []) <;> rfl)
      (by unfold t38_0; simp only [Tree.get_ite, Tree.get_leaf, ltI_self, cond_false])
      (p0.length - i) i (by omega)
    rw [scan38] at key
    rw [Tree.get_ite, Tree.get_leaf, Tree.get_leaf, Int.toNat_natCast] at h
    refine ⟨_, key.trans ?_, ?_⟩
    · rw [← h]; cases Px.likeR (p0.drop i) (p1.drop i) <;> rfl
    · intro hh; subst hh
      cases q : Px.likeR (p0.drop i) (p1.drop i) <;> rw [q] at h <;> cases h
  · cases h
noncomputable def rd38_0 (σ : St E.A) : Tree (Out' E) :=
  let c := clean E (L38_0 .normal) σ
  if c.sl.length = 26 then
  match c.sl.getD 0 .undef, c.sl.getD 1 .undef, c.sl.getD 12 .undef, c.sl.getD 13 .undef with
  | .lf (.sl .str p0), .lf (.sl .str p1), .lf (.int .i64 p12), .lf (.int .i64 x13) => lam38_0 p0 p1 p12 (x13)
  | _, _, _, _ => .fail
  else .fail
theorem ll38_0 (hL : Laws E) (σ : St E.A) (e : Ex) (σ' : St E.A) (h : (rd38_0 σ).get = some (e, σ')) : LoopOK E (lb Go.Proofs.Tryz.f38 0) σ e σ' := by
  refine LoopOK.of_clean hL (L38_0 .normal) ?_
  unfold rd38_0 at h
  simp only at h
  split at h
  · rename_i hlen
    split at h
    · rename_i p0 p1 p12 x13 h0 h1 h2 h3
      refine LoopOK.lens 0 (fun g0 => ?_)
      rw [h0] at g0
      refine LoopOK.lens 1 (fun g1 => ?_)
      rw [h1] at g1
      obtain ⟨fuel, hi, ho⟩ := m38_0 g0 g1 h
      have hl := loop_at (Γ := G38) (Λ := fun _ _ => .fail) (n := 1) (body := lb Go.Proofs.Tryz.f38 0) hL (hG38 hL) (S := S38_0 p0 p1 p12) (t := t38_0 p0 p1 p12) (Lv := L38_0) (LamOK.none (by kernel_rfl)) (h38_0 p0 p1 p12) hi ho
      refine LoopOK.fit hlen ?_ ?_ rfl rfl hl
      · exact ⟨h0, h1, h2, h3, trivial⟩
      · exact trivial
    · cases h
  · cases h
noncomputable def Lam38 : Lam E
  | 0, σ => rd38_0 σ
  | _, _ => .fail
noncomputable def w38 (a0 : List (List UInt8)) (a1 : List (List UInt8)) : Tree (RV E.A × List (Obj E.A)) :=
 .ite (!eqI (↑a0.length : Int) (↑a1.length : Int))
 (.leaf (.lf (.bool false), []))
 (.ite (eqI (↑a0.length : Int) (↑a0.length : Int) && leI (0 : Int) (0 : Int) && leI (0 : Int) (↑a0.length : Int) && eqI (↑a0.length : Int) (↑a1.length : Int))
  (.ite (Px.likeR (List.drop (Int.toNat (0 : Int)) a0) (List.drop (Int.toNat (0 : Int)) a1))
   (.leaf (.lf (.bool true), []))
   (.leaf (.lf (.bool false), [])))
  (.fail))
theorem e38 (a0 : List (List UInt8)) (a1 : List (List UInt8)) : execFun E G38 ((Lam38)) false Go.Proofs.Tryz.f38 [.lf (.sl .str a0), .lf (.sl .str a1)] [] some = (w38 a0 a1).get := by kernel_rfl
noncomputable def raw38 : Spec E := fun args os => match args, os with
  | [.lf (.sl .str a0), .lf (.sl .str a1)], [] => w38 a0 a1
  | _, _ => .fail
theorem validraw38 (hL : Laws E) : Valid E 38 raw38 :=
  valid_of_body hL (hG38 hL) (Λ := (Lam38)) (fn := Go.Proofs.Tryz.f38) (keep := false) (by kernel_rfl) (by kernel_rfl) (by kernel_rfl) ((LamOK.of (m := 1) (by kernel_rfl) (fun j hj σ e σ' hg => by
      match j, hj with
      | 0, _ => exact ll38_0 hL σ e σ' hg
      ))) (fun args os r os' h => by
    unfold raw38 at h
    split at h
    · exact (e38 _ _).trans h
    · cases h)
theorem likeR_iff : ∀ (a b : List (List UInt8)), a.length = b.length → (Px.likeR a b = true ↔ a = b)
  | [], [], _ => ⟨fun _ => rfl, fun _ => rfl⟩
  | x :: a, y :: b, h => by
    have ih := likeR_iff a b (by simpa using h)
    simp only [Px.likeR, List.getD_cons_zero, List.drop_succ_cons, List.drop_zero, Bool.and_eq_true, decide_eq_true_eq, ih, List.cons.injEq]
theorem eq38 (a b : List (List UInt8)) : (w38 a b).get = some (.lf (.bool (Px.likeS a b)), []) := by
  unfold Px.likeS
  unfold w38
  by_cases hl : a.length = b.length
  · have c0 : eqI (a.length : Int) (b.length : Int) = true := by rw [eqI_eq]; exact decide_eq_true (by omega)
    have g : (eqI (a.length : Int) (a.length : Int) && leI (0 : Int) 0 && leI (0 : Int) (a.length : Int) && eqI (a.length : Int) (b.length : Int)) = true := by
      simp only [eqI_eq, leI_eq, Bool.and_eq_true, decide_eq_true_eq]
      exact ⟨⟨⟨trivial, by omega⟩, by omega⟩, by omega⟩
    rw [Tree.get_ite, c0, Bool.not_true, cond_false, Tree.get_ite]
    rw [c0] at g
    rw [g, cond_true, Tree.get_ite]
    have hd := likeR_iff a b hl
    show cond (Px.likeR a b) _ _ = _
    cases q : Px.likeR a b with
    | true => rw [decide_eq_true (hd.1 q)]; rfl
    | false => rw [decide_eq_false (fun h => by rw [hd.2 h] at q; cases q)]; rfl
  · have c0 : eqI (a.length : Int) (b.length : Int) = false := by rw [eqI_eq]; exact decide_eq_false (by omega)
    rw [Tree.get_ite, c0, decide_eq_false (fun h => hl (by rw [h]))]; rfl
noncomputable def spec38 : Spec E := fun args os => match args, os with
  | [.lf (.sl .str a), .lf (.sl .str b)], [] => .leaf (.lf (.bool (Px.likeS a b)), [])
  | _, _ => .fail
theorem valid38 (hL : Laws E) : Valid E 38 spec38 := (validraw38 hL).less (fun args os x _ _ h => by
  unfold spec38 at h
  split at h
  · exact (eq38 _ _).trans h
  · cases h)
end Go.Vx
namespace Go.Vx
open Go
noncomputable def G16 (n : Nat) : FuncId → Option (Spec E)
  | 38 => some spec38
  | 39 => some (spec39N n)
  | _ => none
theorem hG16 (hL : Laws E) (n : Nat) (hN : Valid E 39 (spec39N n)) : ∀ f spec, (G16 n) f = some spec → Valid E f spec := by
  intro f spec h
  unfold G16 at h
  split at h
  · injection h with h; subst h; exact valid38 hL
  · injection h with h; subst h; exact hN
  · cases h
noncomputable def w16 (n : Nat) (a0Kind : Int) (a0Num : Int) (a0Gen : Int) (a0Text : List UInt8) (a0List : List Val) (a0Keys : List (List UInt8)) (a1Kind : Int) (a1Num : Int) (a1Gen : Int) (a1Text : List UInt8) (a1List : List Val) (a1Keys : List (List UInt8)) : Tree (RV E.A × List (Obj E.A)) :=
 .ite (eqI a0Kind a1Kind)
 (.ite (eqI a0Num a1Num)
  (.ite (eqI a0Gen a1Gen)
   (.ite (decide (a0Text = a1Text))
    (.ite (Px.likeS a0Keys a1Keys)
     (.ite ((Px.depthL a0List).ble n)
      (.leaf (.lf (.bool (Px.alikes a0List a1List)), []))
      (.fail))
     (.leaf (.lf (.bool false), [])))
    (.leaf (.lf (.bool false), [])))
   (.leaf (.lf (.bool false), [])))
  (.leaf (.lf (.bool false), [])))
 (.leaf (.lf (.bool false), []))
theorem e16 (n : Nat) (a0Kind : Int) (a0Num : Int) (a0Gen : Int) (a0Text : List UInt8) (a0List : List Val) (a0Keys : List (List UInt8)) (a1Kind : Int) (a1Num : Int) (a1Gen : Int) (a1Text : List UInt8) (a1List : List Val) (a1Keys : List (List UInt8)) : execFun E (G16 n) (fun _ _ => .fail) false Go.Proofs.Tryz.f16 [.agg [.int .u8 a0Kind, .int .i64 a0Num, .int .i64 a0Gen, .str a0Text, .sl .val a0List, .sl .str a0Keys], .agg [.int .u8 a1Kind, .int .i64 a1Num, .int .i64 a1Gen, .str a1Text, .sl .val a1List, .sl .str a1Keys]] [] some = (w16 n a0Kind a0Num a0Gen a0Text a0List a0Keys a1Kind a1Num a1Gen a1Text a1List a1Keys).get := by kernel_rfl
noncomputable def raw16 (n : Nat) : Spec E := fun args os => match args, os with
  | [.agg [.int .u8 a0Kind, .int .i64 a0Num, .int .i64 a0Gen, .str a0Text, .sl .val a0List, .sl .str a0Keys], .agg [.int .u8 a1Kind, .int .i64 a1Num, .int .i64 a1Gen, .str a1Text, .sl .val a1List, .sl .str a1Keys]], [] => w16 n a0Kind a0Num a0Gen a0Text a0List a0Keys a1Kind a1Num a1Gen a1Text a1List a1Keys
  | _, _ => .fail
theorem validraw16 (hL : Laws E) (n : Nat) (hN : Valid E 39 (spec39N n)) : Valid E 16 (raw16 n) :=
  valid_of_body hL (hG16 hL n hN) (Λ := fun _ _ => .fail) (fn := Go.Proofs.Tryz.f16) (keep := false) (by kernel_rfl) (by kernel_rfl) (by kernel_rfl) (LamOK.none (by kernel_rfl)) (fun args os r os' h => by
    unfold raw16 at h
    split at h
    · exact (e16 _ _ _ _ _ _ _ _ _ _ _ _ _).trans h
    · cases h)
theorem eq16 {n : Nat} (a0 a1 a2 : Int) (a3 : List UInt8) {a4 : List Val} (a5 : List (List UInt8)) (b0 b1 b2 : Int) (b3 : List UInt8) (b4 : List Val) (b5 : List (List UInt8)) (h : Nat.ble (Px.depthL a4) n = true) :
    (w16 n a0 a1 a2 a3 a4 a5 b0 b1 b2 b3 b4 b5).get = some (.lf (.bool (Px.alike (Val.mk a0 a1 a2 a3 a4 a5) (Val.mk b0 b1 b2 b3 b4 b5))), []) := by
  have e : Px.alike (Val.mk a0 a1 a2 a3 a4 a5) (Val.mk b0 b1 b2 b3 b4 b5) = (eqI a0 b0 && (eqI a1 b1 && (eqI a2 b2 && (decide (a3 = b3) && (Px.likeS a5 b5 && Px.alikes a4 b4))))) := by
    rw [Bool.eq_iff_iff, Px.alike_iff]
    unfold Px.likeS
    simp only [Val.mk.injEq, eqI_eq, Bool.and_eq_true, decide_eq_true_eq, Px.alikes_iff]
    constructor
    · rintro ⟨h0, h1, h2, h3, h4, h5⟩; exact ⟨h0, h1, h2, h3, h5, h4⟩
    · rintro ⟨h0, h1, h2, h3, h5, h4⟩; exact ⟨h0, h1, h2, h3, h4, h5⟩
  rw [e]
  unfold w16
  simp only [Tree.get_ite, Tree.get_leaf, h, cond_true]
  cases eqI a0 b0 <;> cases eqI a1 b1 <;> cases eqI a2 b2 <;> cases decide (a3 = b3) <;> cases Px.likeS a5 b5 <;> cases Px.alikes a4 b4 <;> rfl
theorem valid16N (hL : Laws E) : ∀ n, Valid E 16 (spec16N n)
  | 0 => Valid.never (fun args os => by
      unfold spec16N
      split
      · rfl
      · rfl)
  | n + 1 => (validraw16 hL n (valid39N hL n (valid16N hL n))).less (fun args os x u1 u2 h => by
      clear u1 u2
      unfold spec16N at h
      split at h
      · rcases Tree.get_ite_some h with ⟨h1, h⟩ | ⟨_, h⟩
        · exact (eq16 _ _ _ _ _ _ _ _ _ _ _ h1).trans h
        · cases h
      · cases h)
noncomputable def spec16 : Spec E := fun args os => match args, os with
  | [.agg [.int .u8 a0, .int .i64 a1, .int .i64 a2, .str a3, .sl .val a4, .sl .str a5], .agg [.int .u8 b0, .int .i64 b1, .int .i64 b2, .str b3, .sl .val b4, .sl .str b5]], [] =>
    .leaf (.lf (.bool (Px.alike (Val.mk a0 a1 a2 a3 a4 a5) (Val.mk b0 b1 b2 b3 b4 b5))), [])
  | _, _ => .fail
theorem valid16 (hL : Laws E) : Valid E 16 spec16 := Valid.forN (valid16N hL) (fun args os x h => by
  unfold spec16 at h
  split at h
  · rename_i a0 a1 a2 a3 a4 a5 b0 b1 b2 b3 b4 b5
    refine ⟨Px.depthL a4 + 1, ?_⟩
    unfold spec16N
    have : Nat.blt (Px.depthL a4) (Px.depthL a4 + 1) = true := Nat.ble_eq ▸ Nat.le_refl _
    rw [Tree.get_ite, this]
    exact h
  · cases h)
end Go.Vx
namespace Go.Vx
open Go
noncomputable def G74 : FuncId → Option (Spec E) := fun _ => none
theorem hG74 (hL : Laws E) : ∀ f spec, G74 f = some spec → Valid E f spec := by
  intro f spec h
  cases h
def L74_0 : Ex → Live
  | .normal => ⟨[0, 6, 7, 8], []⟩
  | .exit 0 => ⟨[], []⟩
  | .ret => ⟨[2], []⟩
  | _ => ⟨[], []⟩
noncomputable def S74_0 (p0 : Int) (p6 : List UInt8) (p7 : Int) (x : Int) : St E.A := at' E 16 [(0, .lf (.int .u8 p0)), (6, .lf (.sl .u8 p6)), (7, .lf (.int .i64 p7)), (8, .lf (.int .i64 x))] []
noncomputable def t74_0 (p0 : Int) (p6 : List UInt8) (p7 : Int) (x : Int) : Tree ((Int) ⊕ Out' E) :=
 .ite (ltI x p7)
 (.ite (inB x p6.length)
  (.ite (eqI p0 (↑(p6.getD x.toNat (0 : UInt8)).toNat : Int))
   (.leaf (.inr (.ret, at' E 16 [(2, .lf (.bool true))] [])))
   (.leaf (.inl ((IntKind.i64.wrap (x + (1 : Int)))))))
  (.fail))
 (.leaf (.inr (.exit 0, at' E 16 [] [])))
theorem h74_0 (p0 : Int) (p6 : List UInt8) (p7 : Int) (x : Int) (k : Ex → St E.A → Option Unit) :
    exec E G74 (fun _ _ => .fail) 1 (lb Go.Proofs.Tryz.f74 0) (S74_0 p0 p6 p7 x) (fun e σ1 => k e (clean E (L74_0 e) σ1)) = (t74_0 p0 p6 p7 x).run (Sum.elim (fun x' => k .normal (S74_0 p0 p6 p7 x')) (fun o => k o.1 o.2)) := by kernel_rfl
end Go.Vx
namespace Px
open Go.Vx Go
noncomputable def anyIs' : Int → List UInt8 → Bool := (Classical.choice (sealed anyIs)).1
theorem anyIs'_eq : anyIs' = anyIs := (Classical.choice (sealed anyIs)).2
end Px
namespace Go.Vx
open Go
noncomputable def lam74_0 (p0 : Int) (p6 : List UInt8) (p7 : Int) (x : Int) : Tree (Out' E) :=
  .ite (eqI p7 p6.length && leI 0 x && leI x p7)
   (.ite (Px.anyIs' p0 (p6.drop x.toNat)) (.leaf (.ret, at' E 16 [(2, .lf (.bool true))] [])) (.leaf (.exit 0, at' E 16 [] []))) .fail
theorem m74_0 {p0 : Int} {p6 : List UInt8} {p7 : Int} {x : Int} {e : Ex} {σ : St E.A} (g : okLenR (E := E) (.lf (.sl .u8 p6)) = true)
    (h : (lam74_0 p0 p6 p7 x).get = some (e, σ)) : ∃ fuel, iter (t74_0 p0 p6 p7) fuel x = some (e, σ) ∧ e ≠ .normal := by
  have hb : p6.length ≤ big := of_decide_eq_true g
  unfold lam74_0 at h
  have h' := Tree.get_ite_some h
  clear h
  rcases h' with ⟨h1, h⟩ | ⟨_, h⟩
  · simp only [eqI_eq, leI_eq, Bool.and_eq_true, decide_eq_true_eq] at h1
    obtain ⟨⟨rfl, k1⟩, k2⟩ := h1
    obtain ⟨i, rfl⟩ : ∃ j : Nat, x = (j : Int) := ⟨x.toNat, by omega⟩
    have key := scan_iter (t := t74_0 p0 p6 p6.length) (l := p6) 0 (fun i b => cond (eqI p0 (b.toNat : Int)) (some (Ex.ret, at' E 16 [(2, .lf (.bool true))] [])) none) (Ex.exit 0, at' E 16 [] [])
      (fun i hi => by
        unfold t74_0
        simp only [Tree.get_ite, Tree.get_leaf, ltI_nat hi, inB_nat hi, cond_true, i64_succ hi hb, Int.toNat_natCast]
        cases eqI p0 ((p6.getD i 0).toNat : Int) <;> rfl)
      (by unfold t74_0; simp only [Tree.get_ite, Tree.get_leaf, ltI_self, cond_false])
      (p6.length - i) i (by omega)
    rw [scan_any (fun (b : UInt8) => eqI p0 (b.toNat : Int))] at key
    rw [Tree.get_ite, Tree.get_leaf, Tree.get_leaf, Int.toNat_natCast, Px.anyIs'_eq] at h
    refine ⟨_, key.trans ?_, ?_⟩
    · rw [← h]; exact some_cond _ _ _
    · intro hh; subst hh
      cases q : Px.anyIs p0 (p6.drop i) <;> rw [q] at h <;> cases h
  · cases h
noncomputable def rd74_0 (σ : St E.A) : Tree (Out' E) :=
  let c := clean E (L74_0 .normal) σ
  if c.sl.length = 16 then
  match c.sl.getD 0 .undef, c.sl.getD 6 .undef, c.sl.getD 7 .undef, c.sl.getD 8 .undef with
  | .lf (.int .u8 p0), .lf (.sl .u8 p6), .lf (.int .i64 p7), .lf (.int .i64 x8) => lam74_0 p0 p6 p7 (x8)
  | _, _, _, _ => .fail
  else .fail
theorem ll74_0 (hL : Laws E) (σ : St E.A) (e : Ex) (σ' : St E.A) (h : (rd74_0 σ).get = some (e, σ')) : LoopOK E (lb Go.Proofs.Tryz.f74 0) σ e σ' := by
  refine LoopOK.of_clean hL (L74_0 .normal) ?_
  unfold rd74_0 at h
  simp only at h
  split at h
  · rename_i hlen
    split at h
    · rename_i p0 p6 p7 x8 h0 h1 h2 h3
      refine LoopOK.lens 6 (fun g0 => ?_)
      rw [h1] at g0
      obtain ⟨fuel, hi, ho⟩ := m74_0 g0 h
      have hl := loop_at (Γ := G74) (Λ := fun _ _ => .fail) (n := 1) (body := lb Go.Proofs.Tryz.f74 0) hL (hG74 hL) (S := S74_0 p0 p6 p7) (t := t74_0 p0 p6 p7) (Lv := L74_0) (LamOK.none (by kernel_rfl)) (h74_0 p0 p6 p7) hi ho
      refine LoopOK.fit hlen ?_ ?_ rfl rfl hl
      · exact ⟨h0, h1, h2, h3, trivial⟩
      · exact trivial
    · cases h
  · cases h
noncomputable def Lam74 : Lam E
  | 0, σ => rd74_0 σ
  | _, _ => .fail
noncomputable def w74 (a0 : Int) : Tree (RV E.A × List (Obj E.A)) :=
 .ite (Px.anyIs' a0 (List.drop (Int.toNat (0 : Int)) [(40 : UInt8), (41 : UInt8), (60 : UInt8), (62 : UInt8), (91 : UInt8), (93 : UInt8), (123 : UInt8), (125 : UInt8), (47 : UInt8), (37 : UInt8)]))
 (.leaf (.lf (.bool true), []))
 (.leaf (.lf (.bool false), []))
theorem e74 (a0 : Int) : execFun E G74 ((Lam74)) false Go.Proofs.Tryz.f74 [.lf (.int .u8 a0)] [] some = (w74 a0).get := by kernel_rfl
noncomputable def raw74 : Spec E := fun args os => match args, os with
  | [.lf (.int .u8 a0)], [] => w74 a0
  | _, _ => .fail
theorem validraw74 (hL : Laws E) : Valid E 74 raw74 :=
  valid_of_body hL (hG74 hL) (Λ := (Lam74)) (fn := Go.Proofs.Tryz.f74) (keep := false) (by kernel_rfl) (by kernel_rfl) (by kernel_rfl) ((LamOK.of (m := 1) (by kernel_rfl) (fun j hj σ e σ' hg => by
      match j, hj with
      | 0, _ => exact ll74_0 hL σ e σ' hg
      ))) (fun args os r os' h => by
    unfold raw74 at h
    split at h
    · exact (e74 _).trans h
    · cases h)
theorem eq74 (b : UInt8) : (w74 (b.toNat : Int)).get = some (.lf (.bool (Px.mark b)), []) := by
  unfold w74
  rw [Px.anyIs'_eq]
  have e : ∀ l : List UInt8, Px.anyIs (b.toNat : Int) l = leI 0 (Lib.indexByte l b) := Px.anyIs_index b
  simp only [e]
  show cond (Px.mark b) _ _ = _
  cases Px.mark b <;> rfl
noncomputable def spec74 : Spec E := fun args os => match args, os with
  | [.lf (.int .u8 c)], [] => .ite (inRb .u8 c) (.leaf (.lf (.bool (Px.mark (UInt8.ofNat c.toNat))), [])) .fail
  | _, _ => .fail
theorem valid74 (hL : Laws E) : Valid E 74 spec74 := (validraw74 hL).less (fun args os x u1 u2 h => by
  clear u1 u2
  unfold spec74 at h
  split at h
  · rename_i c
    rcases Tree.get_ite_some h with ⟨h1, h⟩ | ⟨_, h⟩
    · simp only [inRb, Bool.and_eq_true, decide_eq_true_eq] at h1
      have hc : ((UInt8.ofNat c.toNat).toNat : Int) = c := by
        have a0 : (0 : Int) ≤ c := h1.1
        have a1 : c ≤ 255 := h1.2
        rw [UInt8.toNat_ofNat']; omega
      have := eq74 (UInt8.ofNat c.toNat)
      rw [hc] at this
      exact this.trans h
    · cases h
  · cases h)
end Go.Vx
namespace Go.Vx
open Go
noncomputable def G48 : FuncId → Option (Spec E)
  | 74 => some spec74
  | _ => none
theorem hG48 (hL : Laws E) : ∀ f spec, G48 f = some spec → Valid E f spec := by
  intro f spec h
  unfold G48 at h
  split at h
  · injection h with h; subst h; exact valid74 hL
  · cases h
def L48_0 : Ex → Live
  | .normal => ⟨[0, 3], []⟩
  | .exit 0 => ⟨[0], []⟩
  | .ret => ⟨[2], []⟩
  | _ => ⟨[], []⟩
noncomputable def S48_0 (p0 : List UInt8) (x : Int) : St E.A := at' E 34 [(0, .lf (.str p0)), (3, .lf (.int .i64 x))] []
noncomputable def t48_0 (p0 : List UInt8) (x : Int) : Tree ((Int) ⊕ Out' E) :=
 .ite (ltI x (↑p0.length : Int))
 (.ite (inB x p0.length)
  (.ite (ltI (↑(p0.getD x.toNat (0 : UInt8)).toNat : Int) (33 : Int))
   (.leaf (.inr (.ret, at' E 34 [(2, .lf (.bool false))] [])))
   (.ite (inB x p0.length)
    (.ite (ltI (126 : Int) (↑(p0.getD x.toNat (0 : UInt8)).toNat : Int))
     (.leaf (.inr (.ret, at' E 34 [(2, .lf (.bool false))] [])))
     (.ite (inB x p0.length)
      (.ite (eqI (↑(p0.getD x.toNat (0 : UInt8)).toNat : Int) (35 : Int))
       (.leaf (.inr (.ret, at' E 34 [(2, .lf (.bool false))] [])))
       (.ite (inB x p0.length)
        (.ite (inRb IntKind.u8 (↑(p0.getD x.toNat (0 : UInt8)).toNat : Int))
         (.ite (Px.mark (UInt8.ofNat (↑(p0.getD x.toNat (0 : UInt8)).toNat : Int).toNat))
          (.leaf (.inr (.ret, at' E 34 [(2, .lf (.bool false))] [])))
          (.leaf (.inl ((IntKind.i64.wrap (x + (1 : Int)))))))
         (.fail))
        (.fail)))
      (.fail)))
    (.fail)))
  (.fail))
 (.leaf (.inr (.exit 0, at' E 34 [(0, .lf (.str p0))] [])))
theorem h48_0 (p0 : List UInt8) (x : Int) (k : Ex → St E.A → Option Unit) :
    exec E G48 (fun _ _ => .fail) 1 (lb Go.Proofs.Tryz.f48 0) (S48_0 p0 x) (fun e σ1 => k e (clean E (L48_0 e) σ1)) = (t48_0 p0 x).run (Sum.elim (fun x' => k .normal (S48_0 p0 x')) (fun o => k o.1 o.2)) := by kernel_rfl
noncomputable def lam48_0 (p0 : List UInt8) (x : Int) : Tree (Out' E) :=
  .ite (leI 0 x && leI x p0.length)
   (.ite (Px.anyBad' (p0.drop x.toNat)) (.leaf (.ret, at' E 34 [(2, .lf (.bool false))] [])) (.leaf (.exit 0, at' E 34 [(0, .lf (.str p0))] []))) .fail
theorem m48_0 {p0 : List UInt8} {x : Int} {e : Ex} {σ : St E.A} (g : okLenR (E := E) (.lf (.str p0)) = true)
    (h : (lam48_0 p0 x).get = some (e, σ)) : ∃ fuel, iter (t48_0 p0) fuel x = some (e, σ) ∧ e ≠ .normal := by
  have hb : p0.length ≤ big := of_decide_eq_true g
  unfold lam48_0 at h
  have h' := Tree.get_ite_some h
  clear h
  rcases h' with ⟨h1, h⟩ | ⟨_, h⟩
  · simp only [eqI_eq, leI_eq, Bool.and_eq_true, decide_eq_true_eq] at h1
    obtain ⟨k1, k2⟩ := h1
    obtain ⟨i, rfl⟩ : ∃ j : Nat, x = (j : Int) := ⟨x.toNat, by omega⟩
    have key := scan_iter (t := t48_0 p0) (l := p0) 0 (fun i b => cond (Px.badB b) (some (Ex.ret, at' E 34 [(2, .lf (.bool false))] [])) none) (Ex.exit 0, at' E 34 [(0, .lf (.str p0))] [])
      (fun i hi => by
        unfold t48_0
        simp only [Tree.get_ite, Tree.get_leaf, ltI_nat hi, inB_nat hi, cond_true, i64_succ hi hb, Int.toNat_natCast, inRb_u8, ltI_33]
        rw [UInt8.ofNat_toNat]
        unfold Px.badB
        cases leI ((p0.getD i 0).toNat : Int) 32 <;> cases ltI 126 ((p0.getD i 0).toNat : Int) <;> cases eqI ((p0.getD i 0).toNat : Int) 35 <;> cases Px.mark (p0.getD i 0) <;> rfl)
      (by unfold t48_0; simp only [Tree.get_ite, Tree.get_leaf, ltI_self, cond_false])
      (p0.length - i) i (by omega)
    rw [scan_any (fun (b : UInt8) => Px.badB b)] at key
    have hany : ∀ l : List UInt8, (l.any fun (b : UInt8) => Px.badB b) = Px.anyBad l := fun _ => rfl
    rw [hany] at key
    rw [Tree.get_ite, Tree.get_leaf, Tree.get_leaf, Int.toNat_natCast, Px.anyBad'_eq] at h
    refine ⟨_, key.trans ?_, ?_⟩
    · rw [← h]; exact some_cond _ _ _
    · intro hh; subst hh
      cases q : Px.anyBad (p0.drop i) <;> rw [q] at h <;> cases h
  · cases h
noncomputable def rd48_0 (σ : St E.A) : Tree (Out' E) :=
  let c := clean E (L48_0 .normal) σ
  if c.sl.length = 34 then
  match c.sl.getD 0 .undef, c.sl.getD 3 .undef with
  | .lf (.str p0), .lf (.int .i64 x3) => lam48_0 p0 (x3)
  | _, _ => .fail
  else .fail
theorem ll48_0 (hL : Laws E) (σ : St E.A) (e : Ex) (σ' : St E.A) (h : (rd48_0 σ).get = some (e, σ')) : LoopOK E (lb Go.Proofs.Tryz.f48 0) σ e σ' := by
  refine LoopOK.of_clean hL (L48_0 .normal) ?_
  unfold rd48_0 at h
  simp only at h
  split at h
  · rename_i hlen
    split at h
    · rename_i p0 x3 h0 h1
      refine LoopOK.lens 0 (fun g0 => ?_)
      rw [h0] at g0
      obtain ⟨fuel, hi, ho⟩ := m48_0 g0 h
      have hl := loop_at (Γ := G48) (Λ := fun _ _ => .fail) (n := 1) (body := lb Go.Proofs.Tryz.f48 0) hL (hG48 hL) (S := S48_0 p0) (t := t48_0 p0) (Lv := L48_0) (LamOK.none (by kernel_rfl)) (h48_0 p0) hi ho
      refine LoopOK.fit hlen ?_ ?_ rfl rfl hl
      · exact ⟨h0, h1, trivial⟩
      · exact trivial
    · cases h
  · cases h
noncomputable def Lam48 : Lam E
  | 0, σ => rd48_0 σ
  | _, _ => .fail
noncomputable def w48 (a0 : List UInt8) : Tree (RV E.A × List (Obj E.A)) :=
 .ite (Px.anyBad' (List.drop (Int.toNat (0 : Int)) a0))
 (.leaf (.lf (.bool false), []))
 (.leaf (.lf (.bool (!decide (a0 = []))), []))
theorem e48 (a0 : List UInt8) : execFun E G48 ((Lam48)) false Go.Proofs.Tryz.f48 [.lf (.str a0)] [] some = (w48 a0).get := by kernel_rfl
noncomputable def raw48 : Spec E := fun args os => match args, os with
  | [.lf (.str a0)], [] => w48 a0
  | _, _ => .fail
theorem validraw48 (hL : Laws E) : Valid E 48 raw48 :=
  valid_of_body hL (hG48 hL) (Λ := (Lam48)) (fn := Go.Proofs.Tryz.f48) (keep := false) (by kernel_rfl) (by kernel_rfl) (by kernel_rfl) ((LamOK.of (m := 1) (by kernel_rfl) (fun j hj σ e σ' hg => by
      match j, hj with
      | 0, _ => exact ll48_0 hL σ e σ' hg
      ))) (fun args os r os' h => by
    unfold raw48 at h
    split at h
    · exact (e48 _).trans h
    · cases h)
theorem eq48 (s : List UInt8) : (w48 s).get = some (.lf (.bool (Px.plain s)), []) := by
  have g : (leI 0 0 && leI 0 (s.length : Int)) = true := by
    simp [eqI_eq, leI_eq]
  unfold w48
  simp only [Tree.get_ite, Tree.get_leaf, Px.anyBad'_eq]
  first | rw [g] | skip
  unfold Px.plain
  cases s with
  | nil => rfl
  | cons a r =>
    show cond (Px.anyBad (a :: r)) _ _ = _
    cases Px.anyBad (a :: r) <;> rfl
noncomputable def spec48 : Spec E := fun args os => match args, os with
  | [.lf (.str s)], [] => .leaf (.lf (.bool (Px.plain s)), [])
  | _, _ => .fail
theorem valid48 (hL : Laws E) : Valid E 48 spec48 := (validraw48 hL).less (fun args os x u1 u2 h => by
  clear u1 u2
  unfold spec48 at h
  split at h
  · rename_i s
    exact (eq48 s).trans h
  · cases h)
end Go.Vx
namespace Go.Vx
open Go
noncomputable def G66 : FuncId → Option (Spec E)
  | 48 => some spec48
  | _ => none
theorem hG66 (hL : Laws E) : ∀ f spec, G66 f = some spec → Valid E f spec := by
  intro f spec h
  unfold G66 at h
  split at h
  · injection h with h; subst h; exact valid48 hL
  · cases h
def L66_0 : Ex → Live
  | .normal => ⟨[0, 3, 6, 7], []⟩
  | .exit 0 => ⟨[3], []⟩
  | .ret => ⟨[2], []⟩
  | _ => ⟨[], []⟩
noncomputable def S66_0 (p0 : List UInt8) (p6 : Int) (x : (List UInt8) × Int) : St E.A := at' E 29 [(0, .lf (.str p0)), (3, .lf (.str x.1)), (6, .lf (.int .i64 p6)), (7, .lf (.int .i64 x.2))] []
noncomputable def t66_0 (p0 : List UInt8) (p6 : Int) (x : (List UInt8) × Int) : Tree ((List UInt8) × Int ⊕ Out' E) :=
 .ite (ltI x.snd p6)
 (.ite (ltI x.snd (8 : Int))
  (.ite (leI (0 : Int) x.snd && leI x.snd (IntKind.i64.wrap (x.snd + (1 : Int))) && leI (IntKind.i64.wrap (x.snd + (1 : Int))) (↑p0.length : Int))
   (.ite (Px.plain (List.drop x.snd.toNat (List.take (IntKind.i64.wrap (x.snd + (1 : Int))).toNat p0)))
    (.ite (leI (0 : Int) x.snd && leI x.snd (IntKind.i64.wrap (x.snd + (1 : Int))) && leI (IntKind.i64.wrap (x.snd + (1 : Int))) (↑p0.length : Int))
     (.ite (decide (x.fst.length + (List.drop x.snd.toNat (List.take (IntKind.i64.wrap (x.snd + (1 : Int))).toNat p0)).length ≤ (2 : Nat) ^ (60 : Nat)))
      (.leaf (.inl ((x.fst ++ List.drop x.snd.toNat (List.take (IntKind.i64.wrap (x.snd + (1 : Int))).toNat p0)), (IntKind.i64.wrap (x.snd + (1 : Int))))))
      (.fail))
     (.fail))
    (.leaf (.inl (x.fst, (IntKind.i64.wrap (x.snd + (1 : Int)))))))
   (.fail))
  (.leaf (.inl (x.fst, (IntKind.i64.wrap (x.snd + (1 : Int)))))))
 (.leaf (.inr (.exit 0, at' E 29 [(3, .lf (.str x.fst))] [])))
theorem h66_0 (p0 : List UInt8) (p6 : Int) (x : (List UInt8) × Int) (k : Ex → St E.A → Option Unit) :
    exec E G66 (fun _ _ => .fail) 1 (lb Go.Proofs.Tryz.f66 0) (S66_0 p0 p6 x) (fun e σ1 => k e (clean E (L66_0 e) σ1)) = (t66_0 p0 p6 x).run (Sum.elim (fun x' => k .normal (S66_0 p0 p6 x')) (fun o => k o.1 o.2)) := by kernel_rfl
noncomputable def lam66_0 (p0 : List UInt8) (p6 : Int) (x : List UInt8 × Int) : Tree (Out' E) :=
  .ite (eqI p6 p0.length && leI 0 x.2 && leI x.2 p6 && leI x.1.length x.2 && leI x.1.length 8)
   (.leaf (.exit 0, at' E 29 [(3, .lf (.str (Px.nameGo' x.1 x.2.toNat (p0.drop x.2.toNat))))] [])) .fail
theorem m66_0 {p0 : List UInt8} {p6 : Int} {x : List UInt8 × Int} {e : Ex} {σ : St E.A} (g : okLenR (E := E) (.lf (.str p0)) = true) (_ : okLenR (E := E) (.lf (.str x.1)) = true)
    (h : (lam66_0 p0 p6 x).get = some (e, σ)) : ∃ fuel, iter (t66_0 p0 p6) fuel x = some (e, σ) ∧ e ≠ .normal := by
  have hb : p0.length ≤ big := of_decide_eq_true g
  obtain ⟨a, z⟩ := x
  unfold lam66_0 at h
  have h' := Tree.get_ite_some h
  clear h
  rcases h' with ⟨h1, h⟩ | ⟨_, h⟩
  · simp only [eqI_eq, leI_eq, Bool.and_eq_true, decide_eq_true_eq] at h1
    obtain ⟨⟨⟨⟨rfl, k1⟩, k2⟩, k3⟩, k4⟩ := h1
    obtain ⟨i, rfl⟩ : ∃ j : Nat, z = (j : Int) := ⟨z.toNat, by omega⟩
    have key := range_iter (O := Out' E) (t := t66_0 p0 p0.length) (l := p0) 0 (fun (a : List UInt8) (i : Int) => (a, i))
      (fun i a b => (.inl (cond (ltI (i : Int) 8 && !Px.badB b) (a ++ [b]) a) : List UInt8 ⊕ Out' E)) (fun a => (Ex.exit 0, at' E 29 [(3, .lf (.str a))] [])) (fun i a => a.length ≤ i ∧ a.length ≤ 8)
      (fun i a hi ho => by
        refine ⟨?_, fun a' ha => ?_⟩
        · have e1 : leI (0 : Int) (i : Int) = true := by rw [leI_eq]; exact decide_eq_true (by omega)
          have e2 : leI (i : Int) ((i + 1 : Nat) : Int) = true := by rw [leI_eq]; exact decide_eq_true (by omega)
          have e3 : leI ((i + 1 : Nat) : Int) (p0.length : Int) = true := by rw [leI_eq]; exact decide_eq_true (by omega)
          have e4 : decide (a.length + [p0.getD i 0].length ≤ (2 : Nat) ^ (60 : Nat)) = true := decide_eq_true (by
            have := ho.2
            simp only [List.length_cons, List.length_nil]
            omega)
          unfold t66_0
          simp only [Tree.get_ite, Tree.get_leaf, ltI_nat hi, cond_true, i64_succ hi hb, Int.toNat_natCast, Px.slice1 p0 hi, Px.plain_one, e1, e2, e3, e4, Bool.and_true]
          cases ltI (i : Int) 8 <;> cases Px.badB (p0.getD i 0) <;> rfl
        · injection ha with ha
          subst ha
          cases q : ltI (i : Int) 8 && !Px.badB (p0.getD i 0)
          · exact ⟨Nat.le_succ_of_le ho.1, ho.2⟩
          · rw [Bool.and_eq_true, ltI_eq, decide_eq_true_eq] at q
            have := ho.1
            show (a ++ [_]).length ≤ i + 1 ∧ (a ++ [_]).length ≤ 8
            rw [List.length_append]
            simp only [List.length_cons, List.length_nil]
            omega)
      (fun a ho => by unfold t66_0; simp only [Tree.get_ite, Tree.get_leaf, ltI_self, cond_false])
      (p0.length - i) i a (by omega) ⟨by omega, by omega⟩
    rw [Px.nameGo_run] at key
    rw [Int.toNat_natCast, Px.nameGo'_eq] at h
    injection h with h
    injection h with h1 h2
    subst h1
    refine ⟨_, key.trans ?_, fun hh => by cases hh⟩
    rw [← h2]
  · cases h
noncomputable def rd66_0 (σ : St E.A) : Tree (Out' E) :=
  let c := clean E (L66_0 .normal) σ
  if c.sl.length = 29 then
  match c.sl.getD 0 .undef, c.sl.getD 3 .undef, c.sl.getD 6 .undef, c.sl.getD 7 .undef with
  | .lf (.str p0), .lf (.str x3), .lf (.int .i64 p6), .lf (.int .i64 x7) => lam66_0 p0 p6 (x3, x7)
  | _, _, _, _ => .fail
  else .fail
theorem ll66_0 (hL : Laws E) (σ : St E.A) (e : Ex) (σ' : St E.A) (h : (rd66_0 σ).get = some (e, σ')) : LoopOK E (lb Go.Proofs.Tryz.f66 0) σ e σ' := by
  refine LoopOK.of_clean hL (L66_0 .normal) ?_
  unfold rd66_0 at h
  simp only at h
  split at h
  · rename_i hlen
    split at h
    · rename_i p0 x3 p6 x7 h0 h1 h2 h3
      refine LoopOK.lens 0 (fun g0 => ?_)
      rw [h0] at g0
      refine LoopOK.lens 3 (fun g1 => ?_)
      rw [h1] at g1
      obtain ⟨fuel, hi, ho⟩ := m66_0 g0 g1 h
      have hl := loop_at (Γ := G66) (Λ := fun _ _ => .fail) (n := 1) (body := lb Go.Proofs.Tryz.f66 0) hL (hG66 hL) (S := S66_0 p0 p6) (t := t66_0 p0 p6) (Lv := L66_0) (LamOK.none (by kernel_rfl)) (h66_0 p0 p6) hi ho
      refine LoopOK.fit hlen ?_ ?_ rfl rfl hl
      · exact ⟨h0, h1, h2, h3, trivial⟩
      · exact trivial
    · cases h
  · cases h
noncomputable def Lam66 : Lam E
  | 0, σ => rd66_0 σ
  | _, _ => .fail
noncomputable def w66 (a0 : List UInt8) : Tree (RV E.A × List (Obj E.A)) :=
 .ite (eqI (↑a0.length : Int) (↑a0.length : Int) && leI (0 : Int) (0 : Int) && leI (0 : Int) (↑a0.length : Int) && leI (↑([] : List UInt8).length : Int) (0 : Int) && leI (↑([] : List UInt8).length : Int) (8 : Int))
 (.leaf (.lf (.str (Px.nameGo' [] (Int.toNat (0 : Int)) (List.drop (Int.toNat (0 : Int)) a0))), []))
 (.fail)
theorem e66 (a0 : List UInt8) : execFun E G66 ((Lam66)) false Go.Proofs.Tryz.f66 [.lf (.str a0)] [] some = (w66 a0).get := by kernel_rfl
noncomputable def raw66 : Spec E := fun args os => match args, os with
  | [.lf (.str a0)], [] => w66 a0
  | _, _ => .fail
theorem validraw66 (hL : Laws E) : Valid E 66 raw66 :=
  valid_of_body hL (hG66 hL) (Λ := (Lam66)) (fn := Go.Proofs.Tryz.f66) (keep := false) (by kernel_rfl) (by kernel_rfl) (by kernel_rfl) ((LamOK.of (m := 1) (by kernel_rfl) (fun j hj σ e σ' hg => by
      match j, hj with
      | 0, _ => exact ll66_0 hL σ e σ' hg
      ))) (fun args os r os' h => by
    unfold raw66 at h
    split at h
    · exact (e66 _).trans h
    · cases h)
theorem eq66 (s : List UInt8) : (w66 s).get = some (.lf (.str (Px.nameOf s)), []) := by
  have g : (eqI (s.length : Int) (s.length : Int) && leI 0 0 && leI 0 (s.length : Int) && leI (([] : List UInt8).length : Int) 0 && leI (([] : List UInt8).length : Int) 8) = true := by
    simp [eqI_eq, leI_eq]
  unfold w66
  simp only [Tree.get_ite, Tree.get_leaf, Px.nameGo'_eq]
  rw [g, ← Px.nameOf_eq]
  rfl
noncomputable def spec66 : Spec E := fun args os => match args, os with
  | [.lf (.str s)], [] => .leaf (.lf (.str (Px.nameOf s)), [])
  | _, _ => .fail
theorem valid66 (hL : Laws E) : Valid E 66 spec66 := (validraw66 hL).less (fun args os x u1 u2 h => by
  clear u1 u2
  unfold spec66 at h
  split at h
  · rename_i s
    exact (eq66 s).trans h
  · cases h)
end Go.Vx
namespace Go.Vx
open Go
noncomputable def G67 : FuncId → Option (Spec E) := fun _ => none
theorem hG67 (hL : Laws E) : ∀ f spec, G67 f = some spec → Valid E f spec := by
  intro f spec h
  cases h
noncomputable def w67 (a0 : List UInt8) (a1 : Int) : Tree (RV E.A × List (Obj E.A)) :=
 .ite (leI (0 : Int) (↑(0 : Nat) : Int) && leI (↑(0 : Nat) : Int) (if false = true then Max.max (↑a0.length : Int) a1 else Min.min (↑a0.length : Int) a1) && leI (if false = true then Max.max (↑a0.length : Int) a1 else Min.min (↑a0.length : Int) a1) (↑a0.length : Int))
 (.leaf (.lf (.str (List.drop (↑(0 : Nat) : Int).toNat (List.take (if false = true then Max.max (↑a0.length : Int) a1 else Min.min (↑a0.length : Int) a1).toNat a0))), []))
 (.fail)
theorem e67 (a0 : List UInt8) (a1 : Int) : execFun E G67 (fun _ _ => .fail) false Go.Proofs.Tryz.f67 [.lf (.str a0), .lf (.int .i64 a1)] [] some = (w67 a0 a1).get := by kernel_rfl
noncomputable def raw67 : Spec E := fun args os => match args, os with
  | [.lf (.str a0), .lf (.int .i64 a1)], [] => w67 a0 a1
  | _, _ => .fail
theorem validraw67 (hL : Laws E) : Valid E 67 raw67 :=
  valid_of_body hL (hG67 hL) (Λ := fun _ _ => .fail) (fn := Go.Proofs.Tryz.f67) (keep := false) (by kernel_rfl) (by kernel_rfl) (by kernel_rfl) (LamOK.none (by kernel_rfl)) (fun args os r os' h => by
    unfold raw67 at h
    split at h
    · exact (e67 _ _).trans h
    · cases h)
noncomputable def spec67 : Spec E := fun args os => match args, os with
  | [.lf (.str a0), .lf (.int .i64 a1)], [] => .ite (leI 0 a1) (.leaf (.lf (.str (List.take a1.toNat a0)), [])) .fail
  | _, _ => .fail
theorem valid67 (hL : Laws E) : Valid E 67 spec67 := (validraw67 hL).less (fun args os x u1 u2 h => by
  clear u1 u2
  unfold spec67 at h
  split at h
  · rename_i s c
    rcases Tree.get_ite_some h with ⟨h1, h⟩ | ⟨_, h⟩
    · rw [leI_eq, decide_eq_true_eq] at h1
      rw [← h]
      show (w67 s c).get = _
      have e0 : (if false = true then Max.max (s.length : Int) c else Min.min (s.length : Int) c) = Min.min (s.length : Int) c := rfl
      have e : (leI (0 : Int) ((0 : Nat) : Int) && leI ((0 : Nat) : Int) (Min.min (s.length : Int) c) && leI (Min.min (s.length : Int) c) (s.length : Int)) = true := by
        simp only [leI_eq, Bool.and_eq_true, decide_eq_true_eq]
        omega
      unfold w67
      rw [Tree.get_ite, Tree.get_leaf, e0, e, cond_true, Int.toNat_natCast, List.drop_zero]
      have : List.take (Min.min (s.length : Int) c).toNat s = List.take c.toNat s := by
        by_cases hc : c ≤ s.length
        · rw [Int.min_eq_right hc]
        · rw [Int.min_eq_left (by omega), Int.toNat_natCast, List.take_of_length_le (Nat.le_refl _), List.take_of_length_le (by omega)]
      rw [this]
      rfl
    · cases h
  · cases h)
end Go.Vx
namespace Go.Vx
open Go
noncomputable def spec41N (n : Nat) : Spec E := fun args os => match args, os with
  | [.lf (.sl .bit l), .lf (.int .i64 d)], [] => .ite (leI 0 d && ltI d 22 && leI 22 (d + n) && !l.isEmpty)
     (.leaf (.tup [(true, [.int .u8 (Px.vk (Px.growV d l)), .int .i64 (Px.vn (Px.growV d l)), .int .i64 (Px.vg (Px.growV d l)), .str (Px.vt (Px.growV d l)), .sl .val (Px.vl (Px.growV d l)), .sl .str (Px.vs (Px.growV d l))]), (false, [.sl .bit (Px.growL d l)])], [])) .fail
  | _, _ => .fail
noncomputable def G41 (n : Nat) : FuncId → Option (Spec E)
  | 66 => some spec66
  | 67 => some spec67
  | 41 => some (spec41N n)
  | _ => none
theorem hG41 (hL : Laws E) (n : Nat) (hN : Valid E 41 (spec41N n)) : ∀ f spec, (G41 n) f = some spec → Valid E f spec := by
  intro f spec h
  unfold G41 at h
  split at h
  · injection h with h; subst h; exact valid66 hL
  · injection h with h; subst h; exact valid67 hL
  · injection h with h; subst h; exact hN
  · cases h
def L41_0 : Ex → Live
  | .normal => ⟨[0, 1, 4, 6, 7, 61, 62], [320, 448, 512]⟩
  | .exit 1 => ⟨[0, 4, 6, 7], [320, 448, 512]⟩
  | .ret => ⟨[4, 5], [320, 448, 512]⟩
  | _ => ⟨[], []⟩
noncomputable def S41_0 (p1 : Int) (p61 : Int) (x : (List (Int × Int × Int × List UInt8 × Int × Bool)) × Int × Int × Int × Int × (List UInt8) × (List Val) × (List (List UInt8)) × Int × Int × Int × (List UInt8) × Int × Bool × Int × Int × Int × (List UInt8) × (List Val) × (List (List UInt8))) : St E.A := at' E 110 [(0, .lf (.sl .bit x.1)), (1, .lf (.int .i64 p1)), (4, .lf (.ptr 320 0 0)), (6, .lf (.ptr 448 0 0)), (7, .lf (.ptr 512 0 0)), (61, .lf (.int .u8 p61)), (62, .lf (.int .u8 x.2.1))] [(320, some (.cells 30 [.int .u8 x.2.2.1, .int .i64 x.2.2.2.1, .int .i64 x.2.2.2.2.1, .str x.2.2.2.2.2.1, .own 0 0 .val x.2.2.2.2.2.2.1, .own 1 0 .str x.2.2.2.2.2.2.2.1])), (448, some (.cells 99 [.int .u8 x.2.2.2.2.2.2.2.2.1, .int .i64 x.2.2.2.2.2.2.2.2.2.1, .int .u8 x.2.2.2.2.2.2.2.2.2.2.1, .str x.2.2.2.2.2.2.2.2.2.2.2.1, .int .u8 x.2.2.2.2.2.2.2.2.2.2.2.2.1, .bool x.2.2.2.2.2.2.2.2.2.2.2.2.2.1])), (512, some (.cells 30 [.int .u8 x.2.2.2.2.2.2.2.2.2.2.2.2.2.2.1, .int .i64 x.2.2.2.2.2.2.2.2.2.2.2.2.2.2.2.1, .int .i64 x.2.2.2.2.2.2.2.2.2.2.2.2.2.2.2.2.1, .str x.2.2.2.2.2.2.2.2.2.2.2.2.2.2.2.2.2.1, .own 2 0 .val x.2.2.2.2.2.2.2.2.2.2.2.2.2.2.2.2.2.2.1, .own 3 0 .str x.2.2.2.2.2.2.2.2.2.2.2.2.2.2.2.2.2.2.2]))]
noncomputable def t41_0 (n : Nat) (p1 : Int) (p61 : Int) (x : (List (Int × Int × Int × List UInt8 × Int × Bool)) × Int × Int × Int × Int × (List UInt8) × (List Val) × (List (List UInt8)) × Int × Int × Int × (List UInt8) × Int × Bool × Int × Int × Int × (List UInt8) × (List Val) × (List (List UInt8))) : Tree ((List (Int × Int × Int × List UInt8 × Int × Bool)) × Int × Int × Int × Int × (List UInt8) × (List Val) × (List (List UInt8)) × Int × Int × Int × (List UInt8) × Int × Bool × Int × Int × Int × (List UInt8) × (List Val) × (List (List UInt8)) ⊕ Out' E) :=
 .ite (ltI x.snd.fst p61)
 (.ite (eqI (↑x.fst.length : Int) (0 : Int))
  (.leaf (.inr (.exit 1, at' E 110 [(0, .lf (.sl .bit x.fst)), (4, .lf (.ptr 320 0 0)), (6, .lf (.ptr 448 0 0)), (7, .lf (.ptr 512 0 0))] [(320, some (.cells 30 [.int .u8 x.snd.snd.fst, .int .i64 x.snd.snd.snd.fst, .int .i64 x.snd.snd.snd.snd.fst, .str x.snd.snd.snd.snd.snd.fst, .own 0 0 .val x.snd.snd.snd.snd.snd.snd.fst, .own 1 0 .str x.snd.snd.snd.snd.snd.snd.snd.fst])), (448, some (.cells 99 [.int .u8 x.snd.snd.snd.snd.snd.snd.snd.snd.fst, .int .i64 x.snd.snd.snd.snd.snd.snd.snd.snd.snd.fst, .int .u8 x.snd.snd.snd.snd.snd.snd.snd.snd.snd.snd.fst, .str x.snd.snd.snd.snd.snd.snd.snd.snd.snd.snd.snd.fst, .int .u8 x.snd.snd.snd.snd.snd.snd.snd.snd.snd.snd.snd.snd.fst, .bool x.snd.snd.snd.snd.snd.snd.snd.snd.snd.snd.snd.snd.snd.fst])), (512, some (.cells 30 [.int .u8 x.snd.snd.snd.snd.snd.snd.snd.snd.snd.snd.snd.snd.snd.snd.fst, .int .i64 x.snd.snd.snd.snd.snd.snd.snd.snd.snd.snd.snd.snd.snd.snd.snd.fst, .int .i64 x.snd.snd.snd.snd.snd.snd.snd.snd.snd.snd.snd.snd.snd.snd.snd.snd.fst, .str x.snd.snd.snd.snd.snd.snd.snd.snd.snd.snd.snd.snd.snd.snd.snd.snd.snd.fst, .own 2 0 .val x.snd.snd.snd.snd.snd.snd.snd.snd.snd.snd.snd.snd.snd.snd.snd.snd.snd.snd.fst, .own 3 0 .str x.snd.snd.snd.snd.snd.snd.snd.snd.snd.snd.snd.snd.snd.snd.snd.snd.snd.snd.snd]))])))
  (.ite (ltI (20 : Int) p1)
   (.leaf (.inr (.exit 1, at' E 110 [(0, .lf (.sl .bit x.fst)), (4, .lf (.ptr 320 0 0)), (6, .lf (.ptr 448 0 0)), (7, .lf (.ptr 512 0 0))] [(320, some (.cells 30 [.int .u8 x.snd.snd.fst, .int .i64 x.snd.snd.snd.fst, .int .i64 x.snd.snd.snd.snd.fst, .str x.snd.snd.snd.snd.snd.fst, .own 0 0 .val x.snd.snd.snd.snd.snd.snd.fst, .own 1 0 .str x.snd.snd.snd.snd.snd.snd.snd.fst])), (448, some (.cells 99 [.int .u8 x.snd.snd.snd.snd.snd.snd.snd.snd.fst, .int .i64 x.snd.snd.snd.snd.snd.snd.snd.snd.snd.fst, .int .u8 x.snd.snd.snd.snd.snd.snd.snd.snd.snd.snd.fst, .str x.snd.snd.snd.snd.snd.snd.snd.snd.snd.snd.snd.fst, .int .u8 x.snd.snd.snd.snd.snd.snd.snd.snd.snd.snd.snd.snd.fst, .bool x.snd.snd.snd.snd.snd.snd.snd.snd.snd.snd.snd.snd.snd.fst])), (512, some (.cells 30 [.int .u8 x.snd.snd.snd.snd.snd.snd.snd.snd.snd.snd.snd.snd.snd.snd.fst, .int .i64 x.snd.snd.snd.snd.snd.snd.snd.snd.snd.snd.snd.snd.snd.snd.snd.fst, .int .i64 x.snd.snd.snd.snd.snd.snd.snd.snd.snd.snd.snd.snd.snd.snd.snd.snd.fst, .str x.snd.snd.snd.snd.snd.snd.snd.snd.snd.snd.snd.snd.snd.snd.snd.snd.snd.fst, .own 2 0 .val x.snd.snd.snd.snd.snd.snd.snd.snd.snd.snd.snd.snd.snd.snd.snd.snd.snd.snd.fst, .own 3 0 .str x.snd.snd.snd.snd.snd.snd.snd.snd.snd.snd.snd.snd.snd.snd.snd.snd.snd.snd.snd]))])))
   (.ite (leI (0 : Int) (IntKind.i64.wrap (p1 + (1 : Int))) && ltI (IntKind.i64.wrap (p1 + (1 : Int))) (22 : Int) && leI (22 : Int) (IntKind.i64.wrap (p1 + (1 : Int)) + (↑n : Int)) && !x.fst.isEmpty)
    (.ite (decide ((x.snd.snd.snd.snd.snd.snd.snd.snd.snd.snd.snd.snd.snd.snd.snd.snd.snd.snd.fst.length + [Val.mk (Px.vk (Px.growV (IntKind.i64.wrap (p1 + (1 : Int))) x.fst)) (Px.vn (Px.growV (IntKind.i64.wrap (p1 + (1 : Int))) x.fst)) (Px.vg (Px.growV (IntKind.i64.wrap (p1 + (1 : Int))) x.fst)) (Px.vt (Px.growV (IntKind.i64.wrap (p1 + (1 : Int))) x.fst)) (Px.vl (Px.growV (IntKind.i64.wrap (p1 + (1 : Int))) x.fst)) (Px.vs (Px.growV (IntKind.i64.wrap (p1 + (1 : Int))) x.fst))].length) * (88 : Nat) ≤ (140737488355328 : Nat)))
     (.ite (eqI x.snd.snd.snd.snd.snd.snd.snd.snd.snd.snd.snd.snd.snd.snd.fst (6 : Int))
      (.ite (decide ([(75 : UInt8), UInt8.ofNat (IntKind.u8.wrap ((97 : Int) + x.snd.fst)).toNat].length + (Px.nameOf x.snd.snd.snd.snd.snd.snd.snd.snd.snd.snd.snd.fst).length ≤ (2 : Nat) ^ (60 : Nat)))
       (.ite (decide ((x.snd.snd.snd.snd.snd.snd.snd.snd.snd.snd.snd.snd.snd.snd.snd.snd.snd.snd.snd.length + [[(75 : UInt8), UInt8.ofNat (IntKind.u8.wrap ((97 : Int) + x.snd.fst)).toNat] ++ Px.nameOf x.snd.snd.snd.snd.snd.snd.snd.snd.snd.snd.snd.fst].length) * (16 : Nat) ≤ (140737488355328 : Nat)))
        (.leaf (.inl ((Px.growL (IntKind.i64.wrap (p1 + (1 : Int))) x.fst), (IntKind.u8.wrap (x.snd.fst + (1 : Int))), x.snd.snd.fst, x.snd.snd.snd.fst, x.snd.snd.snd.snd.fst, x.snd.snd.snd.snd.snd.fst, x.snd.snd.snd.snd.snd.snd.fst, x.snd.snd.snd.snd.snd.snd.snd.fst, x.snd.snd.snd.snd.snd.snd.snd.snd.fst, x.snd.snd.snd.snd.snd.snd.snd.snd.snd.fst, x.snd.snd.snd.snd.snd.snd.snd.snd.snd.snd.fst, x.snd.snd.snd.snd.snd.snd.snd.snd.snd.snd.snd.fst, x.snd.snd.snd.snd.snd.snd.snd.snd.snd.snd.snd.snd.fst, x.snd.snd.snd.snd.snd.snd.snd.snd.snd.snd.snd.snd.snd.fst, x.snd.snd.snd.snd.snd.snd.snd.snd.snd.snd.snd.snd.snd.snd.fst, x.snd.snd.snd.snd.snd.snd.snd.snd.snd.snd.snd.snd.snd.snd.snd.fst, x.snd.snd.snd.snd.snd.snd.snd.snd.snd.snd.snd.snd.snd.snd.snd.snd.fst, x.snd.snd.snd.snd.snd.snd.snd.snd.snd.snd.snd.snd.snd.snd.snd.snd.snd.fst, (x.snd.snd.snd.snd.snd.snd.snd.snd.snd.snd.snd.snd.snd.snd.snd.snd.snd.snd.fst ++ [Val.mk (Px.vk (Px.growV (IntKind.i64.wrap (p1 + (1 : Int))) x.fst)) (Px.vn (Px.growV (IntKind.i64.wrap (p1 + (1 : Int))) x.fst)) (Px.vg (Px.growV (IntKind.i64.wrap (p1 + (1 : Int))) x.fst)) (Px.vt (Px.growV (IntKind.i64.wrap (p1 + (1 : Int))) x.fst)) (Px.vl (Px.growV (IntKind.i64.wrap (p1 + (1 : Int))) x.fst)) (Px.vs (Px.growV (IntKind.i64.wrap (p1 + (1 : Int))) x.fst))]), (x.snd.snd.snd.snd.snd.snd.snd.snd.snd.snd.snd.snd.snd.snd.snd.snd.snd.snd.snd ++ [[(75 : UInt8), UInt8.ofNat (IntKind.u8.wrap ((97 : Int) + x.snd.fst)).toNat] ++ Px.nameOf x.snd.snd.snd.snd.snd.snd.snd.snd.snd.snd.snd.fst]))))
        (.fail))
       (.fail))
      (.leaf (.inl ((Px.growL (IntKind.i64.wrap (p1 + (1 : Int))) x.fst), (IntKind.u8.wrap (x.snd.fst + (1 : Int))), x.snd.snd.fst, x.snd.snd.snd.fst, x.snd.snd.snd.snd.fst, x.snd.snd.snd.snd.snd.fst, x.snd.snd.snd.snd.snd.snd.fst, x.snd.snd.snd.snd.snd.snd.snd.fst, x.snd.snd.snd.snd.snd.snd.snd.snd.fst, x.snd.snd.snd.snd.snd.snd.snd.snd.snd.fst, x.snd.snd.snd.snd.snd.snd.snd.snd.snd.snd.fst, x.snd.snd.snd.snd.snd.snd.snd.snd.snd.snd.snd.fst, x.snd.snd.snd.snd.snd.snd.snd.snd.snd.snd.snd.snd.fst, x.snd.snd.snd.snd.snd.snd.snd.snd.snd.snd.snd.snd.snd.fst, x.snd.snd.snd.snd.snd.snd.snd.snd.snd.snd.snd.snd.snd.snd.fst, x.snd.snd.snd.snd.snd.snd.snd.snd.snd.snd.snd.snd.snd.snd.snd.fst, x.snd.snd.snd.snd.snd.snd.snd.snd.snd.snd.snd.snd.snd.snd.snd.snd.fst, x.snd.snd.snd.snd.snd.snd.snd.snd.snd.snd.snd.snd.snd.snd.snd.snd.snd.fst, (x.snd.snd.snd.snd.snd.snd.snd.snd.snd.snd.snd.snd.snd.snd.snd.snd.snd.snd.fst ++ [Val.mk (Px.vk (Px.growV (IntKind.i64.wrap (p1 + (1 : Int))) x.fst)) (Px.vn (Px.growV (IntKind.i64.wrap (p1 + (1 : Int))) x.fst)) (Px.vg (Px.growV (IntKind.i64.wrap (p1 + (1 : Int))) x.fst)) (Px.vt (Px.growV (IntKind.i64.wrap (p1 + (1 : Int))) x.fst)) (Px.vl (Px.growV (IntKind.i64.wrap (p1 + (1 : Int))) x.fst)) (Px.vs (Px.growV (IntKind.i64.wrap (p1 + (1 : Int))) x.fst))]), x.snd.snd.snd.snd.snd.snd.snd.snd.snd.snd.snd.snd.snd.snd.snd.snd.snd.snd.snd))))
     (.fail))
    (.fail))))
 (.leaf (.inr (.exit 1, at' E 110 [(0, .lf (.sl .bit x.fst)), (4, .lf (.ptr 320 0 0)), (6, .lf (.ptr 448 0 0)), (7, .lf (.ptr 512 0 0))] [(320, some (.cells 30 [.int .u8 x.snd.snd.fst, .int .i64 x.snd.snd.snd.fst, .int .i64 x.snd.snd.snd.snd.fst, .str x.snd.snd.snd.snd.snd.fst, .own 0 0 .val x.snd.snd.snd.snd.snd.snd.fst, .own 1 0 .str x.snd.snd.snd.snd.snd.snd.snd.fst])), (448, some (.cells 99 [.int .u8 x.snd.snd.snd.snd.snd.snd.snd.snd.fst, .int .i64 x.snd.snd.snd.snd.snd.snd.snd.snd.snd.fst, .int .u8 x.snd.snd.snd.snd.snd.snd.snd.snd.snd.snd.fst, .str x.snd.snd.snd.snd.snd.snd.snd.snd.snd.snd.snd.fst, .int .u8 x.snd.snd.snd.snd.snd.snd.snd.snd.snd.snd.snd.snd.fst, .bool x.snd.snd.snd.snd.snd.snd.snd.snd.snd.snd.snd.snd.snd.fst])), (512, some (.cells 30 [.int .u8 x.snd.snd.snd.snd.snd.snd.snd.snd.snd.snd.snd.snd.snd.snd.fst, .int .i64 x.snd.snd.snd.snd.snd.snd.snd.snd.snd.snd.snd.snd.snd.snd.snd.fst, .int .i64 x.snd.snd.snd.snd.snd.snd.snd.snd.snd.snd.snd.snd.snd.snd.snd.snd.fst, .str x.snd.snd.snd.snd.snd.snd.snd.snd.snd.snd.snd.snd.snd.snd.snd.snd.snd.fst, .own 2 0 .val x.snd.snd.snd.snd.snd.snd.snd.snd.snd.snd.snd.snd.snd.snd.snd.snd.snd.snd.fst, .own 3 0 .str x.snd.snd.snd.snd.snd.snd.snd.snd.snd.snd.snd.snd.snd.snd.snd.snd.snd.snd.snd]))])))
theorem h41_0 (n : Nat) (p1 : Int) (p61 : Int) (x : (List (Int × Int × Int × List UInt8 × Int × Bool)) × Int × Int × Int × Int × (List UInt8) × (List Val) × (List (List UInt8)) × Int × Int × Int × (List UInt8) × Int × Bool × Int × Int × Int × (List UInt8) × (List Val) × (List (List UInt8))) (k : Ex → St E.A → Option Unit) :
    exec E (G41 n) (fun _ _ => .fail) 1 (lb Go.Proofs.Tryz.f41 0) (S41_0 p1 p61 x) (fun e σ1 => k e (clean E (L41_0 e) σ1)) = (t41_0 n p1 p61 x).run (Sum.elim (fun x' => k .normal (S41_0 p1 p61 x')) (fun o => k o.1 o.2)) := by kernel_rfl
noncomputable def lam41_0 (n : Nat) (p1 : Int) (p61 : Int) (x : (List (Int × Int × Int × List UInt8 × Int × Bool)) × Int × Int × Int × Int × (List UInt8) × (List Val) × (List (List UInt8)) × Int × Int × Int × (List UInt8) × Int × Bool × Int × Int × Int × (List UInt8) × (List Val) × (List (List UInt8))) : Tree (Out' E) :=
  .ite (leI 0 x.2.1 && leI p61 3 && leI x.2.2.2.2.2.2.2.2.2.2.2.2.2.2.2.2.2.2.1.length x.2.1 && leI x.2.2.2.2.2.2.2.2.2.2.2.2.2.2.2.2.2.2.2.length x.2.1 && leI 0 p1 && ltI p1 22 && leI 21 (p1 + n))
   (.leaf (.exit 1, at' E 110 [(0, .lf (.sl .bit ((Px.growR' p1 (eqI x.2.2.2.2.2.2.2.2.2.2.2.2.2.2.1 6) x.2.2.2.2.2.2.2.2.2.2.2.1 (p61 - x.2.1) x.2.1 x.1 x.2.2.2.2.2.2.2.2.2.2.2.2.2.2.2.2.2.2.1 x.2.2.2.2.2.2.2.2.2.2.2.2.2.2.2.2.2.2.2).2.2))), (4, .lf (.ptr 320 0 0)), (6, .lf (.ptr 448 0 0)), (7, .lf (.ptr 512 0 0))] [(320, some (.cells 30 [.int .u8 x.2.2.1, .int .i64 x.2.2.2.1, .int .i64 x.2.2.2.2.1, .str x.2.2.2.2.2.1, .own 0 0 .val x.2.2.2.2.2.2.1, .own 1 0 .str x.2.2.2.2.2.2.2.1])), (448, some (.cells 99 [.int .u8 x.2.2.2.2.2.2.2.2.1, .int .i64 x.2.2.2.2.2.2.2.2.2.1, .int .u8 x.2.2.2.2.2.2.2.2.2.2.1, .str x.2.2.2.2.2.2.2.2.2.2.2.1, .int .u8 x.2.2.2.2.2.2.2.2.2.2.2.2.1, .bool x.2.2.2.2.2.2.2.2.2.2.2.2.2.1])), (512, some (.cells 30 [.int .u8 x.2.2.2.2.2.2.2.2.2.2.2.2.2.2.1, .int .i64 x.2.2.2.2.2.2.2.2.2.2.2.2.2.2.2.1, .int .i64 x.2.2.2.2.2.2.2.2.2.2.2.2.2.2.2.2.1, .str x.2.2.2.2.2.2.2.2.2.2.2.2.2.2.2.2.2.1, .own 2 0 .val ((Px.growR' p1 (eqI x.2.2.2.2.2.2.2.2.2.2.2.2.2.2.1 6) x.2.2.2.2.2.2.2.2.2.2.2.1 (p61 - x.2.1) x.2.1 x.1 x.2.2.2.2.2.2.2.2.2.2.2.2.2.2.2.2.2.2.1 x.2.2.2.2.2.2.2.2.2.2.2.2.2.2.2.2.2.2.2).1), .own 3 0 .str ((Px.growR' p1 (eqI x.2.2.2.2.2.2.2.2.2.2.2.2.2.2.1 6) x.2.2.2.2.2.2.2.2.2.2.2.1 (p61 - x.2.1) x.2.1 x.1 x.2.2.2.2.2.2.2.2.2.2.2.2.2.2.2.2.2.2.1 x.2.2.2.2.2.2.2.2.2.2.2.2.2.2.2.2.2.2.2).2.1)]))])) .fail
theorem wrap_k {k : Nat} (h : k ≤ 3) : UInt8.ofNat (IntKind.u8.wrap ((97 : Int) + (k : Int))).toNat = UInt8.ofNat (97 + k) := by
  rw [wu8 _ (by omega) (by omega)]
  congr 1
theorem k41_0 {n : Nat} {p1 : Int} {p : Nat} (hp : p ≤ 3) (d0 : 0 ≤ p1) (d1 : p1 < 22) (d2 : 21 ≤ p1 + n) (a0 : Int) (a1 : Int) (a2 : Int) (a3 : List UInt8) (a4 : List Val) (a5 : List (List UInt8)) (b0 : Int) (b1 : Int) (b2 : Int) (b3 : List UInt8) (b4 : Int) (b5 : Bool) (c0 : Int) (c1 : Int) (c2 : Int) (c3 : List UInt8) :
    ∀ (m k : Nat) (l : List Bit) (ls : List Val) (ks : List (List UInt8)), m + k = p → ls.length ≤ k → ks.length ≤ k →
    iter (t41_0 n p1 (p : Int)) (m + 1) (l, (k : Int), a0, a1, a2, a3, a4, a5, b0, b1, b2, b3, b4, b5, c0, c1, c2, c3, ls, ks) = some (Ex.exit 1, at' E 110 [(0, .lf (.sl .bit ((Px.growLoop (Px.grow (p1 + 1)) (eqI c0 6) b3 (leI p1 20) m k l ls ks).2.2))), (4, .lf (.ptr 320 0 0)), (6, .lf (.ptr 448 0 0)), (7, .lf (.ptr 512 0 0))] [(320, some (.cells 30 [.int .u8 a0, .int .i64 a1, .int .i64 a2, .str a3, .own 0 0 .val a4, .own 1 0 .str a5])), (448, some (.cells 99 [.int .u8 b0, .int .i64 b1, .int .u8 b2, .str b3, .int .u8 b4, .bool b5])), (512, some (.cells 30 [.int .u8 c0, .int .i64 c1, .int .i64 c2, .str c3, .own 2 0 .val ((Px.growLoop (Px.grow (p1 + 1)) (eqI c0 6) b3 (leI p1 20) m k l ls ks).1), .own 3 0 .str ((Px.growLoop (Px.grow (p1 + 1)) (eqI c0 6) b3 (leI p1 20) m k l ls ks).2.1)]))])
  | 0, k, l, ls, ks, hm, h1, h2 => by
    have hk : k = p := by omega
    subst hk
    simp only [iter, t41_0, Tree.get_ite, Tree.get_leaf, ltI_self, cond_false, Px.growLoop]
  | m + 1, k, l, ls, ks, hm, h1, h2 => by
    have hk : k < p := by omega
    have ek := ltI_nat hk
    rw [iter]
    cases l with
    | nil =>
      have hs : (t41_0 n p1 (p : Int) (([] : List Bit), (k : Int), a0, a1, a2, a3, a4, a5, b0, b1, b2, b3, b4, b5, c0, c1, c2, c3, ls, ks)).get = some (.inr (Ex.exit 1, at' E 110 [(0, .lf (.sl .bit (([] : List Bit)))), (4, .lf (.ptr 320 0 0)), (6, .lf (.ptr 448 0 0)), (7, .lf (.ptr 512 0 0))] [(320, some (.cells 30 [.int .u8 a0, .int .i64 a1, .int .i64 a2, .str a3, .own 0 0 .val a4, .own 1 0 .str a5])), (448, some (.cells 99 [.int .u8 b0, .int .i64 b1, .int .u8 b2, .str b3, .int .u8 b4, .bool b5])), (512, some (.cells 30 [.int .u8 c0, .int .i64 c1, .int .i64 c2, .str c3, .own 2 0 .val (ls), .own 3 0 .str (ks)]))])) := by
        unfold t41_0
        have e0 : eqI (([] : List Bit).length : Int) 0 = true := rfl
        simp only [Tree.get_ite, Tree.get_leaf, ek, cond_true, e0]
      rw [hs]
      rfl
    | cons b r =>
      have e0 : eqI ((b :: r).length : Int) 0 = false := by rw [eqI_eq]; exact decide_eq_false (by simp only [List.length_cons]; omega)
      by_cases hd : 20 < p1
      · have e1 : ltI 20 p1 = true := by rw [ltI_eq]; exact decide_eq_true hd
        have e2 : leI p1 20 = false := by rw [leI_eq]; exact decide_eq_false (by omega)
        have hs : (t41_0 n p1 (p : Int) ((b :: r), (k : Int), a0, a1, a2, a3, a4, a5, b0, b1, b2, b3, b4, b5, c0, c1, c2, c3, ls, ks)).get = some (.inr (Ex.exit 1, at' E 110 [(0, .lf (.sl .bit ((b :: r)))), (4, .lf (.ptr 320 0 0)), (6, .lf (.ptr 448 0 0)), (7, .lf (.ptr 512 0 0))] [(320, some (.cells 30 [.int .u8 a0, .int .i64 a1, .int .i64 a2, .str a3, .own 0 0 .val a4, .own 1 0 .str a5])), (448, some (.cells 99 [.int .u8 b0, .int .i64 b1, .int .u8 b2, .str b3, .int .u8 b4, .bool b5])), (512, some (.cells 30 [.int .u8 c0, .int .i64 c1, .int .i64 c2, .str c3, .own 2 0 .val (ls), .own 3 0 .str (ks)]))])) := by
          unfold t41_0
          simp only [Tree.get_ite, Tree.get_leaf, ek, cond_true, cond_false, e0, e1]
          rfl
        rw [hs, Px.growLoop]
        simp only [e2, cond_true, Bool.not_false, Bool.or_true]
        rfl
      · have e1 : ltI 20 p1 = false := by rw [ltI_eq]; exact decide_eq_false hd
        have e2 : leI p1 20 = true := by rw [leI_eq]; exact decide_eq_true (by omega)
        have ew : IntKind.i64.wrap (p1 + 1) = p1 + 1 := wi64 _ (by omega) (by omega)
        have e3 : (leI 0 (p1 + 1) && ltI (p1 + 1) 22 && leI 22 (p1 + 1 + (n : Int)) && !(b :: r).isEmpty) = true := by
          simp only [leI_eq, ltI_eq, Bool.and_eq_true, decide_eq_true_eq, List.isEmpty_cons, Bool.not_false, and_true]; omega
        have e4 : ∀ v : Val, decide ((ls.length + [v].length) * (88 : Nat) ≤ (140737488355328 : Nat)) = true := fun v => decide_eq_true (by simp only [List.length_cons, List.length_nil]; omega)
        have ewk : IntKind.u8.wrap ((k : Int) + 1) = ((k + 1 : Nat) : Int) := by rw [wu8] <;> omega
        have e5 : ∀ v : List UInt8, decide ((ks.length + [v].length) * (16 : Nat) ≤ (140737488355328 : Nat)) = true := fun v => decide_eq_true (by simp only [List.length_cons, List.length_nil]; omega)
        have e6 : decide ([(75 : UInt8), UInt8.ofNat (97 + k)].length + (Px.nameOf b3).length ≤ (2 : Nat) ^ (60 : Nat)) = true := decide_eq_true (by
          have := Px.nameOf_len b3
          simp only [List.length_cons, List.length_nil]; omega)
        have eg : Px.growLoop (Px.grow (p1 + 1)) (eqI c0 6) b3 (leI p1 20) (m + 1) k (b :: r) ls ks = Px.growLoop (Px.grow (p1 + 1)) (eqI c0 6) b3 (leI p1 20) m (k + 1) (Px.growL (p1 + 1) (b :: r)) (ls ++ [Px.growV (p1 + 1) (b :: r)]) (cond (eqI c0 6) (ks ++ [Px.bkey k b3]) ks) := by
          rw [Px.growLoop, e2]; rfl
        have hs : (t41_0 n p1 (p : Int) ((b :: r), (k : Int), a0, a1, a2, a3, a4, a5, b0, b1, b2, b3, b4, b5, c0, c1, c2, c3, ls, ks)).get = some (.inl ((Px.growL (p1 + 1) (b :: r)), ((k + 1 : Nat) : Int), a0, a1, a2, a3, a4, a5, b0, b1, b2, b3, b4, b5, c0, c1, c2, c3, (ls ++ [Px.growV (p1 + 1) (b :: r)]), (cond (eqI c0 6) (ks ++ [Px.bkey k b3]) ks))) := by
          unfold t41_0
          simp only [Tree.get_ite, Tree.get_leaf, ek, e0, e1, cond_false, ew, e3, cond_true, e4, ewk, Px.v_eta, wrap_k (show k ≤ 3 by omega), e5, e6]
          cases eqI c0 6 <;> rfl
        have hl : (cond (eqI c0 6) (ks ++ [Px.bkey k b3]) ks).length ≤ k + 1 := by
          cases eqI c0 6 <;> simp <;> omega
        rw [eg, hs]
        exact k41_0 hp d0 d1 d2 a0 a1 a2 a3 a4 a5 b0 b1 b2 b3 b4 b5 c0 c1 c2 c3 m (k + 1) (Px.growL (p1 + 1) (b :: r)) (ls ++ [Px.growV (p1 + 1) (b :: r)]) _ (by omega) (by simp; omega) hl
theorem m41_0 {n : Nat} {p1 p61 : Int} {x : (List (Int × Int × Int × List UInt8 × Int × Bool)) × Int × Int × Int × Int × (List UInt8) × (List Val) × (List (List UInt8)) × Int × Int × Int × (List UInt8) × Int × Bool × Int × Int × Int × (List UInt8) × (List Val) × (List (List UInt8))} {e : Ex} {σ : St E.A} (_ : okLenR (E := E) (.lf (.sl .bit x.1)) = true) (_ : okLenO (E := E) (.cells 30 [.int .u8 x.2.2.1, .int .i64 x.2.2.2.1, .int .i64 x.2.2.2.2.1, .str x.2.2.2.2.2.1, .own 0 0 .val x.2.2.2.2.2.2.1, .own 1 0 .str x.2.2.2.2.2.2.2.1]) = true) (_ : okLenO (E := E) (.cells 99 [.int .u8 x.2.2.2.2.2.2.2.2.1, .int .i64 x.2.2.2.2.2.2.2.2.2.1, .int .u8 x.2.2.2.2.2.2.2.2.2.2.1, .str x.2.2.2.2.2.2.2.2.2.2.2.1, .int .u8 x.2.2.2.2.2.2.2.2.2.2.2.2.1, .bool x.2.2.2.2.2.2.2.2.2.2.2.2.2.1]) = true) (_ : okLenO (E := E) (.cells 30 [.int .u8 x.2.2.2.2.2.2.2.2.2.2.2.2.2.2.1, .int .i64 x.2.2.2.2.2.2.2.2.2.2.2.2.2.2.2.1, .int .i64 x.2.2.2.2.2.2.2.2.2.2.2.2.2.2.2.2.1, .str x.2.2.2.2.2.2.2.2.2.2.2.2.2.2.2.2.2.1, .own 2 0 .val x.2.2.2.2.2.2.2.2.2.2.2.2.2.2.2.2.2.2.1, .own 3 0 .str x.2.2.2.2.2.2.2.2.2.2.2.2.2.2.2.2.2.2.2]) = true)
    (h : (lam41_0 n p1 p61 x).get = some (e, σ)) : ∃ fuel, iter (t41_0 n p1 p61) fuel x = some (e, σ) ∧ e ≠ .normal := by
  obtain ⟨l, k, a0, a1, a2, a3, a4, a5, b0, b1, b2, b3, b4, b5, c0, c1, c2, c3, ls, ks⟩ := x
  unfold lam41_0 at h
  have h' := Tree.get_ite_some h
  clear h
  rcases h' with ⟨h1, h⟩ | ⟨_, h⟩
  · simp only [eqI_eq, leI_eq, ltI_eq, Bool.and_eq_true, decide_eq_true_eq] at h1
    obtain ⟨⟨⟨⟨⟨⟨g1, g3⟩, g4⟩, g5⟩, g6⟩, g7⟩, g8⟩ := h1
    by_cases hlt : k < p61
    · obtain ⟨p, rfl⟩ : ∃ j : Nat, p61 = (j : Int) := ⟨p61.toNat, by omega⟩
      obtain ⟨q, rfl⟩ : ∃ j : Nat, k = (j : Int) := ⟨k.toNat, by omega⟩
      have key := k41_0 (n := n) (p1 := p1) (p := p) (by omega) g6 g7 g8 a0 a1 a2 a3 a4 a5 b0 b1 b2 b3 b4 b5 c0 c1 c2 c3 (p - q) q l ls ks (by omega) (by omega) (by omega)
      injection h with h
      injection h with h1 h2
      subst h1
      refine ⟨_, key.trans ?_, fun hh => by cases hh⟩
      rw [← h2, Px.growR'_eq]
      unfold Px.growR
      rw [show ((p : Int) - (q : Int)).toNat = p - q by omega, Int.toNat_natCast]
    · have e1 : ltI k p61 = false := by rw [ltI_eq]; exact decide_eq_false hlt
      injection h with h
      injection h with h1 h2
      subst h1
      refine ⟨1, ?_, fun hh => by cases hh⟩
      rw [← h2, Px.growR'_eq]
      unfold Px.growR
      rw [show (p61 - k).toNat = 0 by omega, iter]
      have hs : (t41_0 n p1 p61 (l, k, a0, a1, a2, a3, a4, a5, b0, b1, b2, b3, b4, b5, c0, c1, c2, c3, ls, ks)).get = some (.inr (Ex.exit 1, at' E 110 [(0, .lf (.sl .bit (l))), (4, .lf (.ptr 320 0 0)), (6, .lf (.ptr 448 0 0)), (7, .lf (.ptr 512 0 0))] [(320, some (.cells 30 [.int .u8 a0, .int .i64 a1, .int .i64 a2, .str a3, .own 0 0 .val a4, .own 1 0 .str a5])), (448, some (.cells 99 [.int .u8 b0, .int .i64 b1, .int .u8 b2, .str b3, .int .u8 b4, .bool b5])), (512, some (.cells 30 [.int .u8 c0, .int .i64 c1, .int .i64 c2, .str c3, .own 2 0 .val (ls), .own 3 0 .str (ks)]))])) := by
        unfold t41_0
        simp only [Tree.get_ite, Tree.get_leaf, e1, cond_false]
      rw [hs]
      rfl
  · cases h
noncomputable def rd41_0 (n : Nat) (σ : St E.A) : Tree (Out' E) :=
  let c := clean E (L41_0 .normal) σ
  if c.sl.length = 110 then
  match c.sl.getD 0 .undef, c.sl.getD 1 .undef, c.sl.getD 4 .undef, c.sl.getD 6 .undef, c.sl.getD 7 .undef, c.sl.getD 61 .undef, c.sl.getD 62 .undef, c.ob 320, c.ob 448, c.ob 512 with
  | .lf (.sl .bit x0), .lf (.int .i64 p1), .lf (.ptr 320 0 0), .lf (.ptr 448 0 0), .lf (.ptr 512 0 0), .lf (.int .u8 p61), .lf (.int .u8 x62), some (.cells 30 [.int .u8 o320a, .int .i64 o320b, .int .i64 o320c, .str o320d, .own 0 0 .val o320e, .own 1 0 .str o320f]), some (.cells 99 [.int .u8 o448a, .int .i64 o448b, .int .u8 o448c, .str o448d, .int .u8 o448e, .bool o448f]), some (.cells 30 [.int .u8 o512a, .int .i64 o512b, .int .i64 o512c, .str o512d, .own 2 0 .val o512e, .own 3 0 .str o512f]) => lam41_0 n p1 p61 (x0, x62, o320a, o320b, o320c, o320d, o320e, o320f, o448a, o448b, o448c, o448d, o448e, o448f, o512a, o512b, o512c, o512d, o512e, o512f)
  | _, _, _, _, _, _, _, _, _, _ => .fail
  else .fail
theorem ll41_0 (hL : Laws E) (n : Nat) (hN : Valid E 41 (spec41N n)) (σ : St E.A) (e : Ex) (σ' : St E.A) (h : (rd41_0 n σ).get = some (e, σ')) : LoopOK E (lb Go.Proofs.Tryz.f41 0) σ e σ' := by
  refine LoopOK.of_clean hL (L41_0 .normal) ?_
  unfold rd41_0 at h
  simp only at h
  split at h
  · rename_i hlen
    split at h
    · rename_i x0 p1 p61 x62 o320a o320b o320c o320d o320e o320f o448a o448b o448c o448d o448e o448f o512a o512b o512c o512d o512e o512f h0 h1 h2 h3 h4 h5 h6 h7 h8 h9
      refine LoopOK.lens 0 (fun g0 => ?_)
      rw [h0] at g0
      refine LoopOK.lensO 320 (fun gg => ?_)
      have g1 := gg _ h7
      refine LoopOK.lensO 448 (fun gg => ?_)
      have g2 := gg _ h8
      refine LoopOK.lensO 512 (fun gg => ?_)
      have g3 := gg _ h9
      obtain ⟨fuel, hi, ho⟩ := m41_0 g0 g1 g2 g3 h
      have hl := loop_at (Γ := (G41 n)) (Λ := fun _ _ => .fail) (n := 1) (body := lb Go.Proofs.Tryz.f41 0) hL (hG41 hL n hN) (S := S41_0 p1 p61) (t := t41_0 n p1 p61) (Lv := L41_0) (LamOK.none (by kernel_rfl)) (h41_0 n p1 p61) hi ho
      refine LoopOK.fit hlen ?_ ?_ rfl rfl hl
      · exact ⟨h0, h1, h2, h3, h4, h5, h6, trivial⟩
      · exact ⟨h7, h8, h9, trivial⟩
    · cases h
  · cases h
noncomputable def Lam41 (n : Nat) : Lam E
  | 0, σ => rd41_0 n σ
  | _, _ => .fail
noncomputable def w41 (n : Nat) (a0 : List (Int × Int × Int × List UInt8 × Int × Bool)) (a1 : Int) : Tree (RV E.A × List (Obj E.A)) :=
 .ite (inB (0 : Int) a0.length)
 (.ite (inB (1 : Int) (a0.length + (1 : Nat)))
  (.ite (eqI ((a0.getD (Int.toNat (0 : Int)) ((0 : Int), (0 : Int), (0 : Int), [], (0 : Int), false)).fst.tmod (8 : Int)) (1 : Int))
   (.ite ((a0.getD (Int.toNat (0 : Int)) ((0 : Int), (0 : Int), (0 : Int), [], (0 : Int), false)).snd.snd.snd.snd.snd)
    (.leaf (.tup [(true, [.int .u8 ((a0.getD (Int.toNat (0 : Int)) ((0 : Int), (0 : Int), (0 : Int), [], (0 : Int), false)).fst.tmod (8 : Int)), .int .i64 (vbits Go.BinOp.and IntKind.i64 (a0.getD (Int.toNat (0 : Int)) ((0 : Int), (0 : Int), (0 : Int), [], (0 : Int), false)).snd.fst (1 : Int)), .int .i64 (IntKind.i64.wrap (a0.getD (Int.toNat (0 : Int)) ((0 : Int), (0 : Int), (0 : Int), [], (0 : Int), false)).snd.snd.fst), .str [], .sl .val [], .sl .str []]), (false, [.sl .bit (List.drop (Int.toNat (1 : Int)) a0)])], []))
    (.leaf (.tup [(true, [.int .u8 ((a0.getD (Int.toNat (0 : Int)) ((0 : Int), (0 : Int), (0 : Int), [], (0 : Int), false)).fst.tmod (8 : Int)), .int .i64 (vbits Go.BinOp.and IntKind.i64 (a0.getD (Int.toNat (0 : Int)) ((0 : Int), (0 : Int), (0 : Int), [], (0 : Int), false)).snd.fst (1 : Int)), .int .i64 ((0 : Int)), .str [], .sl .val [], .sl .str []]), (false, [.sl .bit (List.drop (Int.toNat (1 : Int)) a0)])], [])))
   (.ite (eqI ((a0.getD (Int.toNat (0 : Int)) ((0 : Int), (0 : Int), (0 : Int), [], (0 : Int), false)).fst.tmod (8 : Int)) (2 : Int))
    (.ite ((a0.getD (Int.toNat (0 : Int)) ((0 : Int), (0 : Int), (0 : Int), [], (0 : Int), false)).snd.snd.snd.snd.snd)
     (.leaf (.tup [(true, [.int .u8 ((a0.getD (Int.toNat (0 : Int)) ((0 : Int), (0 : Int), (0 : Int), [], (0 : Int), false)).fst.tmod (8 : Int)), .int .i64 ((a0.getD (Int.toNat (0 : Int)) ((0 : Int), (0 : Int), (0 : Int), [], (0 : Int), false)).snd.fst), .int .i64 (IntKind.i64.wrap (a0.getD (Int.toNat (0 : Int)) ((0 : Int), (0 : Int), (0 : Int), [], (0 : Int), false)).snd.snd.fst), .str [], .sl .val [], .sl .str []]), (false, [.sl .bit (List.drop (Int.toNat (1 : Int)) a0)])], []))
     (.leaf (.tup [(true, [.int .u8 ((a0.getD (Int.toNat (0 : Int)) ((0 : Int), (0 : Int), (0 : Int), [], (0 : Int), false)).fst.tmod (8 : Int)), .int .i64 ((a0.getD (Int.toNat (0 : Int)) ((0 : Int), (0 : Int), (0 : Int), [], (0 : Int), false)).snd.fst), .int .i64 ((0 : Int)), .str [], .sl .val [], .sl .str []]), (false, [.sl .bit (List.drop (Int.toNat (1 : Int)) a0)])], [])))
    (.ite (eqI ((a0.getD (Int.toNat (0 : Int)) ((0 : Int), (0 : Int), (0 : Int), [], (0 : Int), false)).fst.tmod (8 : Int)) (3 : Int))
     (.ite (decide ([(78 : UInt8)].length + (Px.nameOf (a0.getD (Int.toNat (0 : Int)) ((0 : Int), (0 : Int), (0 : Int), [], (0 : Int), false)).snd.snd.snd.fst).length ≤ (2 : Nat) ^ (60 : Nat)))
      (.ite ((a0.getD (Int.toNat (0 : Int)) ((0 : Int), (0 : Int), (0 : Int), [], (0 : Int), false)).snd.snd.snd.snd.snd)
       (.leaf (.tup [(true, [.int .u8 ((a0.getD (Int.toNat (0 : Int)) ((0 : Int), (0 : Int), (0 : Int), [], (0 : Int), false)).fst.tmod (8 : Int)), .int .i64 ((0 : Int)), .int .i64 (IntKind.i64.wrap (a0.getD (Int.toNat (0 : Int)) ((0 : Int), (0 : Int), (0 : Int), [], (0 : Int), false)).snd.snd.fst), .str ([(78 : UInt8)] ++ Px.nameOf (a0.getD (Int.toNat (0 : Int)) ((0 : Int), (0 : Int), (0 : Int), [], (0 : Int), false)).snd.snd.snd.fst), .sl .val [], .sl .str []]), (false, [.sl .bit (List.drop (Int.toNat (1 : Int)) a0)])], []))
       (.leaf (.tup [(true, [.int .u8 ((a0.getD (Int.toNat (0 : Int)) ((0 : Int), (0 : Int), (0 : Int), [], (0 : Int), false)).fst.tmod (8 : Int)), .int .i64 ((0 : Int)), .int .i64 ((0 : Int)), .str ([(78 : UInt8)] ++ Px.nameOf (a0.getD (Int.toNat (0 : Int)) ((0 : Int), (0 : Int), (0 : Int), [], (0 : Int), false)).snd.snd.snd.fst), .sl .val [], .sl .str []]), (false, [.sl .bit (List.drop (Int.toNat (1 : Int)) a0)])], [])))
      (.fail))
     (.ite (eqI ((a0.getD (Int.toNat (0 : Int)) ((0 : Int), (0 : Int), (0 : Int), [], (0 : Int), false)).fst.tmod (8 : Int)) (4 : Int))
      (.ite ((a0.getD (Int.toNat (0 : Int)) ((0 : Int), (0 : Int), (0 : Int), [], (0 : Int), false)).snd.snd.snd.snd.snd)
       (.leaf (.tup [(true, [.int .u8 ((a0.getD (Int.toNat (0 : Int)) ((0 : Int), (0 : Int), (0 : Int), [], (0 : Int), false)).fst.tmod (8 : Int)), .int .i64 ((0 : Int)), .int .i64 (IntKind.i64.wrap (a0.getD (Int.toNat (0 : Int)) ((0 : Int), (0 : Int), (0 : Int), [], (0 : Int), false)).snd.snd.fst), .str (List.take (Int.toNat (20 : Int)) (a0.getD (Int.toNat (0 : Int)) ((0 : Int), (0 : Int), (0 : Int), [], (0 : Int), false)).snd.snd.snd.fst), .sl .val [], .sl .str []]), (false, [.sl .bit (List.drop (Int.toNat (1 : Int)) a0)])], []))
       (.leaf (.tup [(true, [.int .u8 ((a0.getD (Int.toNat (0 : Int)) ((0 : Int), (0 : Int), (0 : Int), [], (0 : Int), false)).fst.tmod (8 : Int)), .int .i64 ((0 : Int)), .int .i64 ((0 : Int)), .str (List.take (Int.toNat (20 : Int)) (a0.getD (Int.toNat (0 : Int)) ((0 : Int), (0 : Int), (0 : Int), [], (0 : Int), false)).snd.snd.snd.fst), .sl .val [], .sl .str []]), (false, [.sl .bit (List.drop (Int.toNat (1 : Int)) a0)])], [])))
      (.ite (eqI ((a0.getD (Int.toNat (0 : Int)) ((0 : Int), (0 : Int), (0 : Int), [], (0 : Int), false)).fst.tmod (8 : Int)) (7 : Int))
       (.ite ((a0.getD (Int.toNat (0 : Int)) ((0 : Int), (0 : Int), (0 : Int), [], (0 : Int), false)).snd.snd.snd.snd.snd)
        (.leaf (.tup [(true, [.int .u8 ((a0.getD (Int.toNat (0 : Int)) ((0 : Int), (0 : Int), (0 : Int), [], (0 : Int), false)).fst.tmod (8 : Int)), .int .i64 (IntKind.i64.wrap ((1 : Int) + vbits Go.BinOp.and IntKind.i64 (a0.getD (Int.toNat (0 : Int)) ((0 : Int), (0 : Int), (0 : Int), [], (0 : Int), false)).snd.fst (65535 : Int))), .int .i64 (IntKind.i64.wrap (a0.getD (Int.toNat (0 : Int)) ((0 : Int), (0 : Int), (0 : Int), [], (0 : Int), false)).snd.snd.fst), .str [], .sl .val [], .sl .str []]), (false, [.sl .bit (List.drop (Int.toNat (1 : Int)) a0)])], []))
        (.leaf (.tup [(true, [.int .u8 ((a0.getD (Int.toNat (0 : Int)) ((0 : Int), (0 : Int), (0 : Int), [], (0 : Int), false)).fst.tmod (8 : Int)), .int .i64 (IntKind.i64.wrap ((1 : Int) + vbits Go.BinOp.and IntKind.i64 (a0.getD (Int.toNat (0 : Int)) ((0 : Int), (0 : Int), (0 : Int), [], (0 : Int), false)).snd.fst (65535 : Int))), .int .i64 (IntKind.i64.wrap (a0.getD (Int.toNat (0 : Int)) ((0 : Int), (0 : Int), (0 : Int), [], (0 : Int), false)).snd.snd.fst), .str [], .sl .val [], .sl .str []]), (false, [.sl .bit (List.drop (Int.toNat (1 : Int)) a0)])], [])))
       (.ite (eqI ((a0.getD (Int.toNat (0 : Int)) ((0 : Int), (0 : Int), (0 : Int), [], (0 : Int), false)).fst.tmod (8 : Int)) (5 : Int))
        (.ite (eqI ((a0.getD (Int.toNat (0 : Int)) ((0 : Int), (0 : Int), (0 : Int), [], (0 : Int), false)).fst.tmod (8 : Int)) (5 : Int))
         (.ite (leI (0 : Int) (0 : Int) && leI ((a0.getD (Int.toNat (0 : Int)) ((0 : Int), (0 : Int), (0 : Int), [], (0 : Int), false)).snd.snd.snd.snd.fst.tmod (4 : Int)) (3 : Int) && leI (↑([] : List UInt8).length : Int) (0 : Int) && leI (↑([] : List UInt8).length : Int) (0 : Int) && leI (0 : Int) a1 && ltI a1 (22 : Int) && leI (21 : Int) (a1 + (↑n : Int)))
          (.ite ((a0.getD (Int.toNat (0 : Int)) ((0 : Int), (0 : Int), (0 : Int), [], (0 : Int), false)).snd.snd.snd.snd.snd)
           (.leaf (.tup [(true, [.int .u8 ((a0.getD (Int.toNat (0 : Int)) ((0 : Int), (0 : Int), (0 : Int), [], (0 : Int), false)).fst.tmod (8 : Int)), .int .i64 ((0 : Int)), .int .i64 (IntKind.i64.wrap (a0.getD (Int.toNat (0 : Int)) ((0 : Int), (0 : Int), (0 : Int), [], (0 : Int), false)).snd.snd.fst), .str [], .sl .val ((Px.growR' a1 (eqI ((a0.getD (Int.toNat (0 : Int)) ((0 : Int), (0 : Int), (0 : Int), [], (0 : Int), false)).fst.tmod (8 : Int)) (6 : Int)) (a0.getD (Int.toNat (0 : Int)) ((0 : Int), (0 : Int), (0 : Int), [], (0 : Int), false)).snd.snd.snd.fst ((a0.getD (Int.toNat (0 : Int)) ((0 : Int), (0 : Int), (0 : Int), [], (0 : Int), false)).snd.snd.snd.snd.fst.tmod (4 : Int) - (0 : Int)) (0 : Int) (List.drop (Int.toNat (1 : Int)) a0) [] []).fst), .sl .str ((Px.growR' a1 (eqI ((a0.getD (Int.toNat (0 : Int)) ((0 : Int), (0 : Int), (0 : Int), [], (0 : Int), false)).fst.tmod (8 : Int)) (6 : Int)) (a0.getD (Int.toNat (0 : Int)) ((0 : Int), (0 : Int), (0 : Int), [], (0 : Int), false)).snd.snd.snd.fst ((a0.getD (Int.toNat (0 : Int)) ((0 : Int), (0 : Int), (0 : Int), [], (0 : Int), false)).snd.snd.snd.snd.fst.tmod (4 : Int) - (0 : Int)) (0 : Int) (List.drop (Int.toNat (1 : Int)) a0) [] []).snd.fst)]), (false, [.sl .bit ((Px.growR' a1 (eqI ((a0.getD (Int.toNat (0 : Int)) ((0 : Int), (0 : Int), (0 : Int), [], (0 : Int), false)).fst.tmod (8 : Int)) (6 : Int)) (a0.getD (Int.toNat (0 : Int)) ((0 : Int), (0 : Int), (0 : Int), [], (0 : Int), false)).snd.snd.snd.fst ((a0.getD (Int.toNat (0 : Int)) ((0 : Int), (0 : Int), (0 : Int), [], (0 : Int), false)).snd.snd.snd.snd.fst.tmod (4 : Int) - (0 : Int)) (0 : Int) (List.drop (Int.toNat (1 : Int)) a0) [] []).snd.snd)])], []))
           (.leaf (.tup [(true, [.int .u8 ((a0.getD (Int.toNat (0 : Int)) ((0 : Int), (0 : Int), (0 : Int), [], (0 : Int), false)).fst.tmod (8 : Int)), .int .i64 ((0 : Int)), .int .i64 ((0 : Int)), .str [], .sl .val ((Px.growR' a1 (eqI ((a0.getD (Int.toNat (0 : Int)) ((0 : Int), (0 : Int), (0 : Int), [], (0 : Int), false)).fst.tmod (8 : Int)) (6 : Int)) (a0.getD (Int.toNat (0 : Int)) ((0 : Int), (0 : Int), (0 : Int), [], (0 : Int), false)).snd.snd.snd.fst ((a0.getD (Int.toNat (0 : Int)) ((0 : Int), (0 : Int), (0 : Int), [], (0 : Int), false)).snd.snd.snd.snd.fst.tmod (4 : Int) - (0 : Int)) (0 : Int) (List.drop (Int.toNat (1 : Int)) a0) [] []).fst), .sl .str ((Px.growR' a1 (eqI ((a0.getD (Int.toNat (0 : Int)) ((0 : Int), (0 : Int), (0 : Int), [], (0 : Int), false)).fst.tmod (8 : Int)) (6 : Int)) (a0.getD (Int.toNat (0 : Int)) ((0 : Int), (0 : Int), (0 : Int), [], (0 : Int), false)).snd.snd.snd.fst ((a0.getD (Int.toNat (0 : Int)) ((0 : Int), (0 : Int), (0 : Int), [], (0 : Int), false)).snd.snd.snd.snd.fst.tmod (4 : Int) - (0 : Int)) (0 : Int) (List.drop (Int.toNat (1 : Int)) a0) [] []).snd.fst)]), (false, [.sl .bit ((Px.growR' a1 (eqI ((a0.getD (Int.toNat (0 : Int)) ((0 : Int), (0 : Int), (0 : Int), [], (0 : Int), false)).fst.tmod (8 : Int)) (6 : Int)) (a0.getD (Int.toNat (0 : Int)) ((0 : Int), (0 : Int), (0 : Int), [], (0 : Int), false)).snd.snd.snd.fst ((a0.getD (Int.toNat (0 : Int)) ((0 : Int), (0 : Int), (0 : Int), [], (0 : Int), false)).snd.snd.snd.snd.fst.tmod (4 : Int) - (0 : Int)) (0 : Int) (List.drop (Int.toNat (1 : Int)) a0) [] []).snd.snd)])], [])))
          (.fail))
         (.ite ((a0.getD (Int.toNat (0 : Int)) ((0 : Int), (0 : Int), (0 : Int), [], (0 : Int), false)).snd.snd.snd.snd.snd)
          (.leaf (.tup [(true, [.int .u8 ((a0.getD (Int.toNat (0 : Int)) ((0 : Int), (0 : Int), (0 : Int), [], (0 : Int), false)).fst.tmod (8 : Int)), .int .i64 ((0 : Int)), .int .i64 (IntKind.i64.wrap (a0.getD (Int.toNat (0 : Int)) ((0 : Int), (0 : Int), (0 : Int), [], (0 : Int), false)).snd.snd.fst), .str [], .sl .val [], .sl .str []]), (false, [.sl .bit (List.drop (Int.toNat (1 : Int)) a0)])], []))
          (.leaf (.tup [(true, [.int .u8 ((a0.getD (Int.toNat (0 : Int)) ((0 : Int), (0 : Int), (0 : Int), [], (0 : Int), false)).fst.tmod (8 : Int)), .int .i64 ((0 : Int)), .int .i64 ((0 : Int)), .str [], .sl .val [], .sl .str []]), (false, [.sl .bit (List.drop (Int.toNat (1 : Int)) a0)])], []))))
        (.ite (eqI ((a0.getD (Int.toNat (0 : Int)) ((0 : Int), (0 : Int), (0 : Int), [], (0 : Int), false)).fst.tmod (8 : Int)) (6 : Int))
         (.ite (leI (0 : Int) (0 : Int) && leI ((a0.getD (Int.toNat (0 : Int)) ((0 : Int), (0 : Int), (0 : Int), [], (0 : Int), false)).snd.snd.snd.snd.fst.tmod (4 : Int)) (3 : Int) && leI (↑([] : List UInt8).length : Int) (0 : Int) && leI (↑([] : List UInt8).length : Int) (0 : Int) && leI (0 : Int) a1 && ltI a1 (22 : Int) && leI (21 : Int) (a1 + (↑n : Int)))
          (.ite ((a0.getD (Int.toNat (0 : Int)) ((0 : Int), (0 : Int), (0 : Int), [], (0 : Int), false)).snd.snd.snd.snd.snd)
           (.leaf (.tup [(true, [.int .u8 ((a0.getD (Int.toNat (0 : Int)) ((0 : Int), (0 : Int), (0 : Int), [], (0 : Int), false)).fst.tmod (8 : Int)), .int .i64 ((0 : Int)), .int .i64 (IntKind.i64.wrap (a0.getD (Int.toNat (0 : Int)) ((0 : Int), (0 : Int), (0 : Int), [], (0 : Int), false)).snd.snd.fst), .str [], .sl .val ((Px.growR' a1 (eqI ((a0.getD (Int.toNat (0 : Int)) ((0 : Int), (0 : Int), (0 : Int), [], (0 : Int), false)).fst.tmod (8 : Int)) (6 : Int)) (a0.getD (Int.toNat (0 : Int)) ((0 : Int), (0 : Int), (0 : Int), [], (0 : Int), false)).snd.snd.snd.fst ((a0.getD (Int.toNat (0 : Int)) ((0 : Int), (0 : Int), (0 : Int), [], (0 : Int), false)).snd.snd.snd.snd.fst.tmod (4 : Int) - (0 : Int)) (0 : Int) (List.drop (Int.toNat (1 : Int)) a0) [] []).fst), .sl .str ((Px.growR' a1 (eqI ((a0.getD (Int.toNat (0 : Int)) ((0 : Int), (0 : Int), (0 : Int), [], (0 : Int), false)).fst.tmod (8 : Int)) (6 : Int)) (a0.getD (Int.toNat (0 : Int)) ((0 : Int), (0 : Int), (0 : Int), [], (0 : Int), false)).snd.snd.snd.fst ((a0.getD (Int.toNat (0 : Int)) ((0 : Int), (0 : Int), (0 : Int), [], (0 : Int), false)).snd.snd.snd.snd.fst.tmod (4 : Int) - (0 : Int)) (0 : Int) (List.drop (Int.toNat (1 : Int)) a0) [] []).snd.fst)]), (false, [.sl .bit ((Px.growR' a1 (eqI ((a0.getD (Int.toNat (0 : Int)) ((0 : Int), (0 : Int), (0 : Int), [], (0 : Int), false)).fst.tmod (8 : Int)) (6 : Int)) (a0.getD (Int.toNat (0 : Int)) ((0 : Int), (0 : Int), (0 : Int), [], (0 : Int), false)).snd.snd.snd.fst ((a0.getD (Int.toNat (0 : Int)) ((0 : Int), (0 : Int), (0 : Int), [], (0 : Int), false)).snd.snd.snd.snd.fst.tmod (4 : Int) - (0 : Int)) (0 : Int) (List.drop (Int.toNat (1 : Int)) a0) [] []).snd.snd)])], []))
           (.leaf (.tup [(true, [.int .u8 ((a0.getD (Int.toNat (0 : Int)) ((0 : Int), (0 : Int), (0 : Int), [], (0 : Int), false)).fst.tmod (8 : Int)), .int .i64 ((0 : Int)), .int .i64 ((0 : Int)), .str [], .sl .val ((Px.growR' a1 (eqI ((a0.getD (Int.toNat (0 : Int)) ((0 : Int), (0 : Int), (0 : Int), [], (0 : Int), false)).fst.tmod (8 : Int)) (6 : Int)) (a0.getD (Int.toNat (0 : Int)) ((0 : Int), (0 : Int), (0 : Int), [], (0 : Int), false)).snd.snd.snd.fst ((a0.getD (Int.toNat (0 : Int)) ((0 : Int), (0 : Int), (0 : Int), [], (0 : Int), false)).snd.snd.snd.snd.fst.tmod (4 : Int) - (0 : Int)) (0 : Int) (List.drop (Int.toNat (1 : Int)) a0) [] []).fst), .sl .str ((Px.growR' a1 (eqI ((a0.getD (Int.toNat (0 : Int)) ((0 : Int), (0 : Int), (0 : Int), [], (0 : Int), false)).fst.tmod (8 : Int)) (6 : Int)) (a0.getD (Int.toNat (0 : Int)) ((0 : Int), (0 : Int), (0 : Int), [], (0 : Int), false)).snd.snd.snd.fst ((a0.getD (Int.toNat (0 : Int)) ((0 : Int), (0 : Int), (0 : Int), [], (0 : Int), false)).snd.snd.snd.snd.fst.tmod (4 : Int) - (0 : Int)) (0 : Int) (List.drop (Int.toNat (1 : Int)) a0) [] []).snd.fst)]), (false, [.sl .bit ((Px.growR' a1 (eqI ((a0.getD (Int.toNat (0 : Int)) ((0 : Int), (0 : Int), (0 : Int), [], (0 : Int), false)).fst.tmod (8 : Int)) (6 : Int)) (a0.getD (Int.toNat (0 : Int)) ((0 : Int), (0 : Int), (0 : Int), [], (0 : Int), false)).snd.snd.snd.fst ((a0.getD (Int.toNat (0 : Int)) ((0 : Int), (0 : Int), (0 : Int), [], (0 : Int), false)).snd.snd.snd.snd.fst.tmod (4 : Int) - (0 : Int)) (0 : Int) (List.drop (Int.toNat (1 : Int)) a0) [] []).snd.snd)])], [])))
          (.fail))
         (.ite ((a0.getD (Int.toNat (0 : Int)) ((0 : Int), (0 : Int), (0 : Int), [], (0 : Int), false)).snd.snd.snd.snd.snd)
          (.leaf (.tup [(true, [.int .u8 ((a0.getD (Int.toNat (0 : Int)) ((0 : Int), (0 : Int), (0 : Int), [], (0 : Int), false)).fst.tmod (8 : Int)), .int .i64 ((0 : Int)), .int .i64 (IntKind.i64.wrap (a0.getD (Int.toNat (0 : Int)) ((0 : Int), (0 : Int), (0 : Int), [], (0 : Int), false)).snd.snd.fst), .str [], .sl .val [], .sl .str []]), (false, [.sl .bit (List.drop (Int.toNat (1 : Int)) a0)])], []))
          (.leaf (.tup [(true, [.int .u8 ((a0.getD (Int.toNat (0 : Int)) ((0 : Int), (0 : Int), (0 : Int), [], (0 : Int), false)).fst.tmod (8 : Int)), .int .i64 ((0 : Int)), .int .i64 ((0 : Int)), .str [], .sl .val [], .sl .str []]), (false, [.sl .bit (List.drop (Int.toNat (1 : Int)) a0)])], []))))))))))
  (.fail))
 (.fail)
theorem e41 (n : Nat) (a0 : List (Int × Int × Int × List UInt8 × Int × Bool)) (a1 : Int) : execFun E (G41 n) ((Lam41 n)) false Go.Proofs.Tryz.f41 [.lf (.sl .bit a0), .lf (.int .i64 a1)] [] some = (w41 n a0 a1).get := by kernel_rfl
noncomputable def raw41 (n : Nat) : Spec E := fun args os => match args, os with
  | [.lf (.sl .bit a0), .lf (.int .i64 a1)], [] => w41 n a0 a1
  | _, _ => .fail
theorem validraw41 (hL : Laws E) (n : Nat) (hN : Valid E 41 (spec41N n)) : Valid E 41 (raw41 n) :=
  valid_of_body hL (hG41 hL n hN) (Λ := (Lam41 n)) (fn := Go.Proofs.Tryz.f41) (keep := false) (by kernel_rfl) (by kernel_rfl) (by kernel_rfl) ((LamOK.of (m := 1) (by kernel_rfl) (fun j hj σ e σ' hg => by
      match j, hj with
      | 0, _ => exact ll41_0 hL n hN σ e σ' hg
      ))) (fun args os r os' h => by
    unfold raw41 at h
    split at h
    · exact (e41 _ _ _).trans h
    · cases h)
theorem pick_kind (k c : Int) : (eqI k c = true ∧ k = c) ∨ (eqI k c = false) := by
  cases h : eqI k c
  · exact .inr rfl
  · rw [eqI_eq, decide_eq_true_eq] at h; exact .inl ⟨rfl, h⟩
theorem eq41 {n : Nat} {l : List Bit} {d : Int} (h0 : 0 ≤ d) (h1 : d < 22) (h2 : 22 ≤ d + (n + 1 : Nat)) (hl : l ≠ []) : (w41 n l d).get = some (.tup [(true, [.int .u8 (Px.vk (Px.growV d l)), .int .i64 (Px.vn (Px.growV d l)), .int .i64 (Px.vg (Px.growV d l)), .str (Px.vt (Px.growV d l)), .sl .val (Px.vl (Px.growV d l)), .sl .str (Px.vs (Px.growV d l))]), (false, [.sl .bit (Px.growL d l)])], []) := by
  obtain ⟨b, r, rfl⟩ : ∃ b r, l = b :: r := by cases l with | nil => exact absurd rfl hl | cons b r => exact ⟨b, r, rfl⟩
  have i1 : inB (0 : Int) (b :: r).length = true := inB_true.2 ⟨by omega, by simp only [List.length_cons]; omega⟩
  have i2 : inB (1 : Int) ((b :: r).length + (1 : Nat)) = true := inB_true.2 ⟨by omega, by simp only [List.length_cons]; omega⟩
  have i3 : (b :: r).getD (Int.toNat (0 : Int)) ((0 : Int), (0 : Int), (0 : Int), [], (0 : Int), false) = b := rfl
  have i4 : List.drop (Int.toNat (1 : Int)) (b :: r) = r := rfl
  have i5 : decide ([(78 : UInt8)].length + (Px.nameOf b.2.2.2.1).length ≤ (2 : Nat) ^ (60 : Nat)) = true := decide_eq_true (by
    have := Px.nameOf_len b.2.2.2.1
    simp only [List.length_cons, List.length_nil]; omega)
  have i6 : b.2.2.2.2.1.tmod 4 ≤ 3 := by
    have := Int.tmod_lt_of_pos b.2.2.2.2.1 (show (0 : Int) < 4 by decide)
    omega
  have i7 : ∀ (x : List UInt8) (y : List UInt8), x = [] → y = [] → (leI 0 0 && leI (b.2.2.2.2.1.tmod 4) 3 && leI (x.length : Int) 0 && leI (y.length : Int) 0 && leI 0 d && ltI d 22 && leI 21 (d + (n : Int))) = true := by
    rintro _ _ rfl rfl
    simp only [leI_eq, ltI_eq, Bool.and_eq_true, decide_eq_true_eq, List.length_nil]; omega
  have i8 := i7 [] [] rfl rfl
  obtain ⟨m, hm⟩ : ∃ m : Nat, d = 21 - (m : Int) := ⟨(21 - d).toNat, by omega⟩
  have hm' : m ≤ 21 := by omega
  have e1 : Px.grow d (b :: r) = Px.growF (m + 1) (b :: r) := by
    unfold Px.grow; rw [show (22 - d).toNat = m + 1 by omega]
  have e2 : ∀ x, Px.grow (d + 1) x = Px.growF m x := by
    intro x; unfold Px.grow; rw [show (22 - (d + 1)).toNat = m by omega]
  have e3 : leI d 20 = Nat.ble 1 m := by
    rw [leI_eq, Bool.eq_iff_iff, decide_eq_true_eq, Nat.ble_eq]; omega
  have e4 : ∀ (dict : Bool) t c x, Px.growR d dict t c 0 x [] [] = Px.growLoop (Px.growF m) dict t (Nat.ble 1 m) c.toNat 0 x [] [] := by
    intro dict t c x
    unfold Px.growR
    rw [e3, show Px.grow (d + 1) = Px.growF m from funext e2]
    rfl
  have e5 : b.2.2.2.2.1.tmod 4 - 0 = b.2.2.2.2.1.tmod 4 := by omega
  unfold Px.growV Px.growL
  rw [e1, Px.growF]
  unfold w41
  simp only [i1, i2, i3, i4, i5, Tree.get_ite, Tree.get_leaf, cond_true, Px.growR'_eq, e4, e5]
  simp only [i8, cond_true]
  generalize b.1.tmod 8 = k
  cases b.2.2.2.2.2 <;> rcases pick_kind k 1 with ⟨q, rfl⟩ | q
  all_goals first | rfl | skip
  all_goals rcases pick_kind k 2 with ⟨q2, rfl⟩ | q2
  all_goals first | rfl | skip
  all_goals rcases pick_kind k 3 with ⟨q3, rfl⟩ | q3
  all_goals first | rfl | skip
  all_goals rcases pick_kind k 4 with ⟨q4, rfl⟩ | q4
  all_goals first | rfl | skip
  all_goals rcases pick_kind k 7 with ⟨q7, rfl⟩ | q7
  all_goals first | rfl | skip
  all_goals rcases pick_kind k 5 with ⟨q5, rfl⟩ | q5
  all_goals first | rfl | skip
  all_goals rcases pick_kind k 6 with ⟨q6, rfl⟩ | q6
  all_goals first | rfl | skip
  all_goals simp only [q, q2, q3, q4, q5, q6, q7, cond_false, cond_true, Bool.or_false, Bool.false_or, Bool.or_true, Px.vk, Px.vn, Px.vg, Px.vt, Px.vl, Px.vs]
  all_goals rfl
theorem valid41N (hL : Laws E) : ∀ n, Valid E 41 (spec41N n)
  | 0 => Valid.never (fun args os => by
      unfold spec41N
      split
      · rename_i l d
        have : (leI 0 d && ltI d 22 && leI 22 (d + ((0 : Nat) : Int)) && !l.isEmpty) = false := by
          rw [Bool.eq_false_iff]
          simp only [leI_eq, ltI_eq, Bool.and_eq_true, decide_eq_true_eq, ne_eq]
          omega
        rw [Tree.get_ite, this]; rfl
      · rfl)
  | n + 1 => (validraw41 hL n (valid41N hL n)).less (fun args os x u1 u2 h => by
      clear u1 u2
      unfold spec41N at h
      split at h
      · rename_i l d
        rcases Tree.get_ite_some h with ⟨h1, h⟩ | ⟨_, h⟩
        · simp only [leI_eq, ltI_eq, Bool.and_eq_true, decide_eq_true_eq, Bool.not_eq_true', List.isEmpty_eq_false_iff] at h1
          exact (eq41 h1.1.1.1 h1.1.1.2 h1.1.2 h1.2).trans h
        · cases h
      · cases h)
noncomputable def spec41 : Spec E := fun args os => match args, os with
  | [.lf (.sl .bit l), .lf (.int .i64 d)], [] => .ite (leI 0 d && ltI d 22 && !l.isEmpty)
     (.leaf (.tup [(true, [.int .u8 (Px.vk (Px.growV d l)), .int .i64 (Px.vn (Px.growV d l)), .int .i64 (Px.vg (Px.growV d l)), .str (Px.vt (Px.growV d l)), .sl .val (Px.vl (Px.growV d l)), .sl .str (Px.vs (Px.growV d l))]), (false, [.sl .bit (Px.growL d l)])], [])) .fail
  | _, _ => .fail
theorem valid41 (hL : Laws E) : Valid E 41 spec41 := (valid41N hL 22).less (fun args os x u1 u2 h => by
  clear u1 u2
  unfold spec41 at h
  split at h
  · rename_i l d
    rcases Tree.get_ite_some h with ⟨h1, h⟩ | ⟨_, h⟩
    · rw [← h]
      have : (leI 0 d && ltI d 22 && leI 22 (d + ((22 : Nat) : Int)) && !l.isEmpty) = true := by
        simp only [leI_eq, ltI_eq, Bool.and_eq_true, decide_eq_true_eq] at h1 ⊢
        exact ⟨⟨h1.1, by omega⟩, h1.2⟩
      unfold spec41N
      rw [Tree.get_ite, this]; rfl
    · cases h
  · cases h)
end Go.Vx
namespace Go.Vx
open Go
noncomputable def G20 : FuncId → Option (Spec E)
  | 41 => some spec41
  | _ => none
theorem hG20 (hL : Laws E) : ∀ f spec, G20 f = some spec → Valid E f spec := by
  intro f spec h
  unfold G20 at h
  split at h
  · injection h with h; subst h; exact valid41 hL
  · cases h
noncomputable def w20 (a0 : List (Int × Int × Int × List UInt8 × Int × Bool)) : Tree (RV E.A × List (Obj E.A)) :=
 .ite (eqI (↑a0.length : Int) (0 : Int))
 (.leaf (.agg [.int .u8 ((0 : Int)), .int .i64 ((0 : Int)), .int .i64 ((0 : Int)), .str [], .sl .val [], .sl .str []], []))
 (.ite (leI (0 : Int) (↑(0 : Nat) : Int) && leI (↑(0 : Nat) : Int) (if false = true then Max.max (↑a0.length : Int) (40 : Int) else Min.min (↑a0.length : Int) (40 : Int)) && leI (if false = true then Max.max (↑a0.length : Int) (40 : Int) else Min.min (↑a0.length : Int) (40 : Int)) (↑a0.length : Int))
  (.ite (leI (0 : Int) (0 : Int) && ltI (0 : Int) (22 : Int) && !(List.drop (↑(0 : Nat) : Int).toNat (List.take (if false = true then Max.max (↑a0.length : Int) (40 : Int) else Min.min (↑a0.length : Int) (40 : Int)).toNat a0)).isEmpty)
   (.leaf (.agg [.int .u8 (Px.vk (Px.growV (0 : Int) (List.drop (↑(0 : Nat) : Int).toNat (List.take (if false = true then Max.max (↑a0.length : Int) (40 : Int) else Min.min (↑a0.length : Int) (40 : Int)).toNat a0)))), .int .i64 (Px.vn (Px.growV (0 : Int) (List.drop (↑(0 : Nat) : Int).toNat (List.take (if false = true then Max.max (↑a0.length : Int) (40 : Int) else Min.min (↑a0.length : Int) (40 : Int)).toNat a0)))), .int .i64 (Px.vg (Px.growV (0 : Int) (List.drop (↑(0 : Nat) : Int).toNat (List.take (if false = true then Max.max (↑a0.length : Int) (40 : Int) else Min.min (↑a0.length : Int) (40 : Int)).toNat a0)))), .str (Px.vt (Px.growV (0 : Int) (List.drop (↑(0 : Nat) : Int).toNat (List.take (if false = true then Max.max (↑a0.length : Int) (40 : Int) else Min.min (↑a0.length : Int) (40 : Int)).toNat a0)))), .sl .val (Px.vl (Px.growV (0 : Int) (List.drop (↑(0 : Nat) : Int).toNat (List.take (if false = true then Max.max (↑a0.length : Int) (40 : Int) else Min.min (↑a0.length : Int) (40 : Int)).toNat a0)))), .sl .str (Px.vs (Px.growV (0 : Int) (List.drop (↑(0 : Nat) : Int).toNat (List.take (if false = true then Max.max (↑a0.length : Int) (40 : Int) else Min.min (↑a0.length : Int) (40 : Int)).toNat a0))))], []))
   (.fail))
  (.fail))
theorem e20 (a0 : List (Int × Int × Int × List UInt8 × Int × Bool)) : execFun E G20 (fun _ _ => .fail) false Go.Proofs.Tryz.f20 [.lf (.sl .bit a0)] [] some = (w20 a0).get := by kernel_rfl
noncomputable def raw20 : Spec E := fun args os => match args, os with
  | [.lf (.sl .bit a0)], [] => w20 a0
  | _, _ => .fail
theorem validraw20 (hL : Laws E) : Valid E 20 raw20 :=
  valid_of_body hL (hG20 hL) (Λ := fun _ _ => .fail) (fn := Go.Proofs.Tryz.f20) (keep := false) (by kernel_rfl) (by kernel_rfl) (by kernel_rfl) (LamOK.none (by kernel_rfl)) (fun args os r os' h => by
    unfold raw20 at h
    split at h
    · exact (e20 _).trans h
    · cases h)
theorem eq20 (l : List Bit) : (w20 l).get = some (.agg [.int .u8 (Px.vk (Px.made l)), .int .i64 (Px.vn (Px.made l)), .int .i64 (Px.vg (Px.made l)), .str (Px.vt (Px.made l)), .sl .val (Px.vl (Px.made l)), .sl .str (Px.vs (Px.made l))], []) := by
  unfold w20 Px.made
  by_cases h : l.length = 0
  · have e : eqI (l.length : Int) 0 = true := by rw [eqI_eq]; exact decide_eq_true (by omega)
    rw [Tree.get_ite, e, cond_true, if_pos h]
    rfl
  · have e : eqI (l.length : Int) 0 = false := by rw [eqI_eq]; exact decide_eq_false (by omega)
    have e0 : (if false = true then Max.max (l.length : Int) 40 else Min.min (l.length : Int) 40) = ((Min.min l.length 40 : Nat) : Int) := by
      rw [if_neg (by decide)]; omega
    have e1 : (leI (0 : Int) ((0 : Nat) : Int) && leI ((0 : Nat) : Int) ((Min.min l.length 40 : Nat) : Int) && leI ((Min.min l.length 40 : Nat) : Int) (l.length : Int)) = true := by
      simp only [leI_eq, Bool.and_eq_true, decide_eq_true_eq]
      omega
    have e2 : List.take (Min.min l.length 40) l = l.take 40 := by
      by_cases hc : 40 ≤ l.length
      · rw [Nat.min_eq_right hc]
      · rw [Nat.min_eq_left (by omega), List.take_of_length_le (Nat.le_refl _), List.take_of_length_le (by omega)]
    have e3 : (leI (0 : Int) 0 && ltI (0 : Int) 22 && !(l.take 40).isEmpty) = true := by
      rw [show (l.take 40).isEmpty = false from ?_]
      · rfl
      · rw [List.isEmpty_eq_false_iff]
        intro hh
        have := congrArg List.length hh
        rw [List.length_take, List.length_nil] at this
        omega
    rw [if_neg h]
    simp only [Tree.get_ite, Tree.get_leaf, e, cond_false, e0, e1, cond_true, Int.toNat_natCast, List.drop_zero, e2, e3]
noncomputable def spec20 : Spec E := fun args os => match args, os with
  | [.lf (.sl .bit l)], [] => .leaf (.agg [.int .u8 (Px.vk (Px.made l)), .int .i64 (Px.vn (Px.made l)), .int .i64 (Px.vg (Px.made l)), .str (Px.vt (Px.made l)), .sl .val (Px.vl (Px.made l)), .sl .str (Px.vs (Px.made l))], [])
  | _, _ => .fail
theorem valid20 (hL : Laws E) : Valid E 20 spec20 := (validraw20 hL).less (fun args os x u1 u2 h => by
  clear u1 u2
  unfold spec20 at h
  split at h
  · rename_i l
    exact (eq20 l).trans h
  · cases h)
end Go.Vx
namespace Go.Vx
open Go
noncomputable def G42 : FuncId → Option (Spec E) := fun _ => none
theorem hG42 (hL : Laws E) : ∀ f spec, G42 f = some spec → Valid E f spec := by
  intro f spec h
  cases h
def L42_0 : Ex → Live
  | .normal => ⟨[0, 1, 7, 8], []⟩
  | .exit 0 => ⟨[], []⟩
  | .ret => ⟨[4], []⟩
  | _ => ⟨[], []⟩
noncomputable def S42_0 (p0 : List (List UInt8)) (p1 : List UInt8) (p7 : Int) (x : Int) : St E.A := at' E 19 [(0, .lf (.sl .str p0)), (1, .lf (.str p1)), (7, .lf (.int .i64 p7)), (8, .lf (.int .i64 x))] []
noncomputable def t42_0 (p0 : List (List UInt8)) (p1 : List UInt8) (p7 : Int) (x : Int) : Tree ((Int) ⊕ Out' E) :=
 .ite (ltI x p7)
 (.ite (inB x p0.length)
  (.ite (decide (p1 = p0.getD x.toNat []))
   (.leaf (.inr (.ret, at' E 19 [(4, .lf (.int .i64 x))] [])))
   (.leaf (.inl ((IntKind.i64.wrap (x + (1 : Int)))))))
  (.fail))
 (.leaf (.inr (.exit 0, at' E 19 [] [])))
theorem h42_0 (p0 : List (List UInt8)) (p1 : List UInt8) (p7 : Int) (x : Int) (k : Ex → St E.A → Option Unit) :
    exec E G42 (fun _ _ => .fail) 1 (lb Go.Proofs.Tryz.f42 0) (S42_0 p0 p1 p7 x) (fun e σ1 => k e (clean E (L42_0 e) σ1)) = (t42_0 p0 p1 p7 x).run (Sum.elim (fun x' => k .normal (S42_0 p0 p1 p7 x')) (fun o => k o.1 o.2)) := by kernel_rfl
end Go.Vx
namespace Px
open Go.Vx Go
def keyFrom (k : List UInt8) (i : Nat) (l : List (List UInt8)) : Int := findI (fun x => decide (k = x)) i l
noncomputable def keyFrom' : List UInt8 → Nat → List (List UInt8) → Int := (Classical.choice (sealed keyFrom)).1
theorem keyFrom'_eq : keyFrom' = keyFrom := (Classical.choice (sealed keyFrom)).2
end Px
namespace Go.Vx
open Go
noncomputable def lam42_0 (p0 : List (List UInt8)) (p1 : List UInt8) (p7 : Int) (x : Int) : Tree (Out' E) :=
  .ite (eqI p7 p0.length && leI 0 x && leI x p7)
   (.ite (leI 0 (Px.keyFrom' p1 x.toNat (p0.drop x.toNat))) (.leaf (.ret, at' E 19 [(4, .lf (.int .i64 (Px.keyFrom' p1 x.toNat (p0.drop x.toNat))))] [])) (.leaf (.exit 0, at' E 19 [] []))) .fail
theorem m42_0 {p0 : List (List UInt8)} {p1 : List UInt8} {p7 x : Int} {e : Ex} {σ : St E.A} (g : okLenR (E := E) (.lf (.sl .str p0)) = true) (_ : okLenR (E := E) (.lf (.str p1)) = true)
    (h : (lam42_0 p0 p1 p7 x).get = some (e, σ)) : ∃ fuel, iter (t42_0 p0 p1 p7) fuel x = some (e, σ) ∧ e ≠ .normal := by
  have hb : p0.length ≤ big := of_decide_eq_true g
  unfold lam42_0 at h
  have h' := Tree.get_ite_some h
  clear h
  rcases h' with ⟨h1, h⟩ | ⟨_, h⟩
  · simp only [eqI_eq, leI_eq, Bool.and_eq_true, decide_eq_true_eq] at h1
    obtain ⟨⟨rfl, k1⟩, k2⟩ := h1
    obtain ⟨i, rfl⟩ : ∃ j : Nat, x = (j : Int) := ⟨x.toNat, by omega⟩
    have key := scan_iter (t := t42_0 p0 p1 p0.length) (l := p0) [] (fun i b => cond (decide (p1 = b)) (some (Ex.ret, at' E 19 [(4, .lf (.int .i64 (i : Int)))] [])) none) (Ex.exit 0, at' E 19 [] [])
      (fun i hi => by
        unfold t42_0
        simp only [Tree.get_ite, Tree.get_leaf, ltI_nat hi, inB_nat hi, cond_true, i64_succ hi hb, Int.toNat_natCast]
        cases decide (p1 = p0.getD i []) <;> rfl)
      (by unfold t42_0; simp only [Tree.get_ite, Tree.get_leaf, ltI_self, cond_false])
      (p0.length - i) i (by omega)
    rw [Px.keyFrom'_eq] at h
    unfold Px.keyFrom at h
    rw [scan_find (fun k => decide (p1 = k)) (fun j => ((Ex.ret, at' E 19 [(4, .lf (.int .i64 j))] []) : Out' E))] at key
    rw [Tree.get_ite, Tree.get_leaf, Tree.get_leaf, Int.toNat_natCast] at h
    refine ⟨_, key.trans ?_, ?_⟩
    · rw [← h]; cases leI 0 (findI (fun k => decide (p1 = k)) i (p0.drop i)) <;> rfl
    · intro hh; subst hh
      cases q : leI 0 (findI (fun k => decide (p1 = k)) i (p0.drop i)) <;> rw [q] at h <;> cases h
  · cases h
noncomputable def rd42_0 (σ : St E.A) : Tree (Out' E) :=
  let c := clean E (L42_0 .normal) σ
  if c.sl.length = 19 then
  match c.sl.getD 0 .undef, c.sl.getD 1 .undef, c.sl.getD 7 .undef, c.sl.getD 8 .undef with
  | .lf (.sl .str p0), .lf (.str p1), .lf (.int .i64 p7), .lf (.int .i64 x8) => lam42_0 p0 p1 p7 (x8)
  | _, _, _, _ => .fail
  else .fail
theorem ll42_0 (hL : Laws E) (σ : St E.A) (e : Ex) (σ' : St E.A) (h : (rd42_0 σ).get = some (e, σ')) : LoopOK E (lb Go.Proofs.Tryz.f42 0) σ e σ' := by
  refine LoopOK.of_clean hL (L42_0 .normal) ?_
  unfold rd42_0 at h
  simp only at h
  split at h
  · rename_i hlen
    split at h
    · rename_i p0 p1 p7 x8 h0 h1 h2 h3
      refine LoopOK.lens 0 (fun g0 => ?_)
      rw [h0] at g0
      refine LoopOK.lens 1 (fun g1 => ?_)
      rw [h1] at g1
      obtain ⟨fuel, hi, ho⟩ := m42_0 g0 g1 h
      have hl := loop_at (Γ := G42) (Λ := fun _ _ => .fail) (n := 1) (body := lb Go.Proofs.Tryz.f42 0) hL (hG42 hL) (S := S42_0 p0 p1 p7) (t := t42_0 p0 p1 p7) (Lv := L42_0) (LamOK.none (by kernel_rfl)) (h42_0 p0 p1 p7) hi ho
      refine LoopOK.fit hlen ?_ ?_ rfl rfl hl
      · exact ⟨h0, h1, h2, h3, trivial⟩
      · exact trivial
    · cases h
  · cases h
noncomputable def Lam42 : Lam E
  | 0, σ => rd42_0 σ
  | _, _ => .fail
noncomputable def w42 (a0 : List (List UInt8)) (a1 : List UInt8) : Tree (RV E.A × List (Obj E.A)) :=
 .ite (eqI (↑a0.length : Int) (↑a0.length : Int) && leI (0 : Int) (0 : Int) && leI (0 : Int) (↑a0.length : Int))
 (.ite (leI (0 : Int) (Px.keyFrom' a1 (Int.toNat (0 : Int)) (List.drop (Int.toNat (0 : Int)) a0)))
  (.leaf (.lf (.int .i64 (Px.keyFrom' a1 (Int.toNat (0 : Int)) (List.drop (Int.toNat (0 : Int)) a0))), []))
  (.leaf (.lf (.int .i64 ((-1 : Int))), [])))
 (.fail)
theorem e42 (a0 : List (List UInt8)) (a1 : List UInt8) : execFun E G42 ((Lam42)) false Go.Proofs.Tryz.f42 [.lf (.sl .str a0), .lf (.str a1)] [] some = (w42 a0 a1).get := by kernel_rfl
noncomputable def raw42 : Spec E := fun args os => match args, os with
  | [.lf (.sl .str a0), .lf (.str a1)], [] => w42 a0 a1
  | _, _ => .fail
theorem validraw42 (hL : Laws E) : Valid E 42 raw42 :=
  valid_of_body hL (hG42 hL) (Λ := (Lam42)) (fn := Go.Proofs.Tryz.f42) (keep := false) (by kernel_rfl) (by kernel_rfl) (by kernel_rfl) ((LamOK.of (m := 1) (by kernel_rfl) (fun j hj σ e σ' hg => by
      match j, hj with
      | 0, _ => exact ll42_0 hL σ e σ' hg
      ))) (fun args os r os' h => by
    unfold raw42 at h
    split at h
    · exact (e42 _ _).trans h
    · cases h)
theorem eq42 (l : List (List UInt8)) (k : List UInt8) : (w42 l k).get = some (.lf (.int .i64 (Px.keyAt k l)), []) := by
  unfold w42
  have g : (eqI (l.length : Int) (l.length : Int) && leI (0 : Int) 0 && leI (0 : Int) (l.length : Int)) = true := by
    simp only [eqI_eq, leI_eq, Bool.and_eq_true, decide_eq_true_eq]
    exact ⟨⟨trivial, by omega⟩, by omega⟩
  rw [Tree.get_ite, g, cond_true, Tree.get_ite, Px.keyFrom'_eq]
  have e : Px.keyFrom k (Int.toNat 0) (l.drop (Int.toNat 0)) = Px.keyAt k l := rfl
  rw [e]
  cases q : leI 0 (Px.keyAt k l) with
  | true => rfl
  | false =>
    have : Px.keyAt k l = -1 := by
      rcases findI_ge (fun x => decide (k = x)) l 0 with h | h
      · exact h
      · rw [leI_eq, decide_eq_false_iff_not] at q
        exact absurd h.1 q
    rw [this]; rfl
noncomputable def spec42 : Spec E := fun args os => match args, os with
  | [.lf (.sl .str l), .lf (.str k)], [] => .leaf (.lf (.int .i64 (Px.keyAt k l)), [])
  | _, _ => .fail
theorem valid42 (hL : Laws E) : Valid E 42 spec42 := (validraw42 hL).less (fun args os x _ _ h => by
  unfold spec42 at h
  split at h
  · exact (eq42 _ _).trans h
  · cases h)
end Go.Vx
namespace Go.Vx
open Go
noncomputable def G21 : FuncId → Option (Spec E)
  | 42 => some spec42
  | _ => none
theorem hG21 (hL : Laws E) : ∀ f spec, G21 f = some spec → Valid E f spec := by
  intro f spec h
  unfold G21 at h
  split at h
  · injection h with h; subst h; exact valid42 hL
  · cases h
noncomputable def w21 (a0Kind : Int) (a0Num : Int) (a0Gen : Int) (a0Text : List UInt8) (a0List : List Val) (a0Keys : List (List UInt8)) (a1 : List UInt8) : Tree (RV E.A × List (Obj E.A)) :=
 .ite (!eqI a0Kind (6 : Int))
 (.leaf (.tup [(true, [.int .u8 ((0 : Int)), .int .i64 ((0 : Int)), .int .i64 ((0 : Int)), .str [], .sl .val [], .sl .str []]), (false, [.bool false])], []))
 (.ite (ltI (Px.keyAt a1 a0Keys) (0 : Int))
  (.leaf (.tup [(true, [.int .u8 ((0 : Int)), .int .i64 ((0 : Int)), .int .i64 ((0 : Int)), .str [], .sl .val [], .sl .str []]), (false, [.bool false])], []))
  (.ite (leI (↑a0List.length : Int) (Px.keyAt a1 a0Keys))
   (.leaf (.tup [(true, [.int .u8 ((0 : Int)), .int .i64 ((0 : Int)), .int .i64 ((0 : Int)), .str [], .sl .val [], .sl .str []]), (false, [.bool false])], []))
   (.ite (inB (Px.keyAt a1 a0Keys) a0List.length)
    (.leaf (.tup [(true, [.int .u8 (Px.vk (a0List.getD (Px.keyAt a1 a0Keys).toNat (Val.mk (0 : Int) (0 : Int) (0 : Int) [] [] []))), .int .i64 (Px.vn (a0List.getD (Px.keyAt a1 a0Keys).toNat (Val.mk (0 : Int) (0 : Int) (0 : Int) [] [] []))), .int .i64 (Px.vg (a0List.getD (Px.keyAt a1 a0Keys).toNat (Val.mk (0 : Int) (0 : Int) (0 : Int) [] [] []))), .str (Px.vt (a0List.getD (Px.keyAt a1 a0Keys).toNat (Val.mk (0 : Int) (0 : Int) (0 : Int) [] [] []))), .sl .val (Px.vl (a0List.getD (Px.keyAt a1 a0Keys).toNat (Val.mk (0 : Int) (0 : Int) (0 : Int) [] [] []))), .sl .str (Px.vs (a0List.getD (Px.keyAt a1 a0Keys).toNat (Val.mk (0 : Int) (0 : Int) (0 : Int) [] [] [])))]), (false, [.bool true])], []))
    (.fail))))
theorem e21 (a0Kind : Int) (a0Num : Int) (a0Gen : Int) (a0Text : List UInt8) (a0List : List Val) (a0Keys : List (List UInt8)) (a1 : List UInt8) : execFun E G21 (fun _ _ => .fail) false Go.Proofs.Tryz.f21 [.agg [.int .u8 a0Kind, .int .i64 a0Num, .int .i64 a0Gen, .str a0Text, .sl .val a0List, .sl .str a0Keys], .lf (.str a1)] [] some = (w21 a0Kind a0Num a0Gen a0Text a0List a0Keys a1).get := by kernel_rfl
noncomputable def raw21 : Spec E := fun args os => match args, os with
  | [.agg [.int .u8 a0Kind, .int .i64 a0Num, .int .i64 a0Gen, .str a0Text, .sl .val a0List, .sl .str a0Keys], .lf (.str a1)], [] => w21 a0Kind a0Num a0Gen a0Text a0List a0Keys a1
  | _, _ => .fail
theorem validraw21 (hL : Laws E) : Valid E 21 raw21 :=
  valid_of_body hL (hG21 hL) (Λ := fun _ _ => .fail) (fn := Go.Proofs.Tryz.f21) (keep := false) (by kernel_rfl) (by kernel_rfl) (by kernel_rfl) (LamOK.none (by kernel_rfl)) (fun args os r os' h => by
    unfold raw21 at h
    split at h
    · exact (e21 _ _ _ _ _ _ _).trans h
    · cases h)
theorem eq21 (a0 a1 a2 : Int) (a3 : List UInt8) (a4 : List Val) (a5 : List (List UInt8)) (k : List UInt8) :
    (w21 a0 a1 a2 a3 a4 a5 k).get = some (.tup [(true, [.int .u8 (Px.vk (Px.getV a0 a4 a5 k)), .int .i64 (Px.vn (Px.getV a0 a4 a5 k)), .int .i64 (Px.vg (Px.getV a0 a4 a5 k)), .str (Px.vt (Px.getV a0 a4 a5 k)), .sl .val (Px.vl (Px.getV a0 a4 a5 k)), .sl .str (Px.vs (Px.getV a0 a4 a5 k))]), (false, [.bool (Px.getI a0 a4 a5 k)])], []) := by
  have hz : (Val.mk (0 : Int) (0 : Int) (0 : Int) [] [] []) = Px.v0 := rfl
  have e1 : ltI (Px.keyAt k a5) 0 = !leI 0 (Px.keyAt k a5) := by
    rw [ltI_eq, leI_eq, ← decide_not]; exact decide_eq_decide.2 (by omega)
  have e2 : leI (a4.length : Int) (Px.keyAt k a5) = !ltI (Px.keyAt k a5) a4.length := by
    rw [ltI_eq, leI_eq, ← decide_not]; exact decide_eq_decide.2 (by omega)
  have e3 : inB (Px.keyAt k a5) a4.length = (leI 0 (Px.keyAt k a5) && ltI (Px.keyAt k a5) a4.length) := by
    rw [Bool.eq_iff_iff, inB_true, Bool.and_eq_true, leI_eq, ltI_eq, decide_eq_true_eq, decide_eq_true_eq]
  unfold w21 Px.getV Px.getI
  simp only [Tree.get_ite, Tree.get_leaf, e1, e2, e3, hz]
  cases eqI a0 6 <;> cases leI 0 (Px.keyAt k a5) <;> cases ltI (Px.keyAt k a5) a4.length <;> rfl
noncomputable def spec21 : Spec E := fun args os => match args, os with
  | [.agg [.int .u8 a0, .int .i64 a1, .int .i64 a2, .str a3, .sl .val a4, .sl .str a5], .lf (.str k)], [] =>
    .leaf (.tup [(true, [.int .u8 (Px.vk (Px.getV a0 a4 a5 k)), .int .i64 (Px.vn (Px.getV a0 a4 a5 k)), .int .i64 (Px.vg (Px.getV a0 a4 a5 k)), .str (Px.vt (Px.getV a0 a4 a5 k)), .sl .val (Px.vl (Px.getV a0 a4 a5 k)), .sl .str (Px.vs (Px.getV a0 a4 a5 k))]), (false, [.bool (Px.getI a0 a4 a5 k)])], [])
  | _, _ => .fail
theorem valid21 (hL : Laws E) : Valid E 21 spec21 := (validraw21 hL).less (fun args os x u1 u2 h => by
  clear u1 u2
  unfold spec21 at h
  split at h
  · rename_i a0 a1 a2 a3 a4 a5 k
    exact (eq21 a0 a1 a2 a3 a4 a5 k).trans h
  · cases h)
end Go.Vx
namespace Go.Vx
open Go
noncomputable def G22 : FuncId → Option (Spec E) := fun _ => none
theorem hG22 (hL : Laws E) : ∀ f spec, G22 f = some spec → Valid E f spec := by
  intro f spec h
  cases h
def L22_0 : Ex → Live
  | .normal => ⟨[0, 2, 3, 7, 8, 9], [192, 256]⟩
  | .exit 0 => ⟨[2, 3], [192, 256]⟩
  | .ret => ⟨[2], [192]⟩
  | _ => ⟨[], []⟩
noncomputable def S22_0 (p0 : List Val) (p7 : List Val) (p8 : Int) (x : Int × Int × Int × Int × (List UInt8) × (List Val) × (List (List UInt8)) × Int × Int × Int × (List UInt8) × (List Val) × (List (List UInt8))) : St E.A := at' E 45 [(0, .lf (.sl .val p0)), (2, .lf (.ptr 192 0 0)), (3, .lf (.ptr 256 0 0)), (7, .lf (.sl .val p7)), (8, .lf (.int .i64 p8)), (9, .lf (.int .i64 x.1))] [(192, some (.cells 30 [.int .u8 x.2.1, .int .i64 x.2.2.1, .int .i64 x.2.2.2.1, .str x.2.2.2.2.1, .own 0 0 .val x.2.2.2.2.2.1, .own 1 0 .str x.2.2.2.2.2.2.1])), (256, some (.cells 30 [.int .u8 x.2.2.2.2.2.2.2.1, .int .i64 x.2.2.2.2.2.2.2.2.1, .int .i64 x.2.2.2.2.2.2.2.2.2.1, .str x.2.2.2.2.2.2.2.2.2.2.1, .own 2 0 .val x.2.2.2.2.2.2.2.2.2.2.2.1, .own 3 0 .str x.2.2.2.2.2.2.2.2.2.2.2.2]))]
noncomputable def t22_0 (p0 : List Val) (p7 : List Val) (p8 : Int) (x : Int × Int × Int × Int × (List UInt8) × (List Val) × (List (List UInt8)) × Int × Int × Int × (List UInt8) × (List Val) × (List (List UInt8))) : Tree (Int × Int × Int × Int × (List UInt8) × (List Val) × (List (List UInt8)) × Int × Int × Int × (List UInt8) × (List Val) × (List (List UInt8)) ⊕ Out' E) :=
 .ite (ltI x.fst p8)
 (.ite (inB x.fst p7.length)
  (.ite (eqI (x.fst.tmod (2 : Int)) (1 : Int))
   (.ite (decide ((x.snd.snd.snd.snd.snd.snd.snd.snd.snd.snd.snd.fst.length + [Val.mk (Px.vk (p7.getD x.fst.toNat (Val.mk (0 : Int) (0 : Int) (0 : Int) [] [] []))) (Px.vn (p7.getD x.fst.toNat (Val.mk (0 : Int) (0 : Int) (0 : Int) [] [] []))) (Px.vg (p7.getD x.fst.toNat (Val.mk (0 : Int) (0 : Int) (0 : Int) [] [] []))) (Px.vt (p7.getD x.fst.toNat (Val.mk (0 : Int) (0 : Int) (0 : Int) [] [] []))) (Px.vl (p7.getD x.fst.toNat (Val.mk (0 : Int) (0 : Int) (0 : Int) [] [] []))) (Px.vs (p7.getD x.fst.toNat (Val.mk (0 : Int) (0 : Int) (0 : Int) [] [] [])))].length) * (88 : Nat) ≤ (140737488355328 : Nat)))
    (.leaf (.inl ((IntKind.i64.wrap (x.fst + (1 : Int))), x.snd.fst, x.snd.snd.fst, x.snd.snd.snd.fst, x.snd.snd.snd.snd.fst, x.snd.snd.snd.snd.snd.fst, x.snd.snd.snd.snd.snd.snd.fst, x.snd.snd.snd.snd.snd.snd.snd.fst, x.snd.snd.snd.snd.snd.snd.snd.snd.fst, x.snd.snd.snd.snd.snd.snd.snd.snd.snd.fst, x.snd.snd.snd.snd.snd.snd.snd.snd.snd.snd.fst, (x.snd.snd.snd.snd.snd.snd.snd.snd.snd.snd.snd.fst ++ [Val.mk (Px.vk (p7.getD x.fst.toNat (Val.mk (0 : Int) (0 : Int) (0 : Int) [] [] []))) (Px.vn (p7.getD x.fst.toNat (Val.mk (0 : Int) (0 : Int) (0 : Int) [] [] []))) (Px.vg (p7.getD x.fst.toNat (Val.mk (0 : Int) (0 : Int) (0 : Int) [] [] []))) (Px.vt (p7.getD x.fst.toNat (Val.mk (0 : Int) (0 : Int) (0 : Int) [] [] []))) (Px.vl (p7.getD x.fst.toNat (Val.mk (0 : Int) (0 : Int) (0 : Int) [] [] []))) (Px.vs (p7.getD x.fst.toNat (Val.mk (0 : Int) (0 : Int) (0 : Int) [] [] [])))]), x.snd.snd.snd.snd.snd.snd.snd.snd.snd.snd.snd.snd)))
    (.fail))
   (.ite (!eqI (Px.vk (p7.getD x.fst.toNat (Val.mk (0 : Int) (0 : Int) (0 : Int) [] [] []))) (3 : Int))
    (.leaf (.inr (.ret, at' E 45 [(2, .lf (.ptr 192 0 0))] [(192, some (.cells 30 [.int .u8 ((0 : Int)), .int .i64 ((0 : Int)), .int .i64 ((0 : Int)), .str [], .own 0 0 .val [], .own 1 0 .str []]))])))
    (.ite (eqI x.fst (IntKind.i64.wrap ((↑p0.length : Int) - (1 : Int))))
     (.leaf (.inr (.ret, at' E 45 [(2, .lf (.ptr 192 0 0))] [(192, some (.cells 30 [.int .u8 ((0 : Int)), .int .i64 ((0 : Int)), .int .i64 ((0 : Int)), .str [], .own 0 0 .val [], .own 1 0 .str []]))])))
     (.ite (decide ((x.snd.snd.snd.snd.snd.snd.snd.snd.snd.snd.snd.snd.length + [Px.vt (p7.getD x.fst.toNat (Val.mk (0 : Int) (0 : Int) (0 : Int) [] [] []))].length) * (16 : Nat) ≤ (140737488355328 : Nat)))
      (.leaf (.inl ((IntKind.i64.wrap (x.fst + (1 : Int))), x.snd.fst, x.snd.snd.fst, x.snd.snd.snd.fst, x.snd.snd.snd.snd.fst, x.snd.snd.snd.snd.snd.fst, x.snd.snd.snd.snd.snd.snd.fst, x.snd.snd.snd.snd.snd.snd.snd.fst, x.snd.snd.snd.snd.snd.snd.snd.snd.fst, x.snd.snd.snd.snd.snd.snd.snd.snd.snd.fst, x.snd.snd.snd.snd.snd.snd.snd.snd.snd.snd.fst, x.snd.snd.snd.snd.snd.snd.snd.snd.snd.snd.snd.fst, (x.snd.snd.snd.snd.snd.snd.snd.snd.snd.snd.snd.snd ++ [Px.vt (p7.getD x.fst.toNat (Val.mk (0 : Int) (0 : Int) (0 : Int) [] [] []))]))))
      (.fail)))))
  (.fail))
 (.leaf (.inr (.exit 0, at' E 45 [(2, .lf (.ptr 192 0 0)), (3, .lf (.ptr 256 0 0))] [(192, some (.cells 30 [.int .u8 x.snd.fst, .int .i64 x.snd.snd.fst, .int .i64 x.snd.snd.snd.fst, .str x.snd.snd.snd.snd.fst, .own 0 0 .val x.snd.snd.snd.snd.snd.fst, .own 1 0 .str x.snd.snd.snd.snd.snd.snd.fst])), (256, some (.cells 30 [.int .u8 x.snd.snd.snd.snd.snd.snd.snd.fst, .int .i64 x.snd.snd.snd.snd.snd.snd.snd.snd.fst, .int .i64 x.snd.snd.snd.snd.snd.snd.snd.snd.snd.fst, .str x.snd.snd.snd.snd.snd.snd.snd.snd.snd.snd.fst, .own 2 0 .val x.snd.snd.snd.snd.snd.snd.snd.snd.snd.snd.snd.fst, .own 3 0 .str x.snd.snd.snd.snd.snd.snd.snd.snd.snd.snd.snd.snd]))])))
theorem h22_0 (p0 : List Val) (p7 : List Val) (p8 : Int) (x : Int × Int × Int × Int × (List UInt8) × (List Val) × (List (List UInt8)) × Int × Int × Int × (List UInt8) × (List Val) × (List (List UInt8))) (k : Ex → St E.A → Option Unit) :
    exec E G22 (fun _ _ => .fail) 1 (lb Go.Proofs.Tryz.f22 0) (S22_0 p0 p7 p8 x) (fun e σ1 => k e (clean E (L22_0 e) σ1)) = (t22_0 p0 p7 p8 x).run (Sum.elim (fun x' => k .normal (S22_0 p0 p7 p8 x')) (fun o => k o.1 o.2)) := by kernel_rfl
noncomputable def lam22_0 (p0 : List Val) (p7 : List Val) (p8 : Int) (x : Int × Int × Int × Int × (List UInt8) × (List Val) × (List (List UInt8)) × Int × Int × Int × (List UInt8) × (List Val) × (List (List UInt8))) : Tree (Out' E) :=
  .ite (eqI p8 p7.length && eqI p0.length p7.length && leI 0 x.1 && leI x.1 p8 && leI p8 1000000 && leI x.2.2.2.2.2.2.2.2.2.2.2.1.length x.1 && leI x.2.2.2.2.2.2.2.2.2.2.2.2.length x.1)
   (.ite (Px.mapR' p7.length x.1.toNat (p7.drop x.1.toNat) x.2.2.2.2.2.2.2.2.2.2.2.1 x.2.2.2.2.2.2.2.2.2.2.2.2).1 (.leaf (.exit 0, at' E 45 [(2, .lf (.ptr 192 0 0)), (3, .lf (.ptr 256 0 0))] [(192, some (.cells 30 [.int .u8 x.2.1, .int .i64 x.2.2.1, .int .i64 x.2.2.2.1, .str x.2.2.2.2.1, .own 0 0 .val (x.2.2.2.2.2.1), .own 1 0 .str (x.2.2.2.2.2.2.1)])), (256, some (.cells 30 [.int .u8 x.2.2.2.2.2.2.2.1, .int .i64 x.2.2.2.2.2.2.2.2.1, .int .i64 x.2.2.2.2.2.2.2.2.2.1, .str x.2.2.2.2.2.2.2.2.2.2.1, .own 2 0 .val ((Px.mapR' p7.length x.1.toNat (p7.drop x.1.toNat) x.2.2.2.2.2.2.2.2.2.2.2.1 x.2.2.2.2.2.2.2.2.2.2.2.2).2.1), .own 3 0 .str ((Px.mapR' p7.length x.1.toNat (p7.drop x.1.toNat) x.2.2.2.2.2.2.2.2.2.2.2.1 x.2.2.2.2.2.2.2.2.2.2.2.2).2.2)]))])) (.leaf (.ret, at' E 45 [(2, .lf (.ptr 192 0 0))] [(192, some (.cells 30 [.int .u8 0, .int .i64 0, .int .i64 0, .str [], .own 0 0 .val [], .own 1 0 .str []]))]))) .fail
theorem m22_0 {p0 : List Val} {p7 : List Val} {p8 : Int} {x : Int × Int × Int × Int × (List UInt8) × (List Val) × (List (List UInt8)) × Int × Int × Int × (List UInt8) × (List Val) × (List (List UInt8))} {e : Ex} {σ : St E.A} (_ : okLenR (E := E) (.lf (.sl .val p0)) = true) (g : okLenR (E := E) (.lf (.sl .val p7)) = true) (_ : okLenO (E := E) (.cells 30 [.int .u8 x.2.1, .int .i64 x.2.2.1, .int .i64 x.2.2.2.1, .str x.2.2.2.2.1, .own 0 0 .val (x.2.2.2.2.2.1), .own 1 0 .str (x.2.2.2.2.2.2.1)]) = true) (_ : okLenO (E := E) (.cells 30 [.int .u8 x.2.2.2.2.2.2.2.1, .int .i64 x.2.2.2.2.2.2.2.2.1, .int .i64 x.2.2.2.2.2.2.2.2.2.1, .str x.2.2.2.2.2.2.2.2.2.2.1, .own 2 0 .val (x.2.2.2.2.2.2.2.2.2.2.2.1), .own 3 0 .str (x.2.2.2.2.2.2.2.2.2.2.2.2)]) = true)
    (h : (lam22_0 p0 p7 p8 x).get = some (e, σ)) : ∃ fuel, iter (t22_0 p0 p7 p8) fuel x = some (e, σ) ∧ e ≠ .normal := by
  have hb : p7.length ≤ big := of_decide_eq_true g
  obtain ⟨z, a0, a1, a2, a3, a4, a5, b0, b1, b2, b3, ls, ks⟩ := x
  unfold lam22_0 at h
  have h' := Tree.get_ite_some h
  clear h
  rcases h' with ⟨h1, h⟩ | ⟨_, h⟩
  · simp only [eqI_eq, leI_eq, Bool.and_eq_true, decide_eq_true_eq] at h1
    obtain ⟨⟨⟨⟨⟨⟨rfl, g1⟩, g2⟩, g3⟩, g4⟩, g5⟩, g6⟩ := h1
    obtain ⟨i, rfl⟩ : ∃ j : Nat, z = (j : Int) := ⟨z.toNat, by omega⟩
    have hz : (Val.mk (0 : Int) (0 : Int) (0 : Int) [] [] []) = Px.v0 := rfl
    have key := range_iter (O := Out' E) (t := t22_0 p0 p7 p7.length) (l := p7) Px.v0 (fun (a : List Val × List (List UInt8)) (i : Int) => (i, a0, a1, a2, a3, a4, a5, b0, b1, b2, b3, a.1, a.2))
      (Px.mapStep p7.length (Ex.ret, at' E 45 [(2, .lf (.ptr 192 0 0))] [(192, some (.cells 30 [.int .u8 0, .int .i64 0, .int .i64 0, .str [], .own 0 0 .val [], .own 1 0 .str []]))])) (fun a => (Ex.exit 0, at' E 45 [(2, .lf (.ptr 192 0 0)), (3, .lf (.ptr 256 0 0))] [(192, some (.cells 30 [.int .u8 a0, .int .i64 a1, .int .i64 a2, .str a3, .own 0 0 .val (a4), .own 1 0 .str (a5)])), (256, some (.cells 30 [.int .u8 b0, .int .i64 b1, .int .i64 b2, .str b3, .own 2 0 .val (a.1), .own 3 0 .str (a.2)]))])) (fun i a => a.1.length ≤ i ∧ a.2.length ≤ i)
      (fun i a hi ho => by
        refine ⟨?_, fun a' ha => ?_⟩
        · have e4 : ∀ v : Val, decide ((a.1.length + [v].length) * (88 : Nat) ≤ (140737488355328 : Nat)) = true := fun v => decide_eq_true (by have := ho.1; simp only [List.length_cons, List.length_nil]; omega)
          have e5 : ∀ v : List UInt8, decide ((a.2.length + [v].length) * (16 : Nat) ≤ (140737488355328 : Nat)) = true := fun v => decide_eq_true (by have := ho.2; simp only [List.length_cons, List.length_nil]; omega)
          have e6 : eqI ((i : Int).tmod 2) 1 = Nat.beq (i % 2) 1 := by
            rw [Int.tmod_eq_emod_of_nonneg (by omega), eqI_eq, Bool.eq_iff_iff, decide_eq_true_eq, Nat.beq_eq]; omega
          have e7 : eqI (i : Int) (IntKind.i64.wrap ((p0.length : Int) - 1)) = Nat.beq (i + 1) p7.length := by
            rw [eqI_eq, Bool.eq_iff_iff, decide_eq_true_eq, Nat.beq_eq, wi64] <;> omega
          unfold t22_0
          simp only [Tree.get_ite, Tree.get_leaf, ltI_nat hi, inB_nat hi, cond_true, i64_succ hi hb, Int.toNat_natCast, hz, Px.v_eta, e4, e5, e6, e7]
          unfold Px.mapStep
          cases Nat.beq (i % 2) 1 <;> cases eqI (Px.vk (p7.getD i Px.v0)) 3 <;> cases Nat.beq (i + 1) p7.length <;> rfl
        · have := ho.1
          have := ho.2
          unfold Px.mapStep at ha
          cases q1 : Nat.beq (i % 2) 1 <;> rw [q1] at ha
          · cases q2 : !eqI (Px.vk (p7.getD i Px.v0)) 3 || Nat.beq (i + 1) p7.length <;> rw [q2] at ha
            · injection ha with ha; subst ha
              simp only [List.length_append, List.length_cons, List.length_nil]; omega
            · cases ha
          · injection ha with ha; subst ha
            simp only [List.length_append, List.length_cons, List.length_nil]; omega)
      (fun a ho => by unfold t22_0; simp only [Tree.get_ite, Tree.get_leaf, ltI_self, cond_false])
      (p7.length - i) i (ls, ks) (by omega) ⟨by simp only; omega, by simp only; omega⟩
    rw [Px.mapR_run] at key
    rw [Tree.get_ite, Tree.get_leaf, Tree.get_leaf, Px.mapR'_eq] at h
    simp only [Int.toNat_natCast] at h
    refine ⟨_, key.trans ?_, ?_⟩
    · rw [← h]; exact some_cond _ _ _
    · intro hh; subst hh
      cases q : (Px.mapR p7.length i (p7.drop i) ls ks).1 <;> rw [q] at h <;> cases h
  · cases h
noncomputable def rd22_0 (σ : St E.A) : Tree (Out' E) :=
  let c := clean E (L22_0 .normal) σ
  if c.sl.length = 45 then
  match c.sl.getD 0 .undef, c.sl.getD 2 .undef, c.sl.getD 3 .undef, c.sl.getD 7 .undef, c.sl.getD 8 .undef, c.sl.getD 9 .undef, c.ob 192, c.ob 256 with
  | .lf (.sl .val p0), .lf (.ptr 192 0 0), .lf (.ptr 256 0 0), .lf (.sl .val p7), .lf (.int .i64 p8), .lf (.int .i64 x9), some (.cells 30 [.int .u8 o192a, .int .i64 o192b, .int .i64 o192c, .str o192d, .own 0 0 .val o192e, .own 1 0 .str o192f]), some (.cells 30 [.int .u8 o256a, .int .i64 o256b, .int .i64 o256c, .str o256d, .own 2 0 .val o256e, .own 3 0 .str o256f]) => lam22_0 p0 p7 p8 (x9, o192a, o192b, o192c, o192d, o192e, o192f, o256a, o256b, o256c, o256d, o256e, o256f)
  | _, _, _, _, _, _, _, _ => .fail
  else .fail
theorem ll22_0 (hL : Laws E) (σ : St E.A) (e : Ex) (σ' : St E.A) (h : (rd22_0 σ).get = some (e, σ')) : LoopOK E (lb Go.Proofs.Tryz.f22 0) σ e σ' := by
  refine LoopOK.of_clean hL (L22_0 .normal) ?_
  unfold rd22_0 at h
  simp only at h
  split at h
  · rename_i hlen
    split at h
    · rename_i p0 p7 p8 x9 o192a o192b o192c o192d o192e o192f o256a o256b o256c o256d o256e o256f h0 h1 h2 h3 h4 h5 h6 h7
      refine LoopOK.lens 0 (fun g0 => ?_)
      rw [h0] at g0
      refine LoopOK.lens 7 (fun g1 => ?_)
      rw [h3] at g1
      refine LoopOK.lensO 192 (fun gg => ?_)
      have g2 := gg _ h6
      refine LoopOK.lensO 256 (fun gg => ?_)
      have g3 := gg _ h7
      obtain ⟨fuel, hi, ho⟩ := m22_0 g0 g1 g2 g3 h
      have hl := loop_at (Γ := G22) (Λ := fun _ _ => .fail) (n := 1) (body := lb Go.Proofs.Tryz.f22 0) hL (hG22 hL) (S := S22_0 p0 p7 p8) (t := t22_0 p0 p7 p8) (Lv := L22_0) (LamOK.none (by kernel_rfl)) (h22_0 p0 p7 p8) hi ho
      refine LoopOK.fit hlen ?_ ?_ rfl rfl hl
      · exact ⟨h0, h1, h2, h3, h4, h5, trivial⟩
      · exact ⟨h6, h7, trivial⟩
    · cases h
  · cases h
noncomputable def Lam22 : Lam E
  | 0, σ => rd22_0 σ
  | _, _ => .fail
noncomputable def w22 (a0 : List Val) : Tree (RV E.A × List (Obj E.A)) :=
 .ite (eqI (↑a0.length : Int) (↑a0.length : Int) && eqI (↑a0.length : Int) (↑a0.length : Int) && leI (0 : Int) (0 : Int) && leI (0 : Int) (↑a0.length : Int) && leI (↑a0.length : Int) (1000000 : Int) && leI (↑([] : List UInt8).length : Int) (0 : Int) && leI (↑([] : List UInt8).length : Int) (0 : Int))
 (.ite ((Px.mapR' a0.length (Int.toNat (0 : Int)) (List.drop (Int.toNat (0 : Int)) a0) [] []).fst)
  (.leaf (.agg [.int .u8 ((6 : Int)), .int .i64 ((0 : Int)), .int .i64 ((0 : Int)), .str [], .sl .val ((Px.mapR' a0.length (Int.toNat (0 : Int)) (List.drop (Int.toNat (0 : Int)) a0) [] []).snd.fst), .sl .str ((Px.mapR' a0.length (Int.toNat (0 : Int)) (List.drop (Int.toNat (0 : Int)) a0) [] []).snd.snd)], []))
  (.leaf (.agg [.int .u8 ((0 : Int)), .int .i64 ((0 : Int)), .int .i64 ((0 : Int)), .str [], .sl .val [], .sl .str []], [])))
 (.fail)
theorem e22 (a0 : List Val) : execFun E G22 ((Lam22)) false Go.Proofs.Tryz.f22 [.lf (.sl .val a0)] [] some = (w22 a0).get := by kernel_rfl
noncomputable def raw22 : Spec E := fun args os => match args, os with
  | [.lf (.sl .val a0)], [] => w22 a0
  | _, _ => .fail
theorem validraw22 (hL : Laws E) : Valid E 22 raw22 :=
  valid_of_body hL (hG22 hL) (Λ := (Lam22)) (fn := Go.Proofs.Tryz.f22) (keep := false) (by kernel_rfl) (by kernel_rfl) (by kernel_rfl) ((LamOK.of (m := 1) (by kernel_rfl) (fun j hj σ e σ' hg => by
      match j, hj with
      | 0, _ => exact ll22_0 hL σ e σ' hg
      ))) (fun args os r os' h => by
    unfold raw22 at h
    split at h
    · exact (e22 _).trans h
    · cases h)
theorem eq22 (l : List Val) (h : leI l.length 1000000 = true) : (w22 l).get = some (.agg [.int .u8 (Px.vk (Px.mapV l)), .int .i64 (Px.vn (Px.mapV l)), .int .i64 (Px.vg (Px.mapV l)), .str (Px.vt (Px.mapV l)), .sl .val (Px.vl (Px.mapV l)), .sl .str (Px.vs (Px.mapV l))], []) := by
  have g : (eqI (l.length : Int) (l.length : Int) && eqI (l.length : Int) (l.length : Int) && leI 0 0 && leI 0 (l.length : Int) && leI (l.length : Int) 1000000 && leI (([] : List UInt8).length : Int) 0 && leI (([] : List UInt8).length : Int) 0) = true := by
    rw [h]; simp [eqI_eq, leI_eq]
  have e0 : Int.toNat (0 : Int) = 0 := rfl
  unfold w22 Px.mapV
  rw [Tree.get_ite, g, cond_true, Px.mapR'_eq, Tree.get_ite, Tree.get_leaf, Tree.get_leaf, e0, List.drop_zero]
  cases (Px.mapR l.length 0 l [] []).1 <;> rfl
noncomputable def spec22 : Spec E := fun args os => match args, os with
  | [.lf (.sl .val l)], [] => .ite (leI l.length 1000000) (.leaf (.agg [.int .u8 (Px.vk (Px.mapV l)), .int .i64 (Px.vn (Px.mapV l)), .int .i64 (Px.vg (Px.mapV l)), .str (Px.vt (Px.mapV l)), .sl .val (Px.vl (Px.mapV l)), .sl .str (Px.vs (Px.mapV l))], [])) .fail
  | _, _ => .fail
theorem valid22 (hL : Laws E) : Valid E 22 spec22 := (validraw22 hL).less (fun args os x u1 u2 h => by
  clear u1 u2
  unfold spec22 at h
  split at h
  · rename_i l
    rcases Tree.get_ite_some h with ⟨h1, h⟩ | ⟨_, h⟩
    · exact (eq22 l h1).trans h
    · cases h
  · cases h)
end Go.Vx
namespace Go.Vx
open Go
noncomputable def G23 : FuncId → Option (Spec E) := fun _ => none
theorem hG23 (hL : Laws E) : ∀ f spec, G23 f = some spec → Valid E f spec := by
  intro f spec h
  cases h
noncomputable def w23 (a0 : List UInt8) : Tree (RV E.A × List (Obj E.A)) :=
 .leaf (.agg [.int .u8 ((3 : Int)), .int .i64 ((0 : Int)), .int .i64 ((0 : Int)), .str a0, .sl .val [], .sl .str []], [])
theorem e23 (a0 : List UInt8) : execFun E G23 (fun _ _ => .fail) false Go.Proofs.Tryz.f23 [.lf (.str a0)] [] some = (w23 a0).get := by kernel_rfl
noncomputable def spec23 : Spec E := fun args os => match args, os with
  | [.lf (.str a0)], [] => w23 a0
  | _, _ => .fail
theorem valid23 (hL : Laws E) : Valid E 23 spec23 :=
  valid_of_body hL (hG23 hL) (Λ := fun _ _ => .fail) (fn := Go.Proofs.Tryz.f23) (keep := false) (by kernel_rfl) (by kernel_rfl) (by kernel_rfl) (LamOK.none (by kernel_rfl)) (fun args os r os' h => by
    unfold spec23 at h
    split at h
    · exact (e23 _).trans h
    · cases h)
end Go.Vx
namespace Go.Vx
open Go
noncomputable def G24 : FuncId → Option (Spec E) := fun _ => none
theorem hG24 (hL : Laws E) : ∀ f spec, G24 f = some spec → Valid E f spec := by
  intro f spec h
  cases h
noncomputable def w24 (a0 : Int) : Tree (RV E.A × List (Obj E.A)) :=
 .leaf (.agg [.int .u8 ((2 : Int)), .int .i64 a0, .int .i64 ((0 : Int)), .str [], .sl .val [], .sl .str []], [])
theorem e24 (a0 : Int) : execFun E G24 (fun _ _ => .fail) false Go.Proofs.Tryz.f24 [.lf (.int .i64 a0)] [] some = (w24 a0).get := by kernel_rfl
noncomputable def spec24 : Spec E := fun args os => match args, os with
  | [.lf (.int .i64 a0)], [] => w24 a0
  | _, _ => .fail
theorem valid24 (hL : Laws E) : Valid E 24 spec24 :=
  valid_of_body hL (hG24 hL) (Λ := fun _ _ => .fail) (fn := Go.Proofs.Tryz.f24) (keep := false) (by kernel_rfl) (by kernel_rfl) (by kernel_rfl) (LamOK.none (by kernel_rfl)) (fun args os r os' h => by
    unfold spec24 at h
    split at h
    · exact (e24 _).trans h
    · cases h)
end Go.Vx
namespace Go.Vx
open Go
noncomputable def G43 : FuncId → Option (Spec E) := fun _ => none
theorem hG43 (hL : Laws E) : ∀ f spec, G43 f = some spec → Valid E f spec := by
  intro f spec h
  cases h
noncomputable def w43 (a0 : List Val) : WTree (RV E.A × List (Obj E.A)) :=
 .ite (Nat.blt (0 : Nat) a0.length)
 (.ite (decide ((([] : List UInt8).length + a0.length) * (88 : Nat) ≤ (140737488355328 : Nat)))
  (.leaf (.lf (.sl .val ([] ++ a0)), []))
  (.fail))
 (.both
  (.leaf (.lf (.sl .val []), []))
  (.ite (decide ((([] : List UInt8).length + a0.length) * (88 : Nat) ≤ (140737488355328 : Nat)))
   (.leaf (.lf (.sl .val ([] ++ a0)), []))
   (.fail)))
theorem e43 (a0 : List Val) : execFun E G43 (fun _ _ => .fail) false Go.Proofs.Tryz.f43 [.lf (.sl .val a0)] [] some = (w43 a0).get := by kernel_rfl
noncomputable def raw43 : List (RV E.A) → List (Obj E.A) → Option (RV E.A × List (Obj E.A)) := fun args os => match args, os with
  | [.lf (.sl .val a0)], [] => (w43 a0).get
  | _, _ => none
theorem validraw43 (hL : Laws E) {spec : Spec E} (hs : ∀ args os x, (spec args os).get = some x → raw43 args os = some x) : Valid E 43 spec :=
  valid_of_body hL (hG43 hL) (Λ := fun _ _ => .fail) (fn := Go.Proofs.Tryz.f43) (keep := false) (by kernel_rfl) (by kernel_rfl) (by kernel_rfl) (LamOK.none (by kernel_rfl)) (fun args os r os' h => by
    have h := hs args os _ h
    unfold raw43 at h
    split at h
    · exact (e43 _).trans h
    · cases h)
/-- slices.Clone of values -/
noncomputable def spec43 : Spec E := fun args os => match args, os with
  | [.lf (.sl .val l)], [] => .ite (decide (l.length ≤ 1000000000)) (.leaf (.lf (.sl .val l), [])) .fail
  | _, _ => .fail
theorem eq43 (l : List Val) (h : l.length ≤ 1000000000) : (w43 l).get = some (.lf (.sl .val l), []) := by
  unfold w43
  have e1 : decide ((([] : List UInt8).length + l.length) * 88 ≤ 140737488355328) = true := decide_eq_true (by simp; omega)
  simp only [WTree.get, e1, cond_true, List.nil_append]
  cases l with
  | nil => exact bothO_same _
  | cons a l => rfl
theorem valid43 (hL : Laws E) : Valid E 43 spec43 := validraw43 hL (fun args os x h => by
  unfold spec43 at h
  split at h
  · rename_i l
    rcases Tree.get_ite_some h with ⟨h1, h⟩ | ⟨_, h⟩
    · injection h with h; subst h
      exact eq43 l (of_decide_eq_true h1)
    · cases h
  · cases h)
end Go.Vx
namespace Go.Vx
open Go
noncomputable def G25 : FuncId → Option (Spec E)
  | 43 => some spec43
  | _ => none
theorem hG25 (hL : Laws E) : ∀ f spec, G25 f = some spec → Valid E f spec := by
  intro f spec h
  unfold G25 at h
  split at h
  · injection h with h; subst h; exact valid43 hL
  · cases h
noncomputable def w25 (a0 : List Val) : Tree (RV E.A × List (Obj E.A)) :=
 .ite (decide (a0.length ≤ (1000000000 : Nat)))
 (.leaf (.agg [.int .u8 ((5 : Int)), .int .i64 ((0 : Int)), .int .i64 ((0 : Int)), .str [], .sl .val a0, .sl .str []], []))
 (.fail)
theorem e25 (a0 : List Val) : execFun E G25 (fun _ _ => .fail) false Go.Proofs.Tryz.f25 [.lf (.sl .val a0)] [] some = (w25 a0).get := by kernel_rfl
noncomputable def spec25 : Spec E := fun args os => match args, os with
  | [.lf (.sl .val a0)], [] => w25 a0
  | _, _ => .fail
theorem valid25 (hL : Laws E) : Valid E 25 spec25 :=
  valid_of_body hL (hG25 hL) (Λ := fun _ _ => .fail) (fn := Go.Proofs.Tryz.f25) (keep := false) (by kernel_rfl) (by kernel_rfl) (by kernel_rfl) (LamOK.none (by kernel_rfl)) (fun args os r os' h => by
    unfold spec25 at h
    split at h
    · exact (e25 _).trans h
    · cases h)
end Go.Vx
namespace Go.Vx
open Go
noncomputable def G26 : FuncId → Option (Spec E) := fun _ => none
theorem hG26 (hL : Laws E) : ∀ f spec, G26 f = some spec → Valid E f spec := by
  intro f spec h
  cases h
noncomputable def w26 (a0 : Int) : Tree (RV E.A × List (Obj E.A)) :=
 .leaf (.agg [.int .u8 ((7 : Int)), .int .i64 a0, .int .i64 ((0 : Int)), .str [], .sl .val [], .sl .str []], [])
theorem e26 (a0 : Int) : execFun E G26 (fun _ _ => .fail) false Go.Proofs.Tryz.f26 [.lf (.int .i64 a0)] [] some = (w26 a0).get := by kernel_rfl
noncomputable def spec26 : Spec E := fun args os => match args, os with
  | [.lf (.int .i64 a0)], [] => w26 a0
  | _, _ => .fail
theorem valid26 (hL : Laws E) : Valid E 26 spec26 :=
  valid_of_body hL (hG26 hL) (Λ := fun _ _ => .fail) (fn := Go.Proofs.Tryz.f26) (keep := false) (by kernel_rfl) (by kernel_rfl) (by kernel_rfl) (LamOK.none (by kernel_rfl)) (fun args os r os' h => by
    unfold spec26 at h
    split at h
    · exact (e26 _).trans h
    · cases h)
end Go.Vx
namespace Go.Vx
open Go
noncomputable def G5 : FuncId → Option (Spec E)
  | 10 => some spec10
  | 16 => some spec16
  | 20 => some spec20
  | 21 => some spec21
  | 22 => some spec22
  | 23 => some spec23
  | 24 => some spec24
  | 25 => some spec25
  | 26 => some spec26
  | _ => none
theorem hG5 (hL : Laws E) : ∀ f spec, G5 f = some spec → Valid E f spec := by
  intro f spec h
  unfold G5 at h
  split at h
  · injection h with h; subst h; exact valid10 hL
  · injection h with h; subst h; exact valid16 hL
  · injection h with h; subst h; exact valid20 hL
  · injection h with h; subst h; exact valid21 hL
  · injection h with h; subst h; exact valid22 hL
  · injection h with h; subst h; exact valid23 hL
  · injection h with h; subst h; exact valid24 hL
  · injection h with h; subst h; exact valid25 hL
  · injection h with h; subst h; exact valid26 hL
  · cases h
def L5_0 : Ex → Live
  | .normal => ⟨[1, 5, 27, 28, 29], [384]⟩
  | .exit 0 => ⟨[1, 5], [384]⟩
  | .ret => ⟨[4], []⟩
  | _ => ⟨[], []⟩
noncomputable def S5_0 (p1 : List UInt8) (p27 : List (List UInt8)) (p28 : Int) (x : Int × Int × Int × Int × (List UInt8) × (List Val) × (List (List UInt8))) : St E.A := at' E 162 [(1, .lf (.str p1)), (5, .lf (.ptr 384 0 0)), (27, .lf (.sl .str p27)), (28, .lf (.int .i64 p28)), (29, .lf (.int .i64 x.1))] [(384, some (.cells 30 [.int .u8 x.2.1, .int .i64 x.2.2.1, .int .i64 x.2.2.2.1, .str x.2.2.2.2.1, .sl .val x.2.2.2.2.2.1, .sl .str x.2.2.2.2.2.2]))]
noncomputable def t5_0 (p1 : List UInt8) (p27 : List (List UInt8)) (p28 : Int) (x : Int × Int × Int × Int × (List UInt8) × (List Val) × (List (List UInt8))) : Tree (Int × Int × Int × Int × (List UInt8) × (List Val) × (List (List UInt8)) ⊕ Out' E) :=
 .ite (ltI x.fst p28)
 (.ite (inB x.fst p27.length)
  (.ite (ltI x.fst (↑x.snd.snd.snd.snd.snd.fst.length : Int))
   (.ite (!Px.getI x.snd.fst x.snd.snd.snd.snd.snd.fst x.snd.snd.snd.snd.snd.snd (p27.getD x.fst.toNat []))
    (.leaf (.inr (.ret, at' E 162 [(4, .lf (.bool false))] [])))
    (.ite (inB x.fst x.snd.snd.snd.snd.snd.fst.length)
     (.ite (!Px.alike (Val.mk (Px.vk (Px.getV x.snd.fst x.snd.snd.snd.snd.snd.fst x.snd.snd.snd.snd.snd.snd (p27.getD x.fst.toNat []))) (Px.vn (Px.getV x.snd.fst x.snd.snd.snd.snd.snd.fst x.snd.snd.snd.snd.snd.snd (p27.getD x.fst.toNat []))) (Px.vg (Px.getV x.snd.fst x.snd.snd.snd.snd.snd.fst x.snd.snd.snd.snd.snd.snd (p27.getD x.fst.toNat []))) (Px.vt (Px.getV x.snd.fst x.snd.snd.snd.snd.snd.fst x.snd.snd.snd.snd.snd.snd (p27.getD x.fst.toNat []))) (Px.vl (Px.getV x.snd.fst x.snd.snd.snd.snd.snd.fst x.snd.snd.snd.snd.snd.snd (p27.getD x.fst.toNat []))) (Px.vs (Px.getV x.snd.fst x.snd.snd.snd.snd.snd.fst x.snd.snd.snd.snd.snd.snd (p27.getD x.fst.toNat [])))) (Val.mk (Px.vk (x.snd.snd.snd.snd.snd.fst.getD x.fst.toNat (Val.mk (0 : Int) (0 : Int) (0 : Int) [] [] []))) (Px.vn (x.snd.snd.snd.snd.snd.fst.getD x.fst.toNat (Val.mk (0 : Int) (0 : Int) (0 : Int) [] [] []))) (Px.vg (x.snd.snd.snd.snd.snd.fst.getD x.fst.toNat (Val.mk (0 : Int) (0 : Int) (0 : Int) [] [] []))) (Px.vt (x.snd.snd.snd.snd.snd.fst.getD x.fst.toNat (Val.mk (0 : Int) (0 : Int) (0 : Int) [] [] []))) (Px.vl (x.snd.snd.snd.snd.snd.fst.getD x.fst.toNat (Val.mk (0 : Int) (0 : Int) (0 : Int) [] [] []))) (Px.vs (x.snd.snd.snd.snd.snd.fst.getD x.fst.toNat (Val.mk (0 : Int) (0 : Int) (0 : Int) [] [] [])))))
      (.leaf (.inr (.ret, at' E 162 [(4, .lf (.bool false))] [])))
      (.leaf (.inl ((IntKind.i64.wrap (x.fst + (1 : Int))), x.snd.fst, x.snd.snd.fst, x.snd.snd.snd.fst, x.snd.snd.snd.snd.fst, x.snd.snd.snd.snd.snd.fst, x.snd.snd.snd.snd.snd.snd))))
     (.fail)))
   (.leaf (.inl ((IntKind.i64.wrap (x.fst + (1 : Int))), x.snd.fst, x.snd.snd.fst, x.snd.snd.snd.fst, x.snd.snd.snd.snd.fst, x.snd.snd.snd.snd.snd.fst, x.snd.snd.snd.snd.snd.snd))))
  (.fail))
 (.leaf (.inr (.exit 0, at' E 162 [(1, .lf (.str p1)), (5, .lf (.ptr 384 0 0))] [(384, some (.cells 30 [.int .u8 x.snd.fst, .int .i64 x.snd.snd.fst, .int .i64 x.snd.snd.snd.fst, .str x.snd.snd.snd.snd.fst, .sl .val x.snd.snd.snd.snd.snd.fst, .sl .str x.snd.snd.snd.snd.snd.snd]))])))
theorem h5_0 (p1 : List UInt8) (p27 : List (List UInt8)) (p28 : Int) (x : Int × Int × Int × Int × (List UInt8) × (List Val) × (List (List UInt8))) (k : Ex → St E.A → Option Unit) :
    exec E G5 (fun _ _ => .fail) 1 (lb Go.Proofs.Tryz.f5 0) (S5_0 p1 p27 p28 x) (fun e σ1 => k e (clean E (L5_0 e) σ1)) = (t5_0 p1 p27 p28 x).run (Sum.elim (fun x' => k .normal (S5_0 p1 p27 p28 x')) (fun o => k o.1 o.2)) := by kernel_rfl
noncomputable def lam5_0 (p1 : List UInt8) (p27 : List (List UInt8)) (p28 : Int) (x : Int × Int × Int × Int × (List UInt8) × (List Val) × (List (List UInt8))) : Tree (Out' E) :=
  .ite (eqI p28 p27.length && Px.likeS p27 x.2.2.2.2.2.2 && leI 0 x.1 && leI x.1 p28 && Px.goodGet' x.2.1 x.2.2.2.2.2.1 x.2.2.2.2.2.2)
   (.leaf (.exit 0, at' E 162 [(1, .lf (.str p1)), (5, .lf (.ptr 384 0 0))] [(384, some (.cells 30 [.int .u8 x.2.1, .int .i64 x.2.2.1, .int .i64 x.2.2.2.1, .str x.2.2.2.2.1, .sl .val x.2.2.2.2.2.1, .sl .str x.2.2.2.2.2.2]))])) .fail
theorem m5_0 {p1 : List UInt8} {p27 : List (List UInt8)} {p28 : Int} {x : Int × Int × Int × Int × (List UInt8) × (List Val) × (List (List UInt8))} {e : Ex} {σ : St E.A} (_ : okLenR (E := E) (.lf (.str p1)) = true) (g : okLenR (E := E) (.lf (.sl .str p27)) = true) (_ : okLenO (E := E) (.cells 30 [.int .u8 x.2.1, .int .i64 x.2.2.1, .int .i64 x.2.2.2.1, .str x.2.2.2.2.1, .sl .val x.2.2.2.2.2.1, .sl .str x.2.2.2.2.2.2]) = true)
    (h : (lam5_0 p1 p27 p28 x).get = some (e, σ)) : ∃ fuel, iter (t5_0 p1 p27 p28) fuel x = some (e, σ) ∧ e ≠ .normal := by
  have hb : p27.length ≤ big := of_decide_eq_true g
  obtain ⟨z, a0, a1, a2, a3, a4, a5⟩ := x
  unfold lam5_0 at h
  have h' := Tree.get_ite_some h
  clear h
  rcases h' with ⟨h1, h⟩ | ⟨_, h⟩
  · simp only [eqI_eq, leI_eq, Bool.and_eq_true, decide_eq_true_eq, Px.goodGet'_eq, Px.goodGet_iff, Px.likeS] at h1
    obtain ⟨⟨⟨⟨rfl, rfl⟩, k1⟩, k2⟩, hg⟩ := h1
    obtain ⟨i, rfl⟩ : ∃ j : Nat, z = (j : Int) := ⟨z.toNat, by omega⟩
    have hz : (Val.mk (0 : Int) (0 : Int) (0 : Int) [] [] []) = Px.v0 := rfl
    have key := range_iter (O := Out' E) (t := t5_0 p1 p27 p27.length) (l := p27) [] (fun (_ : Unit) (i : Int) => (i, a0, a1, a2, a3, a4, p27))
      (fun _ _ _ => .inl ()) (fun _ => (Ex.exit 0, at' E 162 [(1, .lf (.str p1)), (5, .lf (.ptr 384 0 0))] [(384, some (.cells 30 [.int .u8 a0, .int .i64 a1, .int .i64 a2, .str a3, .sl .val a4, .sl .str p27]))])) (fun _ _ => True)
      (fun i a hi ho => by
        refine ⟨?_, fun _ _ => trivial⟩
        unfold t5_0
        by_cases hl : i < a4.length
        · obtain ⟨g1, g2⟩ := hg i hi hl
          have e1 : ∀ v, Px.alike v v = true := fun v => (Px.alike_iff v v).2 rfl
          simp only [Tree.get_ite, Tree.get_leaf, ltI_nat hi, ltI_nat hl, inB_nat hi, inB_nat hl, cond_true, i64_succ hi hb, Int.toNat_natCast, hz, Px.v_eta, g1, g2, e1, Bool.not_true, cond_false]
        · have e1 : ltI (i : Int) (a4.length : Int) = false := by rw [ltI_eq]; exact decide_eq_false (by omega)
          simp only [Tree.get_ite, Tree.get_leaf, ltI_nat hi, inB_nat hi, cond_true, i64_succ hi hb, e1, cond_false])
      (fun a ho => by unfold t5_0; simp only [Tree.get_ite, Tree.get_leaf, ltI_self, cond_false])
      (p27.length - i) i () (by omega) trivial
    have hr : ∀ (l : List (List UInt8)) (i : Nat) (f : Unit → Out' E), rangeRun (fun _ _ _ => (.inl () : Unit ⊕ Out' E)) f i () l = f () := by
      intro l
      induction l with
      | nil => intro i f; rfl
      | cons b l ih => intro i f; exact ih _ _
    rw [hr] at key
    injection h with h
    injection h with h1 h2
    subst h1
    refine ⟨_, key.trans ?_, fun hh => by cases hh⟩
    rw [← h2]
  · cases h
noncomputable def rd5_0 (σ : St E.A) : Tree (Out' E) :=
  let c := clean E (L5_0 .normal) σ
  if c.sl.length = 162 then
  match c.sl.getD 1 .undef, c.sl.getD 5 .undef, c.sl.getD 27 .undef, c.sl.getD 28 .undef, c.sl.getD 29 .undef, c.ob 384 with
  | .lf (.str p1), .lf (.ptr 384 0 0), .lf (.sl .str p27), .lf (.int .i64 p28), .lf (.int .i64 x29), some (.cells 30 [.int .u8 o384a, .int .i64 o384b, .int .i64 o384c, .str o384d, .sl .val o384e, .sl .str o384f]) => lam5_0 p1 p27 p28 (x29, o384a, o384b, o384c, o384d, o384e, o384f)
  | _, _, _, _, _, _ => .fail
  else .fail
theorem ll5_0 (hL : Laws E) (σ : St E.A) (e : Ex) (σ' : St E.A) (h : (rd5_0 σ).get = some (e, σ')) : LoopOK E (lb Go.Proofs.Tryz.f5 0) σ e σ' := by
  refine LoopOK.of_clean hL (L5_0 .normal) ?_
  unfold rd5_0 at h
  simp only at h
  split at h
  · rename_i hlen
    split at h
    · rename_i p1 p27 p28 x29 o384a o384b o384c o384d o384e o384f h0 h1 h2 h3 h4 h5
      refine LoopOK.lens 1 (fun g0 => ?_)
      rw [h0] at g0
      refine LoopOK.lens 27 (fun g1 => ?_)
      rw [h2] at g1
      refine LoopOK.lensO 384 (fun gg => ?_)
      have g2 := gg _ h5
      obtain ⟨fuel, hi, ho⟩ := m5_0 g0 g1 g2 h
      have hl := loop_at (Γ := G5) (Λ := fun _ _ => .fail) (n := 1) (body := lb Go.Proofs.Tryz.f5 0) hL (hG5 hL) (S := S5_0 p1 p27 p28) (t := t5_0 p1 p27 p28) (Lv := L5_0) (LamOK.none (by kernel_rfl)) (h5_0 p1 p27 p28) hi ho
      refine LoopOK.fit hlen ?_ ?_ rfl rfl hl
      · exact ⟨h0, h1, h2, h3, h4, trivial⟩
      · exact ⟨h5, trivial⟩
    · cases h
  · cases h
def L5_1 : Ex → Live
  | .normal => ⟨[1, 5, 10, 11, 12, 67, 68, 69], [384, 704]⟩
  | .exit 2 => ⟨[5, 10, 11, 12], [384, 704]⟩
  | .ret => ⟨[4], [384, 704]⟩
  | _ => ⟨[], []⟩
noncomputable def S5_1 (p1 : List UInt8) (p11 : Bool) (p67 : List (List UInt8)) (p68 : Int) (x : Bool × Int × Int × Int × Int × (List UInt8) × (List Val) × (List (List UInt8)) × Int × Int × Int × (List UInt8) × (List Val) × (List (List UInt8))) : St E.A := at' E 162 [(1, .lf (.str p1)), (5, .lf (.ptr 384 0 0)), (10, .lf (.ptr 704 0 0)), (11, .lf (.bool p11)), (12, .lf (.bool x.1)), (67, .lf (.sl .str p67)), (68, .lf (.int .i64 p68)), (69, .lf (.int .i64 x.2.1))] [(384, some (.cells 30 [.int .u8 x.2.2.1, .int .i64 x.2.2.2.1, .int .i64 x.2.2.2.2.1, .str x.2.2.2.2.2.1, .sl .val x.2.2.2.2.2.2.1, .sl .str x.2.2.2.2.2.2.2.1])), (704, some (.cells 30 [.int .u8 x.2.2.2.2.2.2.2.2.1, .int .i64 x.2.2.2.2.2.2.2.2.2.1, .int .i64 x.2.2.2.2.2.2.2.2.2.2.1, .str x.2.2.2.2.2.2.2.2.2.2.2.1, .sl .val x.2.2.2.2.2.2.2.2.2.2.2.2.1, .sl .str x.2.2.2.2.2.2.2.2.2.2.2.2.2]))]
noncomputable def t5_1 (p1 : List UInt8) (p11 : Bool) (p67 : List (List UInt8)) (p68 : Int) (x : Bool × Int × Int × Int × Int × (List UInt8) × (List Val) × (List (List UInt8)) × Int × Int × Int × (List UInt8) × (List Val) × (List (List UInt8))) : Tree (Bool × Int × Int × Int × Int × (List UInt8) × (List Val) × (List (List UInt8)) × Int × Int × Int × (List UInt8) × (List Val) × (List (List UInt8)) ⊕ Out' E) :=
 .ite (ltI x.snd.fst p68)
 (.ite (inB x.snd.fst p67.length)
  (.ite x.fst
   (.leaf (.inl (true, (IntKind.i64.wrap (x.snd.fst + (1 : Int))), x.snd.snd.fst, x.snd.snd.snd.fst, x.snd.snd.snd.snd.fst, x.snd.snd.snd.snd.snd.fst, x.snd.snd.snd.snd.snd.snd.fst, x.snd.snd.snd.snd.snd.snd.snd.fst, x.snd.snd.snd.snd.snd.snd.snd.snd.fst, x.snd.snd.snd.snd.snd.snd.snd.snd.snd.fst, x.snd.snd.snd.snd.snd.snd.snd.snd.snd.snd.fst, x.snd.snd.snd.snd.snd.snd.snd.snd.snd.snd.snd.fst, x.snd.snd.snd.snd.snd.snd.snd.snd.snd.snd.snd.snd.fst, x.snd.snd.snd.snd.snd.snd.snd.snd.snd.snd.snd.snd.snd)))
   (.leaf (.inl ((decide (p67.getD x.snd.fst.toNat [] = p1)), (IntKind.i64.wrap (x.snd.fst + (1 : Int))), x.snd.snd.fst, x.snd.snd.snd.fst, x.snd.snd.snd.snd.fst, x.snd.snd.snd.snd.snd.fst, x.snd.snd.snd.snd.snd.snd.fst, x.snd.snd.snd.snd.snd.snd.snd.fst, x.snd.snd.snd.snd.snd.snd.snd.snd.fst, x.snd.snd.snd.snd.snd.snd.snd.snd.snd.fst, x.snd.snd.snd.snd.snd.snd.snd.snd.snd.snd.fst, x.snd.snd.snd.snd.snd.snd.snd.snd.snd.snd.snd.fst, x.snd.snd.snd.snd.snd.snd.snd.snd.snd.snd.snd.snd.fst, x.snd.snd.snd.snd.snd.snd.snd.snd.snd.snd.snd.snd.snd))))
  (.fail))
 (.leaf (.inr (.exit 2, at' E 162 [(5, .lf (.ptr 384 0 0)), (10, .lf (.ptr 704 0 0)), (11, .lf (.bool p11)), (12, .lf (.bool x.fst))] [(384, some (.cells 30 [.int .u8 x.snd.snd.fst, .int .i64 x.snd.snd.snd.fst, .int .i64 x.snd.snd.snd.snd.fst, .str x.snd.snd.snd.snd.snd.fst, .sl .val x.snd.snd.snd.snd.snd.snd.fst, .sl .str x.snd.snd.snd.snd.snd.snd.snd.fst])), (704, some (.cells 30 [.int .u8 x.snd.snd.snd.snd.snd.snd.snd.snd.fst, .int .i64 x.snd.snd.snd.snd.snd.snd.snd.snd.snd.fst, .int .i64 x.snd.snd.snd.snd.snd.snd.snd.snd.snd.snd.fst, .str x.snd.snd.snd.snd.snd.snd.snd.snd.snd.snd.snd.fst, .sl .val x.snd.snd.snd.snd.snd.snd.snd.snd.snd.snd.snd.snd.fst, .sl .str x.snd.snd.snd.snd.snd.snd.snd.snd.snd.snd.snd.snd.snd]))])))
theorem h5_1 (p1 : List UInt8) (p11 : Bool) (p67 : List (List UInt8)) (p68 : Int) (x : Bool × Int × Int × Int × Int × (List UInt8) × (List Val) × (List (List UInt8)) × Int × Int × Int × (List UInt8) × (List Val) × (List (List UInt8))) (k : Ex → St E.A → Option Unit) :
    exec E G5 (fun _ _ => .fail) 2 (lb Go.Proofs.Tryz.f5 1) (S5_1 p1 p11 p67 p68 x) (fun e σ1 => k e (clean E (L5_1 e) σ1)) = (t5_1 p1 p11 p67 p68 x).run (Sum.elim (fun x' => k .normal (S5_1 p1 p11 p67 p68 x')) (fun o => k o.1 o.2)) := by kernel_rfl
noncomputable def lam5_1 (p1 : List UInt8) (p11 : Bool) (p67 : List (List UInt8)) (p68 : Int) (x : Bool × Int × Int × Int × Int × (List UInt8) × (List Val) × (List (List UInt8)) × Int × Int × Int × (List UInt8) × (List Val) × (List (List UInt8))) : Tree (Out' E) :=
  .ite (eqI p68 p67.length && leI 0 x.2.1 && leI x.2.1 p68)
   (.leaf (.exit 2, at' E 162 [(5, .lf (.ptr 384 0 0)), (10, .lf (.ptr 704 0 0)), (11, .lf (.bool p11)), (12, .lf (.bool (x.1 || Px.anyKey' p1 (p67.drop x.2.1.toNat))))] [(384, some (.cells 30 [.int .u8 x.2.2.1, .int .i64 x.2.2.2.1, .int .i64 x.2.2.2.2.1, .str x.2.2.2.2.2.1, .sl .val x.2.2.2.2.2.2.1, .sl .str x.2.2.2.2.2.2.2.1])), (704, some (.cells 30 [.int .u8 x.2.2.2.2.2.2.2.2.1, .int .i64 x.2.2.2.2.2.2.2.2.2.1, .int .i64 x.2.2.2.2.2.2.2.2.2.2.1, .str x.2.2.2.2.2.2.2.2.2.2.2.1, .sl .val x.2.2.2.2.2.2.2.2.2.2.2.2.1, .sl .str x.2.2.2.2.2.2.2.2.2.2.2.2.2]))])) .fail
theorem m5_1 {p1 : List UInt8} {p11 : Bool} {p67 : List (List UInt8)} {p68 : Int} {x : Bool × Int × Int × Int × Int × (List UInt8) × (List Val) × (List (List UInt8)) × Int × Int × Int × (List UInt8) × (List Val) × (List (List UInt8))} {e : Ex} {σ : St E.A} (_ : okLenR (E := E) (.lf (.str p1)) = true) (g : okLenR (E := E) (.lf (.sl .str p67)) = true) (_ : okLenO (E := E) (.cells 30 [.int .u8 x.2.2.1, .int .i64 x.2.2.2.1, .int .i64 x.2.2.2.2.1, .str x.2.2.2.2.2.1, .sl .val x.2.2.2.2.2.2.1, .sl .str x.2.2.2.2.2.2.2.1]) = true) (_ : okLenO (E := E) (.cells 30 [.int .u8 x.2.2.2.2.2.2.2.2.1, .int .i64 x.2.2.2.2.2.2.2.2.2.1, .int .i64 x.2.2.2.2.2.2.2.2.2.2.1, .str x.2.2.2.2.2.2.2.2.2.2.2.1, .sl .val x.2.2.2.2.2.2.2.2.2.2.2.2.1, .sl .str x.2.2.2.2.2.2.2.2.2.2.2.2.2]) = true)
    (h : (lam5_1 p1 p11 p67 p68 x).get = some (e, σ)) : ∃ fuel, iter (t5_1 p1 p11 p67 p68) fuel x = some (e, σ) ∧ e ≠ .normal := by
  have hb : p67.length ≤ big := of_decide_eq_true g
  obtain ⟨c, z, a0, a1, a2, a3, a4, a5, b0, b1, b2, b3, b4, b5⟩ := x
  unfold lam5_1 at h
  have h' := Tree.get_ite_some h
  clear h
  rcases h' with ⟨h1, h⟩ | ⟨_, h⟩
  · simp only [eqI_eq, leI_eq, Bool.and_eq_true, decide_eq_true_eq] at h1
    obtain ⟨⟨rfl, k1⟩, k2⟩ := h1
    obtain ⟨i, rfl⟩ : ∃ j : Nat, z = (j : Int) := ⟨z.toNat, by omega⟩
    have key := range_iter (O := Out' E) (t := t5_1 p1 p11 p67 p67.length) (l := p67) [] (fun (c : Bool) (i : Int) => (c, i, a0, a1, a2, a3, a4, a5, b0, b1, b2, b3, b4, b5))
      (fun _ c k => .inl (c || decide (k = p1))) (fun c => (Ex.exit 2, at' E 162 [(5, .lf (.ptr 384 0 0)), (10, .lf (.ptr 704 0 0)), (11, .lf (.bool p11)), (12, .lf (.bool (c)))] [(384, some (.cells 30 [.int .u8 a0, .int .i64 a1, .int .i64 a2, .str a3, .sl .val a4, .sl .str a5])), (704, some (.cells 30 [.int .u8 b0, .int .i64 b1, .int .i64 b2, .str b3, .sl .val b4, .sl .str b5]))])) (fun _ _ => True)
      (fun i a hi ho => by
        refine ⟨?_, fun _ _ => trivial⟩
        unfold t5_1
        simp only [Tree.get_ite, Tree.get_leaf, ltI_nat hi, inB_nat hi, cond_true, i64_succ hi hb, Int.toNat_natCast]
        cases a <;> rfl)
      (fun a ho => by unfold t5_1; simp only [Tree.get_ite, Tree.get_leaf, ltI_self, cond_false])
      (p67.length - i) i c (by omega) trivial
    have hr : ∀ (l : List (List UInt8)) (i : Nat) (c : Bool) (f : Bool → Out' E), rangeRun (fun _ (c : Bool) k => (.inl (c || decide (k = p1)) : Bool ⊕ Out' E)) f i c l = f (c || Px.anyKey p1 l) := by
      intro l
      induction l with
      | nil => intro i c f; show f c = f (c || false); rw [Bool.or_false]
      | cons b l ih =>
        intro i c f
        refine (ih _ _ _).trans ?_
        unfold Px.anyKey
        rw [List.any_cons, Bool.or_assoc]
    rw [hr] at key
    injection h with h
    injection h with h1 h2
    subst h1
    refine ⟨_, key.trans ?_, fun hh => by cases hh⟩
    rw [← h2, Px.anyKey'_eq, Int.toNat_natCast]
  · cases h
noncomputable def rd5_1 (σ : St E.A) : Tree (Out' E) :=
  let c := clean E (L5_1 .normal) σ
  if c.sl.length = 162 then
  match c.sl.getD 1 .undef, c.sl.getD 5 .undef, c.sl.getD 10 .undef, c.sl.getD 11 .undef, c.sl.getD 12 .undef, c.sl.getD 67 .undef, c.sl.getD 68 .undef, c.sl.getD 69 .undef, c.ob 384, c.ob 704 with
  | .lf (.str p1), .lf (.ptr 384 0 0), .lf (.ptr 704 0 0), .lf (.bool p11), .lf (.bool x12), .lf (.sl .str p67), .lf (.int .i64 p68), .lf (.int .i64 x69), some (.cells 30 [.int .u8 o384a, .int .i64 o384b, .int .i64 o384c, .str o384d, .sl .val o384e, .sl .str o384f]), some (.cells 30 [.int .u8 o704a, .int .i64 o704b, .int .i64 o704c, .str o704d, .sl .val o704e, .sl .str o704f]) => lam5_1 p1 p11 p67 p68 (x12, x69, o384a, o384b, o384c, o384d, o384e, o384f, o704a, o704b, o704c, o704d, o704e, o704f)
  | _, _, _, _, _, _, _, _, _, _ => .fail
  else .fail
theorem ll5_1 (hL : Laws E) (σ : St E.A) (e : Ex) (σ' : St E.A) (h : (rd5_1 σ).get = some (e, σ')) : LoopOK E (lb Go.Proofs.Tryz.f5 1) σ e σ' := by
  refine LoopOK.of_clean hL (L5_1 .normal) ?_
  unfold rd5_1 at h
  simp only at h
  split at h
  · rename_i hlen
    split at h
    · rename_i p1 p11 x12 p67 p68 x69 o384a o384b o384c o384d o384e o384f o704a o704b o704c o704d o704e o704f h0 h1 h2 h3 h4 h5 h6 h7 h8 h9
      refine LoopOK.lens 1 (fun g0 => ?_)
      rw [h0] at g0
      refine LoopOK.lens 67 (fun g1 => ?_)
      rw [h5] at g1
      refine LoopOK.lensO 384 (fun gg => ?_)
      have g2 := gg _ h8
      refine LoopOK.lensO 704 (fun gg => ?_)
      have g3 := gg _ h9
      obtain ⟨fuel, hi, ho⟩ := m5_1 g0 g1 g2 g3 h
      have hl := loop_at (Γ := G5) (Λ := fun _ _ => .fail) (n := 2) (body := lb Go.Proofs.Tryz.f5 1) hL (hG5 hL) (S := S5_1 p1 p11 p67 p68) (t := t5_1 p1 p11 p67 p68) (Lv := L5_1) (LamOK.none (by kernel_rfl)) (h5_1 p1 p11 p67 p68) hi ho
      refine LoopOK.fit hlen ?_ ?_ rfl rfl hl
      · exact ⟨h0, h1, h2, h3, h4, h5, h6, h7, trivial⟩
      · exact ⟨h8, h9, trivial⟩
    · cases h
  · cases h
noncomputable def Lam5 : Lam E
  | 0, σ => rd5_0 σ
  | 1, σ => rd5_1 σ
  | _, _ => .fail
noncomputable def w5 (a0 : List (Int × Int × Int × List UInt8 × Int × Bool)) (a1 : List UInt8) : Tree (RV E.A × List (Obj E.A)) :=
 .ite (eqI (↑(Px.vs (Px.made a0)).length : Int) (↑(Px.vs (Px.made a0)).length : Int) && Px.likeS (Px.vs (Px.made a0)) (Px.vs (Px.made a0)) && leI (0 : Int) (0 : Int) && leI (0 : Int) (↑(Px.vs (Px.made a0)).length : Int) && Px.goodGet' (Px.vk (Px.made a0)) (Px.vl (Px.made a0)) (Px.vs (Px.made a0)))
 (.ite (eqI (↑(Px.vs (Px.made a0)).length : Int) (↑(Px.vs (Px.made a0)).length : Int) && leI (0 : Int) (0 : Int) && leI (0 : Int) (↑(Px.vs (Px.made a0)).length : Int))
  (.ite (Px.getI (Px.vk (Px.made a0)) (Px.vl (Px.made a0)) (Px.vs (Px.made a0)) a1 == (false || Px.anyKey' a1 (List.drop (Int.toNat (0 : Int)) (Px.vs (Px.made a0)))))
   (.ite (Px.getI (Px.vk (Px.made a0)) (Px.vl (Px.made a0)) (Px.vs (Px.made a0)) a1)
    (.ite (Px.alike (Val.mk (Px.vk (Px.getV (Px.vk (Px.mapV [Val.mk (3 : Int) (0 : Int) (0 : Int) [(65 : UInt8)] [] [], Val.mk (Px.vk (Px.made a0)) (Px.vn (Px.made a0)) (Px.vg (Px.made a0)) (Px.vt (Px.made a0)) (Px.vl (Px.made a0)) (Px.vs (Px.made a0)), Val.mk (3 : Int) (0 : Int) (0 : Int) [(66 : UInt8)] [] [], Val.mk (2 : Int) (7 : Int) (0 : Int) [] [] []])) (Px.vl (Px.mapV [Val.mk (3 : Int) (0 : Int) (0 : Int) [(65 : UInt8)] [] [], Val.mk (Px.vk (Px.made a0)) (Px.vn (Px.made a0)) (Px.vg (Px.made a0)) (Px.vt (Px.made a0)) (Px.vl (Px.made a0)) (Px.vs (Px.made a0)), Val.mk (3 : Int) (0 : Int) (0 : Int) [(66 : UInt8)] [] [], Val.mk (2 : Int) (7 : Int) (0 : Int) [] [] []])) (Px.vs (Px.mapV [Val.mk (3 : Int) (0 : Int) (0 : Int) [(65 : UInt8)] [] [], Val.mk (Px.vk (Px.made a0)) (Px.vn (Px.made a0)) (Px.vg (Px.made a0)) (Px.vt (Px.made a0)) (Px.vl (Px.made a0)) (Px.vs (Px.made a0)), Val.mk (3 : Int) (0 : Int) (0 : Int) [(66 : UInt8)] [] [], Val.mk (2 : Int) (7 : Int) (0 : Int) [] [] []])) [(65 : UInt8)])) (Px.vn (Px.getV (Px.vk (Px.mapV [Val.mk (3 : Int) (0 : Int) (0 : Int) [(65 : UInt8)] [] [], Val.mk (Px.vk (Px.made a0)) (Px.vn (Px.made a0)) (Px.vg (Px.made a0)) (Px.vt (Px.made a0)) (Px.vl (Px.made a0)) (Px.vs (Px.made a0)), Val.mk (3 : Int) (0 : Int) (0 : Int) [(66 : UInt8)] [] [], Val.mk (2 : Int) (7 : Int) (0 : Int) [] [] []])) (Px.vl (Px.mapV [Val.mk (3 : Int) (0 : Int) (0 : Int) [(65 : UInt8)] [] [], Val.mk (Px.vk (Px.made a0)) (Px.vn (Px.made a0)) (Px.vg (Px.made a0)) (Px.vt (Px.made a0)) (Px.vl (Px.made a0)) (Px.vs (Px.made a0)), Val.mk (3 : Int) (0 : Int) (0 : Int) [(66 : UInt8)] [] [], Val.mk (2 : Int) (7 : Int) (0 : Int) [] [] []])) (Px.vs (Px.mapV [Val.mk (3 : Int) (0 : Int) (0 : Int) [(65 : UInt8)] [] [], Val.mk (Px.vk (Px.made a0)) (Px.vn (Px.made a0)) (Px.vg (Px.made a0)) (Px.vt (Px.made a0)) (Px.vl (Px.made a0)) (Px.vs (Px.made a0)), Val.mk (3 : Int) (0 : Int) (0 : Int) [(66 : UInt8)] [] [], Val.mk (2 : Int) (7 : Int) (0 : Int) [] [] []])) [(65 : UInt8)])) (Px.vg (Px.getV (Px.vk (Px.mapV [Val.mk (3 : Int) (0 : Int) (0 : Int) [(65 : UInt8)] [] [], Val.mk (Px.vk (Px.made a0)) (Px.vn (Px.made a0)) (Px.vg (Px.made a0)) (Px.vt (Px.made a0)) (Px.vl (Px.made a0)) (Px.vs (Px.made a0)), Val.mk (3 : Int) (0 : Int) (0 : Int) [(66 : UInt8)] [] [], Val.mk (2 : Int) (7 : Int) (0 : Int) [] [] []])) (Px.vl (Px.mapV [Val.mk (3 : Int) (0 : Int) (0 : Int) [(65 : UInt8)] [] [], Val.mk (Px.vk (Px.made a0)) (Px.vn (Px.made a0)) (Px.vg (Px.made a0)) (Px.vt (Px.made a0)) (Px.vl (Px.made a0)) (Px.vs (Px.made a0)), Val.mk (3 : Int) (0 : Int) (0 : Int) [(66 : UInt8)] [] [], Val.mk (2 : Int) (7 : Int) (0 : Int) [] [] []])) (Px.vs (Px.mapV [Val.mk (3 : Int) (0 : Int) (0 : Int) [(65 : UInt8)] [] [], Val.mk (Px.vk (Px.made a0)) (Px.vn (Px.made a0)) (Px.vg (Px.made a0)) (Px.vt (Px.made a0)) (Px.vl (Px.made a0)) (Px.vs (Px.made a0)), Val.mk (3 : Int) (0 : Int) (0 : Int) [(66 : UInt8)] [] [], Val.mk (2 : Int) (7 : Int) (0 : Int) [] [] []])) [(65 : UInt8)])) (Px.vt (Px.getV (Px.vk (Px.mapV [Val.mk (3 : Int) (0 : Int) (0 : Int) [(65 : UInt8)] [] [], Val.mk (Px.vk (Px.made a0)) (Px.vn (Px.made a0)) (Px.vg (Px.made a0)) (Px.vt (Px.made a0)) (Px.vl (Px.made a0)) (Px.vs (Px.made a0)), Val.mk (3 : Int) (0 : Int) (0 : Int) [(66 : UInt8)] [] [], Val.mk (2 : Int) (7 : Int) (0 : Int) [] [] []])) (Px.vl (Px.mapV [Val.mk (3 : Int) (0 : Int) (0 : Int) [(65 : UInt8)] [] [], Val.mk (Px.vk (Px.made a0)) (Px.vn (Px.made a0)) (Px.vg (Px.made a0)) (Px.vt (Px.made a0)) (Px.vl (Px.made a0)) (Px.vs (Px.made a0)), Val.mk (3 : Int) (0 : Int) (0 : Int) [(66 : UInt8)] [] [], Val.mk (2 : Int) (7 : Int) (0 : Int) [] [] []])) (Px.vs (Px.mapV [Val.mk (3 : Int) (0 : Int) (0 : Int) [(65 : UInt8)] [] [], Val.mk (Px.vk (Px.made a0)) (Px.vn (Px.made a0)) (Px.vg (Px.made a0)) (Px.vt (Px.made a0)) (Px.vl (Px.made a0)) (Px.vs (Px.made a0)), Val.mk (3 : Int) (0 : Int) (0 : Int) [(66 : UInt8)] [] [], Val.mk (2 : Int) (7 : Int) (0 : Int) [] [] []])) [(65 : UInt8)])) (Px.vl (Px.getV (Px.vk (Px.mapV [Val.mk (3 : Int) (0 : Int) (0 : Int) [(65 : UInt8)] [] [], Val.mk (Px.vk (Px.made a0)) (Px.vn (Px.made a0)) (Px.vg (Px.made a0)) (Px.vt (Px.made a0)) (Px.vl (Px.made a0)) (Px.vs (Px.made a0)), Val.mk (3 : Int) (0 : Int) (0 : Int) [(66 : UInt8)] [] [], Val.mk (2 : Int) (7 : Int) (0 : Int) [] [] []])) (Px.vl (Px.mapV [Val.mk (3 : Int) (0 : Int) (0 : Int) [(65 : UInt8)] [] [], Val.mk (Px.vk (Px.made a0)) (Px.vn (Px.made a0)) (Px.vg (Px.made a0)) (Px.vt (Px.made a0)) (Px.vl (Px.made a0)) (Px.vs (Px.made a0)), Val.mk (3 : Int) (0 : Int) (0 : Int) [(66 : UInt8)] [] [], Val.mk (2 : Int) (7 : Int) (0 : Int) [] [] []])) (Px.vs (Px.mapV [Val.mk (3 : Int) (0 : Int) (0 : Int) [(65 : UInt8)] [] [], Val.mk (Px.vk (Px.made a0)) (Px.vn (Px.made a0)) (Px.vg (Px.made a0)) (Px.vt (Px.made a0)) (Px.vl (Px.made a0)) (Px.vs (Px.made a0)), Val.mk (3 : Int) (0 : Int) (0 : Int) [(66 : UInt8)] [] [], Val.mk (2 : Int) (7 : Int) (0 : Int) [] [] []])) [(65 : UInt8)])) (Px.vs (Px.getV (Px.vk (Px.mapV [Val.mk (3 : Int) (0 : Int) (0 : Int) [(65 : UInt8)] [] [], Val.mk (Px.vk (Px.made a0)) (Px.vn (Px.made a0)) (Px.vg (Px.made a0)) (Px.vt (Px.made a0)) (Px.vl (Px.made a0)) (Px.vs (Px.made a0)), Val.mk (3 : Int) (0 : Int) (0 : Int) [(66 : UInt8)] [] [], Val.mk (2 : Int) (7 : Int) (0 : Int) [] [] []])) (Px.vl (Px.mapV [Val.mk (3 : Int) (0 : Int) (0 : Int) [(65 : UInt8)] [] [], Val.mk (Px.vk (Px.made a0)) (Px.vn (Px.made a0)) (Px.vg (Px.made a0)) (Px.vt (Px.made a0)) (Px.vl (Px.made a0)) (Px.vs (Px.made a0)), Val.mk (3 : Int) (0 : Int) (0 : Int) [(66 : UInt8)] [] [], Val.mk (2 : Int) (7 : Int) (0 : Int) [] [] []])) (Px.vs (Px.mapV [Val.mk (3 : Int) (0 : Int) (0 : Int) [(65 : UInt8)] [] [], Val.mk (Px.vk (Px.made a0)) (Px.vn (Px.made a0)) (Px.vg (Px.made a0)) (Px.vt (Px.made a0)) (Px.vl (Px.made a0)) (Px.vs (Px.made a0)), Val.mk (3 : Int) (0 : Int) (0 : Int) [(66 : UInt8)] [] [], Val.mk (2 : Int) (7 : Int) (0 : Int) [] [] []])) [(65 : UInt8)]))) (Val.mk (Px.vk (Px.made a0)) (Px.vn (Px.made a0)) (Px.vg (Px.made a0)) (Px.vt (Px.made a0)) (Px.vl (Px.made a0)) (Px.vs (Px.made a0))))
     (.leaf (.lf (.bool (eqI (7 : Int) (7 : Int))), []))
     (.leaf (.lf (.bool false), [])))
    (.ite (Px.alike (Val.mk (Px.vk (Px.getV (Px.vk (Px.made a0)) (Px.vl (Px.made a0)) (Px.vs (Px.made a0)) a1)) (Px.vn (Px.getV (Px.vk (Px.made a0)) (Px.vl (Px.made a0)) (Px.vs (Px.made a0)) a1)) (Px.vg (Px.getV (Px.vk (Px.made a0)) (Px.vl (Px.made a0)) (Px.vs (Px.made a0)) a1)) (Px.vt (Px.getV (Px.vk (Px.made a0)) (Px.vl (Px.made a0)) (Px.vs (Px.made a0)) a1)) (Px.vl (Px.getV (Px.vk (Px.made a0)) (Px.vl (Px.made a0)) (Px.vs (Px.made a0)) a1)) (Px.vs (Px.getV (Px.vk (Px.made a0)) (Px.vl (Px.made a0)) (Px.vs (Px.made a0)) a1))) (Val.mk (0 : Int) (0 : Int) (0 : Int) [] [] []))
     (.ite (Px.alike (Val.mk (Px.vk (Px.getV (Px.vk (Px.mapV [Val.mk (3 : Int) (0 : Int) (0 : Int) [(65 : UInt8)] [] [], Val.mk (Px.vk (Px.made a0)) (Px.vn (Px.made a0)) (Px.vg (Px.made a0)) (Px.vt (Px.made a0)) (Px.vl (Px.made a0)) (Px.vs (Px.made a0)), Val.mk (3 : Int) (0 : Int) (0 : Int) [(66 : UInt8)] [] [], Val.mk (2 : Int) (7 : Int) (0 : Int) [] [] []])) (Px.vl (Px.mapV [Val.mk (3 : Int) (0 : Int) (0 : Int) [(65 : UInt8)] [] [], Val.mk (Px.vk (Px.made a0)) (Px.vn (Px.made a0)) (Px.vg (Px.made a0)) (Px.vt (Px.made a0)) (Px.vl (Px.made a0)) (Px.vs (Px.made a0)), Val.mk (3 : Int) (0 : Int) (0 : Int) [(66 : UInt8)] [] [], Val.mk (2 : Int) (7 : Int) (0 : Int) [] [] []])) (Px.vs (Px.mapV [Val.mk (3 : Int) (0 : Int) (0 : Int) [(65 : UInt8)] [] [], Val.mk (Px.vk (Px.made a0)) (Px.vn (Px.made a0)) (Px.vg (Px.made a0)) (Px.vt (Px.made a0)) (Px.vl (Px.made a0)) (Px.vs (Px.made a0)), Val.mk (3 : Int) (0 : Int) (0 : Int) [(66 : UInt8)] [] [], Val.mk (2 : Int) (7 : Int) (0 : Int) [] [] []])) [(65 : UInt8)])) (Px.vn (Px.getV (Px.vk (Px.mapV [Val.mk (3 : Int) (0 : Int) (0 : Int) [(65 : UInt8)] [] [], Val.mk (Px.vk (Px.made a0)) (Px.vn (Px.made a0)) (Px.vg (Px.made a0)) (Px.vt (Px.made a0)) (Px.vl (Px.made a0)) (Px.vs (Px.made a0)), Val.mk (3 : Int) (0 : Int) (0 : Int) [(66 : UInt8)] [] [], Val.mk (2 : Int) (7 : Int) (0 : Int) [] [] []])) (Px.vl (Px.mapV [Val.mk (3 : Int) (0 : Int) (0 : Int) [(65 : UInt8)] [] [], Val.mk (Px.vk (Px.made a0)) (Px.vn (Px.made a0)) (Px.vg (Px.made a0)) (Px.vt (Px.made a0)) (Px.vl (Px.made a0)) (Px.vs (Px.made a0)), Val.mk (3 : Int) (0 : Int) (0 : Int) [(66 : UInt8)] [] [], Val.mk (2 : Int) (7 : Int) (0 : Int) [] [] []])) (Px.vs (Px.mapV [Val.mk (3 : Int) (0 : Int) (0 : Int) [(65 : UInt8)] [] [], Val.mk (Px.vk (Px.made a0)) (Px.vn (Px.made a0)) (Px.vg (Px.made a0)) (Px.vt (Px.made a0)) (Px.vl (Px.made a0)) (Px.vs (Px.made a0)), Val.mk (3 : Int) (0 : Int) (0 : Int) [(66 : UInt8)] [] [], Val.mk (2 : Int) (7 : Int) (0 : Int) [] [] []])) [(65 : UInt8)])) (Px.vg (Px.getV (Px.vk (Px.mapV [Val.mk (3 : Int) (0 : Int) (0 : Int) [(65 : UInt8)] [] [], Val.mk (Px.vk (Px.made a0)) (Px.vn (Px.made a0)) (Px.vg (Px.made a0)) (Px.vt (Px.made a0)) (Px.vl (Px.made a0)) (Px.vs (Px.made a0)), Val.mk (3 : Int) (0 : Int) (0 : Int) [(66 : UInt8)] [] [], Val.mk (2 : Int) (7 : Int) (0 : Int) [] [] []])) (Px.vl (Px.mapV [Val.mk (3 : Int) (0 : Int) (0 : Int) [(65 : UInt8)] [] [], Val.mk (Px.vk (Px.made a0)) (Px.vn (Px.made a0)) (Px.vg (Px.made a0)) (Px.vt (Px.made a0)) (Px.vl (Px.made a0)) (Px.vs (Px.made a0)), Val.mk (3 : Int) (0 : Int) (0 : Int) [(66 : UInt8)] [] [], Val.mk (2 : Int) (7 : Int) (0 : Int) [] [] []])) (Px.vs (Px.mapV [Val.mk (3 : Int) (0 : Int) (0 : Int) [(65 : UInt8)] [] [], Val.mk (Px.vk (Px.made a0)) (Px.vn (Px.made a0)) (Px.vg (Px.made a0)) (Px.vt (Px.made a0)) (Px.vl (Px.made a0)) (Px.vs (Px.made a0)), Val.mk (3 : Int) (0 : Int) (0 : Int) [(66 : UInt8)] [] [], Val.mk (2 : Int) (7 : Int) (0 : Int) [] [] []])) [(65 : UInt8)])) (Px.vt (Px.getV (Px.vk (Px.mapV [Val.mk (3 : Int) (0 : Int) (0 : Int) [(65 : UInt8)] [] [], Val.mk (Px.vk (Px.made a0)) (Px.vn (Px.made a0)) (Px.vg (Px.made a0)) (Px.vt (Px.made a0)) (Px.vl (Px.made a0)) (Px.vs (Px.made a0)), Val.mk (3 : Int) (0 : Int) (0 : Int) [(66 : UInt8)] [] [], Val.mk (2 : Int) (7 : Int) (0 : Int) [] [] []])) (Px.vl (Px.mapV [Val.mk (3 : Int) (0 : Int) (0 : Int) [(65 : UInt8)] [] [], Val.mk (Px.vk (Px.made a0)) (Px.vn (Px.made a0)) (Px.vg (Px.made a0)) (Px.vt (Px.made a0)) (Px.vl (Px.made a0)) (Px.vs (Px.made a0)), Val.mk (3 : Int) (0 : Int) (0 : Int) [(66 : UInt8)] [] [], Val.mk (2 : Int) (7 : Int) (0 : Int) [] [] []])) (Px.vs (Px.mapV [Val.mk (3 : Int) (0 : Int) (0 : Int) [(65 : UInt8)] [] [], Val.mk (Px.vk (Px.made a0)) (Px.vn (Px.made a0)) (Px.vg (Px.made a0)) (Px.vt (Px.made a0)) (Px.vl (Px.made a0)) (Px.vs (Px.made a0)), Val.mk (3 : Int) (0 : Int) (0 : Int) [(66 : UInt8)] [] [], Val.mk (2 : Int) (7 : Int) (0 : Int) [] [] []])) [(65 : UInt8)])) (Px.vl (Px.getV (Px.vk (Px.mapV [Val.mk (3 : Int) (0 : Int) (0 : Int) [(65 : UInt8)] [] [], Val.mk (Px.vk (Px.made a0)) (Px.vn (Px.made a0)) (Px.vg (Px.made a0)) (Px.vt (Px.made a0)) (Px.vl (Px.made a0)) (Px.vs (Px.made a0)), Val.mk (3 : Int) (0 : Int) (0 : Int) [(66 : UInt8)] [] [], Val.mk (2 : Int) (7 : Int) (0 : Int) [] [] []])) (Px.vl (Px.mapV [Val.mk (3 : Int) (0 : Int) (0 : Int) [(65 : UInt8)] [] [], Val.mk (Px.vk (Px.made a0)) (Px.vn (Px.made a0)) (Px.vg (Px.made a0)) (Px.vt (Px.made a0)) (Px.vl (Px.made a0)) (Px.vs (Px.made a0)), Val.mk (3 : Int) (0 : Int) (0 : Int) [(66 : UInt8)] [] [], Val.mk (2 : Int) (7 : Int) (0 : Int) [] [] []])) (Px.vs (Px.mapV [Val.mk (3 : Int) (0 : Int) (0 : Int) [(65 : UInt8)] [] [], Val.mk (Px.vk (Px.made a0)) (Px.vn (Px.made a0)) (Px.vg (Px.made a0)) (Px.vt (Px.made a0)) (Px.vl (Px.made a0)) (Px.vs (Px.made a0)), Val.mk (3 : Int) (0 : Int) (0 : Int) [(66 : UInt8)] [] [], Val.mk (2 : Int) (7 : Int) (0 : Int) [] [] []])) [(65 : UInt8)])) (Px.vs (Px.getV (Px.vk (Px.mapV [Val.mk (3 : Int) (0 : Int) (0 : Int) [(65 : UInt8)] [] [], Val.mk (Px.vk (Px.made a0)) (Px.vn (Px.made a0)) (Px.vg (Px.made a0)) (Px.vt (Px.made a0)) (Px.vl (Px.made a0)) (Px.vs (Px.made a0)), Val.mk (3 : Int) (0 : Int) (0 : Int) [(66 : UInt8)] [] [], Val.mk (2 : Int) (7 : Int) (0 : Int) [] [] []])) (Px.vl (Px.mapV [Val.mk (3 : Int) (0 : Int) (0 : Int) [(65 : UInt8)] [] [], Val.mk (Px.vk (Px.made a0)) (Px.vn (Px.made a0)) (Px.vg (Px.made a0)) (Px.vt (Px.made a0)) (Px.vl (Px.made a0)) (Px.vs (Px.made a0)), Val.mk (3 : Int) (0 : Int) (0 : Int) [(66 : UInt8)] [] [], Val.mk (2 : Int) (7 : Int) (0 : Int) [] [] []])) (Px.vs (Px.mapV [Val.mk (3 : Int) (0 : Int) (0 : Int) [(65 : UInt8)] [] [], Val.mk (Px.vk (Px.made a0)) (Px.vn (Px.made a0)) (Px.vg (Px.made a0)) (Px.vt (Px.made a0)) (Px.vl (Px.made a0)) (Px.vs (Px.made a0)), Val.mk (3 : Int) (0 : Int) (0 : Int) [(66 : UInt8)] [] [], Val.mk (2 : Int) (7 : Int) (0 : Int) [] [] []])) [(65 : UInt8)]))) (Val.mk (Px.vk (Px.made a0)) (Px.vn (Px.made a0)) (Px.vg (Px.made a0)) (Px.vt (Px.made a0)) (Px.vl (Px.made a0)) (Px.vs (Px.made a0))))
      (.leaf (.lf (.bool (eqI (7 : Int) (7 : Int))), []))
      (.leaf (.lf (.bool false), [])))
     (.leaf (.lf (.bool false), []))))
   (.leaf (.lf (.bool false), [])))
  (.fail))
 (.fail)
theorem e5 (a0 : List (Int × Int × Int × List UInt8 × Int × Bool)) (a1 : List UInt8) : execFun E G5 ((Lam5)) false Go.Proofs.Tryz.f5 [.lf (.sl .bit a0), .lf (.str a1)] [] some = (w5 a0 a1).get := by kernel_rfl
noncomputable def spec5 : Spec E := fun args os => match args, os with
  | [.lf (.sl .bit a0), .lf (.str a1)], [] => w5 a0 a1
  | _, _ => .fail
theorem valid5 (hL : Laws E) : Valid E 5 spec5 :=
  valid_of_body hL (hG5 hL) (Λ := (Lam5)) (fn := Go.Proofs.Tryz.f5) (keep := false) (by kernel_rfl) (by kernel_rfl) (by kernel_rfl) ((LamOK.of (m := 2) (by kernel_rfl) (fun j hj σ e σ' hg => by
      match j, hj with
      | 0, _ => exact ll5_0 hL σ e σ' hg
      | 1, _ => exact ll5_1 hL σ e σ' hg
      ))) (fun args os r os' h => by
    unfold spec5 at h
    split at h
    · exact (e5 _ _).trans h
    · cases h)
end Go.Vx
namespace Px
open Go.Vx Go
theorem findI_any {α : Type} (q : α → Bool) : ∀ (l : List α) (i : Nat), leI 0 (findI q i l) = l.any q
  | [], i => rfl
  | b :: l, i => by
    rw [findI, List.any_cons]
    cases q b with
    | true =>
      simp only [cond_true, Bool.true_or]
      rw [leI_eq]; exact decide_eq_true (by omega)
    | false =>
      simp only [cond_false, Bool.false_or]
      exact findI_any q l (i + 1)
theorem bkey_inj {t : List UInt8} {a b : Nat} (ha : a < 100) (hb : b < 100) (h : bkey a t = bkey b t) : a = b := by
  unfold bkey at h
  simp only [List.cons_append, List.nil_append, List.cons.injEq, true_and, and_true] at h
  have := congrArg UInt8.toNat h
  simp only [UInt8.toNat_ofNat'] at this
  omega
def bkeys (t : List UInt8) : Nat → Nat → List (List UInt8)
  | _, 0 => []
  | k, j + 1 => bkey k t :: bkeys t (k + 1) j
theorem bkeys_len (t : List UInt8) : ∀ j k, (bkeys t k j).length = j
  | 0, _ => rfl
  | j + 1, k => by rw [bkeys, List.length_cons, bkeys_len]
theorem bkeys_get (t : List UInt8) : ∀ (j k i : Nat), i < j → (bkeys t k j).getD i [] = bkey (k + i) t
  | j + 1, k, 0, _ => rfl
  | j + 1, k, i + 1, h => by
    rw [bkeys]
    show (bkeys t (k + 1) j).getD i [] = _
    rw [bkeys_get t j (k + 1) i (by omega)]
    congr 1; omega
theorem find_bkeys (t : List UInt8) : ∀ (j k s i : Nat), i < j → k + j ≤ 100 → findI (fun x => decide (bkey (k + i) t = x)) s (bkeys t k j) = ((s + i : Nat) : Int)
  | j + 1, k, s, 0, _, _ => by
    rw [bkeys, findI, decide_eq_true (show bkey (k + 0) t = bkey k t from rfl)]; rfl
  | j + 1, k, s, i + 1, h, h1 => by
    have hne : ¬ bkey (k + (i + 1)) t = bkey k t := fun hh => by have := bkey_inj (by omega) (by omega) hh; omega
    rw [bkeys, findI, decide_eq_false hne]
    show findI _ (s + 1) (bkeys t (k + 1) j) = _
    have := find_bkeys t j (k + 1) (s + 1) i (by omega) (by omega)
    rw [show k + 1 + i = k + (i + 1) by omega] at this
    rw [this]; omega
theorem growLoop_keys (g : List Bit → Val × List Bit) (dict : Bool) (t : List UInt8) (ok : Bool) : ∀ (m k : Nat) (l : List Bit) (ls : List Val) (ks : List (List UInt8)),
    ∃ j, j ≤ m ∧ (growLoop g dict t ok m k l ls ks).1.length = ls.length + j ∧ (growLoop g dict t ok m k l ls ks).2.1 = cond dict (ks ++ bkeys t k j) ks
  | 0, k, l, ls, ks => ⟨0, Nat.le_refl _, rfl, by cases dict <;> simp [growLoop, bkeys]⟩
  | m + 1, k, l, ls, ks => by
    rw [growLoop]
    cases l.isEmpty || !ok with
    | true => exact ⟨0, Nat.zero_le _, rfl, by cases dict <;> simp [bkeys]⟩
    | false =>
      obtain ⟨j, h1, h2, h3⟩ := growLoop_keys g dict t ok m (k + 1) (g l).2 (ls ++ [(g l).1]) (cond dict (ks ++ [bkey k t]) ks)
      refine ⟨j + 1, by omega, ?_, ?_⟩
      · rw [cond_false, h2]; simp; omega
      · rw [cond_false, h3]
        cases dict
        · rfl
        · simp [bkeys]
/-- keys are told apart, each has a value, and none but a map has any -/
def KeysOK (v : Val) : Prop := (vs v = []) ∨ (vk v = 6 ∧ ∃ t j, j ≤ 3 ∧ vs v = bkeys t 0 j ∧ (vl v).length = j)
theorem keysOK_grow (m : Nat) (l : List Bit) : KeysOK (growF m l).1 := by
  match m, l with
  | 0, l => exact .inl rfl
  | m + 1, [] => exact .inl rfl
  | m + 1, b :: l =>
    rw [growF]
    have hm : (b.2.2.2.2.1.tmod 4).toNat ≤ 3 := by
      have := Int.tmod_lt_of_pos b.2.2.2.2.1 (show (0 : Int) < 4 by decide)
      omega
    obtain ⟨j, h1, h2, h3⟩ := growLoop_keys (growF m) (eqI (b.1.tmod 8) 6) b.2.2.2.1 (Nat.ble 1 m) (b.2.2.2.2.1.tmod 4).toNat 0 l [] []
    cases q : eqI (b.1.tmod 8) 6 with
    | true =>
      rw [q] at h2 h3
      refine .inr ⟨?_, b.2.2.2.1, j, by omega, ?_, ?_⟩
      · rw [eqI_eq, decide_eq_true_eq] at q; exact q
      · simp only [Bool.or_true, cond_true, vs]; exact h3
      · simp only [Bool.or_true, cond_true, vl]; rw [h2]; simp
    | false =>
      rw [q] at h2 h3
      refine .inl ?_
      cases eqI (b.1.tmod 8) 5
      · rfl
      · simp only [Bool.true_or, cond_true, vs]; exact h3
theorem keysOK_made (l : List Bit) : KeysOK (made l) := by
  unfold made
  split
  · exact .inl rfl
  · exact keysOK_grow _ _
theorem good_made (l : List Bit) : GoodGet (vk (made l)) (vl (made l)) (vs (made l)) := by
  rcases keysOK_made l with h | ⟨h6, t, j, hj, hs, hl⟩
  · intro i hi; rw [h] at hi; simp at hi
  · intro i hi hi2
    rw [hs, bkeys_len] at hi
    have hk : keyAt (bkey (0 + i) t) (bkeys t 0 j) = ((0 + i : Nat) : Int) := find_bkeys t j 0 0 i hi (by omega)
    have e0 : leI 0 ((0 + i : Nat) : Int) = true := by rw [leI_eq]; exact decide_eq_true (by omega)
    have e1 : ltI ((0 + i : Nat) : Int) ((vl (made l)).length : Int) = true := by rw [ltI_eq]; exact decide_eq_true (by omega)
    have hI : getI (vk (made l)) (vl (made l)) (vs (made l)) ((vs (made l)).getD i []) = true := by
      unfold getI
      rw [hs, bkeys_get t j 0 i hi, hk, h6, e0, e1]; rfl
    refine ⟨hI, ?_⟩
    unfold getV
    rw [hI, hs, bkeys_get t j 0 i hi, hk, cond_true, Int.toNat_natCast, Nat.zero_add]
theorem has_made (l : List Bit) (key : List UInt8) : getI (vk (made l)) (vl (made l)) (vs (made l)) key = anyKey key (vs (made l)) := by
  have hany : leI 0 (keyAt key (vs (made l))) = anyKey key (vs (made l)) := by
    unfold keyAt anyKey
    rw [findI_any]
    congr 1
    funext x
    exact decide_eq_decide.2 eq_comm
  unfold getI
  rw [hany]
  rcases keysOK_made l with h | ⟨h6, t, j, hj, hs, hl⟩
  · rw [h]; simp [anyKey]
  · rw [h6]
    have e1 : ltI (keyAt key (vs (made l))) ((vl (made l)).length : Int) = true := by
      rw [ltI_eq]
      refine decide_eq_true ?_
      have := findI_ge (fun x => decide (key = x)) (vs (made l)) 0
      unfold keyAt
      rcases this with h | h
      · rw [h]; omega
      · have h2 := h.2
        rw [hs, bkeys_len] at h2
        rw [hs, hl]; omega
    rw [e1, Bool.and_true]
    rfl
end Px
namespace Go.Vx
open Go
theorem sp5 (l : List Bit) (key : List UInt8) : (spec5 [.lf (.sl .bit l), .lf (.str key)] []).get = some (.lf (.bool true), []) := by
  show (w5 l key).get = _
  have hz : (Val.mk (0 : Int) (0 : Int) (0 : Int) [] [] []) = Px.v0 := rfl
  have e0 : Int.toNat (0 : Int) = 0 := rfl
  have g1 : Px.goodGet (Px.vk (Px.made l)) (Px.vl (Px.made l)) (Px.vs (Px.made l)) = true := (Px.goodGet_iff _ _ _).2 (Px.good_made l)
  have g2 : (eqI ((Px.vs (Px.made l)).length : Int) ((Px.vs (Px.made l)).length : Int) && Px.likeS (Px.vs (Px.made l)) (Px.vs (Px.made l)) && leI 0 0 && leI 0 ((Px.vs (Px.made l)).length : Int) && true) = true := by
    unfold Px.likeS; simp [eqI_eq, leI_eq]
  have g3 : (eqI ((Px.vs (Px.made l)).length : Int) ((Px.vs (Px.made l)).length : Int) && leI 0 0 && leI 0 ((Px.vs (Px.made l)).length : Int)) = true := by
    simp [eqI_eq, leI_eq]
  have g4 := Px.has_made l key
  have g5 : ∀ v : Val, Px.alike (Px.getV (Px.vk (Px.mapV [Val.mk (3 : Int) (0 : Int) (0 : Int) [(65 : UInt8)] [] [], v, Val.mk (3 : Int) (0 : Int) (0 : Int) [(66 : UInt8)] [] [], Val.mk (2 : Int) (7 : Int) (0 : Int) [] [] []])) (Px.vl (Px.mapV [Val.mk (3 : Int) (0 : Int) (0 : Int) [(65 : UInt8)] [] [], v, Val.mk (3 : Int) (0 : Int) (0 : Int) [(66 : UInt8)] [] [], Val.mk (2 : Int) (7 : Int) (0 : Int) [] [] []])) (Px.vs (Px.mapV [Val.mk (3 : Int) (0 : Int) (0 : Int) [(65 : UInt8)] [] [], v, Val.mk (3 : Int) (0 : Int) (0 : Int) [(66 : UInt8)] [] [], Val.mk (2 : Int) (7 : Int) (0 : Int) [] [] []])) [(65 : UInt8)]) v = true := fun v => (Px.alike_iff _ _).2 rfl
  have g6 : eqI (7 : Int) 7 = true := rfl
  unfold w5
  simp only [Tree.get_ite, Tree.get_leaf, Px.v_eta, Px.goodGet'_eq, Px.anyKey'_eq, g1, g2, g3, cond_true, e0, List.drop_zero, g4, Bool.false_or, beq_self_eq_true, g5, g6]
  cases q : Px.anyKey key (Px.vs (Px.made l)) with
  | true => rfl
  | false =>
    have g7 : Px.alike (Px.getV (Px.vk (Px.made l)) (Px.vl (Px.made l)) (Px.vs (Px.made l)) key) (Val.mk (0 : Int) (0 : Int) (0 : Int) [] [] []) = true := by
      rw [Px.alike_iff]
      unfold Px.getV
      rw [g4, q]; rfl
    simp only [cond_false, g7, cond_true]
end Go.Vx
namespace Go.Vx
open Go Go.RowKit
/-- Nobody's own at the beginning. -/
def Gh.none : Gh := { blk := fun _ => Option.none, tok := fun _ => Option.none, ver := zero0, cur := zero0, oth := fun _ _ => False, bl := fun _ => (0, 0, 0) }
theorem none_pur (b o : Nat) : Gh.none.pur b o := by
  refine ⟨⟨fun _ h => ?_, fun _ _ _ h => ?_⟩, fun h => h⟩
  · cases h
  · cases h
theorem none_hrel {Key : Type} [DecidableEq Key] {E : Env Key} {w : World} (hg : ∀ g cs, E.gl g = some cs → Glob E Gh.none w cs g) : HRel E (fun i => ([] : List (Obj E.A))[i]?) Gh.none w where
  ob i o h := by simp at h
  lt _ _ h := by cases h
  inj _ _ _ h := by cases h
  tokb _ _ _ _ h := by cases h
  tokj _ _ _ _ _ _ _ _ h := by cases h
  gl := hg
  othf _ _ h := h.elim
theorem none_below {G' : Gh} {w w' : World} (h : Fr Gh.none w G' w') : Below w.heap.size w w' :=
  ⟨h.os, h.tape, h.output, h.size, fun k hk => (h.blk k hk ⟨fun _ h => (by cases h), fun _ _ _ h => (by cases h)⟩).1⟩
/-- The call, out of the contract. -/
theorem calls_of_valid {Key : Type} [DecidableEq Key] {E : Env Key} {f : FuncId} {spec : Spec E} (hV : Valid E f spec) {args : List (RV E.A)} {w : World} {vals : Array Value} {fn : Func} (hf : E.P.funcs[f]? = some fn) (hb : fn.body.isSome = true) (hnm : (fn.name == "runtime.NumGoroutine") = false) {b : Bool}
    (hs : (spec args []).get = some (.lf (.bool b), [])) (ha : ARel E Gh.none w args vals)
    (hg : ∀ g cs, E.gl g = some cs → Glob E Gh.none w cs g) :
    Calls E.P f vals w fun e w' => e = .returned (.bool b) ∧ Below w.heap.size w w' := by
  unfold Valid at hV
  have h := hV args [] _ _ hs Gh.none w vals ha (none_hrel hg) rfl rfl
  have hcf : (callFunc f vals).run E.P w = .ok (.enter f vals) w := by
    obtain ⟨c, hc⟩ := Option.isSome_iff_exists.1 hb
    unfold callFunc
    have hne : ¬ fn.name = "runtime.NumGoroutine" := by simpa using hnm
    simp [hf, hc, hne]
  rw [hcf] at h
  refine Calls.mono (show Calls E.P f vals w _ from h) ?_
  rintro e w' ⟨v, G', rfl, hbk⟩
  refine ⟨?_, none_below hbk.fr⟩
  cases hbk.val with
  | lf h => cases h; rfl
def IsRow (k : IntKind) (w : World) (a : Option Addr) (len cap : Nat) (zs : List Int) : Prop :=
  (a = Option.none ∧ len = 0 ∧ cap = 0 ∧ zs = []) ∨
  ∃ x, a = some x ∧ len ≤ cap ∧ cap ≤ maxLen ∧ zs.length = cap ∧ (∀ i, i < zs.length → w.cell? (x.add i) = some (.int k (zs.getD i 0))) ∧ ∀ n ∈ zs, (Lit.int k n).wf = true
theorem IsRow.len {k : IntKind} {w : World} {a : Option Addr} {len cap : Nat} {zs : List Int} (h : IsRow k w a len cap zs) : min len zs.length = len ∧ len ≤ big := by
  rcases h with ⟨_, rfl, _, rfl⟩ | ⟨_, _, h1, h2, h3, _⟩
  · exact ⟨rfl, by decide⟩
  · exact ⟨by omega, by unfold big; unfold maxLen at h2; omega⟩
theorem arel1 {w : World} {l0 : Leaf E.A} {v0 : Value} (h0 : Rep E Gh.none w l0 v0) : ARel E Gh.none w [.lf l0] #[v0] := by
  refine ⟨rfl, fun j r hj => ?_⟩
  match j with
  | 0 => injection hj with hj; subst hj; exact .lf h0
  | j + 1 => cases hj
theorem arel2 {w : World} {l0 l1 : Leaf E.A} {v0 v1 : Value} (h0 : Rep E Gh.none w l0 v0) (h1 : Rep E Gh.none w l1 v1) : ARel E Gh.none w [.lf l0, .lf l1] #[v0, v1] := by
  refine ⟨rfl, fun j r hj => ?_⟩
  match j with
  | 0 => injection hj with hj; subst hj; exact .lf h0
  | 1 => injection hj with hj; subst hj; exact .lf h1
  | j + 2 => cases hj
theorem arel3 {w : World} {l0 l1 l2 : Leaf E.A} {v0 v1 v2 : Value} (h0 : Rep E Gh.none w l0 v0) (h1 : Rep E Gh.none w l1 v1) (h2 : Rep E Gh.none w l2 v2) : ARel E Gh.none w [.lf l0, .lf l1, .lf l2] #[v0, v1, v2] := by
  refine ⟨rfl, fun j r hj => ?_⟩
  match j with
  | 0 => injection hj with hj; subst hj; exact .lf h0
  | 1 => injection hj with hj; subst hj; exact .lf h1
  | 2 => injection hj with hj; subst hj; exact .lf h2
  | j + 3 => cases hj
theorem arel4 {w : World} {l0 l1 l2 l3 : Leaf E.A} {v0 v1 v2 v3 : Value} (h0 : Rep E Gh.none w l0 v0) (h1 : Rep E Gh.none w l1 v1) (h2 : Rep E Gh.none w l2 v2) (h3 : Rep E Gh.none w l3 v3) :
    ARel E Gh.none w [.lf l0, .lf l1, .lf l2, .lf l3] #[v0, v1, v2, v3] := by
  refine ⟨rfl, fun j r hj => ?_⟩
  match j with
  | 0 => injection hj with hj; subst hj; exact .lf h0
  | 1 => injection hj with hj; subst hj; exact .lf h1
  | 2 => injection hj with hj; subst hj; exact .lf h2
  | 3 => injection hj with hj; subst hj; exact .lf h3
  | j + 4 => cases hj
theorem wf_inRb {k : IntKind} {n : Int} (h : (Lit.int k n).wf = true) : inRb k n = true := by
  simpa [Lit.wf, inRb] using h
theorem row_ok {α : Type} {zs : List Int} {len eb : Nat} (f : Int → α) (h : min len zs.length = len ∧ len ≤ big) (y : len * eb ≤ 140737488355328) : ((zs.take len).map f).length ≤ big ∧ ((zs.take len).map f).length * eb ≤ 140737488355328 := by
  rw [List.length_map, List.length_take, h.1]
  exact ⟨h.2, y⟩
theorem row_in {k : IntKind} {w : World} {a : Option Addr} {len cap : Nat} {zs : List Int} (h : IsRow k w a len cap zs) : ∀ z ∈ (zs.take len).map (fun z : Int => z), inRb k z = true := by
  intro z hz
  rw [List.map_id'] at hz
  have hm := List.mem_of_mem_take hz
  rcases h with ⟨_, _, _, rfl⟩ | ⟨_, _, _, _, _, _, h⟩
  · cases hm
  · exact wf_inRb (h z hm)
theorem sized_row {H : Type} {P : Program} {ts : List TypeId} {ds : List (DataW H)} (h : (DataW.weightsEach P ts ds).all (· ≤ reachBytes) = true) {j : Nat} {t e : TypeId} {k : IntKind} {zs : List Int} {len eb : Nat}
    (ht : ts[j]? = some t) (hd : ds[j]? = some (.slice (Go.ChangeShapes.lits k (zs.take len)) (Go.ChangeShapes.lits k (zs.drop len)))) (hu : P.underlying t = some (.slice e)) (hb : P.bytesOf e = eb) (hl : len ≤ zs.length) : len * eb ≤ 140737488355328 := by
  have h1 := sized_slice h ht hd hu
  have h2 := reachBytes_lt
  rw [hb] at h1
  have e1 : (Go.ChangeShapes.lits (H := H) k (zs.take len)).length = len := by simp [Go.ChangeShapes.lits]; omega
  rw [e1] at h1
  have : len * eb ≤ (len + (Go.ChangeShapes.lits (H := H) k (zs.drop len)).length) * eb := Nat.mul_le_mul_right _ (Nat.le_add_right _ _)
  omega
theorem rep_row {K0 : K} {ik : IntKind} (f : Int → E.A K0) (hs : E.sz K0 = 1) (henc : ∀ z, inRb ik z = true → E.enc K0 (f z) = [.int ik z]) {w : World}
    {a : Option Addr} {len cap : Nat} {zs : List Int} (h : IsRow ik w a len cap zs) : Rep E Gh.none w (.sl K0 ((zs.take len).map f)) (.slice a len cap) := by
  rcases h with ⟨rfl, rfl, rfl, rfl⟩ | ⟨x, rfl, hl, hm, hz, hc, hw⟩
  · exact .sl0 K0 _ _ (by decide)
  · rcases Nat.eq_zero_or_pos len with h0 | h0
    · subst h0; exact .sl0 K0 _ _ hm
    · have hx : x.spot = Option.none := by
        have := hc 0 (by omega)
        rw [show x.add 0 = x from rfl] at this
        unfold World.cell? at this
        split at this
        · cases hq : x.spot with
          | none => rfl
          | some q => rw [hq] at this; simp at this
        · cases this
      obtain ⟨b, off, sp⟩ := x
      obtain rfl : sp = Option.none := hx
      have e : ((zs.take len).map f).length = len := by simp; omega
      have hrep := Rep.sl (E := E) (G := Gh.none) (w := w) K0 ((zs.take len).map f) b off cap (fun i _ => .int ik (zs.getD i 0)) (by rw [e]; exact hl) hm
        (fun i j hi hj => by
          rw [hs] at hj ⊢
          obtain rfl : j = 0 := by omega
          refine ⟨?_, none_pur _ _⟩
          have := hc i (by rw [e] at hi; omega)
          simp only [Addr.add] at this
          split at this
          · rename_i h; subst h; simpa using this
          · simpa using this)
        (fun i y hy j l hl' => by
          rw [List.getElem?_map, Option.map_eq_some_iff] at hy
          obtain ⟨z, hz1, rfl⟩ := hy
          have hlt : i < len := by
            have := (List.getElem?_eq_some_iff.1 hz1).1
            simp at this; omega
          rw [List.getElem?_take_of_lt hlt] at hz1
          have hmem : z ∈ zs := List.mem_of_getElem? hz1
          rw [henc z (wf_inRb (hw z hmem))] at hl'
          match j with
          | 0 =>
            injection hl' with hl'
            subst hl'
            have : zs.getD i 0 = z := by rw [List.getD, hz1]; rfl
            rw [this]
            exact .int (wf_inRb (hw z hmem))
          | j + 1 => cases hl')
      rw [e] at hrep
      exact hrep
theorem enc_u8 (z : Int) (h : inRb .u8 z = true) : E.enc .u8 (UInt8.ofNat z.toNat) = [.int .u8 z] := by
  show [Leaf.int IntKind.u8 ((UInt8.ofNat z.toNat).toNat : Int)] = _
  simp only [inRb, Bool.and_eq_true, decide_eq_true_eq] at h
  have h1 : (0 : Int) ≤ z := h.1
  have h2 : z ≤ 255 := h.2
  have : ((UInt8.ofNat z.toNat).toNat : Int) = z := by simp; omega
  rw [this]; rfl
theorem int_of_shaped {P : Program} {w : World} {g : Nat} {t : TypeId} {zero : Array Value} {k : IntKind} (h : w.ShapedOpen P) (hg : g < P.globals.size)
    (h0 : ((begin P (fun _ _ => 0) default).world.heap[g]?).bind Obj.row? = some (zero, t)) (hz : zero.size = 1) (hb : P.buildable t = true) (hc : P.cellTypes P.depth t = some [t]) (hu : P.underlying t = some (.int k)) :
    ∃ m, k.has m ∧ w.cell? ⟨g, 0, none⟩ = some (.int k m) := by
  obtain ⟨cs, hh, hs, hr⟩ := h.1 g zero t hg h0
  obtain ⟨ts, hts, _, hall⟩ := hr hb
  rw [hc] at hts
  cases hts
  have h1 : 0 < cs.size := by omega
  obtain ⟨u, hu', hok⟩ := hall 0 cs[0] (by simp [h1])
  have : u = t := by simpa using hu'.symm
  subst this
  have hcell : w.cell? ⟨g, 0, none⟩ = some cs[0] := by simp [World.cell?, hh, h1]
  rw [hcell]
  unfold Cell.ok at hok
  rw [hu] at hok
  cases hv : cs[0] <;> rw [hv] at hok <;> simp at hok
  case int k' n => exact ⟨n, hok.2, by rw [hok.1]⟩
theorem shape_of_shaped {P : Program} {w : World} {g : Nat} {t : TypeId} {zero : Array Value} {n : Nat} (h : w.ShapedOpen P) (hg : g < P.globals.size)
    (h0 : ((begin P (fun _ _ => 0) default).world.heap[g]?).bind Obj.row? = some (zero, t)) (hz : zero.size = n) : ∃ t, w.shape? g = some (t, n) := by
  obtain ⟨cs, hh, hs, _⟩ := h.1 g zero t hg h0
  refine ⟨t, ?_⟩
  unfold World.shape?
  rw [hh]
  simp [hs, hz]
/-- A variable of the program's that holds these numbers. -/
theorem glob_of_cells {w : World} {ik : IntKind} {n g : Nat} (f : Nat → Int) (hf : ∀ i, i < n → inRb ik (f i) = true) (hc : ∀ i, i < n → w.cell? ⟨g, i, none⟩ = some (.int ik (f i))) (hs : ∃ t, w.shape? g = some (t, n)) (hga : E.ga g = none) :
    Glob E Gh.none w ((List.range n).map fun c => .int ik (f c)) g := by
  refine ⟨.pp _ g 0 (fun j => .int ik (f j)) (List.all_eq_true.2 fun l hl => ?_) (fun j hj => ⟨?_, none_pur _ _⟩) (fun j l hl => ?_), ?_, fun k hk => ?_⟩
  · obtain ⟨c, _, rfl⟩ := List.mem_map.1 hl
    rfl
  · rw [Nat.zero_add]
    exact hc j (by simpa using hj)
  · rw [List.getElem?_map, Option.map_eq_some_iff] at hl
    obtain ⟨z, hz, rfl⟩ := hl
    have hj : j < n := by
      have := (List.getElem?_eq_some_iff.1 hz).1
      simpa using this
    rw [List.getElem?_range hj] at hz
    injection hz with hz; subst hz
    exact .int (hf j hj)
  · rw [List.length_map, List.length_range]; exact hs
  · rw [hga] at hk; cases hk
theorem glob_of_tab {w : World} (h : Lib.TabIs E.P w "internal/strconv.uint64pow10" .u64 Lib.pow10Tab) (hs : ∃ t, w.shape? 2 = some (t, 20)) : Glob E Gh.none w ((Go.Lib.pow10Tab).map fun z => .int .u64 z) 2 := by
  have hg : E.P.globalNamed "internal/strconv.uint64pow10" = some 2 := by kernel_rfl
  have e : ((Go.Lib.pow10Tab).map fun z => (Leaf.int (A := E.A) .u64 z)) = (List.range 20).map fun c => .int .u64 (Lib.pow10Tab.getD c 0) := by kernel_rfl
  rw [e]
  refine glob_of_cells (fun c => Lib.pow10Tab.getD c 0) (fun i hi => ?_) (fun i hi => h.cell hg i hi) hs rfl
  have : (List.range 20).all (fun i => inRb .u64 (Lib.pow10Tab.getD i 0)) = true := by decide
  exact List.all_eq_true.1 this i (List.mem_range.2 hi)
theorem first_of_reads {w : World} (h : Lib.VarReads E.P w "unicode/utf8.first" Lib.firstData) (c : Nat) (hc : c < 256) : w.cell? ⟨3, c, none⟩ = some (.int .u8 (Lib.firstT c : Int)) := by
  obtain ⟨g, t, cs, fuel, p, hg, hty, hvar, hd⟩ := h
  obtain rfl := Option.some.inj ((show E.P.globalNamed "unicode/utf8.first" = some 3 from by kernel_rfl).symm.trans hg)
  obtain rfl := Option.some.inj ((show (E.P.globals[3]?).map (·.type) = some 170 from by kernel_rfl).symm.trans hty)
  have hcs := Lib.cells_of_tab (t := 170) (e := 5) (n := 256) (by kernel_rfl) (by kernel_rfl) (by kernel_rfl) (by kernel_rfl) hd
  have := World.var?_cell hg hvar c
  rw [this, ← Array.getElem?_toList, hcs]
  simp [Lib.firstTab, hc]
theorem accept_of_reads {w : World} (h : Lib.VarReads E.P w "unicode/utf8.acceptRanges" Lib.acceptData) (i : Nat) (hi : i < 16) :
    w.cell? ⟨4, 2 * i, none⟩ = some (.int .u8 (Lib.accLo i : Int)) ∧ w.cell? ⟨4, 2 * i + 1, none⟩ = some (.int .u8 (Lib.accHi i : Int)) := by
  obtain ⟨g, t, cs, fuel, p, hg, hty, hvar, hd⟩ := h
  obtain rfl := Option.some.inj ((show E.P.globalNamed "unicode/utf8.acceptRanges" = some 4 from by kernel_rfl).symm.trans hg)
  obtain rfl := Option.some.inj ((show (E.P.globals[4]?).map (·.type) = some 173 from by kernel_rfl).symm.trans hty)
  obtain ⟨fuel', d, q, hdi, he⟩ := Lib.array_elem (n := 16) (e := 172) (by kernel_rfl) hd i hi
  simp only [List.getElem?_map, List.getElem?_range hi, Option.map_some, Option.some.injEq] at hdi
  subst hdi
  have c2 : E.P.cellsOf 172 = 2 := by kernel_rfl
  have c5 : E.P.cellsOf 5 = 1 := by kernel_rfl
  have u5 : E.P.underlying 5 = some (.int .u8) := by kernel_rfl
  rw [c2] at he
  have hcs := Lib.ints_of_struct Go.Proofs.Tryz.underlying172 (fun j f hj => by
    match j, hj with
    | 0, hj => simp at hj; subst hj; exact ⟨u5, rfl, c5⟩
    | 1, hj => simp at hj; subst hj; exact ⟨u5, rfl, c5⟩
    | j + 2, hj => simp at hj) (c2.trans rfl) he
  have e0 := congrArg (·[0]?) hcs
  have e1 := congrArg (·[1]?) hcs
  simp only [List.getElem?_take, List.getElem?_drop] at e0 e1
  constructor
  · rw [World.var?_cell hg hvar (2 * i), ← Array.getElem?_toList]
    simpa [Nat.mul_comm] using e0
  · rw [World.var?_cell hg hvar (2 * i + 1), ← Array.getElem?_toList]
    simpa [Nat.mul_comm] using e1
theorem err_ty (u : TypeId) (hu : E.P.typeName? 3 u = some "*errors.errorString") : u = 181 := by
  have e : some "*errors.errorString" = some ("*" ++ "errors.errorString") := by decide +kernel
  rw [e] at hu
  exact typeName_ptr_named (P := E.P) (nm := "errors.errorString") (tp := 181) (by decide +kernel) (by decide +kernel) (by decide +kernel) u hu
theorem err_of_laid {P : Program} {w : World} {n : String} {d : DataW Unit} {g ti : Nat} {ms : Array (String × TypeId)} {e : TypeId} (hg : P.globalNamed n = some g) (hty : (P.globals[g]?).map (·.type) = some ti) (hms : P.underlying ti = some (.interface ms))
    (hnm : ∀ u, P.typeName? 3 u = some "*errors.errorString" → u = 181) (hpt : P.underlying 181 = some (.pointer e)) (h : laidMet P [(n, .iface "*errors.errorString" (.ptr d))] w) :
    ∃ v : Value, w.cell? ⟨g, 0, none⟩ = some (.iface 181 v) ∧ v.oneCell' = true := by
  obtain ⟨ps, ⟨g', t', cs, fuel, p, q, h1, h2, hvar, hd, hq, rfl⟩, _, hall⟩ := h
  obtain rfl := Option.some.inj (hg.symm.trans h1)
  obtain rfl := Option.some.inj (hty.symm.trans h2)
  obtain ⟨fuel', u, v, hcs, hn, _⟩ := iface_of_trod hms hd
  have hc0 : w.cell? ⟨g, 0, none⟩ = some (.iface u v) := by
    rw [World.var?_cell hg hvar 0, ← Array.getElem?_toList, hcs]; rfl
  have hsz : cs.size = 1 := by rw [← Array.length_toList, hcs]; rfl
  have hok := (hall g 0 (by rw [hsz]; simp [MemPlace.row])).2 u v hc0
  obtain rfl := hnm u hn
  obtain ⟨a, rfl⟩ := WideShapes.okWide_pointer hpt hok
  exact ⟨_, hc0, rfl⟩
theorem glob_of_err {w : World} {g : Nat} (h : ∃ v : Value, w.cell? ⟨g, 0, none⟩ = some (.iface 181 v) ∧ v.oneCell' = true) (hs : ∃ t, w.shape? g = some (t, 1)) (hga : E.ga g = none) : Glob E Gh.none w [.ifc 181 .dead] g := by
  obtain ⟨v, hc, hv⟩ := h
  refine ⟨.pp _ g 0 (fun _ => .iface 181 v) rfl (fun j hj => ⟨?_, none_pur _ _⟩) (fun j l hl => ?_), hs, fun k hk => by rw [hga] at hk; cases hk⟩
  · have hj' : j < 1 := hj
    obtain rfl : j = 0 := by omega
    exact hc
  · match j, hl with
    | 0, hl => injection hl with hl; subst hl; exact .ifc (.dead hv)
    | j + 1, hl => cases hl
def errS : DataW Unit := .agg [.lit (.string [105, 110, 118, 97, 108, 105, 100, 32, 115, 121, 110, 116, 97, 120])]
def errR : DataW Unit := .agg [.lit (.string [118, 97, 108, 117, 101, 32, 111, 117, 116, 32, 111, 102, 32, 114, 97, 110, 103, 101])]
theorem gl_of_laid {w : World} {laid : List (String × DataW Unit)} (hf : laid.filter (fun x => x.1 == "internal/strconv.uint64pow10") = [("internal/strconv.uint64pow10", Lib.tabData .u64 Lib.pow10Tab)])
    (hf2 : laid.filter (fun x => x.1 == "unicode/utf8.first") = [("unicode/utf8.first", Lib.firstData)]) (hf3 : laid.filter (fun x => x.1 == "unicode/utf8.acceptRanges") = [("unicode/utf8.acceptRanges", Lib.acceptData)])
    (hf5 : laid.filter (fun x => x.1 == "strconv.ErrSyntax") = [("strconv.ErrSyntax", .iface "*errors.errorString" (.ptr errS))]) (hf6 : laid.filter (fun x => x.1 == "strconv.ErrRange") = [("strconv.ErrRange", .iface "*errors.errorString" (.ptr errR))])
    (h : laidMetH E.P laid w) (hs : w.ShapedOpen E.P) :
    ∀ g cs, E.gl g = some cs → Glob E Gh.none w cs g := by
  intro g cs hg
  match g, hg with
  | 0, hg => cases hg
  | 1, hg =>
    injection hg with hg; subst hg
    obtain ⟨m, hm, hc⟩ := int_of_shaped (g := 1) (t := 3) (k := .i64) (zero := #[.int .i64 0]) hs (by decide +kernel) (by kernel_rfl) rfl (by kernel_rfl) (by kernel_rfl) (by kernel_rfl)
    refine ⟨.pp _ 1 0 (fun _ => .int .i64 m) rfl (fun j hj => ⟨?_, none_pur _ _⟩) (fun j l hl => ?_), shape_of_shaped (g := 1) (t := 3) (zero := #[.int .i64 0]) hs (by decide +kernel) (by kernel_rfl) rfl, fun k hk => ?_⟩
    · have hj' : j < 1 := hj
      obtain rfl : j = 0 := by omega
      exact hc
    · match j, hl with
      | 0, hl => injection hl with hl; subst hl; exact .dead rfl
      | j + 1, hl => cases hl
    · injection hk with hk; subst hk
      refine ⟨m, ?_, hc, none_pur _ _⟩
      unfold IntKind.has at hm
      unfold inRb
      simpa using hm
  | 2, hg =>
    injection hg with hg; subst hg
    have h1 := laidMetH.filter (fun x => x.1 == "internal/strconv.uint64pow10") h
    rw [hf] at h1
    have h2 : laidMet E.P [("internal/strconv.uint64pow10", Lib.tabData .u64 Lib.pow10Tab)] w := h1
    have h3 : Lib.TabIs E.P w "internal/strconv.uint64pow10" .u64 Lib.pow10Tab := Lib.tabIs_of_head (g := 2) (t := 150) (e := 54) (n := 20) (by kernel_rfl) (by kernel_rfl) (by kernel_rfl) (by kernel_rfl) (by kernel_rfl) (by kernel_rfl) h2
    exact glob_of_tab h3 (shape_of_shaped (g := 2) (t := 150) (zero := Array.replicate 20 (.int .u64 0)) hs (by decide +kernel) (by kernel_rfl) Array.size_replicate)
  | 3, hg =>
    injection hg with hg; subst hg
    have h1 := laidMetH.filter (fun x => x.1 == "unicode/utf8.first") h
    rw [hf2] at h1
    have h2 : laidMet E.P [("unicode/utf8.first", Lib.firstData)] w := h1
    have h3 := Lib.laidMet.reads h2 (List.mem_singleton.2 rfl)
    refine glob_of_cells (fun c => (Lib.firstT c : Int)) (fun i hi => ?_) (first_of_reads h3) (shape_of_shaped (g := 3) (t := 170) (zero := Array.replicate 256 (.int .u8 0)) hs (by decide +kernel) (by kernel_rfl) Array.size_replicate) rfl
    have : (List.range 256).all (fun i => inRb .u8 (Lib.firstT i : Int)) = true := by decide +kernel
    exact List.all_eq_true.1 this i (List.mem_range.2 hi)
  | 4, hg =>
    injection hg with hg; subst hg
    have h1 := laidMetH.filter (fun x => x.1 == "unicode/utf8.acceptRanges") h
    rw [hf3] at h1
    have h2 : laidMet E.P [("unicode/utf8.acceptRanges", Lib.acceptData)] w := h1
    have h3 := Lib.laidMet.reads h2 (List.mem_singleton.2 rfl)
    refine glob_of_cells (fun c => if c % 2 = 0 then (Lib.accLo (c / 2) : Int) else (Lib.accHi (c / 2) : Int)) (fun i hi => ?_) (fun i hi => ?_) (shape_of_shaped (g := 4) (t := 173) (zero := Array.replicate 32 (.int .u8 0)) hs (by decide +kernel) (by kernel_rfl) Array.size_replicate) rfl
    · have : (List.range 32).all (fun c => inRb .u8 (if c % 2 = 0 then (Lib.accLo (c / 2) : Int) else (Lib.accHi (c / 2) : Int))) = true := by decide +kernel
      exact List.all_eq_true.1 this i (List.mem_range.2 hi)
    · obtain ⟨k1, k2⟩ := accept_of_reads h3 (i / 2) (by omega)
      rcases Nat.mod_two_eq_zero_or_one i with e | e
      · rw [if_pos e]
        rw [show 2 * (i / 2) = i by omega] at k1
        exact k1
      · rw [if_neg (by omega)]
        rw [show 2 * (i / 2) + 1 = i by omega] at k2
        exact k2
  | 5, hg =>
    injection hg with hg; subst hg
    have h1 := laidMetH.filter (fun x => x.1 == "strconv.ErrSyntax") h
    rw [hf5] at h1
    have h2 : laidMet E.P [("strconv.ErrSyntax", .iface "*errors.errorString" (.ptr errS))] w := h1
    exact glob_of_err (err_of_laid (g := 5) (ti := 103) (e := 183) (by kernel_rfl) (by kernel_rfl) Go.Proofs.Tryz.underlying103 err_ty (by kernel_rfl) h2) (shape_of_shaped (g := 5) (t := 103) (zero := #[.nilIface]) hs (by decide +kernel) (by kernel_rfl) rfl) rfl
  | 6, hg =>
    injection hg with hg; subst hg
    have h1 := laidMetH.filter (fun x => x.1 == "strconv.ErrRange") h
    rw [hf6] at h1
    have h2 : laidMet E.P [("strconv.ErrRange", .iface "*errors.errorString" (.ptr errR))] w := h1
    exact glob_of_err (err_of_laid (g := 6) (ti := 103) (e := 183) (by kernel_rfl) (by kernel_rfl) Go.Proofs.Tryz.underlying103 err_ty (by kernel_rfl) h2) (shape_of_shaped (g := 6) (t := 103) (zero := #[.nilIface]) hs (by decide +kernel) (by kernel_rfl) rfl) rfl
  | g + 7, hg => cases hg
variable {H : Type} {enc : TypeId × Value → H}
/-- From the contract to the row, the world's shape kept. -/
theorem returns_shaped {a : Assume} {C : Checked} {os : Os} {f : FuncId} {fn : Func} {s : ChangeSpec} {conds : List PathCond} {apart fresh handsOn again : Bool} {X : World → Array Value → Prop}
    (hX : ∀ (w w' : World) (args : Array Value), w.heap = w'.heap → X w args → X w' args)
    (own : ownKnob C.prog.godebug = none) (started : os.Started) (noInit : C.prog.inits.idxOf? f = none) (hfn : C.prog.funcs[f]? = some fn)
    (witness : ∃ (w : World) (tape : Tape) (i : Input), w.os = os ∧ (w.forCall tape i).Shaped C.prog ∧ i.vars = [] ∧ Input.okWide C.prog (w.forCall tape i) .any w.heap.size f i ∧
      ((s.pre enc C.prog fn conds apart (w.forCall tape i).memory i.args ∧ X (w.forCall tape i).memory i.args) ∧ sizedMet enc C.prog fn (OpenSpec.ofChange s) apart (w.forCall tape i).memory i.args) ∧ a.holds C.prog (lone (Frame.enter C.prog f i.args .normal) [] (w.forCall tape i)))
    (contract : ∀ (W : World) (base : Nat) (args : Array Value) (ds gs : List (DataW H)) (before : List MemPlace),
      (∀ (j : Nat) t v, fn.params[j]? = some t → args[j]? = some v → Value.okWide C.prog W .any base t v) →
      DataW.Whole enc C.prog fn.params.toList s.vars apart W args.toList ds gs before →
      conds.all (PathCond.test C.prog ⟨fn.params.toList, ds, s.plain.varTypes C.prog, gs⟩) = true →
      (DataW.weightsEach C.prog (fn.params.toList ++ s.plain.varTypes C.prog) (ds ++ gs)).all (· ≤ reachBytes) = true → X W args → W.ShapedOpen C.prog →
      Calls C.prog f args W fun e W' => ∃ v, e = .returned v ∧ s.post enc C.prog fn apart fresh handsOn again W args v W') :
    ReturnsInHanded a C os f .any (fun w args => (s.pre enc C.prog fn conds apart w args ∧ X w args) ∧ sizedMet enc C.prog fn (OpenSpec.ofChange s) apart w args) (s.post enc C.prog fn apart fresh handsOn again) := by
  refine returnsInHanded_of_calls own started noInit witness ?_
  intro w tape i _ hsh _ hok hpre _
  obtain ⟨_, _, _, fn', hfn', _, _, _, _, hval⟩ := hok
  have e : fn' = fn := Option.some.inj (hfn'.symm.trans hfn)
  subst e
  obtain ⟨⟨⟨ds, gs, before, hw, hc⟩, hx⟩, hz⟩ := hpre
  have hw' := DataW.Whole.of_heap (w' := w.forCall tape i) (by rfl) hw
  refine (contract (w.forCall tape i) w.heap.size i.args ds gs before hval hw' hc (hz.weights hw) (hX _ _ _ (by rfl) hx) hsh).mono fun e W' ⟨v, he, hp⟩ => ?_
  subst he
  exact ChangeSpec.post_blind hp
end Go.Vx
namespace Go.Vx
open Go Go.RowKit
theorem six_of {α : Type} : ∀ l : List α, l.length = 6 → ∃ a b c d e f, l = [a, b, c, d, e, f]
  | [a, b, c, d, e, f], _ => ⟨a, b, c, d, e, f, rfl⟩
theorem row_of {α : Type} (f : Nat → α) (len : Nat) : ∃ xs : List α, xs.length = len ∧ ∀ (i : Nat) (y : α), xs[i]? = some y → i < len ∧ y = f i := by
  refine ⟨(List.range len).map f, by simp, fun i y hy => ?_⟩
  rw [List.getElem?_map, Option.map_eq_some_iff] at hy
  obtain ⟨q, hq, rfl⟩ := hy
  obtain ⟨h1, h2⟩ := List.getElem?_eq_some_iff.1 hq
  simp at h1 h2
  subst h2
  exact ⟨h1, rfl⟩
set_option maxRecDepth 100000 in
theorem bit_cells {H : Type} {enc : TypeId × Value → H} {w : World} {sp : Nat → Bool} {hd : Bool} {n : Nat} {cs : List Value} {y : DataW H × List MemPlace} (h : DataW.trod enc Go.Proofs.Tryz.prog w 0 sp hd n 99 cs = some y) (hlen : cs.length = 6) :
    ∃ b : Bit, ∀ (j : Nat) (l : Leaf E.A), (Kenc .bit b)[j]? = some l → ∃ v : Value, cs[j]? = some v ∧ Rep E Gh.none w l v := by
  obtain ⟨xs, k, _, _, _, hxl, hf⟩ := DataW.trod_struct Go.Proofs.Tryz.underlying99 h
  have hxl : xs.length = 6 := hxl
  obtain ⟨y0, y1, y2, y3, y4, y5, rfl⟩ := six_of xs hxl
  obtain ⟨c0, c1, c2, c3, c4, c5, rfl⟩ := six_of cs hlen
  have g0 : DataW.trod enc Go.Proofs.Tryz.prog w 0 sp hd k 5 [c0] = some y0 := hf 0 _ rfl
  have g1 : DataW.trod enc Go.Proofs.Tryz.prog w 0 sp hd k 2 [c1] = some y1 := hf 1 _ rfl
  have g2 : DataW.trod enc Go.Proofs.Tryz.prog w 0 sp hd k 5 [c2] = some y2 := hf 2 _ rfl
  have g3 : DataW.trod enc Go.Proofs.Tryz.prog w 0 sp hd k 9 [c3] = some y3 := hf 3 _ rfl
  have g4 : DataW.trod enc Go.Proofs.Tryz.prog w 0 sp hd k 5 [c4] = some y4 := hf 4 _ rfl
  have g5 : DataW.trod enc Go.Proofs.Tryz.prog w 0 sp hd k 4 [c5] = some y5 := hf 5 _ rfl
  obtain ⟨n0, e0, _, w0⟩ := DataW.trod_int Go.Proofs.Tryz.underlying5 g0
  obtain ⟨n1, e1, _, w1⟩ := DataW.trod_int Go.Proofs.Tryz.underlying2 g1
  obtain ⟨n2, e2, _, w2⟩ := DataW.trod_int Go.Proofs.Tryz.underlying5 g2
  obtain ⟨s3, e3, _, w3⟩ := DataW.trod_string Go.Proofs.Tryz.underlying9 g3
  obtain ⟨n4, e4, _, w4⟩ := DataW.trod_int Go.Proofs.Tryz.underlying5 g4
  obtain ⟨b5, e5, _⟩ := DataW.trod_bool Go.Proofs.Tryz.underlying4 g5
  injection e0 with e0 _; injection e1 with e1 _; injection e2 with e2 _; injection e3 with e3 _; injection e4 with e4 _; injection e5 with e5 _
  subst e0; subst e1; subst e2; subst e3; subst e4; subst e5
  refine ⟨(n0, n1, n2, s3.data.toList, n4, b5), fun j l hj => ?_⟩
  match j, hj with
  | 0, hj => injection hj with hj; subst hj; exact ⟨_, rfl, .int (wf_inRb w0)⟩
  | 1, hj => injection hj with hj; subst hj; exact ⟨_, rfl, .int (wf_inRb w1)⟩
  | 2, hj => injection hj with hj; subst hj; exact ⟨_, rfl, .int (wf_inRb w2)⟩
  | 3, hj =>
    injection hj with hj; subst hj
    refine ⟨_, rfl, .str s3 ?_⟩
    rw [Array.length_toList]
    show s3.size ≤ big
    unfold big; unfold maxLen at w3; omega
  | 4, hj => injection hj with hj; subst hj; exact ⟨_, rfl, .int (wf_inRb w4)⟩
  | 5, hj => injection hj with hj; subst hj; exact ⟨_, rfl, .bool b5⟩
  | j + 6, hj => cases hj
theorem open_bits {H : Type} {enc : TypeId × Value → H} {w : World} {sp : Nat → Bool} {hd : Bool} {fuel : Nat} {cs : List Value} {x : DataW H × List MemPlace} (h : DataW.trod enc Go.Proofs.Tryz.prog w 0 sp hd fuel 43 cs = some x) :
    ∃ (a : Option Addr) (len cap : Nat) (xs : List Bit), cs = [.slice a len cap] ∧ Rep E Gh.none w (.sl .bit xs) (.slice a len cap) := by
  rcases Go.Deep.open_slice Go.Proofs.Tryz.underlying43 h with ⟨rfl, _⟩ | ⟨a, len, cap, m, n, D, Pl, rfl, _, hl, hm, hmm, rfl, hx⟩
  · exact ⟨none, 0, 0, [], rfl, .sl0 _ _ _ (by decide)⟩
  · have hlm : len ≤ m := by rw [hmm]; split <;> omega
    have hbig : cap ≤ big := by unfold big; unfold maxLen at hm; omega
    have c6 : Go.Proofs.Tryz.prog.cellsOf 99 = 6 := by kernel_rfl
    rw [c6] at hx
    rcases Nat.eq_zero_or_pos len with h0 | h0
    · subst h0; exact ⟨some a, 0, cap, [], rfl, .sl0 _ _ _ hbig⟩
    · have each : ∀ i, i < len → ∃ b : Bit, ∀ (j : Nat) (l : Leaf E.A), (Kenc .bit b)[j]? = some l → ∃ v : Value, w.cell? (a.add (i * 6 + j)) = some v ∧ Rep E Gh.none w l v := by
        intro i hi
        obtain ⟨cs', h1, h2⟩ := hx i (by omega)
        obtain ⟨_, hlen, hcell⟩ := World.cells?_some h1
        obtain ⟨b, hb⟩ := bit_cells h2 hlen
        refine ⟨b, fun j l hj => ?_⟩
        obtain ⟨v, hv, hr⟩ := hb j l hj
        have hj6 : j < 6 := by
          have := (List.getElem?_eq_some_iff.1 hv).1
          omega
        have hc := hcell j hj6
        rw [Go.Deep.add_add] at hc
        exact ⟨v, hc.trans hv, hr⟩
      obtain ⟨f, hf⟩ := Go.Deep.choose_lt each
      have hspot : a.spot = none := by
        obtain ⟨v, hv, _⟩ := hf 0 h0 0 _ rfl
        have := World.cell?_spot hv
        simpa [Addr.add] using this
      obtain ⟨b, off, sp'⟩ := a
      obtain rfl : sp' = none := hspot
      obtain ⟨xs, e, hxs⟩ := row_of (α := E.A K.bit) f len
      have hrep := Rep.sl (E := E) (G := Gh.none) (w := w) .bit xs b off cap (fun i j => (w.cell? ⟨b, off + i * 6 + j, none⟩).getD undef) (by rw [e]; exact hl) hbig
        (fun i j hi hj => by
          rw [e] at hi
          have hj : j < 6 := hj
          have hk : (Kenc .bit (f i)).length = 6 := rfl
          obtain ⟨v, hv, _⟩ := hf i hi j ((Kenc .bit (f i))[j]'(by omega)) (List.getElem?_eq_getElem (by omega))
          have e2 : (⟨b, off, none⟩ : Addr).add (i * 6 + j) = ⟨b, off + i * 6 + j, none⟩ := by
            unfold Addr.add
            split
            · rename_i hz; rw [show off + i * 6 + j = off by omega]
            · rw [Nat.add_assoc]
          rw [e2] at hv
          refine ⟨?_, none_pur _ _⟩
          show w.cell? ⟨b, off + i * 6 + j, none⟩ = _
          rw [hv]; rfl)
        (fun i y hy j l hl' => by
          obtain ⟨hlt, rfl⟩ := hxs i y hy
          obtain ⟨v, hv, hr⟩ := hf i hlt j l hl'
          have e2 : (⟨b, off, none⟩ : Addr).add (i * 6 + j) = ⟨b, off + i * 6 + j, none⟩ := by
            unfold Addr.add
            split
            · rename_i hz; rw [show off + i * 6 + j = off by omega]
            · rw [Nat.add_assoc]
          rw [e2] at hv
          rw [hv]; exact hr)
      rw [e] at hrep
      exact ⟨_, _, _, _, rfl, hrep⟩
end Go.Vx
