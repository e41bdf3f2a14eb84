/-
  Part 6 of the proof: the second reading of the model, its laws, and the functions' contracts. Lemmas alone.
-/
import Derived.KernelRfl
import Derived.Test.YtmaepggfcndmbaaGreatDoorRows
import Derived.WalkKit
import Derived.ProofKit
import Derived.OpenShut
import Derived.ShutString
import Derived.ChangeOld
import Derived.Below
import Derived.SizedLaws
import Derived.LaidSub
import Derived.Lib.LaidTab
import Derived.Lib.LaidU8
import Derived.LaidLaws
import Derived.WideShapes
import Derived.Test.YtmaepggfcndmbaaGreatDoorA2
import Derived.Test.YtmaepggfcndmbaaGreatDoorA3
import Derived.Test.YtmaepggfcndmbaaGreatDoorA4
import Derived.Test.YtmaepggfcndmbaaGreatDoorA5
set_option linter.unusedSectionVars false
set_option linter.unusedVariables false
set_option linter.unusedSimpArgs false
namespace Px
open Go.Vx Go
abbrev Map := List (Int × Int)
def mg (m : Map) (a : Int) : Option Int := (m.find? fun x => decide (a = x.1)).map (·.2)
def ms : Map → Int → Int → Map
  | [], a, b => [(a, b)]
  | x :: r, a, b => if decide (a = x.1) then (a, b) :: r else x :: ms r a b
theorem mg_eq (m : Map) (a : Int) : @mget K E .u16 .i64 m a = mg m a := rfl
theorem ms_eq (a b : Int) : ∀ m : Map, @mset K E .u16 .i64 m a b = ms m a b
  | [] => rfl
  | x :: r => by
    have ih := ms_eq a b r
    show (if decide (a = x.1) = true then (a, b) :: r else x :: @mset K E .u16 .i64 r a b) = _
    rw [ih]; rfl
theorem ms_new (a b : Int) : ∀ m : Map, (mg m a).isSome = false → ms m a b = m ++ [(a, b)]
  | [], _ => rfl
  | x :: m, h => by
    by_cases e : a = x.1
    · subst e; simp [mg] at h
    · have d : decide (a = x.1) = false := decide_eq_false e
      have h' : (mg m a).isSome = false := by
        unfold mg at h ⊢
        simpa [List.find?_cons, d] using h
      have ih := ms_new a b m h'
      simp only [ms, d, Bool.false_eq_true, if_false, ih, List.cons_append]
end Px
namespace Go.Vx
open Go
/-- round by round over a row -/
def loopO {S O α : Type} (f : S → α → Option (S ⊕ O)) (done : S → O) : List α → S → Option O
  | [], s => some (done s)
  | a :: r, s => match f s a with
    | some (.inl s') => loopO f done r s'
    | some (.inr o) => some o
    | none => none
theorem iter_idx {S O α X : Type} {t : X → Tree (X ⊕ O)} (mk : Int → S → X) (l : List α) (d : α) (f : S → α → Option (S ⊕ O)) (done : S → O)
    (h1 : ∀ (i : Nat) s y, i < l.length → f s (l.getD i d) = some y → (t (mk i s)).get = some (match y with | .inl s' => .inl (mk ((i + 1 : Nat) : Int) s') | .inr o => .inr o))
    (h2 : ∀ s, (t (mk l.length s)).get = some (.inr (done s))) :
    ∀ (n i : Nat) (s : S) (o : O), loopO f done (l.drop i) s = some o → l.length - i < n → i ≤ l.length → iter t n (mk i s) = some o
  | 0, _, _, _, _, hn, _ => by omega
  | n + 1, i, s, o, h, hn, hi => by
    rw [iter]
    rcases Nat.lt_or_ge i l.length with hlt | hge
    · rw [drop_cons l d i hlt] at h
      simp only [loopO] at h
      split at h
      · rename_i s' hf
        rw [h1 i s _ hlt hf]
        exact iter_idx mk l d f done h1 h2 n (i + 1) s' o h (by omega) hlt
      · rename_i o' hf
        rw [h1 i s _ hlt hf]
        exact h
      · cases h
    · obtain rfl : i = l.length := by omega
      rw [List.drop_length] at h
      rw [h2]
      exact h
noncomputable abbrev mget_u16_i64 (m : List (Int × Int)) (a : Int) : Option Int := @mget K E .u16 .i64 m a
noncomputable abbrev mset_u16_i64 (m : List (Int × Int)) (a b : Int) : List (Int × Int) := @mset K E .u16 .i64 m a b
theorem getD_mem {α : Type} {l : List α} {d : α} {i : Nat} (h : i < l.length) : l.getD i d ∈ l := by
  rw [List.getD, List.getElem?_eq_getElem h]; exact List.getElem_mem h
theorem len64 {α : Type} {k : K} {l : List α} (h : l.length ≤ big) : (l.length : Int) ≤ 9223372036854775807 := by unfold big at h; omega
end Go.Vx
namespace Px
open Go.Vx Go
abbrev vz : Val := Val.mk (0 : Int) (0 : Int) (0 : Int) [] [] []
theorem val_eta (v : Val) : Val.mk v.kind v.num v.gen v.text v.list v.keys = v := by cases v; rfl
/-- a number that is a width, or a code -/
def smallOk (v : Val) : Bool := eqI v.kind 2 && leI 0 v.num && leI v.num 65535
/-- widths from a code on -/
def rowRun : List Val → Int → Map → Bool × Map
  | [], _, m => (true, m)
  | v :: r, c, m => cond (smallOk v && leI c 65535) (rowRun r (c + 1) (ms m c v.num)) (false, m)
/-- one width, so many times -/
def spanRun : Nat → Int → Int → Map → Map
  | 0, _, _, m => m
  | n + 1, c, w, m => spanRun n (c + 1) w (ms m c w)
def spanOf (l : List Val) (c : Int) (m : Map) : Bool × Map :=
  cond (Nat.blt 1 l.length && smallOk (l.getD 0 vz) && smallOk (l.getD 1 vz) && leI c (l.getD 0 vz).num) (true, spanRun ((l.getD 0 vz).num - c + 1).toNat c (l.getD 1 vz).num m) (false, m)
/-- a list's widths; false: it is none -/
def widRun : Nat → List Val → Map → Bool × Map
  | 0, _, m => (true, m)
  | _ + 1, [], m => (true, m)
  | _ + 1, [_], m => (false, m)
  | n + 1, v :: u :: r, m => cond (smallOk v) (cond (eqI u.kind 5)
      (cond (rowRun u.list v.num m).1 (widRun n r (rowRun u.list v.num m).2) (false, (rowRun u.list v.num m).2))
      (cond (spanOf (u :: r) v.num m).1 (widRun n (r.drop 1) (spanOf (u :: r) v.num m).2) (false, (spanOf (u :: r) v.num m).2))) (false, m)
/-- rows that a slice holds -/
def shortV (l : List Val) : Bool := decide (l.length ≤ 1000000000) && l.all fun v => decide (v.list.length ≤ 1000000000)
theorem shortV_tail {v : Val} {l : List Val} (h : shortV (v :: l) = true) : shortV l = true ∧ v.list.length ≤ 1000000000 ∧ l.length ≤ 1000000000 := by
  unfold shortV at h ⊢
  simp only [List.length_cons, List.all_cons, Bool.and_eq_true, decide_eq_true_eq] at h ⊢
  exact ⟨⟨by omega, h.2.2⟩, h.2.1, by omega⟩
theorem shortV_drop {l : List Val} (h : shortV l = true) (n : Nat) : shortV (l.drop n) = true := by
  unfold shortV at h ⊢
  simp only [Bool.and_eq_true, decide_eq_true_eq] at h ⊢
  exact ⟨by rw [List.length_drop]; omega, List.all_eq_true.2 fun b hb => List.all_eq_true.1 h.2 b (List.mem_of_mem_drop hb)⟩
theorem small_range {v : Val} (h : smallOk v = true) : 0 ≤ v.num ∧ v.num ≤ 65535 := by
  unfold smallOk at h
  simp only [Bool.and_eq_true, leI_eq, decide_eq_true_eq] at h
  exact ⟨h.1.2, h.2⟩
theorem spanOf_len {l : List Val} {c : Int} {m : Map} (h : (spanOf l c m).1 = true) : 2 ≤ l.length := by
  unfold spanOf at h
  cases hb : Nat.blt 1 l.length with
  | true => exact Nat.le_of_ble_eq_true hb
  | false => rw [hb] at h; cases h
def widB (l : List Val) : Bool := (widRun (l.length + 1) l []).1
def widM (l : List Val) : Map := (widRun (l.length + 1) l []).2
/-! ### kept from being reckoned -/
theorem sealed {α : Type} (f : α) : Nonempty {g : α // g = f} := ⟨⟨f, rfl⟩⟩
noncomputable def widB' : List Val → Bool := (Classical.choice (sealed widB)).1
theorem widB'_eq : widB' = widB := (Classical.choice (sealed widB)).2
noncomputable def widM' : List Val → Map := (Classical.choice (sealed widM)).1
theorem widM'_eq : widM' = widM := (Classical.choice (sealed widM)).2
noncomputable def shortV' : List Val → Bool := (Classical.choice (sealed shortV)).1
theorem shortV'_eq : shortV' = shortV := (Classical.choice (sealed shortV)).2
end Px
namespace Px
open Go.Vx Go
theorem mg_ms (a b k : Int) : ∀ m : Map, mg (ms m a b) k = if k = a then some b else mg m k
  | [] => by
    unfold ms mg
    by_cases h : k = a <;> simp [h]
  | x :: m => by
    have ih := mg_ms a b k m
    unfold ms
    by_cases h : a = x.1
    · subst h
      simp only [decide_true, if_true]
      unfold mg
      by_cases hk : k = x.1
      · simp [List.find?_cons, hk]
      · simp [List.find?_cons, hk]
    · have d : decide (a = x.1) = false := decide_eq_false h
      simp only [d, Bool.false_eq_true, if_false]
      unfold mg at ih ⊢
      by_cases hk : k = x.1
      · have hka : ¬ k = a := fun e => h (e.symm.trans hk)
        simp only [List.find?_cons, hk, decide_true]
        rw [if_neg (fun e => hka (hk.trans e))]
      · have dk : decide (k = x.1) = false := decide_eq_false hk
        simp only [List.find?_cons, dk]
        exact ih
theorem ms_same_len (a b : Int) : ∀ m : Map, (mg m a).isSome = true → (ms m a b).length = m.length
  | [], h => by simp [mg] at h
  | x :: m, h => by
    unfold ms
    by_cases e : a = x.1
    · simp [e]
    · have d : decide (a = x.1) = false := decide_eq_false e
      have h' : (mg m a).isSome = true := by
        unfold mg at h ⊢
        simpa [List.find?_cons, d] using h
      simp only [d, Bool.false_eq_true, if_false, List.length_cons, ms_same_len a b m h']
theorem mg_span : ∀ (n : Nat) (c w : Int) (m : Map) (k : Int), mg (spanRun n c w m) k = if c ≤ k ∧ k < c + n then some w else mg m k
  | 0, c, w, m, k => by
    unfold spanRun
    rw [if_neg (by omega)]
  | n + 1, c, w, m, k => by
    unfold spanRun
    rw [mg_span n (c + 1) w _ k, mg_ms]
    by_cases h1 : c + 1 ≤ k ∧ k < c + 1 + n
    · rw [if_pos h1, if_pos (by omega)]
    · rw [if_neg h1]
      by_cases h2 : k = c
      · rw [if_pos h2, if_pos (by omega)]
      · rw [if_neg h2, if_neg (by omega)]
theorem len_span : ∀ (n : Nat) (c w : Int) (m : Map), (∀ k, c ≤ k → mg m k = none) → (spanRun n c w m).length = m.length + n
  | 0, c, w, m, _ => rfl
  | n + 1, c, w, m, h => by
    unfold spanRun
    have hc := h c (Int.le_refl c)
    rw [len_span n (c + 1) w _ (fun k hk => by rw [mg_ms, if_neg (by omega)]; exact h k (by omega))]
    rw [ms_new c w m (by rw [hc]; rfl), List.length_append]
    simp only [List.length_cons, List.length_nil]
    omega
abbrev vNum (n : Int) : Val := Val.mk (2 : Int) n (0 : Int) [] [] []
abbrev vList (l : List Val) : Val := Val.mk (5 : Int) (0 : Int) (0 : Int) [] l []
theorem small_num {n : Int} (h0 : 0 ≤ n) (h1 : n ≤ 65535) : smallOk (vNum n) = true := by
  unfold smallOk
  simp only [Bool.and_eq_true, leI_eq, eqI_eq, decide_eq_true_eq]
  exact ⟨⟨rfl, h0⟩, h1⟩
abbrev spans (a b w z : Int) : List Val := [vNum a, vNum b, vNum w, vNum a, vList [vNum z]]
theorem span_of {a b w z : Int} (a0 : 0 ≤ a) (a1 : a ≤ 65535) (b0 : 0 ≤ b) (b1 : b ≤ 65535) (w0 : 0 ≤ w) (w1 : w ≤ 65535) :
    spanOf [vNum b, vNum w, vNum a, vList [vNum z]] a [] = cond (leI a b) (true, spanRun (b - a + 1).toNat a w []) (false, []) := by
  have e0 : ([vNum b, vNum w, vNum a, vList [vNum z]] : List Val).getD 0 vz = vNum b := rfl
  have e1 : ([vNum b, vNum w, vNum a, vList [vNum z]] : List Val).getD 1 vz = vNum w := rfl
  unfold spanOf
  rw [e0, e1, small_num b0 b1, small_num w0 w1]
  rfl
theorem row_of {a z : Int} (a1 : a ≤ 65535) (z0 : 0 ≤ z) (z1 : z ≤ 65535) (m : Map) : rowRun [vNum z] a m = (true, ms m a z) := by
  have e : leI a 65535 = true := by rw [leI_eq]; exact decide_eq_true a1
  simp only [rowRun, small_num z0 z1, e, Bool.and_self, cond_true]
  rfl
theorem wid_spans {a b w z : Int} (a0 : 0 ≤ a) (a1 : a ≤ 65535) (b0 : 0 ≤ b) (b1 : b ≤ 65535) (w0 : 0 ≤ w) (w1 : w ≤ 65535) (z0 : 0 ≤ z) (z1 : z ≤ 65535) :
    widRun 6 (spans a b w z) [] = cond (leI a b) (true, ms (spanRun (b - a + 1).toNat a w []) a z) (false, []) := by
  have k2 : eqI (vNum b).kind 5 = false := rfl
  have k5 : eqI (vList [vNum z]).kind 5 = true := rfl
  unfold widRun
  rw [small_num a0 a1, k2, cond_true, cond_false]
  have hn : (vNum a).num = a := rfl
  rw [hn, span_of a0 a1 b0 b1 w0 w1]
  cases leI a b with
  | false => rfl
  | true =>
    simp only [cond_true, List.drop_succ_cons, List.drop_zero]
    unfold widRun
    rw [small_num a0 a1, k5, cond_true, cond_true, hn]
    have hl : (vList [vNum z]).list = [vNum z] := rfl
    rw [hl, row_of a1 z0 z1]
    rfl
theorem spans_short (a b w z : Int) : shortV (spans a b w z) = true := rfl
/-- what is told of a span, a row behind it -/
theorem spans_facts {a b w z : Int} (hab : a ≤ b) : mg (ms (spanRun (b - a + 1).toNat a w []) a z) a = some z ∧ mg (ms (spanRun (b - a + 1).toNat a w []) a z) b = some (if a = b then z else w) ∧
    (ms (spanRun (b - a + 1).toNat a w []) a z).length = (b - a + 1).toNat := by
  have hg : ∀ k, mg ([] : Map) k = none := fun _ => rfl
  refine ⟨by rw [mg_ms, if_pos rfl], ?_, ?_⟩
  · rw [mg_ms]
    by_cases h : a = b
    · rw [if_pos h.symm, if_pos h]
    · rw [if_neg (fun e => h e.symm), if_neg h, mg_span, if_pos (by omega)]
  · rw [ms_same_len, len_span _ _ _ _ (fun k _ => hg k), List.length_nil, Nat.zero_add]
    rw [mg_span, if_pos (by omega)]
    rfl
end Px
namespace Go.Vx
open Go
noncomputable def G17 : FuncId → Option (Spec E) := fun _ => none
theorem hG17 (hL : Laws E) : ∀ f spec, G17 f = some spec → Valid E f spec := by
  intro f spec h
  cases h
noncomputable def w17 (a0 : List Val) : WTree (RV E.A × List (Obj E.A)) :=
 .ite (Nat.blt (0 : Nat) a0.length)
 (.ite (decide ((([] : List UInt8).length + a0.length) * (88 : Nat) ≤ (140737488355328 : Nat)))
  (.leaf (.lf (.sl .val ([] ++ a0)), []))
  (.fail))
 (.both
  (.leaf (.lf (.sl .val []), []))
  (.ite (decide ((([] : List UInt8).length + a0.length) * (88 : Nat) ≤ (140737488355328 : Nat)))
   (.leaf (.lf (.sl .val ([] ++ a0)), []))
   (.fail)))
theorem e17 (a0 : List Val) : execFun E G17 (fun _ _ => .fail) false Go.Proofs.Tryz.f17 [.lf (.sl .val a0)] [] some = (w17 a0).get := by kernel_rfl
noncomputable def raw17 : List (RV E.A) → List (Obj E.A) → Option (RV E.A × List (Obj E.A)) := fun args os => match args, os with
  | [.lf (.sl .val a0)], [] => (w17 a0).get
  | _, _ => none
theorem validraw17 (hL : Laws E) {spec : Spec E} (hs : ∀ args os x, (spec args os).get = some x → raw17 args os = some x) : Valid E 17 spec :=
  valid_of_body hL (hG17 hL) (Λ := fun _ _ => .fail) (fn := Go.Proofs.Tryz.f17) (keep := false) (by kernel_rfl) (by kernel_rfl) (by kernel_rfl) (LamOK.none (by kernel_rfl)) (fun args os r os' h => by
    have h := hs args os _ h
    unfold raw17 at h
    split at h
    · exact (e17 _).trans h
    · cases h)
/-- slices.Clone of values -/
noncomputable def spec17 : Spec E := fun args os => match args, os with
  | [.lf (.sl .val l)], [] => .ite (decide (l.length ≤ 1000000000)) (.leaf (.lf (.sl .val l), [])) .fail
  | _, _ => .fail
theorem eq17 (l : List Val) (h : l.length ≤ 1000000000) : (w17 l).get = some (.lf (.sl .val l), []) := by
  unfold w17
  have e1 : decide ((([] : List UInt8).length + l.length) * 88 ≤ 140737488355328) = true := decide_eq_true (by simp; omega)
  simp only [WTree.get, e1, cond_true, List.nil_append]
  cases l with
  | nil => exact bothO_same _
  | cons a l => rfl
theorem valid17 (hL : Laws E) : Valid E 17 spec17 := validraw17 hL (fun args os x h => by
  unfold spec17 at h
  split at h
  · rename_i l
    rcases Tree.get_ite_some h with ⟨h1, h⟩ | ⟨_, h⟩
    · injection h with h; subst h
      exact eq17 l (of_decide_eq_true h1)
    · cases h
  · cases h)
end Go.Vx
namespace Go.Vx
open Go
noncomputable def G7 : FuncId → Option (Spec E)
  | 17 => some spec17
  | _ => none
theorem hG7 (hL : Laws E) : ∀ f spec, G7 f = some spec → Valid E f spec := by
  intro f spec h
  unfold G7 at h
  split at h
  · injection h with h; subst h; exact valid17 hL
  · cases h
noncomputable def w7 (a0 : List Val) : Tree (RV E.A × List (Obj E.A)) :=
 .ite (decide (a0.length ≤ (1000000000 : Nat)))
 (.leaf (.agg [.int .u8 ((5 : Int)), .int .i64 ((0 : Int)), .int .i64 ((0 : Int)), .str [], .sl .val a0, .sl .str []], []))
 (.fail)
theorem e7 (a0 : List Val) : execFun E G7 (fun _ _ => .fail) false Go.Proofs.Tryz.f7 [.lf (.sl .val a0)] [] some = (w7 a0).get := by kernel_rfl
noncomputable def spec7 : Spec E := fun args os => match args, os with
  | [.lf (.sl .val a0)], [] => w7 a0
  | _, _ => .fail
theorem valid7 (hL : Laws E) : Valid E 7 spec7 :=
  valid_of_body hL (hG7 hL) (Λ := fun _ _ => .fail) (fn := Go.Proofs.Tryz.f7) (keep := false) (by kernel_rfl) (by kernel_rfl) (by kernel_rfl) (LamOK.none (by kernel_rfl)) (fun args os r os' h => by
    unfold spec7 at h
    split at h
    · exact (e7 _).trans h
    · cases h)
end Go.Vx
namespace Go.Vx
open Go
noncomputable def G8 : FuncId → Option (Spec E) := fun _ => none
theorem hG8 (hL : Laws E) : ∀ f spec, G8 f = some spec → Valid E f spec := by
  intro f spec h
  cases h
noncomputable def w8 (a0 : Int) : Tree (RV E.A × List (Obj E.A)) :=
 .leaf (.agg [.int .u8 ((2 : Int)), .int .i64 a0, .int .i64 ((0 : Int)), .str [], .sl .val [], .sl .str []], [])
theorem e8 (a0 : Int) : execFun E G8 (fun _ _ => .fail) false Go.Proofs.Tryz.f8 [.lf (.int .i64 a0)] [] some = (w8 a0).get := by kernel_rfl
noncomputable def spec8 : Spec E := fun args os => match args, os with
  | [.lf (.int .i64 a0)], [] => w8 a0
  | _, _ => .fail
theorem valid8 (hL : Laws E) : Valid E 8 spec8 :=
  valid_of_body hL (hG8 hL) (Λ := fun _ _ => .fail) (fn := Go.Proofs.Tryz.f8) (keep := false) (by kernel_rfl) (by kernel_rfl) (by kernel_rfl) (LamOK.none (by kernel_rfl)) (fun args os r os' h => by
    unfold spec8 at h
    split at h
    · exact (e8 _).trans h
    · cases h)
end Go.Vx
namespace Go.Vx
open Go
noncomputable def G14 : FuncId → Option (Spec E)
  | 7 => some spec7
  | 8 => some spec8
  | _ => none
theorem hG14 (hL : Laws E) : ∀ f spec, G14 f = some spec → Valid E f spec := by
  intro f spec h
  unfold G14 at h
  split at h
  · injection h with h; subst h; exact valid7 hL
  · injection h with h; subst h; exact valid8 hL
  · cases h
def L14_0 : Ex → Live
  | .normal => ⟨[2, 3, 10, 11, 12], [192]⟩
  | .exit 0 => ⟨[2, 3], [192]⟩
  | .ret => ⟨[2], [192]⟩
  | _ => ⟨[], []⟩
noncomputable def S14_0 (p10 : List Int) (p11 : Int) (x : (List Val) × Int × Int × Int × Int × (List UInt8) × (List Val) × (List (List UInt8))) : St E.A := at' E 27 [(2, .lf (.ptr 192 0 0)), (3, .lf (.own 0 0 .val x.1)), (10, .lf (.sl .i64 p10)), (11, .lf (.int .i64 p11)), (12, .lf (.int .i64 x.2.1))] [(192, some (.cells 27 [.int .u8 x.2.2.1, .int .i64 x.2.2.2.1, .int .i64 x.2.2.2.2.1, .str x.2.2.2.2.2.1, .own 1 0 .val x.2.2.2.2.2.2.1, .own 2 0 .str x.2.2.2.2.2.2.2]))]
noncomputable def t14_0 (p10 : List Int) (p11 : Int) (x : (List Val) × Int × Int × Int × Int × (List UInt8) × (List Val) × (List (List UInt8))) : Tree ((List Val) × Int × Int × Int × Int × (List UInt8) × (List Val) × (List (List UInt8)) ⊕ Out' E) :=
 .ite (ltI x.snd.fst p11)
 (.ite (inB x.snd.fst p10.length)
  (.ite (decide ((x.fst.length + [Val.mk (2 : Int) (p10.getD x.snd.fst.toNat (Int.ofNat (0 : Nat))) (0 : Int) [] [] []].length) * (88 : Nat) ≤ (140737488355328 : Nat)))
   (.leaf (.inl ((x.fst ++ [Val.mk (2 : Int) (p10.getD x.snd.fst.toNat (Int.ofNat (0 : Nat))) (0 : Int) [] [] []]), (IntKind.i64.wrap (x.snd.fst + (1 : Int))), x.snd.snd.fst, x.snd.snd.snd.fst, x.snd.snd.snd.snd.fst, x.snd.snd.snd.snd.snd.fst, x.snd.snd.snd.snd.snd.snd.fst, x.snd.snd.snd.snd.snd.snd.snd)))
   (.fail))
  (.fail))
 (.leaf (.inr (.exit 0, at' E 27 [(2, .lf (.ptr 192 0 0)), (3, .lf (.own 0 0 .val x.fst))] [(192, some (.cells 27 [.int .u8 x.snd.snd.fst, .int .i64 x.snd.snd.snd.fst, .int .i64 x.snd.snd.snd.snd.fst, .str x.snd.snd.snd.snd.snd.fst, .own 1 0 .val x.snd.snd.snd.snd.snd.snd.fst, .own 2 0 .str x.snd.snd.snd.snd.snd.snd.snd]))])))
theorem h14_0 (p10 : List Int) (p11 : Int) (x : (List Val) × Int × Int × Int × Int × (List UInt8) × (List Val) × (List (List UInt8))) (k : Ex → St E.A → Option Unit) :
    exec E G14 (fun _ _ => .fail) 1 (lb Go.Proofs.Tryz.f14 0) (S14_0 p10 p11 x) (fun e σ1 => k e (clean E (L14_0 e) σ1)) = (t14_0 p10 p11 x).run (Sum.elim (fun x' => k .normal (S14_0 p10 p11 x')) (fun o => k o.1 o.2)) := by kernel_rfl
end Go.Vx
namespace Px
open Go.Vx Go
/-- numbers as values -/
def numsV (l : List Int) : List Val := l.map fun n => Val.mk (2 : Int) n (0 : Int) [] [] []
end Px
namespace Go.Vx
open Go
noncomputable def lam14_0 (p10 : List Int) (p11 : Int) (x : (List Val) × Int × Int × Int × Int × (List UInt8) × (List Val) × (List (List UInt8))) : Tree (Out' E) :=
  .ite (eqI p11 p10.length && leI 0 x.2.1 && leI x.2.1 p11 && decide (p10.length ≤ 1000000000) && leI x.1.length x.2.1)
   (.leaf (.exit 0, at' E 27 [(2, .lf (.ptr 192 0 0)), (3, .lf (.own 0 0 .val (x.1 ++ Px.numsV (p10.drop x.2.1.toNat))))] [(192, some (.cells 27 [.int .u8 x.2.2.1, .int .i64 x.2.2.2.1, .int .i64 x.2.2.2.2.1, .str x.2.2.2.2.2.1, .own 1 0 .val x.2.2.2.2.2.2.1, .own 2 0 .str x.2.2.2.2.2.2.2]))])) .fail
theorem it14 (l : List Int) (hl : l.length ≤ 1000000000) (y : Int × Int × Int × (List UInt8) × (List Val) × (List (List UInt8))) : ∀ (n i : Nat) (r : List Val), l.length < n + i → i ≤ l.length → r.length ≤ i →
    iter (t14_0 l (l.length : Int)) n (r, (i : Int), y) = some (.exit 0, at' E 27 [(2, .lf (.ptr 192 0 0)), (3, .lf (.own 0 0 .val (r ++ Px.numsV (l.drop i))))] [(192, some (.cells 27 [.int .u8 y.1, .int .i64 y.2.1, .int .i64 y.2.2.1, .str y.2.2.2.1, .own 1 0 .val y.2.2.2.2.1, .own 2 0 .str y.2.2.2.2.2]))])
  | 0, i, r, h, h2, _ => by omega
  | n + 1, i, r, h, h2, h3 => by
    rw [iter]
    rcases Nat.lt_or_ge i l.length with hi | hi
    · have w1 : IntKind.i64.wrap ((i : Int) + 1) = ((i + 1 : Nat) : Int) := by rw [wi64] <;> omega
      have ht : (t14_0 l (l.length : Int) (r, (i : Int), y)).get = some (.inl (r ++ [Val.mk (2 : Int) (l.getD i 0) (0 : Int) [] [] []], ((i + 1 : Nat) : Int), y)) := by
        unfold t14_0
        rw [Tree.get_ite, ltI_nat hi, cond_true, Tree.get_ite, inB_nat hi, cond_true, Tree.get_ite, decide_eq_true (by simp only [List.length_cons, List.length_nil]; omega), cond_true, Tree.get_leaf, w1]
        rfl
      rw [ht]
      have ih := it14 l hl y n (i + 1) (r ++ [Val.mk (2 : Int) (l.getD i 0) (0 : Int) [] [] []]) (by omega) (by omega) (by simp only [List.length_append, List.length_cons, List.length_nil]; omega)
      rw [drop_cons l 0 i hi]
      have e : r ++ Px.numsV (l.getD i 0 :: l.drop (i + 1)) = r ++ [Val.mk (2 : Int) (l.getD i 0) (0 : Int) [] [] []] ++ Px.numsV (l.drop (i + 1)) := by
        unfold Px.numsV; simp
      rw [e]
      exact ih
    · obtain rfl : i = l.length := by omega
      have ht : (t14_0 l (l.length : Int) (r, (l.length : Int), y)).get = some (.inr (.exit 0, at' E 27 [(2, .lf (.ptr 192 0 0)), (3, .lf (.own 0 0 .val r))] [(192, some (.cells 27 [.int .u8 y.1, .int .i64 y.2.1, .int .i64 y.2.2.1, .str y.2.2.2.1, .own 1 0 .val y.2.2.2.2.1, .own 2 0 .str y.2.2.2.2.2]))])) := by
        unfold t14_0
        simp only [Tree.get_ite, ltI_self, cond_false, Tree.get_leaf]
      rw [ht, List.drop_length]
      have e : r ++ Px.numsV [] = r := List.append_nil r
      rw [e]
theorem m14_0 {p10 : List Int} {p11 : Int} {x : (List Val) × Int × Int × Int × Int × (List UInt8) × (List Val) × (List (List UInt8))} {e : Ex} {σ : St E.A} (_ : okLenR (E := E) (.lf (.own 0 0 .val x.1)) = true) (_ : okLenR (E := E) (.lf (.sl .i64 p10)) = true) (_ : okLenO (E := E) (.cells 27 [.int .u8 x.2.2.1, .int .i64 x.2.2.2.1, .int .i64 x.2.2.2.2.1, .str x.2.2.2.2.2.1, .own 1 0 .val x.2.2.2.2.2.2.1, .own 2 0 .str x.2.2.2.2.2.2.2]) = true)
    (h : (lam14_0 p10 p11 x).get = some (e, σ)) : ∃ fuel, iter (t14_0 p10 p11) fuel x = some (e, σ) ∧ e ≠ .normal := by
  obtain ⟨r, i, y⟩ := x
  unfold lam14_0 at h
  have h' := Tree.get_ite_some h
  clear h
  rcases h' with ⟨h1, h⟩ | ⟨_, h⟩
  · simp only [eqI_eq, leI_eq, Bool.and_eq_true, decide_eq_true_eq] at h1
    obtain ⟨⟨⟨⟨rfl, k1⟩, k2⟩, k3⟩, k4⟩ := h1
    obtain ⟨i, rfl⟩ : ∃ j : Nat, i = (j : Int) := ⟨i.toNat, by omega⟩
    rw [Int.toNat_natCast] at h
    refine ⟨p10.length + 1, (it14 p10 k3 y (p10.length + 1) i r (by omega) (Int.ofNat_le.1 k2) (Int.ofNat_le.1 k4)).trans h, ?_⟩
    injection h with h; injection h with h1 _; rw [← h1]; intro hh; cases hh
  · cases h
noncomputable def rd14_0 (σ : St E.A) : Tree (Out' E) :=
  let c := clean E (L14_0 .normal) σ
  if c.sl.length = 27 then
  match c.sl.getD 2 .undef, c.sl.getD 3 .undef, c.sl.getD 10 .undef, c.sl.getD 11 .undef, c.sl.getD 12 .undef, c.ob 192 with
  | .lf (.ptr 192 0 0), .lf (.own 0 0 .val x3), .lf (.sl .i64 p10), .lf (.int .i64 p11), .lf (.int .i64 x12), some (.cells 27 [.int .u8 o192a, .int .i64 o192b, .int .i64 o192c, .str o192d, .own 1 0 .val o192e, .own 2 0 .str o192f]) => lam14_0 p10 p11 (x3, x12, o192a, o192b, o192c, o192d, o192e, o192f)
  | _, _, _, _, _, _ => .fail
  else .fail
theorem ll14_0 (hL : Laws E) (σ : St E.A) (e : Ex) (σ' : St E.A) (h : (rd14_0 σ).get = some (e, σ')) : LoopOK E (lb Go.Proofs.Tryz.f14 0) σ e σ' := by
  refine LoopOK.of_clean hL (L14_0 .normal) ?_
  unfold rd14_0 at h
  simp only at h
  split at h
  · rename_i hlen
    split at h
    · rename_i x3 p10 p11 x12 o192a o192b o192c o192d o192e o192f h0 h1 h2 h3 h4 h5
      refine LoopOK.lens 3 (fun g0 => ?_)
      rw [h1] at g0
      refine LoopOK.lens 10 (fun g1 => ?_)
      rw [h2] at g1
      refine LoopOK.lensO 192 (fun gg => ?_)
      have g2 := gg _ h5
      obtain ⟨fuel, hi, ho⟩ := m14_0 g0 g1 g2 h
      have hl := loop_at (Γ := G14) (Λ := fun _ _ => .fail) (n := 1) (body := lb Go.Proofs.Tryz.f14 0) hL (hG14 hL) (S := S14_0 p10 p11) (t := t14_0 p10 p11) (Lv := L14_0) (LamOK.none (by kernel_rfl)) (h14_0 p10 p11) hi ho
      refine LoopOK.fit hlen ?_ ?_ rfl rfl hl
      · exact ⟨h0, h1, h2, h3, h4, trivial⟩
      · exact ⟨h5, trivial⟩
    · cases h
  · cases h
noncomputable def Lam14 : Lam E
  | 0, σ => rd14_0 σ
  | _, _ => .fail
noncomputable def w14 (a0 : List Int) : Tree (RV E.A × List (Obj E.A)) :=
 .ite (eqI (↑a0.length : Int) (0 : Int))
 (.leaf (.agg [.int .u8 ((5 : Int)), .int .i64 ((0 : Int)), .int .i64 ((0 : Int)), .str [], .sl .val [], .sl .str []], []))
 (.ite (eqI (↑a0.length : Int) (↑a0.length : Int) && leI (0 : Int) (0 : Int) && leI (0 : Int) (↑a0.length : Int) && decide (a0.length ≤ (1000000000 : Nat)) && leI (↑([] : List UInt8).length : Int) (0 : Int))
  (.ite (decide (([] ++ Px.numsV (List.drop (Int.toNat (0 : Int)) a0)).length ≤ (1000000000 : Nat)))
   (.leaf (.agg [.int .u8 ((5 : Int)), .int .i64 ((0 : Int)), .int .i64 ((0 : Int)), .str [], .sl .val ([Val.mk (2 : Int) (0 : Int) (0 : Int) [] [] [], Val.mk (5 : Int) (0 : Int) (0 : Int) [] ([] ++ Px.numsV (List.drop (Int.toNat (0 : Int)) a0)) []]), .sl .str []], []))
   (.fail))
  (.fail))
theorem e14 (a0 : List Int) : execFun E G14 ((Lam14)) false Go.Proofs.Tryz.f14 [.lf (.sl .i64 a0)] [] some = (w14 a0).get := by kernel_rfl
noncomputable def raw14 : Spec E := fun args os => match args, os with
  | [.lf (.sl .i64 a0)], [] => w14 a0
  | _, _ => .fail
theorem validraw14 (hL : Laws E) : Valid E 14 raw14 :=
  valid_of_body hL (hG14 hL) (Λ := (Lam14)) (fn := Go.Proofs.Tryz.f14) (keep := false) (by kernel_rfl) (by kernel_rfl) (by kernel_rfl) ((LamOK.of (m := 1) (by kernel_rfl) (fun j hj σ e σ' hg => by
      match j, hj with
      | 0, _ => exact ll14_0 hL σ e σ' hg
      ))) (fun args os r os' h => by
    unfold raw14 at h
    split at h
    · exact (e14 _).trans h
    · cases h)
end Go.Vx
namespace Px
open Go.Vx Go
def buildL (l : List Int) : List Val := cond l.isEmpty [] [Val.mk (2 : Int) (0 : Int) (0 : Int) [] [] [], Val.mk (5 : Int) (0 : Int) (0 : Int) [] (numsV l) []]
noncomputable def buildL' : List Int → List Val := (Classical.choice (sealed buildL)).1
theorem buildL'_eq : buildL' = buildL := (Classical.choice (sealed buildL)).2
end Px
namespace Go.Vx
open Go
noncomputable def spec14 : Spec E := fun args os => match args, os with
  | [.lf (.sl .i64 l)], [] => .ite (decide (l.length ≤ 1000000000)) (.leaf (.agg [.int .u8 5, .int .i64 0, .int .i64 0, .str [], .sl .val (Px.buildL' l), .sl .str []], [])) .fail
  | _, _ => .fail
theorem eq14 (l : List Int) (h : l.length ≤ 1000000000) : (w14 l).get = some (.agg [.int .u8 5, .int .i64 0, .int .i64 0, .str [], .sl .val (Px.buildL l), .sl .str []], []) := by
  unfold w14
  cases l with
  | nil => rfl
  | cons a r =>
    have c0 : eqI ((a :: r).length : Int) 0 = false := by rw [eqI_eq, List.length_cons]; exact decide_eq_false (by omega)
    have g : (eqI ((a :: r).length : Int) ((a :: r).length : Int) && leI (0 : Int) 0 && leI (0 : Int) ((a :: r).length : Int) && decide ((a :: r).length ≤ (1000000000 : Nat)) && leI (([] : List UInt8).length : Int) 0) = true := by
      simp only [eqI_eq, leI_eq, Bool.and_eq_true, decide_eq_true_eq]
      exact ⟨⟨⟨⟨trivial, by omega⟩, by omega⟩, h⟩, by decide⟩
    have g2 : decide (([] ++ Px.numsV (List.drop (Int.toNat 0) (a :: r))).length ≤ (1000000000 : Nat)) = true := decide_eq_true (by
      show (Px.numsV (a :: r)).length ≤ _
      unfold Px.numsV; rw [List.length_map]; exact h)
    rw [Tree.get_ite, c0, cond_false, Tree.get_ite, g, cond_true, Tree.get_ite, g2, cond_true]
    rfl
theorem valid14 (hL : Laws E) : Valid E 14 spec14 := (validraw14 hL).less (fun args os x _ _ h => by
  unfold spec14 at h
  split at h
  · rcases Tree.get_ite_some h with ⟨h1, h⟩ | ⟨_, h⟩
    · rw [Px.buildL'_eq] at h
      exact (eq14 _ (of_decide_eq_true h1)).trans h
    · cases h
  · cases h)
end Go.Vx
namespace Go.Vx
open Go
noncomputable def G23 : FuncId → Option (Spec E) := fun _ => none
theorem hG23 (hL : Laws E) : ∀ f spec, G23 f = some spec → Valid E f spec := by
  intro f spec h
  cases h
noncomputable def w23 (l : List Val) : Tree (RV E.A × List (Obj E.A)) :=
 .leaf (.lf (.bool (eqI (↑([] : List UInt8).length : Int) (0 : Int))), [])
theorem e23 (l : List Val) : execFun E G23 (fun _ _ => .fail) false Go.Proofs.Tryz.f23 [.agg [.int .u8 5, .int .i64 0, .int .i64 0, .str [], .sl .val l, .sl .str []]] [] some = (w23 l).get := by kernel_rfl
noncomputable def w23_1 (n : Int) : Tree (RV E.A × List (Obj E.A)) :=
 .leaf (.lf (.bool (eqI (↑([] : List UInt8).length : Int) (0 : Int))), [])
theorem e23_1 (n : Int) : execFun E G23 (fun _ _ => .fail) false Go.Proofs.Tryz.f23 [.agg [.int .u8 2, .int .i64 n, .int .i64 0, .str [], .sl .val [], .sl .str []]] [] some = (w23_1 n).get := by kernel_rfl
noncomputable def spec23 : Spec E := fun args os => match args, os with
  | [.agg [.int .u8 5, .int .i64 0, .int .i64 0, .str [], .sl .val l, .sl .str []]], [] => w23 l
  | [.agg [.int .u8 2, .int .i64 n, .int .i64 0, .str [], .sl .val [], .sl .str []]], [] => w23_1 n
  | _, _ => .fail
theorem valid23 (hL : Laws E) : Valid E 23 spec23 :=
  valid_of_body hL (hG23 hL) (Λ := fun _ _ => .fail) (fn := Go.Proofs.Tryz.f23) (keep := false) (by kernel_rfl) (by kernel_rfl) (by kernel_rfl) (LamOK.none (by kernel_rfl)) (fun args os r os' h => by
    unfold spec23 at h
    split at h
    · exact (e23 _).trans h
    · exact (e23_1 _).trans h
    · cases h)
end Go.Vx
namespace Go.Vx
open Go
end Go.Vx
namespace Px
open Go.Vx Go
def isNum (v : Val) : Bool := eqI v.kind 2 && eqI v.gen 0 && v.text.isEmpty && v.list.isEmpty && v.keys.isEmpty
/-- a number, or an array of such, so deep -/
def numV : Nat → Val → Bool
  | 0, _ => false
  | n + 1, v => isNum v || (eqI v.kind 5 && eqI v.num 0 && eqI v.gen 0 && v.text.isEmpty && v.keys.isEmpty && decide (v.list.length ≤ 1000000000) && v.list.all (numV n))
end Px
namespace Go.Vx
open Go
noncomputable def spec21N (n : Nat) : Spec E := fun args os => match args, os with
  | [.agg [.int .u8 k, .int .i64 m, .int .i64 g, .str t, .sl .val l, .sl .str ks], .lf (.int .i64 d)], [] => .ite (Px.numV n (Val.mk k m g t l ks) && leI 0 d && leI d (30 - n)) (.leaf (.lf (.bool true), [])) .fail
  | _, _ => .fail
noncomputable def G21 (n : Nat) : FuncId → Option (Spec E)
  | 23 => some spec23
  | 21 => some (spec21N n)
  | _ => none
theorem hG21 (hL : Laws E) (n : Nat) (hN : Valid E 21 (spec21N n)) : ∀ f spec, (G21 n) f = some spec → Valid E f spec := by
  intro f spec h
  unfold G21 at h
  split at h
  · injection h with h; subst h; exact valid23 hL
  · injection h with h; subst h; exact hN
  · cases h
def L21_0 : Ex → Live
  | .normal => ⟨[1, 62, 63, 64], []⟩
  | .exit 1 => ⟨[], []⟩
  | .ret => ⟨[4], []⟩
  | _ => ⟨[], []⟩
noncomputable def S21_0 (p1 : Int) (p62 : List Val) (p63 : Int) (x : Int) : St E.A := at' E 74 [(1, .lf (.int .i64 p1)), (62, .lf (.sl .val p62)), (63, .lf (.int .i64 p63)), (64, .lf (.int .i64 x))] []
noncomputable def t21_0 (n : Nat) (p1 : Int) (p62 : List Val) (p63 : Int) (x : Int) : Tree ((Int) ⊕ Out' E) :=
 .ite (ltI x p63)
 (.ite (inB x p62.length)
  (.ite (Px.numV n (Val.mk (p62.getD x.toNat (Val.mk (0 : Int) (0 : Int) (0 : Int) [] [] [])).kind (p62.getD x.toNat (Val.mk (0 : Int) (0 : Int) (0 : Int) [] [] [])).num (p62.getD x.toNat (Val.mk (0 : Int) (0 : Int) (0 : Int) [] [] [])).gen (p62.getD x.toNat (Val.mk (0 : Int) (0 : Int) (0 : Int) [] [] [])).text (p62.getD x.toNat (Val.mk (0 : Int) (0 : Int) (0 : Int) [] [] [])).list (p62.getD x.toNat (Val.mk (0 : Int) (0 : Int) (0 : Int) [] [] [])).keys) && leI (0 : Int) (IntKind.i64.wrap (p1 + (1 : Int))) && leI (IntKind.i64.wrap (p1 + (1 : Int))) ((30 : Int) - (↑n : Int)))
   (.leaf (.inl ((IntKind.i64.wrap (x + (1 : Int))))))
   (.fail))
  (.fail))
 (.leaf (.inr (.exit 1, at' E 74 [] [])))
theorem h21_0 (n : Nat) (p1 : Int) (p62 : List Val) (p63 : Int) (x : Int) (k : Ex → St E.A → Option Unit) :
    exec E (G21 n) (fun _ _ => .fail) 1 (lb Go.Proofs.Tryz.f21 0) (S21_0 p1 p62 p63 x) (fun e σ1 => k e (clean E (L21_0 e) σ1)) = (t21_0 n p1 p62 p63 x).run (Sum.elim (fun x' => k .normal (S21_0 p1 p62 p63 x')) (fun o => k o.1 o.2)) := by kernel_rfl
noncomputable def lam21_0 (n : Nat) (p1 : Int) (p62 : List Val) (p63 : Int) (x : Int) : Tree (Out' E) :=
  .ite (eqI p63 p62.length && leI 0 x && leI x p63 && decide (p62.length ≤ 1000000000) && p62.all (Px.numV n) && leI 0 p1 && leI (p1 + 1) (30 - n)) (.leaf (.exit 1, at' E 74 [] [])) .fail
theorem it21 (n : Nat) (p1 : Int) (l : List Val) (hl : l.length ≤ 1000000000) (ha : l.all (Px.numV n) = true) (h0 : 0 ≤ p1) (h1 : p1 + 1 ≤ 30 - (n : Int)) : ∀ (k i : Nat), l.length < k + i → i ≤ l.length →
    iter (t21_0 n p1 l (l.length : Int)) k (i : Int) = some (.exit 1, at' E 74 [] [])
  | 0, i, h, h2 => by omega
  | k + 1, i, h, h2 => by
    rw [iter]
    rcases Nat.lt_or_ge i l.length with hi | hi
    · have w1 : IntKind.i64.wrap ((i : Int) + 1) = ((i + 1 : Nat) : Int) := by rw [wi64] <;> omega
      have w2 : IntKind.i64.wrap (p1 + 1) = p1 + 1 := by rw [wi64] <;> omega
      have hv := List.all_eq_true.1 ha _ (getD_mem (d := Px.vz) hi)
      have e1 : leI 0 (p1 + 1) = true := by rw [leI_eq]; exact decide_eq_true (by omega)
      have e2 : leI (p1 + 1) (30 - (n : Int)) = true := by rw [leI_eq]; exact decide_eq_true h1
      have ht : (t21_0 n p1 l (l.length : Int) (i : Int)).get = some (.inl ((i + 1 : Nat) : Int)) := by
        unfold t21_0
        simp only [Tree.get_ite, ltI_nat hi, inB_nat hi, cond_true, w1, w2, Int.toNat_natCast, Px.val_eta, hv, e1, e2, Bool.and_self, Tree.get_leaf]
      rw [ht]
      exact it21 n p1 l hl ha h0 h1 k (i + 1) (by omega) (by omega)
    · obtain rfl : i = l.length := by omega
      have ht : (t21_0 n p1 l (l.length : Int) (l.length : Int)).get = some (.inr (.exit 1, at' E 74 [] [])) := by
        unfold t21_0
        simp only [Tree.get_ite, ltI_self, cond_false, Tree.get_leaf]
      rw [ht]
theorem m21_0 {n : Nat} {p1 : Int} {p62 : List Val} {p63 x : Int} {e : Ex} {σ : St E.A} (_ : okLenR (E := E) (.lf (.sl .val p62)) = true)
    (h : (lam21_0 n p1 p62 p63 x).get = some (e, σ)) : ∃ fuel, iter (t21_0 n p1 p62 p63) fuel x = some (e, σ) ∧ e ≠ .normal := by
  unfold lam21_0 at h
  have h' := Tree.get_ite_some h
  clear h
  rcases h' with ⟨h1, h⟩ | ⟨_, h⟩
  · simp only [eqI_eq, leI_eq, Bool.and_eq_true, decide_eq_true_eq] at h1
    obtain ⟨⟨⟨⟨⟨⟨rfl, k1⟩, k2⟩, k3⟩, k4⟩, k5⟩, k6⟩ := h1
    obtain ⟨i, rfl⟩ : ∃ j : Nat, x = (j : Int) := ⟨x.toNat, by omega⟩
    refine ⟨p62.length + 1, (it21 n p1 p62 k3 k4 k5 k6 (p62.length + 1) i (by omega) (Int.ofNat_le.1 k2)).trans h, ?_⟩
    injection h with h; injection h with h1 _; rw [← h1]; intro hh; cases hh
  · cases h
noncomputable def rd21_0 (n : Nat) (σ : St E.A) : Tree (Out' E) :=
  let c := clean E (L21_0 .normal) σ
  if c.sl.length = 74 then
  match c.sl.getD 1 .undef, c.sl.getD 62 .undef, c.sl.getD 63 .undef, c.sl.getD 64 .undef with
  | .lf (.int .i64 p1), .lf (.sl .val p62), .lf (.int .i64 p63), .lf (.int .i64 x64) => lam21_0 n p1 p62 p63 (x64)
  | _, _, _, _ => .fail
  else .fail
theorem ll21_0 (hL : Laws E) (n : Nat) (hN : Valid E 21 (spec21N n)) (σ : St E.A) (e : Ex) (σ' : St E.A) (h : (rd21_0 n σ).get = some (e, σ')) : LoopOK E (lb Go.Proofs.Tryz.f21 0) σ e σ' := by
  refine LoopOK.of_clean hL (L21_0 .normal) ?_
  unfold rd21_0 at h
  simp only at h
  split at h
  · rename_i hlen
    split at h
    · rename_i p1 p62 p63 x64 h0 h1 h2 h3
      refine LoopOK.lens 62 (fun g0 => ?_)
      rw [h1] at g0
      obtain ⟨fuel, hi, ho⟩ := m21_0 g0 h
      have hl := loop_at (Γ := (G21 n)) (Λ := fun _ _ => .fail) (n := 1) (body := lb Go.Proofs.Tryz.f21 0) hL (hG21 hL n hN) (S := S21_0 p1 p62 p63) (t := t21_0 n p1 p62 p63) (Lv := L21_0) (LamOK.none (by kernel_rfl)) (h21_0 n p1 p62 p63) hi ho
      refine LoopOK.fit hlen ?_ ?_ rfl rfl hl
      · exact ⟨h0, h1, h2, h3, trivial⟩
      · exact trivial
    · cases h
  · cases h
noncomputable def Lam21 (n : Nat) : Lam E
  | 0, σ => rd21_0 n σ
  | _, _ => .fail
noncomputable def w21 (n : Nat) (l : List Val) (d : Int) : Tree (RV E.A × List (Obj E.A)) :=
 .ite (ltI (32 : Int) d)
 (.leaf (.lf (.bool false), []))
 (.ite (eqI (↑l.length : Int) (↑l.length : Int) && leI (0 : Int) (0 : Int) && leI (0 : Int) (↑l.length : Int) && decide (l.length ≤ (1000000000 : Nat)) && l.all (Px.numV n) && leI (0 : Int) d && leI (d + (1 : Int)) ((30 : Int) - (↑n : Int)))
  (.leaf (.lf (.bool true), []))
  (.fail))
theorem e21 (n : Nat) (l : List Val) (d : Int) : execFun E (G21 n) ((Lam21 n)) false Go.Proofs.Tryz.f21 [.agg [.int .u8 5, .int .i64 0, .int .i64 0, .str [], .sl .val l, .sl .str []], .lf (.int .i64 d)] [] some = (w21 n l d).get := by kernel_rfl
noncomputable def w21_1 (n : Nat) (m : Int) (d : Int) : Tree (RV E.A × List (Obj E.A)) :=
 .ite (ltI (32 : Int) d)
 (.leaf (.lf (.bool false), []))
 (.ite (eqI (↑([] : List UInt8).length : Int) (↑([] : List UInt8).length : Int) && leI (0 : Int) (0 : Int) && leI (0 : Int) (↑([] : List UInt8).length : Int) && decide (([] : List UInt8).length ≤ (1000000000 : Nat)) && [].all (Px.numV n) && leI (0 : Int) d && leI (d + (1 : Int)) ((30 : Int) - (↑n : Int)))
  (.leaf (.lf (.bool true), []))
  (.fail))
theorem e21_1 (n : Nat) (m : Int) (d : Int) : execFun E (G21 n) ((Lam21 n)) false Go.Proofs.Tryz.f21 [.agg [.int .u8 2, .int .i64 m, .int .i64 0, .str [], .sl .val [], .sl .str []], .lf (.int .i64 d)] [] some = (w21_1 n m d).get := by kernel_rfl
noncomputable def raw21 (n : Nat) : Spec E := fun args os => match args, os with
  | [.agg [.int .u8 5, .int .i64 0, .int .i64 0, .str [], .sl .val l, .sl .str []], .lf (.int .i64 d)], [] => w21 n l d
  | [.agg [.int .u8 2, .int .i64 m, .int .i64 0, .str [], .sl .val [], .sl .str []], .lf (.int .i64 d)], [] => w21_1 n m d
  | _, _ => .fail
theorem validraw21 (hL : Laws E) (n : Nat) (hN : Valid E 21 (spec21N n)) : Valid E 21 (raw21 n) :=
  valid_of_body hL (hG21 hL n hN) (Λ := (Lam21 n)) (fn := Go.Proofs.Tryz.f21) (keep := false) (by kernel_rfl) (by kernel_rfl) (by kernel_rfl) ((LamOK.of (m := 1) (by kernel_rfl) (fun j hj σ e σ' hg => by
      match j, hj with
      | 0, _ => exact ll21_0 hL n hN σ e σ' hg
      ))) (fun args os r os' h => by
    unfold raw21 at h
    split at h
    · exact (e21 _ _ _).trans h
    · exact (e21_1 _ _ _).trans h
    · cases h)
theorem num_of {k m g : Int} {t : List UInt8} {l : List Val} {ks : List (List UInt8)} (h : Px.isNum (Val.mk k m g t l ks) = true) : k = 2 ∧ g = 0 ∧ t = [] ∧ l = [] ∧ ks = [] := by
  unfold Px.isNum at h
  simp only [Bool.and_eq_true, eqI_eq, decide_eq_true_eq, List.isEmpty_iff] at h
  exact ⟨h.1.1.1.1, h.1.1.1.2, h.1.1.2, h.1.2, h.2⟩
theorem eq21 (n : Nat) (l : List Val) (d : Int) (e6 : l.length ≤ 1000000000) (e7 : l.all (Px.numV n) = true) (d1 : ltI 32 d = false) (d2 : leI 0 d = true) (d3 : leI (d + 1) (30 - (n : Int)) = true) : (w21 n l d).get = some (.lf (.bool true), []) := by
  unfold w21
  have g1 : (eqI (l.length : Int) (l.length : Int) && leI (0 : Int) 0 && leI (0 : Int) (l.length : Int) && decide (l.length ≤ (1000000000 : Nat))) = true := by
    simp only [eqI_eq, leI_eq, Bool.and_eq_true, decide_eq_true_eq]
    exact ⟨⟨⟨trivial, by omega⟩, by omega⟩, e6⟩
  rw [Tree.get_ite, d1, cond_false, Tree.get_ite, g1, e7, d2, d3]
  rfl
theorem valid21N (hL : Laws E) : ∀ n, Valid E 21 (spec21N n)
  | 0 => Valid.less (Valid.never (fun _ _ => rfl) : Valid E 21 (fun _ _ => .fail)) (fun args os x _ _ h => by
      unfold spec21N at h
      split at h
      · rcases Tree.get_ite_some h with ⟨h1, h⟩ | ⟨_, h⟩
        · cases h1
        · cases h
      · cases h)
  | n + 1 => (validraw21 hL n (valid21N hL n)).less (fun args os x q1 q2 h => by
      clear q1 q2
      unfold spec21N at h
      split at h
      · rename_i k m g t l ks d
        rcases Tree.get_ite_some h with ⟨h1, h⟩ | ⟨_, h⟩
        · simp only [Bool.and_eq_true, leI_eq, decide_eq_true_eq] at h1
          obtain ⟨⟨h1, h2⟩, h3⟩ := h1
          injection h with h; subst h
          have d1 : ltI 32 d = false := by rw [ltI_eq]; exact decide_eq_false (by omega)
          have d2 : leI 0 d = true := by rw [leI_eq]; exact decide_eq_true h2
          have d3 : leI (d + 1) (30 - (n : Int)) = true := by rw [leI_eq]; exact decide_eq_true (by omega)
          unfold Px.numV at h1
          rw [Bool.or_eq_true] at h1
          rcases h1 with h1 | h1
          · obtain ⟨rfl, rfl, rfl, rfl, rfl⟩ := num_of h1
            show (w21_1 n m d).get = _
            unfold w21_1
            rw [Tree.get_ite, d1, cond_false, Tree.get_ite, d2, d3]
            rfl
          · simp only [Bool.and_eq_true, eqI_eq, decide_eq_true_eq, List.isEmpty_iff] at h1
            obtain ⟨⟨⟨⟨⟨⟨e1, e2⟩, e3⟩, e4⟩, e5⟩, e6⟩, e7⟩ := h1
            change k = 5 at e1; change m = 0 at e2; change g = 0 at e3; change t = [] at e4; change ks = [] at e5
            subst e1; subst e2; subst e3; subst e4; subst e5
            change l.length ≤ 1000000000 at e6
            change l.all (Px.numV n) = true at e7
            exact eq21 n l d e6 e7 d1 d2 d3
        · cases h
      · cases h)
noncomputable def spec21 : Spec E := spec21N 3
theorem valid21 (hL : Laws E) : Valid E 21 spec21 := valid21N hL 3
end Go.Vx
namespace Go.Vx
open Go
noncomputable def G15 : FuncId → Option (Spec E)
  | 21 => some spec21
  | _ => none
theorem hG15 (hL : Laws E) : ∀ f spec, G15 f = some spec → Valid E f spec := by
  intro f spec h
  unfold G15 at h
  split at h
  · injection h with h; subst h; exact valid21 hL
  · cases h
noncomputable def w15 (a0Kind : Int) (a0Num : Int) (a0Gen : Int) (a0Text : List UInt8) (a0List : List Val) (a0Keys : List (List UInt8)) : Tree (RV E.A × List (Obj E.A)) :=
 .ite (Px.numV (3 : Nat) (Val.mk a0Kind a0Num a0Gen a0Text a0List a0Keys) && leI (0 : Int) (0 : Int) && leI (0 : Int) ((30 : Int) - (↑(3 : Nat) : Int)))
 (.leaf (.lf (.bool true), []))
 (.fail)
theorem e15 (a0Kind : Int) (a0Num : Int) (a0Gen : Int) (a0Text : List UInt8) (a0List : List Val) (a0Keys : List (List UInt8)) : execFun E G15 (fun _ _ => .fail) false Go.Proofs.Tryz.f15 [.agg [.int .u8 a0Kind, .int .i64 a0Num, .int .i64 a0Gen, .str a0Text, .sl .val a0List, .sl .str a0Keys]] [] some = (w15 a0Kind a0Num a0Gen a0Text a0List a0Keys).get := by kernel_rfl
noncomputable def raw15 : Spec E := fun args os => match args, os with
  | [.agg [.int .u8 a0Kind, .int .i64 a0Num, .int .i64 a0Gen, .str a0Text, .sl .val a0List, .sl .str a0Keys]], [] => w15 a0Kind a0Num a0Gen a0Text a0List a0Keys
  | _, _ => .fail
theorem validraw15 (hL : Laws E) : Valid E 15 raw15 :=
  valid_of_body hL (hG15 hL) (Λ := fun _ _ => .fail) (fn := Go.Proofs.Tryz.f15) (keep := false) (by kernel_rfl) (by kernel_rfl) (by kernel_rfl) (LamOK.none (by kernel_rfl)) (fun args os r os' h => by
    unfold raw15 at h
    split at h
    · exact (e15 _ _ _ _ _ _).trans h
    · cases h)
end Go.Vx
namespace Px
open Go.Vx Go
def num3 (v : Val) : Bool := numV 3 v
noncomputable def num3' : Val → Bool := (Classical.choice (sealed num3)).1
theorem num3'_eq : num3' = num3 := (Classical.choice (sealed num3)).2
end Px
namespace Go.Vx
open Go
noncomputable def spec15 : Spec E := fun args os => match args, os with
  | [.agg [.int .u8 k, .int .i64 m, .int .i64 g, .str t, .sl .val l, .sl .str ks]], [] => .ite (Px.num3' (Val.mk k m g t l ks)) (.leaf (.lf (.bool true), [])) .fail
  | _, _ => .fail
theorem eq15 (k m g : Int) (t : List UInt8) (l : List Val) (ks : List (List UInt8)) (h : Px.numV 3 (Val.mk k m g t l ks) = true) : (w15 k m g t l ks).get = some (.lf (.bool true), []) := by
  unfold w15
  rw [Tree.get_ite, h]
  rfl
theorem valid15 (hL : Laws E) : Valid E 15 spec15 := (validraw15 hL).less (fun args os x _ _ h => by
  unfold spec15 at h
  split at h
  · rcases Tree.get_ite_some h with ⟨h1, h⟩ | ⟨_, h⟩
    · rw [Px.num3'_eq] at h1
      exact (eq15 _ _ _ _ _ _ h1).trans h
    · cases h
  · cases h)
end Go.Vx
namespace Px
open Go.Vx Go
/-- codes in order, each with its number -/
def rowM : List Int → Int → Map → Map
  | [], _, m => m
  | n :: r, c, m => rowM r (c + 1) (ms m c n)
def all16 (l : List Int) : Bool := l.all fun x => leI 0 x && leI x 65535
theorem all16_cons {n : Int} {l : List Int} (h : all16 (n :: l) = true) : (0 ≤ n ∧ n ≤ 65535) ∧ all16 l = true := by
  unfold all16 at h ⊢
  simp only [List.all_cons, Bool.and_eq_true, leI_eq, decide_eq_true_eq] at h ⊢
  exact ⟨h.1, h.2⟩
theorem row_nums : ∀ (l : List Int) (c : Int) (m : Map), all16 l = true → 0 ≤ c → c + l.length ≤ 65536 → rowRun (numsV l) c m = (true, rowM l c m)
  | [], c, m, _, _, _ => rfl
  | n :: l, c, m, h, h0, h1 => by
    obtain ⟨⟨a, b⟩, h'⟩ := all16_cons h
    rw [List.length_cons] at h1
    have e : leI c 65535 = true := by rw [leI_eq]; exact decide_eq_true (by omega)
    have ih := row_nums l (c + 1) (ms m c n) h' (by omega) (by omega)
    show rowRun (vNum n :: numsV l) c m = _
    unfold rowRun rowM
    rw [small_num a b, e]
    exact ih
theorem row_last : ∀ (l : List Int) (z c : Int) (m : Map), all16 l = true → 0 ≤ c → c + l.length ≤ 65535 → (rowRun (numsV (l ++ [z])) c m).1 = smallOk (vNum z)
  | [], z, c, m, _, h0, h1 => by
    have e : leI c 65535 = true := by rw [leI_eq]; exact decide_eq_true (by simp at h1; omega)
    show (rowRun [vNum z] c m).1 = _
    unfold rowRun
    rw [e, Bool.and_true]
    cases smallOk (vNum z) <;> rfl
  | n :: l, z, c, m, h, h0, h1 => by
    obtain ⟨⟨a, b⟩, h'⟩ := all16_cons h
    rw [List.length_cons] at h1
    have e : leI c 65535 = true := by rw [leI_eq]; exact decide_eq_true (by omega)
    have ih := row_last l z (c + 1) (ms m c n) h' (by omega) (by omega)
    show (rowRun (vNum n :: numsV (l ++ [z])) c m).1 = _
    unfold rowRun
    rw [small_num a b, e]
    exact ih
theorem mg_row : ∀ (l : List Int) (c : Int) (m : Map) (k : Int), mg (rowM l c m) k = if c ≤ k ∧ k < c + l.length then some (l.getD (k - c).toNat 0) else mg m k
  | [], c, m, k => by
    unfold rowM
    rw [if_neg (fun h => by have := h.2; rw [List.length_nil] at this; omega)]
  | n :: l, c, m, k => by
    unfold rowM
    rw [mg_row l (c + 1) _ k, mg_ms, List.length_cons]
    by_cases h1 : c + 1 ≤ k ∧ k < c + 1 + l.length
    · rw [if_pos h1, if_pos (by omega)]
      have e : (k - c).toNat = (k - (c + 1)).toNat + 1 := by omega
      rw [e, List.getD_cons_succ]
    · rw [if_neg h1]
      by_cases h2 : k = c
      · rw [if_pos h2, if_pos (by omega)]
        have e : (k - c).toNat = 0 := by omega
        rw [e, List.getD_cons_zero]
      · rw [if_neg h2, if_neg (by omega)]
theorem len_row : ∀ (l : List Int) (c : Int) (m : Map), (∀ k, c ≤ k → mg m k = none) → (rowM l c m).length = m.length + l.length
  | [], c, m, _ => rfl
  | n :: l, c, m, h => by
    unfold rowM
    have hc := h c (Int.le_refl c)
    rw [len_row l (c + 1) (ms m c n) (fun k hk => by rw [mg_ms, if_neg (by omega)]; exact h k (by omega))]
    rw [ms_new c n m (by rw [hc]; rfl), List.length_append]
    simp only [List.length_cons, List.length_nil]
    omega
theorem wid_two (l : List Val) : widRun 3 [Val.mk (2 : Int) (0 : Int) (0 : Int) [] [] [], Val.mk (5 : Int) (0 : Int) (0 : Int) [] l []] [] = ((rowRun l 0 []).1, (rowRun l 0 []).2) := by
  have k5 : eqI (vList l).kind 5 = true := rfl
  have k0 : smallOk (vNum 0) = true := rfl
  show widRun 3 [vNum 0, vList l] [] = _
  unfold widRun
  rw [k0, k5, cond_true, cond_true]
  show cond (rowRun l 0 []).1 (widRun 2 [] (rowRun l 0 []).2) (false, (rowRun l 0 []).2) = _
  cases (rowRun l 0 []).1 <;> rfl
theorem wid_build (l : List Int) : widB (buildL l) = (l.isEmpty || (rowRun (numsV l) 0 []).1) ∧ widM (buildL l) = cond l.isEmpty [] (rowRun (numsV l) 0 []).2 := by
  cases l with
  | nil => exact ⟨rfl, rfl⟩
  | cons a r =>
    have h := wid_two (numsV (a :: r))
    exact ⟨congrArg Prod.fst h, congrArg Prod.snd h⟩
theorem numsV_len (l : List Int) : (numsV l).length = l.length := List.length_map ..
theorem numsV_short (l : List Int) : ∀ v ∈ numsV l, v.list.length ≤ 1000000000 ∧ isNum v = true := by
  intro v hv
  obtain ⟨n, _, rfl⟩ := List.mem_map.1 hv
  exact ⟨Nat.zero_le _, rfl⟩
theorem short_build (l : List Int) (h : l.length ≤ 1000000000) : shortV (buildL l) = true := by
  cases l with
  | nil => rfl
  | cons a r =>
    show shortV [Val.mk (2 : Int) (0 : Int) (0 : Int) [] [] [], Val.mk (5 : Int) (0 : Int) (0 : Int) [] (numsV (a :: r)) []] = true
    unfold shortV
    simp only [List.all_cons, List.all_nil, Bool.and_eq_true, decide_eq_true_eq, Bool.and_true]
    refine ⟨Nat.le_of_ble_eq_true rfl, Nat.zero_le _, ?_⟩
    show (numsV (a :: r)).length ≤ _
    rw [numsV_len]; exact h
theorem num3_build (l : List Int) (h : l.length ≤ 1000000000) : num3 (Val.mk (5 : Int) (0 : Int) (0 : Int) [] (buildL l) []) = true := by
  have h1 : numV 1 = fun v => isNum v || (eqI v.kind 5 && eqI v.num 0 && eqI v.gen 0 && v.text.isEmpty && v.keys.isEmpty && decide (v.list.length ≤ 1000000000) && v.list.all (numV 0)) := by funext v; rfl
  have hl : (numsV l).all (numV 1) = true := List.all_eq_true.2 fun v hv => by
    rw [h1]; simp only [(numsV_short l v hv).2, Bool.true_or]
  have hn : numV 2 (Val.mk (2 : Int) (0 : Int) (0 : Int) [] [] []) = true := rfl
  have hm : numV 2 (Val.mk (5 : Int) (0 : Int) (0 : Int) [] (numsV l) []) = true := by
    unfold numV
    rw [Bool.or_eq_true]
    refine .inr ?_
    show (true && true && true && true && true && decide ((numsV l).length ≤ 1000000000) && (numsV l).all (numV 1)) = true
    rw [hl, numsV_len, decide_eq_true h]; rfl
  unfold num3 numV
  rw [Bool.or_eq_true]
  refine .inr ?_
  show (true && true && true && true && true && decide ((buildL l).length ≤ 1000000000) && (buildL l).all (numV 2)) = true
  cases l with
  | nil => rfl
  | cons a r =>
    have e : buildL (a :: r) = [Val.mk (2 : Int) (0 : Int) (0 : Int) [] [] [], Val.mk (5 : Int) (0 : Int) (0 : Int) [] (numsV (a :: r)) []] := rfl
    rw [e]
    simp only [List.all_cons, List.all_nil, hn, hm, List.length_cons, List.length_nil]
    rfl
theorem told_row {l : List Int} (h : all16 l = true) (hl : l.length ≤ 60) : widB (buildL l) = true ∧ (widM (buildL l)).length = l.length ∧ (∀ i : Nat, i < l.length → mg (widM (buildL l)) (i : Int) = some (l.getD i 0)) ∧ mg (widM (buildL l)) (l.length : Int) = none := by
  have hr := row_nums l 0 [] h (Int.le_refl 0) (by omega)
  have hb := wid_build l
  have hn : ∀ k, mg ([] : Map) k = none := fun _ => rfl
  rw [hr] at hb
  have hm : widM (buildL l) = rowM l 0 [] := by
    rw [hb.2]; cases l <;> rfl
  rw [hb.1, hm]
  refine ⟨by rw [Bool.or_true], ?_, ?_, ?_⟩
  · rw [len_row l 0 [] (fun k _ => hn k), List.length_nil, Nat.zero_add]
  · intro i hi
    rw [mg_row, if_pos (by omega)]
    rw [show ((i : Int) - 0).toNat = i by omega]
  · rw [mg_row, if_neg (by omega)]; rfl
theorem last_row {l : List Int} (z : Int) (h : all16 l = true) (hl : l.length ≤ 60) : widB (buildL (l ++ [z])) = smallOk (vNum z) := by
  rw [(wid_build (l ++ [z])).1, row_last l z 0 [] h (Int.le_refl 0) (by omega)]
  cases l <;> rfl
end Px
namespace Px
open Go.Vx Go
abbrev bads (a : Int) : List Val := [vNum 5, Val.mk (3 : Int) (0 : Int) (0 : Int) [(87 : UInt8)] [] [], vList [vNum a], vList [vNum a, vNum a], vList [Val.mk (3 : Int) (0 : Int) (0 : Int) [(65 : UInt8)] [] [], vList []],
  vList [vNum a, vList [vList []]], vList [vNum a, vNum a, Val.mk (7 : Int) (1 : Int) (0 : Int) [] [] []], vz]
theorem bads_ok {a : Int} (h0 : 0 ≤ a) (h1 : a ≤ 65535) : ∀ v ∈ bads a, eqI v.kind 5 = false ∨ (shortV v.list = true ∧ widB v.list = false) := by
  have sm := small_num h0 h1
  have k2 : eqI (vNum a).kind 5 = false := rfl
  have k5 : ∀ l, eqI (vList l).kind 5 = true := fun _ => rfl
  intro v hv
  simp only [List.mem_cons, List.not_mem_nil, or_false] at hv
  rcases hv with rfl | rfl | rfl | rfl | rfl | rfl | rfl | rfl
  · exact .inl rfl
  · exact .inl rfl
  · exact .inr ⟨rfl, rfl⟩
  · refine .inr ⟨rfl, ?_⟩
    show (widRun 3 [vNum a, vNum a] []).1 = false
    unfold widRun
    rw [sm, k2, cond_true, cond_false]
    rfl
  · exact .inr ⟨rfl, rfl⟩
  · refine .inr ⟨rfl, ?_⟩
    show (widRun 3 [vNum a, vList [vList []]] []).1 = false
    unfold widRun
    rw [sm, k5, cond_true, cond_true]
    rfl
  · refine .inr ⟨rfl, ?_⟩
    have hs : smallOk (Val.mk (7 : Int) (1 : Int) (0 : Int) [] [] []) = false := rfl
    show (widRun 4 [vNum a, vNum a, Val.mk (7 : Int) (1 : Int) (0 : Int) [] [] []] []).1 = false
    unfold widRun
    rw [sm, k2, cond_true, cond_false]
    have e : spanOf [vNum a, Val.mk (7 : Int) (1 : Int) (0 : Int) [] [] []] (vNum a).num [] = (false, []) := by
      unfold spanOf
      have e0 : ([vNum a, Val.mk (7 : Int) (1 : Int) (0 : Int) [] [] []] : List Val).getD 0 vz = vNum a := rfl
      have e1 : ([vNum a, Val.mk (7 : Int) (1 : Int) (0 : Int) [] [] []] : List Val).getD 1 vz = Val.mk (7 : Int) (1 : Int) (0 : Int) [] [] [] := rfl
      rw [e0, e1, sm, hs, Bool.and_false, Bool.false_and, cond_false]
    rw [e]
    rfl
  · exact .inl rfl
theorem seven_fits : ∀ (n : Nat) (c : Int) (m : Map), 0 ≤ c → c ≤ 65536 → (rowRun (List.replicate n (vNum 7)) c m).1 = leI (c + n) 65536
  | 0, c, m, h0, h1 => by
    rw [leI_eq, decide_eq_true (by omega)]; rfl
  | n + 1, c, m, h0, h1 => by
    have hs : smallOk (vNum 7) = true := rfl
    rw [List.replicate_succ]
    unfold rowRun
    rw [hs, Bool.true_and]
    cases q : leI c 65535 with
    | true =>
      rw [leI_eq, decide_eq_true_eq] at q
      rw [cond_true, seven_fits n (c + 1) _ (by omega) (by omega), leI_eq, leI_eq]
      exact decide_eq_decide.2 (by omega)
    | false =>
      rw [leI_eq, decide_eq_false_iff_not] at q
      rw [cond_false, leI_eq, decide_eq_false (by omega)]
theorem sevens_nums (n : Nat) : List.replicate n (vNum 7) = numsV (List.replicate n 7) := by
  unfold numsV; rw [List.map_replicate]
theorem all16_seven (n : Nat) : all16 (List.replicate n 7) = true := List.all_eq_true.2 fun x hx => by
  rw [(List.mem_replicate.1 hx).2]; rfl
theorem wid_row {a : Int} (h0 : 0 ≤ a) (h1 : a ≤ 65535) (n : Nat) : widB [vNum a, vList (List.replicate n (vNum 7))] = leI (a + n) 65536 ∧
    (leI (a + n) 65536 = true → (widM [vNum a, vList (List.replicate n (vNum 7))]).length = n) := by
  have sm := small_num h0 h1
  have k5 : eqI (vList (List.replicate n (vNum 7))).kind 5 = true := rfl
  have hr : widRun 3 [vNum a, vList (List.replicate n (vNum 7))] [] = rowRun (List.replicate n (vNum 7)) a [] := by
    unfold widRun
    rw [sm, k5, cond_true, cond_true]
    show cond (rowRun (List.replicate n (vNum 7)) a []).1 (true, (rowRun (List.replicate n (vNum 7)) a []).2) (false, (rowRun (List.replicate n (vNum 7)) a []).2) = _
    generalize rowRun (List.replicate n (vNum 7)) a [] = x
    obtain ⟨b, m⟩ := x
    cases b <;> rfl
  refine ⟨(congrArg Prod.fst hr).trans (seven_fits n a [] h0 (by omega)), fun hf => ?_⟩
  rw [leI_eq, decide_eq_true_eq] at hf
  have hn : ∀ k, mg ([] : Map) k = none := fun _ => rfl
  have e : widM [vNum a, vList (List.replicate n (vNum 7))] = (rowRun (List.replicate n (vNum 7)) a []).2 := congrArg Prod.snd hr
  rw [e, sevens_nums, row_nums _ a [] (all16_seven n) h0 (by rw [List.length_replicate]; omega), len_row _ a [] (fun k _ => hn k), List.length_replicate, List.length_nil, Nat.zero_add]
end Px
namespace Go.Vx
open Go
/-- internal/bytealg.IndexByteString -/
def spec53 : Spec E := fun args os => match args with
  | [.lf (.str s), .lf (.int .u8 c)] => .leaf (.lf (.int .i64 (Lib.indexByte s (UInt8.ofNat c.toNat))), os)
  | _ => .fail
theorem indexByte_le (c : UInt8) : ∀ l : List UInt8, -1 ≤ Lib.indexByte l c ∧ Lib.indexByte l c < (l.length : Int)
  | [] => ⟨Int.le_refl _, show (-1 : Int) < 0 by decide⟩
  | b :: l => by
    have ih := indexByte_le c l
    simp only [Lib.indexByte, List.length_cons]
    split
    · omega
    · split
      · omega
      · omega
theorem indexByte_in {l : List UInt8} {c : UInt8} (h : l.length ≤ big) : inRb .i64 (Lib.indexByte l c) = true := by
  have := indexByte_le c l
  unfold big at h
  rw [inRb_iff]
  simp [IntKind.min, IntKind.max, IntKind.signed, IntKind.bits]
  omega
theorem valid53 (_ : Laws E) : Valid E 53 spec53 :=
  valid_extern (fn := Go.Proofs.Tryz.f53) (e := Extern.BytealgIndexByte.indexByte) (by kernel_rfl) (by kernel_rfl) (by kernel_rfl) (by kernel_rfl) (by kernel_rfl) (fun args os r os' h => by
    unfold spec53 at h
    split at h
    · injection h with h; injection h with h1 h2
      subst h1; subst h2
      refine ⟨rfl, fun G w vals ha => ?_⟩
      obtain ⟨v, u, rfl, hv, hu⟩ := arel_two ha
      obtain ⟨ba, rfl, rfl, hsz⟩ := hv.str_inv
      obtain ⟨rfl, _⟩ := hu.int_inv
      exact ⟨_, Lib.run_indexByteString ba _ w, .lf (.int (indexByte_in hsz))⟩
    · cases h)
end Go.Vx
namespace Go.Vx
open Go
noncomputable def G42 : FuncId → Option (Spec E)
  | 53 => some spec53
  | _ => none
theorem hG42 (hL : Laws E) : ∀ f spec, G42 f = some spec → Valid E f spec := by
  intro f spec h
  unfold G42 at h
  split at h
  · injection h with h; subst h; exact valid53 hL
  · cases h
noncomputable def w42 (a0 : List UInt8) (a1 : Int) : Tree (RV E.A × List (Obj E.A)) :=
 .leaf (.lf (.int .i64 (Go.Lib.indexByte a0 (UInt8.ofNat a1.toNat))), [])
theorem e42 (a0 : List UInt8) (a1 : Int) : execFun E G42 (fun _ _ => .fail) false Go.Proofs.Tryz.f42 [.lf (.str a0), .lf (.int .u8 a1)] [] some = (w42 a0 a1).get := by kernel_rfl
noncomputable def spec42 : Spec E := fun args os => match args, os with
  | [.lf (.str a0), .lf (.int .u8 a1)], [] => w42 a0 a1
  | _, _ => .fail
theorem valid42 (hL : Laws E) : Valid E 42 spec42 :=
  valid_of_body hL (hG42 hL) (Λ := fun _ _ => .fail) (fn := Go.Proofs.Tryz.f42) (keep := false) (by kernel_rfl) (by kernel_rfl) (by kernel_rfl) (LamOK.none (by kernel_rfl)) (fun args os r os' h => by
    unfold spec42 at h
    split at h
    · exact (e42 _ _).trans h
    · cases h)
end Go.Vx
namespace Go.Vx
open Go
noncomputable def G32 : FuncId → Option (Spec E)
  | 42 => some spec42
  | _ => none
theorem hG32 (hL : Laws E) : ∀ f spec, G32 f = some spec → Valid E f spec := by
  intro f spec h
  unfold G32 at h
  split at h
  · injection h with h; subst h; exact valid42 hL
  · cases h
noncomputable def w32 (a0 : List UInt8) (a1 : Int) : Tree (RV E.A × List (Obj E.A)) :=
 .leaf (.lf (.int .i64 (Go.Lib.indexByte a0 (UInt8.ofNat a1.toNat))), [])
theorem e32 (a0 : List UInt8) (a1 : Int) : execFun E G32 (fun _ _ => .fail) false Go.Proofs.Tryz.f32 [.lf (.str a0), .lf (.int .u8 a1)] [] some = (w32 a0 a1).get := by kernel_rfl
noncomputable def spec32 : Spec E := fun args os => match args, os with
  | [.lf (.str a0), .lf (.int .u8 a1)], [] => w32 a0 a1
  | _, _ => .fail
theorem valid32 (hL : Laws E) : Valid E 32 spec32 :=
  valid_of_body hL (hG32 hL) (Λ := fun _ _ => .fail) (fn := Go.Proofs.Tryz.f32) (keep := false) (by kernel_rfl) (by kernel_rfl) (by kernel_rfl) (LamOK.none (by kernel_rfl)) (fun args os r os' h => by
    unfold spec32 at h
    split at h
    · exact (e32 _ _).trans h
    · cases h)
end Go.Vx
namespace Go.Vx
open Go
noncomputable def G45 : FuncId → Option (Spec E)
  | 32 => some spec32
  | _ => none
theorem hG45 (hL : Laws E) : ∀ f spec, G45 f = some spec → Valid E f spec := by
  intro f spec h
  unfold G45 at h
  split at h
  · injection h with h; subst h; exact valid32 hL
  · cases h
noncomputable def w45 (a0 : List UInt8) (a1 : Int) (a2 : List UInt8) : Tree (RV E.A × List (Obj E.A)) :=
 .ite (ltI a1 (↑a0.length : Int))
 (.ite (inB a1 a0.length)
  (.leaf (.lf (.bool (leI (0 : Int) (Go.Lib.indexByte a2 (UInt8.ofNat (↑(a0.getD a1.toNat (0 : UInt8)).toNat : Int).toNat)))), []))
  (.fail))
 (.leaf (.lf (.bool false), []))
theorem e45 (a0 : List UInt8) (a1 : Int) (a2 : List UInt8) : execFun E G45 (fun _ _ => .fail) false Go.Proofs.Tryz.f45 [.lf (.sl .u8 a0), .lf (.int .i64 a1), .lf (.str a2)] [] some = (w45 a0 a1 a2).get := by kernel_rfl
noncomputable def spec45 : Spec E := fun args os => match args, os with
  | [.lf (.sl .u8 a0), .lf (.int .i64 a1), .lf (.str a2)], [] => w45 a0 a1 a2
  | _, _ => .fail
theorem valid45 (hL : Laws E) : Valid E 45 spec45 :=
  valid_of_body hL (hG45 hL) (Λ := fun _ _ => .fail) (fn := Go.Proofs.Tryz.f45) (keep := false) (by kernel_rfl) (by kernel_rfl) (by kernel_rfl) (LamOK.none (by kernel_rfl)) (fun args os r os' h => by
    unfold spec45 at h
    split at h
    · exact (e45 _ _ _).trans h
    · cases h)
end Go.Vx
namespace Go.Vx
open Go
noncomputable def G36 : FuncId → Option (Spec E)
  | 45 => some spec45
  | _ => none
theorem hG36 (hL : Laws E) : ∀ f spec, G36 f = some spec → Valid E f spec := by
  intro f spec h
  unfold G36 at h
  split at h
  · injection h with h; subst h; exact valid45 hL
  · cases h
def L36_0 : Ex → Live
  | .normal => ⟨[0, 1, 5], []⟩
  | .exit 0 => ⟨[1], []⟩
  | .ret => ⟨[4], []⟩
  | _ => ⟨[], []⟩
noncomputable def S36_0 (p0 : List UInt8) (x : Int × Bool) : St E.A := at' E 41 [(0, .lf (.sl .u8 p0)), (1, .lf (.int .i64 x.1)), (5, .lf (.bool x.2))] []
noncomputable def t36_0 (p0 : List UInt8) (x : Int × Bool) : Tree (Int × Bool ⊕ Out' E) :=
 .ite (ltI x.fst (↑p0.length : Int))
 (.ite x.snd
  (.ite (ltI x.fst (↑p0.length : Int))
   (.ite (inB x.fst p0.length)
    (.leaf (.inl ((IntKind.i64.wrap (x.fst + (1 : Int))), (!leI (0 : Int) (Go.Lib.indexByte [(10 : UInt8), (13 : UInt8)] (UInt8.ofNat (↑(p0.getD x.fst.toNat (0 : UInt8)).toNat : Int).toNat))))))
    (.fail))
   (.leaf (.inl ((IntKind.i64.wrap (x.fst + (1 : Int))), !false))))
  (.ite (inB x.fst p0.length)
   (.ite (eqI (↑(p0.getD x.fst.toNat (0 : UInt8)).toNat : Int) (37 : Int))
    (.leaf (.inl ((IntKind.i64.wrap (x.fst + (1 : Int))), true)))
    (.ite (ltI x.fst (↑p0.length : Int))
     (.ite (inB x.fst p0.length)
      (.ite (!leI (0 : Int) (Go.Lib.indexByte [(0 : UInt8), (9 : UInt8), (10 : UInt8), (12 : UInt8), (13 : UInt8), (32 : UInt8)] (UInt8.ofNat (↑(p0.getD x.fst.toNat (0 : UInt8)).toNat : Int).toNat)))
       (.leaf (.inr (.ret, at' E 41 [(4, .lf (.int .i64 x.fst))] [])))
       (.leaf (.inl ((IntKind.i64.wrap (x.fst + (1 : Int))), x.snd))))
      (.fail))
     (.leaf (.inr (.ret, at' E 41 [(4, .lf (.int .i64 x.fst))] [])))))
   (.fail)))
 (.leaf (.inr (.exit 0, at' E 41 [(1, .lf (.int .i64 x.fst))] [])))
theorem h36_0 (p0 : List UInt8) (x : Int × Bool) (k : Ex → St E.A → Option Unit) :
    exec E G36 (fun _ _ => .fail) 1 (lb Go.Proofs.Tryz.f36 0) (S36_0 p0 x) (fun e σ1 => k e (clean E (L36_0 e) σ1)) = (t36_0 p0 x).run (Sum.elim (fun x' => k .normal (S36_0 p0 x')) (fun o => k o.1 o.2)) := by kernel_rfl
noncomputable def lam36_0 (p0 : List UInt8) (x : Int × Bool) : Tree (Out' E) :=
  .ite (leI 0 x.1 && leI x.1 p0.length) (.ite (ltI (x.1 + (Px.skipN x.2 (p0.drop x.1.toNat) : Int)) p0.length)
    (.leaf (.ret, at' E 41 [(4, .lf (.int .i64 (x.1 + (Px.skipN x.2 (p0.drop x.1.toNat) : Int))))] []))
    (.leaf (.exit 0, at' E 41 [(1, .lf (.int .i64 (x.1 + (Px.skipN x.2 (p0.drop x.1.toNat) : Int))))] []))) .fail
/-- one byte of it -/
def step36 {O : Type} (f : Int → O) (i : Nat) (c : Bool) (b : UInt8) : Bool ⊕ O :=
  cond c (.inl (!Px.nl b)) (cond (eqI (b.toNat : Int) 37) (.inl true) (cond (Px.blank (b.toNat : Int)) (.inl false) (.inr (f (i : Int)))))
theorem run12 {O : Type} (f g : Int → O) (n : Nat) : ∀ (l : List UInt8) (i : Nat) (c : Bool), i + l.length = n →
    rangeRun (step36 f) (fun _ => g (n : Int)) i c l = cond (ltI ((i + Px.skipN c l : Nat) : Int) (n : Int)) (f ((i + Px.skipN c l : Nat) : Int)) (g ((i + Px.skipN c l : Nat) : Int))
  | [], i, c, h => by
    have e : Px.skipN c [] = 0 := by cases c <;> rfl
    simp only [List.length_nil, Nat.add_zero] at h
    subst h
    rw [e, Nat.add_zero, ltI_self]; rfl
  | b :: l, i, c, h => by
    have ih := fun c => run12 f g n l (i + 1) c (by simp at h; omega)
    simp only [rangeRun, step36]
    cases c with
    | true =>
      simp only [cond_true, Px.skipN]
      rw [ih, show i + (Px.skipN (!Px.nl b) l + 1) = i + 1 + Px.skipN (!Px.nl b) l by omega]
    | false =>
      simp only [cond_false, Px.skipN]
      cases eqI (b.toNat : Int) 37 with
      | true =>
        simp only [cond_true]
        rw [ih, show i + (Px.skipN true l + 1) = i + 1 + Px.skipN true l by omega]
      | false =>
        cases Px.blank (b.toNat : Int) with
        | true =>
          simp only [cond_true, cond_false]
          rw [ih, show i + (Px.skipN false l + 1) = i + 1 + Px.skipN false l by omega]
        | false =>
          simp only [cond_false, Nat.add_zero]
          have : i < n := by simp at h; omega
          rw [ltI_nat this]; rfl
theorem m36_0 {p0 : List UInt8} {x : Int × Bool} {e : Ex} {σ : St E.A} (g : okLenR (E := E) (.lf (.sl .u8 p0)) = true)
    (h : (lam36_0 p0 x).get = some (e, σ)) : ∃ fuel, iter (t36_0 p0) fuel x = some (e, σ) ∧ e ≠ .normal := by
  have hb : p0.length ≤ big := of_decide_eq_true g
  obtain ⟨i, c⟩ := x
  unfold lam36_0 at h
  have h' := Tree.get_ite_some h
  clear h
  rcases h' with ⟨h1, h⟩ | ⟨_, h⟩
  · simp only [leI_eq, Bool.and_eq_true, decide_eq_true_eq] at h1
    obtain ⟨i, rfl⟩ : ∃ j : Nat, i = (j : Int) := ⟨i.toNat, by omega⟩
    have key := range_iter (t := t36_0 p0) (l := p0) (0 : UInt8) (fun (c : Bool) i => (i, c)) (step36 (fun j => (Ex.ret, at' E 41 [(4, .lf (.int .i64 j))] [])))
      (fun _ => (Ex.exit 0, at' E 41 [(1, .lf (.int .i64 (p0.length : Int)))] [])) (fun _ _ => True)
      (fun i c hi _ => ⟨by
        simp only [t36_0, Tree.get_ite, Tree.get_leaf, ltI_nat hi, inB_nat hi, cond_true, i64_succ hi hb, Int.toNat_natCast, UInt8.ofNat_toNat, nl_any, blank_any, step36]
        cases c <;> cases eqI ((p0.getD i 0).toNat : Int) 37 <;> cases Px.blank ((p0.getD i 0).toNat : Int) <;> rfl, fun _ _ => trivial⟩)
      (fun a _ => by simp only [t36_0, Tree.get_ite, Tree.get_leaf, ltI_self, cond_false])
      (p0.length - i) i c (by omega) trivial
    rw [run12 (fun j => (Ex.ret, at' E 41 [(4, .lf (.int .i64 j))] [])) (fun j => (Ex.exit 0, at' E 41 [(1, .lf (.int .i64 j))] [])) p0.length _ _ _ (by simp; omega)] at key
    rw [Tree.get_ite, Tree.get_leaf, Tree.get_leaf] at h
    simp only [Int.toNat_natCast, ← Int.natCast_add] at h
    refine ⟨_, key.trans ?_, ?_⟩
    · rw [← h]; cases ltI ((i + Px.skipN c (p0.drop i) : Nat) : Int) (p0.length : Int) <;> rfl
    · cases hd : ltI ((i + Px.skipN c (p0.drop i) : Nat) : Int) (p0.length : Int) <;> rw [hd] at h <;> (injection h with h; injection h with h1 _; rw [← h1]; intro hh; cases hh)
  · cases h
noncomputable def rd36_0 (σ : St E.A) : Tree (Out' E) :=
  let c := clean E (L36_0 .normal) σ
  if c.sl.length = 41 then
  match c.sl.getD 0 .undef, c.sl.getD 1 .undef, c.sl.getD 5 .undef with
  | .lf (.sl .u8 p0), .lf (.int .i64 x1), .lf (.bool x5) => lam36_0 p0 (x1, x5)
  | _, _, _ => .fail
  else .fail
theorem ll36_0 (hL : Laws E) (σ : St E.A) (e : Ex) (σ' : St E.A) (h : (rd36_0 σ).get = some (e, σ')) : LoopOK E (lb Go.Proofs.Tryz.f36 0) σ e σ' := by
  refine LoopOK.of_clean hL (L36_0 .normal) ?_
  unfold rd36_0 at h
  simp only at h
  split at h
  · rename_i hlen
    split at h
    · rename_i p0 x1 x5 h0 h1 h2
      refine LoopOK.lens 0 (fun g0 => ?_)
      rw [h0] at g0
      obtain ⟨fuel, hi, ho⟩ := m36_0 g0 h
      have hl := loop_at (Γ := G36) (Λ := fun _ _ => .fail) (n := 1) (body := lb Go.Proofs.Tryz.f36 0) hL (hG36 hL) (S := S36_0 p0) (t := t36_0 p0) (Lv := L36_0) (LamOK.none (by kernel_rfl)) (h36_0 p0) hi ho
      refine LoopOK.fit hlen ?_ ?_ rfl rfl hl
      · exact ⟨h0, h1, h2, trivial⟩
      · exact trivial
    · cases h
  · cases h
noncomputable def Lam36 : Lam E
  | 0, σ => rd36_0 σ
  | _, _ => .fail
noncomputable def w36 (a0 : List UInt8) (a1 : Int) : Tree (RV E.A × List (Obj E.A)) :=
 .ite (ltI a1 (0 : Int))
 (.leaf (.lf (.int .i64 ((↑a0.length : Int))), []))
 (.ite (ltI (↑a0.length : Int) a1)
  (.leaf (.lf (.int .i64 ((↑a0.length : Int))), []))
  (.ite (leI (0 : Int) a1 && leI a1 (↑a0.length : Int))
   (.ite (ltI (a1 + (↑(Px.skipN false (List.drop a1.toNat a0)) : Int)) (↑a0.length : Int))
    (.leaf (.lf (.int .i64 (a1 + (↑(Px.skipN false (List.drop a1.toNat a0)) : Int))), []))
    (.leaf (.lf (.int .i64 (a1 + (↑(Px.skipN false (List.drop a1.toNat a0)) : Int))), [])))
   (.fail)))
theorem e36 (a0 : List UInt8) (a1 : Int) : execFun E G36 ((Lam36)) false Go.Proofs.Tryz.f36 [.lf (.sl .u8 a0), .lf (.int .i64 a1)] [] some = (w36 a0 a1).get := by kernel_rfl
noncomputable def raw36 : Spec E := fun args os => match args, os with
  | [.lf (.sl .u8 a0), .lf (.int .i64 a1)], [] => w36 a0 a1
  | _, _ => .fail
theorem validraw36 (hL : Laws E) : Valid E 36 raw36 :=
  valid_of_body hL (hG36 hL) (Λ := (Lam36)) (fn := Go.Proofs.Tryz.f36) (keep := false) (by kernel_rfl) (by kernel_rfl) (by kernel_rfl) ((LamOK.of (m := 1) (by kernel_rfl) (fun j hj σ e σ' hg => by
      match j, hj with
      | 0, _ => exact ll36_0 hL σ e σ' hg
      ))) (fun args os r os' h => by
    unfold raw36 at h
    split at h
    · exact (e36 _ _).trans h
    · cases h)
end Go.Vx
namespace Px
open Go.Vx Go
/-- the next byte that counts, from any place on -/
def skipI (p : List UInt8) (i : Int) : Int := cond (ltI i 0 || ltI (p.length : Int) i) (p.length : Int) (i + (skipN false (p.drop i.toNat) : Int))
end Px
namespace Go.Vx
open Go
theorem eq36 (p : List UInt8) (i : Nat) (hi : i ≤ p.length) : (w36 p (i : Int)).get = some (.lf (.int .i64 ((i + Px.skipN false (p.drop i) : Nat) : Int)), []) := by
  have e0 : ltI (i : Int) 0 = false := by rw [ltI_eq]; exact decide_eq_false (by omega)
  have e1 : ltI (p.length : Int) (i : Int) = false := by rw [ltI_eq]; exact decide_eq_false (by omega)
  have h1 : (leI 0 (i : Int) && leI (i : Int) p.length) = true := by simp only [leI_eq, Bool.and_eq_true, decide_eq_true_eq]; omega
  unfold w36
  simp only [Tree.get_ite, Tree.get_leaf, e0, e1, h1, cond_true, cond_false, Int.toNat_natCast, Int.natCast_add]
  cases ltI ((i : Int) + (Px.skipN false (p.drop i) : Int)) (p.length : Int) <;> rfl
theorem eqI36 (p : List UInt8) (i : Int) : (w36 p i).get = some (.lf (.int .i64 (Px.skipI p i)), []) := by
  unfold Px.skipI
  cases c1 : ltI i 0 with
  | true => unfold w36; rw [Tree.get_ite, c1]; rfl
  | false =>
    cases c2 : ltI (p.length : Int) i with
    | true => unfold w36; rw [Tree.get_ite, c1, cond_false, Tree.get_ite, c2]; rfl
    | false =>
      rw [ltI_eq, decide_eq_false_iff_not] at c1 c2
      obtain ⟨j, rfl⟩ : ∃ j : Nat, i = (j : Int) := ⟨i.toNat, by omega⟩
      rw [eq36 p j (by omega), Int.toNat_natCast, ← Int.natCast_add]
      rfl
noncomputable def spec36 : Spec E := fun args os => match args, os with
  | [.lf (.sl .u8 p), .lf (.int .i64 i)], [] => .leaf (.lf (.int .i64 (Px.skipI p i)), [])
  | _, _ => .fail
theorem valid36 (hL : Laws E) : Valid E 36 spec36 := (validraw36 hL).less (fun args os x _ _ h => by
  unfold spec36 at h
  split at h
  · exact (eqI36 _ _).trans h
  · cases h)
end Go.Vx
namespace Go.Vx
open Go
noncomputable def G46 : FuncId → Option (Spec E) := fun _ => none
theorem hG46 (hL : Laws E) : ∀ f spec, G46 f = some spec → Valid E f spec := by
  intro f spec h
  cases h
noncomputable def w46 (a0 : List UInt8) (a1 : List UInt8) : Tree (RV E.A × List (Obj E.A)) :=
 .leaf (.lf (.bool (decide (a0 = a1))), [])
theorem e46 (a0 : List UInt8) (a1 : List UInt8) : execFun E G46 (fun _ _ => .fail) false Go.Proofs.Tryz.f46 [.lf (.sl .u8 a0), .lf (.sl .u8 a1)] [] some = (w46 a0 a1).get := by kernel_rfl
noncomputable def spec46 : Spec E := fun args os => match args, os with
  | [.lf (.sl .u8 a0), .lf (.sl .u8 a1)], [] => w46 a0 a1
  | _, _ => .fail
theorem valid46 (hL : Laws E) : Valid E 46 spec46 :=
  valid_of_body hL (hG46 hL) (Λ := fun _ _ => .fail) (fn := Go.Proofs.Tryz.f46) (keep := false) (by kernel_rfl) (by kernel_rfl) (by kernel_rfl) (LamOK.none (by kernel_rfl)) (fun args os r os' h => by
    unfold spec46 at h
    split at h
    · exact (e46 _ _).trans h
    · cases h)
end Go.Vx
namespace Go.Vx
open Go
noncomputable def G37 : FuncId → Option (Spec E)
  | 46 => some spec46
  | _ => none
theorem hG37 (hL : Laws E) : ∀ f spec, G37 f = some spec → Valid E f spec := by
  intro f spec h
  unfold G37 at h
  split at h
  · injection h with h; subst h; exact valid46 hL
  · cases h
noncomputable def w37 (a0 : List UInt8) (a1 : List UInt8) : Tree (RV E.A × List (Obj E.A)) :=
 .ite (leI (↑a1.length : Int) (↑a0.length : Int))
 (.ite (leI (0 : Int) (↑(0 : Nat) : Int) && leI (↑(0 : Nat) : Int) (↑a1.length : Int) && leI (↑a1.length : Int) (↑a0.length : Int))
  (.leaf (.lf (.bool (decide (List.drop (↑(0 : Nat) : Int).toNat (List.take (↑a1.length : Int).toNat a0) = a1))), []))
  (.fail))
 (.leaf (.lf (.bool false), []))
theorem e37 (a0 : List UInt8) (a1 : List UInt8) : execFun E G37 (fun _ _ => .fail) false Go.Proofs.Tryz.f37 [.lf (.sl .u8 a0), .lf (.sl .u8 a1)] [] some = (w37 a0 a1).get := by kernel_rfl
noncomputable def raw37 : Spec E := fun args os => match args, os with
  | [.lf (.sl .u8 a0), .lf (.sl .u8 a1)], [] => w37 a0 a1
  | _, _ => .fail
theorem validraw37 (hL : Laws E) : Valid E 37 raw37 :=
  valid_of_body hL (hG37 hL) (Λ := fun _ _ => .fail) (fn := Go.Proofs.Tryz.f37) (keep := false) (by kernel_rfl) (by kernel_rfl) (by kernel_rfl) (LamOK.none (by kernel_rfl)) (fun args os r os' h => by
    unfold raw37 at h
    split at h
    · exact (e37 _ _).trans h
    · cases h)
theorem eq37 (s p : List UInt8) : (w37 s p).get = some (.lf (.bool (Px.hasPre s p)), []) := by
  unfold w37
  have hl : (leI (p.length : Int) (s.length : Int)) = decide (p.length ≤ s.length) := by rw [leI_eq]; exact decide_eq_decide.2 (by omega)
  rw [Tree.get_ite, hl]
  by_cases h : p.length ≤ s.length
  · have c : (leI (0 : Int) (↑(0 : Nat) : Int) && leI (↑(0 : Nat) : Int) (↑p.length : Int) && true) = true := by
      simp [leI_eq]
    rw [decide_eq_true h, cond_true, Tree.get_ite, c]
    rfl
  · rw [decide_eq_false h, cond_false]
    have : Px.hasPre s p = false := decide_eq_false fun hh => h (by rw [← hh, List.length_take]; omega)
    rw [this]; rfl
noncomputable def spec37 : Spec E := fun args os => match args, os with
  | [.lf (.sl .u8 s), .lf (.sl .u8 p)], [] => .leaf (.lf (.bool (Px.hasPre s p)), [])
  | _, _ => .fail
theorem valid37 (hL : Laws E) : Valid E 37 spec37 := (validraw37 hL).less (fun args os x g1 g2 h => by
  unfold spec37 at h
  split at h
  · exact (eq37 _ _).trans h
  · cases h)
end Go.Vx
namespace Go.Vx
open Go
theorem loopAt_in : ∀ (c : Code) (j : Nat) (b : Code) (i : Nat) (b' : Code), loopAt c j = some b → loopAt b i = some b' → loopAt c (j + 1 + i) = some b'
  | .seq a d, j, b, i, b', h, hi => by
    simp only [loopAt] at h ⊢
    split at h
    · have := loopAt_in a j b i b' h hi
      have hl := loopAt_lt a _ _ this
      rw [if_pos hl]; exact this
    · have := loopAt_in d _ b i b' h hi
      rw [if_neg (by omega), show j + 1 + i - loops a = j - loops a + 1 + i by omega]; exact this
  | .cond _ a d, j, b, i, b', h, hi => by
    simp only [loopAt] at h ⊢
    split at h
    · have := loopAt_in a j b i b' h hi
      have hl := loopAt_lt a _ _ this
      rw [if_pos hl]; exact this
    · have := loopAt_in d _ b i b' h hi
      rw [if_neg (by omega), show j + 1 + i - loops a = j - loops a + 1 + i by omega]; exact this
  | .block _ a, j, b, i, b', h, hi => by
    simp only [loopAt] at h ⊢
    exact loopAt_in a j b i b' h hi
  | .scope a, j, b, i, b', h, hi => by
    simp only [loopAt] at h ⊢
    exact loopAt_in a j b i b' h hi
  | .loop a, j, b, i, b', h, hi => by
    simp only [loopAt] at h ⊢
    rw [if_neg (by omega)]
    split at h
    · injection h with h; subst h
      rw [show j + 1 + i - 1 = i by omega]; exact hi
    · have := loopAt_in a _ b i b' h hi
      rw [show j + 1 + i - 1 = j - 1 + 1 + i by omega]; exact this
  | .rangeFunc _ _ _ a, j, b, i, b', h, hi => by
    simp only [loopAt] at h ⊢
    rw [if_neg (by omega)]
    split at h
    · cases h
    · have := loopAt_in a _ b i b' h hi
      rw [show j + 1 + i - 1 = j - 1 + 1 + i by omega]; exact this
  | .skip, _, _, _, _, h, _ => by cases h
  | .region .., _, _, _, _, h, _ => by cases h
  | .exit _, _, _, _, _, h, _ => by cases h
  | .ret, _, _, _, _, h, _ => by cases h
  | .refuse _, _, _, _, _, h, _ => by cases h
theorem ranges_in : ∀ (c : Code) (j : Nat) (b : Code), loopAt c j = some b → ranges c = false → ranges b = false
  | .seq a d, j, b, h, hr => by
    simp only [loopAt] at h
    simp only [ranges, Bool.or_eq_false_iff] at hr
    split at h
    · exact ranges_in a j b h hr.1
    · exact ranges_in d _ b h hr.2
  | .cond _ a d, j, b, h, hr => by
    simp only [loopAt] at h
    simp only [ranges, Bool.or_eq_false_iff] at hr
    split at h
    · exact ranges_in a j b h hr.1
    · exact ranges_in d _ b h hr.2
  | .block _ a, j, b, h, hr => ranges_in a j b h hr
  | .scope a, j, b, h, hr => ranges_in a j b h hr
  | .loop a, j, b, h, hr => by
    simp only [loopAt] at h
    split at h
    · injection h with h; subst h; exact hr
    · exact ranges_in a _ b h hr
  | .rangeFunc _ _ _ a, j, b, h, hr => by cases hr
  | .skip, _, _, h, _ => by cases h
  | .region .., _, _, h, _ => by cases h
  | .exit _, _, _, h, _ => by cases h
  | .ret, _, _, h, _ => by cases h
  | .refuse _, _, _, h, _ => by cases h
section
variable {Key : Type} [DecidableEq Key] (E : Env Key)
/-- a loop, round by round -/
def unroll (run : St E.A → (Ex → St E.A → Option (Ex × St E.A)) → Option (Ex × St E.A)) : Nat → St E.A → Option (Ex × St E.A)
  | 0, _ => none
  | n + 1, σ => run σ fun e σ1 => match e with
    | .normal => unroll run n σ1
    | e => some (e, σ1)
def ofOpt {α : Type} : Option α → Tree α
  | some x => .leaf x
  | none => .fail
/-- a code's loops, as deep as that -/
noncomputable def lamD (Γ : FuncId → Option (Spec E)) (c : Code) (fuel : Nat) : Nat → Lam E
  | 0 => fun _ _ => .fail
  | d + 1 => fun j σ => match loopAt c j with
    | some body => ofOpt (unroll E (exec E Γ (lamD Γ c fuel d) (j + 1) body) fuel σ)
    | none => .fail
/-- callees: those that are told, the places of rows that are written into, and the others in their places -/
def gam (base : FuncId → Option (Spec E)) (bufs : List Nat) (next : FuncId → Spec E) : FuncId → Option (Spec E) := fun g =>
  cond (Nat.ble bufBase g) (cond (bufs.contains (g - bufBase)) (some fun _ _ => .fail) none) (match base g with | some s => some s | none => some (next g))
/-- a function, told by running it -/
noncomputable def deep (base : FuncId → Option (Spec E)) (bufs : FuncId → List Nat) (fuel depth : Nat) : Nat → FuncId → Spec E
  | 0, _ => fun _ _ => .fail
  | n + 1, f => fun args os => match E.P.funcs[f]? with
    | some fn => cond (fn.body.isSome && !(fn.name == "runtime.NumGoroutine") && !ranges (fn.body.getD .skip))
        (ofOpt (execFun E (gam E base (bufs f) (deep base bufs fuel depth n)) (lamD E (gam E base (bufs f) (deep base bufs fuel depth n)) (fn.body.getD .skip) fuel depth) false fn args os some)) .fail
    | none => .fail
variable {E}
theorem ofOpt_get {α : Type} {o : Option α} : (ofOpt o).get = o := by cases o <;> rfl
theorem loop_unroll (hL : Laws E) {Γ : FuncId → Option (Spec E)} (hΓ : ∀ f spec, Γ f = some spec → Valid E f spec) {Λ : Lam E} {n : Nat} {body : Code} (hΛ : LamOK E Λ n body) (hno : ranges body = false)
    (fuel : Nat) (σ : St E.A) (e : Ex) (σ' : St E.A) (h : unroll E (exec E Γ Λ n body) fuel σ = some (e, σ')) : LoopOK E body σ e σ' := by
  intro Y G0 w0 a0 hr0
  have key : ∀ (fuel : Nat) (σ : St E.A), unroll E (exec E Γ Λ n body) fuel σ = some (e, σ') → ∀ (G : Gh) (w : World) (a : Act) (Q : Exit → Act → World → Prop), VRel E σ G w a.tmps → (∀ a' w', Good E σ' a G w a' w' → Q (exOf e) a' w') → roundsS Y.W body Q fuel a w := by
    intro fuel
    induction fuel with
    | zero => intro σ hi; cases hi
    | succ fuel ih =>
      intro σ hi G w a Q hr hQ
      show Y.W body (Exit.then (roundsS Y.W body Q fuel) Q) a w
      simp only [unroll] at hi
      refine Y.mono (exec_ok Y false (fun h => by cases h) hL hΓ body n hΛ (fun h => by cases h) (fun _ => hno) σ _ G w a hr hi) (fun e1 a1 w1 hw => ?_)
      obtain ⟨ex, σ1, rfl, hkk, hg1⟩ := hw
      have hg := hg1.good
      obtain ⟨hd, G1, hr1, hf1⟩ := hg
      cases ex with
      | normal => exact ih σ1 hkk G1 w1 a1 Q hr1 (fun a' w' hg => hQ a' w' (Good.trans (σ := σ) hd hf1 hg))
      | exit id => injection hkk with hkk; injection hkk with h1 h2; subst h1; subst h2; exact hQ a1 w1 ⟨hd, G1, hr1, hf1⟩
      | ret => injection hkk with hkk; injection hkk with h1 h2; subst h1; subst h2; exact hQ a1 w1 ⟨hd, G1, hr1, hf1⟩
  exact Y.rounds fuel (key fuel σ h G0 w0 a0 _ hr0 (fun a' w' hg => ⟨rfl, hg⟩))
theorem lamD_ok (hL : Laws E) {Γ : FuncId → Option (Spec E)} (hΓ : ∀ f spec, Γ f = some spec → Valid E f spec) {c : Code} (hno : ranges c = false) (fuel : Nat) :
    ∀ (d : Nat) (j : Nat) (body : Code), loopAt c j = some body → ∀ σ e σ', (lamD E Γ c fuel d j σ).get = some (e, σ') → LoopOK E body σ e σ'
  | 0, j, body, hj, σ, e, σ', h => by cases h
  | d + 1, j, body, hj, σ, e, σ', h => by
    simp only [lamD, hj, ofOpt_get] at h
    refine loop_unroll hL hΓ (n := j + 1) (fun i b hi σ1 e1 σ2 hg => ?_) (ranges_in c j body hj hno) fuel σ e σ' h
    exact lamD_ok hL hΓ hno fuel d (j + 1 + i) b (loopAt_in c j body i b hj hi) σ1 e1 σ2 hg
theorem valid_deep (hL : Laws E) {base : FuncId → Option (Spec E)} (hb : ∀ f spec, base f = some spec → Valid E f spec) (bufs : FuncId → List Nat) (fuel depth : Nat) :
    ∀ (n : Nat) (f : FuncId), Valid E f (deep E base bufs fuel depth n f)
  | 0, f => Valid.never fun _ _ => rfl
  | n + 1, f => by
    have ih := valid_deep hL hb bufs fuel depth n
    have hG : ∀ g spec, gam E base (bufs f) (deep E base bufs fuel depth n) g = some spec → Valid E g spec := by
      intro g spec hg
      unfold gam at hg
      cases h1 : Nat.ble bufBase g with
      | true =>
        rw [h1, cond_true] at hg
        cases h2 : (bufs f).contains (g - bufBase) with
        | true => rw [h2, cond_true] at hg; injection hg with hg; subst hg; exact Valid.never fun _ _ => rfl
        | false => rw [h2, cond_false] at hg; cases hg
      | false =>
        rw [h1, cond_false] at hg
        split at hg
        · rename_i s hs
          injection hg with hg; subst hg
          exact hb g s hs
        · injection hg with hg; subst hg; exact ih g
    cases hf : E.P.funcs[f]? with
    | none => exact Valid.never fun args os => by simp only [deep, hf]; rfl
    | some fn =>
      cases hc : (fn.body.isSome && !(fn.name == "runtime.NumGoroutine") && !ranges (fn.body.getD .skip)) with
      | false => exact Valid.never fun args os => by simp only [deep, hf, hc]; rfl
      | true =>
        simp only [Bool.and_eq_true, Bool.not_eq_true'] at hc
        obtain ⟨⟨c1, c2⟩, c3⟩ := hc
        have hbody : fn.body = some (fn.body.getD .skip) := by
          cases hh : fn.body with
          | none => rw [hh] at c1; cases c1
          | some c => rfl
        refine valid_of_body hL hG (Λ := lamD E (gam E base (bufs f) (deep E base bufs fuel depth n)) (fn.body.getD .skip) fuel depth) (keep := false) hf hbody c2 ⟨fun j body hj σ e σ' hg => ?_, c3⟩ (fun args os r os' h => ?_)
        · rw [Nat.zero_add] at hg
          exact lamD_ok hL hG c3 fuel depth j body hj σ e σ' hg
        · simp only [deep, hf, c1, c2, c3, Bool.not_false, Bool.and_self, cond_true, ofOpt_get] at h
          exact h
end
end Go.Vx
namespace Go.Vx
open Go
/-- callees that are told -/
noncomputable def B6 : FuncId → Option (Spec E)
  | 36 => some spec36
  | 45 => some spec45
  | 32 => some spec32
  | 42 => some spec42
  | 37 => some spec37
  | 39 => some spec39
  | 53 => some spec53
  | 46 => some spec46
  | 48 => some spec48
  | 49 => some spec49
  | 50 => some spec50
  | 51 => some spec51
  | 52 => some spec52
  | _ => none
theorem hB6 (hL : Laws E) : ∀ f spec, B6 f = some spec → Valid E f spec := by
  intro f spec h
  unfold B6 at h
  split at h
  · injection h with h; subst h; exact valid36 hL
  · injection h with h; subst h; exact valid45 hL
  · injection h with h; subst h; exact valid32 hL
  · injection h with h; subst h; exact valid42 hL
  · injection h with h; subst h; exact valid37 hL
  · injection h with h; subst h; exact valid39 hL
  · injection h with h; subst h; exact valid53 hL
  · injection h with h; subst h; exact valid46 hL
  · injection h with h; subst h; exact valid48 hL
  · injection h with h; subst h; exact valid49 hL
  · injection h with h; subst h; exact valid50 hL
  · injection h with h; subst h; exact valid51 hL
  · injection h with h; subst h; exact valid52 hL
  · cases h
theorem e6 : (deep E B6 (fun _ => []) 60 3 40 6 [] []).get = some (.lf (.bool true), []) := by kernel_rfl
noncomputable def spec6 : Spec E := fun args os => match args, os with
  | [], [] => .leaf (.lf (.bool true), [])
  | _, _ => .fail
theorem valid6 (hL : Laws E) : Valid E 6 spec6 := (valid_deep hL (hB6 hL) (fun _ => []) 60 3 40 6).less (fun args os x _ _ h => by
  unfold spec6 at h
  split at h
  · exact e6.trans h
  · cases h)
end Go.Vx
namespace Go.Vx
open Go
noncomputable def G18 : FuncId → Option (Spec E) := fun _ => none
theorem hG18 (hL : Laws E) : ∀ f spec, G18 f = some spec → Valid E f spec := by
  intro f spec h
  cases h
noncomputable def w18 (a0Kind : Int) (a0Num : Int) (a0Gen : Int) (a0Text : List UInt8) (a0List : List Val) (a0Keys : List (List UInt8)) : Tree (RV E.A × List (Obj E.A)) :=
 .ite (eqI a0Kind (2 : Int))
 (.ite (leI (0 : Int) a0Num)
  (.leaf (.tup [(false, [.int .i64 a0Num]), (false, [.bool (leI a0Num (65535 : Int))])], []))
  (.leaf (.tup [(false, [.int .i64 a0Num]), (false, [.bool false])], [])))
 (.leaf (.tup [(false, [.int .i64 a0Num]), (false, [.bool false])], []))
theorem e18 (a0Kind : Int) (a0Num : Int) (a0Gen : Int) (a0Text : List UInt8) (a0List : List Val) (a0Keys : List (List UInt8)) : execFun E G18 (fun _ _ => .fail) false Go.Proofs.Tryz.f18 [.agg [.int .u8 a0Kind, .int .i64 a0Num, .int .i64 a0Gen, .str a0Text, .sl .val a0List, .sl .str a0Keys]] [] some = (w18 a0Kind a0Num a0Gen a0Text a0List a0Keys).get := by kernel_rfl
noncomputable def raw18 : Spec E := fun args os => match args, os with
  | [.agg [.int .u8 a0Kind, .int .i64 a0Num, .int .i64 a0Gen, .str a0Text, .sl .val a0List, .sl .str a0Keys]], [] => w18 a0Kind a0Num a0Gen a0Text a0List a0Keys
  | _, _ => .fail
theorem validraw18 (hL : Laws E) : Valid E 18 raw18 :=
  valid_of_body hL (hG18 hL) (Λ := fun _ _ => .fail) (fn := Go.Proofs.Tryz.f18) (keep := false) (by kernel_rfl) (by kernel_rfl) (by kernel_rfl) (LamOK.none (by kernel_rfl)) (fun args os r os' h => by
    unfold raw18 at h
    split at h
    · exact (e18 _ _ _ _ _ _).trans h
    · cases h)
noncomputable def spec18 : Spec E := fun args os => match args, os with
  | [.agg [.int .u8 k, .int .i64 n, .int .i64 g, .str t, .sl .val l, .sl .str ks]], [] => .leaf (.tup [(false, [.int .i64 n]), (false, [.bool (Px.smallOk (Val.mk k n g t l ks))])], [])
  | _, _ => .fail
theorem eq18 (k n g : Int) (t : List UInt8) (l : List Val) (ks : List (List UInt8)) : (w18 k n g t l ks).get = some (.tup [(false, [.int .i64 n]), (false, [.bool (Px.smallOk (Val.mk k n g t l ks))])], []) := by
  unfold w18 Px.smallOk
  show cond (eqI k 2) (cond (leI 0 n) _ _) _ = some (RV.tup [_, (false, [Leaf.bool (eqI k 2 && leI 0 n && leI n 65535)])], _)
  cases eqI k 2 <;> cases leI 0 n <;> rfl
theorem valid18 (hL : Laws E) : Valid E 18 spec18 := (validraw18 hL).less (fun args os x _ _ h => by
  unfold spec18 at h
  split at h
  · exact (eq18 _ _ _ _ _ _).trans h
  · cases h)
end Go.Vx
namespace Go.Vx
open Go
noncomputable def G19 : FuncId → Option (Spec E)
  | 18 => some spec18
  | _ => none
theorem hG19 (hL : Laws E) : ∀ f spec, G19 f = some spec → Valid E f spec := by
  intro f spec h
  unfold G19 at h
  split at h
  · injection h with h; subst h; exact valid18 hL
  · cases h
def L19_0 : Ex → Live
  | .normal => ⟨[1, 3, 11, 12, 13], [0, 256]⟩
  | .exit 0 => ⟨[], [0]⟩
  | .ret => ⟨[6], [0]⟩
  | _ => ⟨[], []⟩
noncomputable def S19_0 (p1 : Int) (p11 : List Val) (p12 : Int) (x : Int × (List (Int × Int))) : St E.A := at' E 39 [(1, .lf (.int .i64 p1)), (3, .lf (.ptr 256 0 0)), (11, .lf (.sl .val p11)), (12, .lf (.int .i64 p12)), (13, .lf (.int .i64 x.1))] [(0, some (.map .u16 .i64 x.2)), (256, some (.cells 32 [.mp 0 0]))]
noncomputable def t19_0 (p1 : Int) (p11 : List Val) (p12 : Int) (x : Int × (List (Int × Int))) : Tree (Int × (List (Int × Int)) ⊕ Out' E) :=
 .ite (ltI x.fst p12)
 (.ite (inB x.fst p11.length)
  (.ite (!Px.smallOk (Val.mk (p11.getD x.fst.toNat (Val.mk (0 : Int) (0 : Int) (0 : Int) [] [] [])).kind (p11.getD x.fst.toNat (Val.mk (0 : Int) (0 : Int) (0 : Int) [] [] [])).num (p11.getD x.fst.toNat (Val.mk (0 : Int) (0 : Int) (0 : Int) [] [] [])).gen (p11.getD x.fst.toNat (Val.mk (0 : Int) (0 : Int) (0 : Int) [] [] [])).text (p11.getD x.fst.toNat (Val.mk (0 : Int) (0 : Int) (0 : Int) [] [] [])).list (p11.getD x.fst.toNat (Val.mk (0 : Int) (0 : Int) (0 : Int) [] [] [])).keys))
   (.leaf (.inr (.ret, at' E 39 [(6, .lf (.bool false))] [(0, some (.map .u16 .i64 x.snd))])))
   (.ite (ltI (65535 : Int) (IntKind.i64.wrap (p1 + x.fst)))
    (.leaf (.inr (.ret, at' E 39 [(6, .lf (.bool false))] [(0, some (.map .u16 .i64 x.snd))])))
    (.leaf (.inl ((IntKind.i64.wrap (x.fst + (1 : Int))), (mset_u16_i64 x.snd (IntKind.u16.wrap (IntKind.i64.wrap (p1 + x.fst))) (p11.getD x.fst.toNat (Val.mk (0 : Int) (0 : Int) (0 : Int) [] [] [])).num))))))
  (.fail))
 (.leaf (.inr (.exit 0, at' E 39 [] [(0, some (.map .u16 .i64 x.snd))])))
theorem h19_0 (p1 : Int) (p11 : List Val) (p12 : Int) (x : Int × (List (Int × Int))) (k : Ex → St E.A → Option Unit) :
    exec E G19 (fun _ _ => .fail) 1 (lb Go.Proofs.Tryz.f19 0) (S19_0 p1 p11 p12 x) (fun e σ1 => k e (clean E (L19_0 e) σ1)) = (t19_0 p1 p11 p12 x).run (Sum.elim (fun x' => k .normal (S19_0 p1 p11 p12 x')) (fun o => k o.1 o.2)) := by kernel_rfl
noncomputable def out19 (r : Bool × List (Int × Int)) : Tree (Out' E) :=
  .ite r.1 (.leaf (.exit 0, at' E 39 [] [(0, some (.map .u16 .i64 r.2))])) (.leaf (.ret, at' E 39 [(6, .lf (.bool false))] [(0, some (.map .u16 .i64 r.2))]))
noncomputable def lam19_0 (p1 : Int) (p11 : List Val) (p12 : Int) (x : Int × (List (Int × Int))) : Tree (Out' E) :=
  .ite (eqI p12 p11.length && decide (p11.length ≤ 1000000000) && leI 0 p1 && leI p1 65535 && leI 0 x.1 && leI x.1 p12) (out19 (Px.rowRun (p11.drop x.1.toNat) (p1 + x.1) x.2)) .fail
theorem it19 (p1 : Int) (l : List Val) (hl : l.length ≤ 1000000000) (h0 : 0 ≤ p1) (h1 : p1 ≤ 65535) : ∀ (n i : Nat) (m : List (Int × Int)), l.length < n + i → i ≤ l.length →
    iter (t19_0 p1 l (l.length : Int)) n ((i : Int), m) = (out19 (Px.rowRun (l.drop i) (p1 + i) m)).get
  | 0, i, m, h, h2 => by omega
  | n + 1, i, m, h, h2 => by
    rw [iter]
    rcases Nat.lt_or_ge i l.length with hi | hi
    · have w1 : IntKind.i64.wrap ((i : Int) + 1) = ((i + 1 : Nat) : Int) := by rw [wi64] <;> omega
      have w2 : IntKind.i64.wrap (p1 + (i : Int)) = p1 + (i : Int) := by rw [wi64] <;> omega
      have ht : (t19_0 p1 l (l.length : Int) ((i : Int), m)).get = some (cond (Px.smallOk (l.getD i Px.vz) && leI (p1 + i) 65535) (.inl (((i + 1 : Nat) : Int), Px.ms m (p1 + i) (l.getD i Px.vz).num)) (.inr (.ret, at' E 39 [(6, .lf (.bool false))] [(0, some (.map .u16 .i64 m))]))) := by
        unfold t19_0
        obtain ⟨v, hv⟩ : ∃ v, l.getD i Px.vz = v := ⟨_, rfl⟩
        simp only [Tree.get_ite, ltI_nat hi, inB_nat hi, cond_true, w1, w2, Int.toNat_natCast, hv, Px.val_eta]
        have e3 : ltI 65535 (p1 + (i : Int)) = !leI (p1 + (i : Int)) 65535 := by
          rw [ltI_eq, leI_eq, ← decide_not]; exact decide_eq_decide.2 (by omega)
        rw [e3]
        cases Px.smallOk v with
        | false => rfl
        | true =>
          cases h3 : leI (p1 + (i : Int)) 65535 with
          | false => rfl
          | true =>
            rw [leI_eq, decide_eq_true_eq] at h3
            have w3 : IntKind.u16.wrap (p1 + (i : Int)) = p1 + (i : Int) := by rw [wu16] <;> omega
            simp only [Bool.not_true, cond_false, cond_true, w3, Bool.and_self, Tree.get_leaf]
            rw [← Px.ms_eq]
      rw [ht, drop_cons l Px.vz i hi]
      unfold Px.rowRun
      cases Px.smallOk (l.getD i Px.vz) && leI (p1 + (i : Int)) 65535 with
      | false => rfl
      | true =>
        simp only [cond_true]
        have ih := it19 p1 l hl h0 h1 n (i + 1) (Px.ms m (p1 + i) (l.getD i Px.vz).num) (by omega) (by omega)
        rw [show p1 + ((i + 1 : Nat) : Int) = p1 + (i : Int) + 1 by omega] at ih
        exact ih
    · obtain rfl : i = l.length := by omega
      rw [List.drop_length]
      have ht : (t19_0 p1 l (l.length : Int) ((l.length : Int), m)).get = some (.inr (.exit 0, at' E 39 [] [(0, some (.map .u16 .i64 m))])) := by
        unfold t19_0
        simp only [Tree.get_ite, ltI_self, cond_false, Tree.get_leaf]
      rw [ht]
      rfl
theorem m19_0 {p1 : Int} {p11 : List Val} {p12 : Int} {x : Int × (List (Int × Int))} {e : Ex} {σ : St E.A} (_ : okLenR (E := E) (.lf (.sl .val p11)) = true)
    (h : (lam19_0 p1 p11 p12 x).get = some (e, σ)) : ∃ fuel, iter (t19_0 p1 p11 p12) fuel x = some (e, σ) ∧ e ≠ .normal := by
  obtain ⟨i, m⟩ := x
  unfold lam19_0 at h
  have h' := Tree.get_ite_some h
  clear h
  rcases h' with ⟨h1, h⟩ | ⟨_, h⟩
  · simp only [eqI_eq, leI_eq, Bool.and_eq_true, decide_eq_true_eq] at h1
    obtain ⟨⟨⟨⟨⟨rfl, k1⟩, k2⟩, k3⟩, k4⟩, k5⟩ := h1
    obtain ⟨i, rfl⟩ : ∃ j : Nat, i = (j : Int) := ⟨i.toNat, by omega⟩
    rw [Int.toNat_natCast] at h
    refine ⟨p11.length + 1, (it19 p1 p11 k1 k2 k3 (p11.length + 1) i m (by omega) (Int.ofNat_le.1 k5)).trans h, ?_⟩
    unfold out19 at h
    rcases Tree.get_ite_some h with ⟨_, h⟩ | ⟨_, h⟩ <;> (injection h with h; injection h with h1 _; rw [← h1]; intro hh; cases hh)
  · cases h
noncomputable def rd19_0 (σ : St E.A) : Tree (Out' E) :=
  let c := clean E (L19_0 .normal) σ
  if c.sl.length = 39 then
  match c.sl.getD 1 .undef, c.sl.getD 3 .undef, c.sl.getD 11 .undef, c.sl.getD 12 .undef, c.sl.getD 13 .undef, c.ob 0, c.ob 256 with
  | .lf (.int .i64 p1), .lf (.ptr 256 0 0), .lf (.sl .val p11), .lf (.int .i64 p12), .lf (.int .i64 x13), some (.map .u16 .i64 o0a), some (.cells 32 [.mp 0 0]) => lam19_0 p1 p11 p12 (x13, o0a)
  | _, _, _, _, _, _, _ => .fail
  else .fail
theorem ll19_0 (hL : Laws E) (σ : St E.A) (e : Ex) (σ' : St E.A) (h : (rd19_0 σ).get = some (e, σ')) : LoopOK E (lb Go.Proofs.Tryz.f19 0) σ e σ' := by
  refine LoopOK.of_clean hL (L19_0 .normal) ?_
  unfold rd19_0 at h
  simp only at h
  split at h
  · rename_i hlen
    split at h
    · rename_i p1 p11 p12 x13 o0a h0 h1 h2 h3 h4 h5 h6
      refine LoopOK.lens 11 (fun g0 => ?_)
      rw [h2] at g0
      obtain ⟨fuel, hi, ho⟩ := m19_0 g0 h
      have hl := loop_at (Γ := G19) (Λ := fun _ _ => .fail) (n := 1) (body := lb Go.Proofs.Tryz.f19 0) hL (hG19 hL) (S := S19_0 p1 p11 p12) (t := t19_0 p1 p11 p12) (Lv := L19_0) (LamOK.none (by kernel_rfl)) (h19_0 p1 p11 p12) hi ho
      refine LoopOK.fit hlen ?_ ?_ rfl rfl hl
      · exact ⟨h0, h1, h2, h3, h4, trivial⟩
      · exact ⟨h5, h6, trivial⟩
    · cases h
  · cases h
noncomputable def Lam19 : Lam E
  | 0, σ => rd19_0 σ
  | _, _ => .fail
noncomputable def w19 (m : List (Int × Int)) (first : Int) (l : List Val) : Tree (RV E.A × List (Obj E.A)) :=
 .ite (eqI (↑l.length : Int) (↑l.length : Int) && decide (l.length ≤ (1000000000 : Nat)) && leI (0 : Int) first && leI first (65535 : Int) && leI (0 : Int) (0 : Int) && leI (0 : Int) (↑l.length : Int))
 (.ite ((Px.rowRun (List.drop (Int.toNat (0 : Int)) l) (first + (0 : Int)) m).fst)
  (.leaf (.lf (.bool true), [.map .u16 .i64 ((Px.rowRun (List.drop (Int.toNat (0 : Int)) l) (first + (0 : Int)) m).snd)]))
  (.leaf (.lf (.bool false), [.map .u16 .i64 ((Px.rowRun (List.drop (Int.toNat (0 : Int)) l) (first + (0 : Int)) m).snd)])))
 (.fail)
theorem e19 (m : List (Int × Int)) (first : Int) (l : List Val) : execFun E G19 ((Lam19)) false Go.Proofs.Tryz.f19 [.agg [.mp 0 0], .lf (.int .i64 first), .lf (.sl .val l)] [.map .u16 .i64 m] some = (w19 m first l).get := by kernel_rfl
noncomputable def raw19 : Spec E := fun args os => match args, os with
  | [.agg [.mp 0 0], .lf (.int .i64 first), .lf (.sl .val l)], [.map .u16 .i64 m] => w19 m first l
  | _, _ => .fail
theorem validraw19 (hL : Laws E) : Valid E 19 raw19 :=
  valid_of_body hL (hG19 hL) (Λ := (Lam19)) (fn := Go.Proofs.Tryz.f19) (keep := false) (by kernel_rfl) (by kernel_rfl) (by kernel_rfl) ((LamOK.of (m := 1) (by kernel_rfl) (fun j hj σ e σ' hg => by
      match j, hj with
      | 0, _ => exact ll19_0 hL σ e σ' hg
      ))) (fun args os r os' h => by
    unfold raw19 at h
    split at h
    · exact (e19 _ _ _).trans h
    · cases h)
noncomputable def spec19 : Spec E := fun args os => match args, os with
  | [.agg [.mp 0 0], .lf (.int .i64 c), .lf (.sl .val l)], [.map .u16 .i64 m] => .ite (decide (l.length ≤ 1000000000) && leI 0 c && leI c 65535) (.leaf (.lf (.bool (Px.rowRun l c m).1), [.map .u16 .i64 (Px.rowRun l c m).2])) .fail
  | _, _ => .fail
theorem eq19 (m : List (Int × Int)) (c : Int) (l : List Val) (h1 : l.length ≤ 1000000000) (h2 : 0 ≤ c) (h3 : c ≤ 65535) : (w19 m c l).get = some (.lf (.bool (Px.rowRun l c m).1), [.map .u16 .i64 (Px.rowRun l c m).2]) := by
  unfold w19
  have g : (eqI (l.length : Int) (l.length : Int) && decide (l.length ≤ (1000000000 : Nat)) && leI (0 : Int) c && leI c (65535 : Int) && leI (0 : Int) (0 : Int) && leI (0 : Int) (l.length : Int)) = true := by
    simp only [eqI_eq, leI_eq, Bool.and_eq_true, decide_eq_true_eq]
    exact ⟨⟨⟨⟨⟨trivial, h1⟩, h2⟩, h3⟩, by omega⟩, by omega⟩
  rw [Tree.get_ite, g, cond_true, Int.add_zero, Tree.get_ite]
  have e : List.drop (Int.toNat 0) l = l := rfl
  rw [e]
  cases (Px.rowRun l c m).1 <;> rfl
theorem valid19 (hL : Laws E) : Valid E 19 spec19 := (validraw19 hL).less (fun args os x _ _ h => by
  unfold spec19 at h
  split at h
  · rcases Tree.get_ite_some h with ⟨h1, h⟩ | ⟨_, h⟩
    · simp only [leI_eq, Bool.and_eq_true, decide_eq_true_eq] at h1
      exact (eq19 _ _ _ h1.1.1 h1.1.2 h1.2).trans h
    · cases h
  · cases h)
end Go.Vx
namespace Go.Vx
open Go
noncomputable def G20 : FuncId → Option (Spec E)
  | 18 => some spec18
  | _ => none
theorem hG20 (hL : Laws E) : ∀ f spec, G20 f = some spec → Valid E f spec := by
  intro f spec h
  unfold G20 at h
  split at h
  · injection h with h; subst h; exact valid18 hL
  · cases h
def L20_0 : Ex → Live
  | .normal => ⟨[3, 7, 9, 11], [0, 256]⟩
  | .exit 0 => ⟨[], [0]⟩
  | .ret => ⟨[6], [0, 256]⟩
  | _ => ⟨[], []⟩
noncomputable def S20_0 (p7 : Int) (p9 : Int) (x : Int × (List (Int × Int))) : St E.A := at' E 51 [(3, .lf (.ptr 256 0 0)), (7, .lf (.int .i64 p7)), (9, .lf (.int .i64 p9)), (11, .lf (.int .i64 x.1))] [(0, some (.map .u16 .i64 x.2)), (256, some (.cells 32 [.mp 0 0]))]
noncomputable def t20_0 (p7 : Int) (p9 : Int) (x : Int × (List (Int × Int))) : Tree (Int × (List (Int × Int)) ⊕ Out' E) :=
 .ite (leI x.fst p7)
 (.leaf (.inl ((IntKind.i64.wrap (x.fst + (1 : Int))), (mset_u16_i64 x.snd (IntKind.u16.wrap x.fst) p9))))
 (.leaf (.inr (.exit 0, at' E 51 [] [(0, some (.map .u16 .i64 x.snd))])))
theorem h20_0 (p7 : Int) (p9 : Int) (x : Int × (List (Int × Int))) (k : Ex → St E.A → Option Unit) :
    exec E G20 (fun _ _ => .fail) 1 (lb Go.Proofs.Tryz.f20 0) (S20_0 p7 p9 x) (fun e σ1 => k e (clean E (L20_0 e) σ1)) = (t20_0 p7 p9 x).run (Sum.elim (fun x' => k .normal (S20_0 p7 p9 x')) (fun o => k o.1 o.2)) := by kernel_rfl
noncomputable def lam20_0 (p7 : Int) (p9 : Int) (x : Int × (List (Int × Int))) : Tree (Out' E) :=
  .ite (leI 0 x.1 && leI p7 65535 && leI x.1 (p7 + 1)) (.leaf (.exit 0, at' E 51 [] [(0, some (.map .u16 .i64 (Px.spanRun (p7 - x.1 + 1).toNat x.1 p9 x.2)))])) .fail
theorem it20 (p7 p9 : Int) (h7 : p7 ≤ 65535) : ∀ (n : Nat) (c : Int) (m : List (Int × Int)), (p7 - c + 1).toNat < n → 0 ≤ c → c ≤ p7 + 1 →
    iter (t20_0 p7 p9) n (c, m) = some (.exit 0, at' E 51 [] [(0, some (.map .u16 .i64 (Px.spanRun (p7 - c + 1).toNat c p9 m)))])
  | 0, c, m, h, _, _ => by omega
  | n + 1, c, m, h, h1, h2 => by
    rw [iter]
    by_cases hc : c ≤ p7
    · have w1 : IntKind.i64.wrap (c + 1) = c + 1 := by rw [wi64] <;> omega
      have w2 : IntKind.u16.wrap c = c := by rw [wu16] <;> omega
      have ht : (t20_0 p7 p9 (c, m)).get = some (.inl (c + 1, Px.ms m c p9)) := by
        unfold t20_0
        have e : leI c p7 = true := by rw [leI_eq]; exact decide_eq_true hc
        simp only [Tree.get_ite, e, cond_true, w1, w2, Tree.get_leaf]
        rw [← Px.ms_eq]
      rw [ht]
      have ih := it20 p7 p9 h7 n (c + 1) (Px.ms m c p9) (by omega) (by omega) (by omega)
      have e : (p7 - c + 1).toNat = (p7 - (c + 1) + 1).toNat + 1 := by omega
      rw [e]
      exact ih
    · have ht : (t20_0 p7 p9 (c, m)).get = some (.inr (.exit 0, at' E 51 [] [(0, some (.map .u16 .i64 m))])) := by
        unfold t20_0
        have e : leI c p7 = false := by rw [leI_eq]; exact decide_eq_false hc
        simp only [Tree.get_ite, e, cond_false, Tree.get_leaf]
      rw [ht, show (p7 - c + 1).toNat = 0 by omega]
      rfl
theorem m20_0 {p7 p9 : Int} {x : Int × (List (Int × Int))} {e : Ex} {σ : St E.A}
    (h : (lam20_0 p7 p9 x).get = some (e, σ)) : ∃ fuel, iter (t20_0 p7 p9) fuel x = some (e, σ) ∧ e ≠ .normal := by
  obtain ⟨c, m⟩ := x
  unfold lam20_0 at h
  have h' := Tree.get_ite_some h
  clear h
  rcases h' with ⟨h1, h⟩ | ⟨_, h⟩
  · simp only [leI_eq, Bool.and_eq_true, decide_eq_true_eq] at h1
    obtain ⟨⟨k1, k2⟩, k3⟩ := h1
    refine ⟨_, (it20 p7 p9 k2 ((p7 - c + 1).toNat + 1) c m (Nat.lt_succ_self _) k1 k3).trans h, ?_⟩
    injection h with h; injection h with h1 _; rw [← h1]; intro hh; cases hh
  · cases h
noncomputable def rd20_0 (σ : St E.A) : Tree (Out' E) :=
  let c := clean E (L20_0 .normal) σ
  if c.sl.length = 51 then
  match c.sl.getD 3 .undef, c.sl.getD 7 .undef, c.sl.getD 9 .undef, c.sl.getD 11 .undef, c.ob 0, c.ob 256 with
  | .lf (.ptr 256 0 0), .lf (.int .i64 p7), .lf (.int .i64 p9), .lf (.int .i64 x11), some (.map .u16 .i64 o0a), some (.cells 32 [.mp 0 0]) => lam20_0 p7 p9 (x11, o0a)
  | _, _, _, _, _, _ => .fail
  else .fail
theorem ll20_0 (hL : Laws E) (σ : St E.A) (e : Ex) (σ' : St E.A) (h : (rd20_0 σ).get = some (e, σ')) : LoopOK E (lb Go.Proofs.Tryz.f20 0) σ e σ' := by
  refine LoopOK.of_clean hL (L20_0 .normal) ?_
  unfold rd20_0 at h
  simp only at h
  split at h
  · rename_i hlen
    split at h
    · rename_i p7 p9 x11 o0a h0 h1 h2 h3 h4 h5
      obtain ⟨fuel, hi, ho⟩ := m20_0 h
      have hl := loop_at (Γ := G20) (Λ := fun _ _ => .fail) (n := 1) (body := lb Go.Proofs.Tryz.f20 0) hL (hG20 hL) (S := S20_0 p7 p9) (t := t20_0 p7 p9) (Lv := L20_0) (LamOK.none (by kernel_rfl)) (h20_0 p7 p9) hi ho
      refine LoopOK.fit hlen ?_ ?_ rfl rfl hl
      · exact ⟨h0, h1, h2, h3, trivial⟩
      · exact ⟨h4, h5, trivial⟩
    · cases h
  · cases h
noncomputable def Lam20 : Lam E
  | 0, σ => rd20_0 σ
  | _, _ => .fail
noncomputable def w20 (m : List (Int × Int)) (first : Int) (l : List Val) : Tree (RV E.A × List (Obj E.A)) :=
 .ite (ltI (↑l.length : Int) (2 : Int))
 (.leaf (.lf (.bool false), [.map .u16 .i64 m]))
 (.ite (inB (0 : Int) l.length)
  (.ite (inB (1 : Int) l.length)
   (.ite (!Px.smallOk (Val.mk (l.getD (Int.toNat (0 : Int)) (Val.mk (0 : Int) (0 : Int) (0 : Int) [] [] [])).kind (l.getD (Int.toNat (0 : Int)) (Val.mk (0 : Int) (0 : Int) (0 : Int) [] [] [])).num (l.getD (Int.toNat (0 : Int)) (Val.mk (0 : Int) (0 : Int) (0 : Int) [] [] [])).gen (l.getD (Int.toNat (0 : Int)) (Val.mk (0 : Int) (0 : Int) (0 : Int) [] [] [])).text (l.getD (Int.toNat (0 : Int)) (Val.mk (0 : Int) (0 : Int) (0 : Int) [] [] [])).list (l.getD (Int.toNat (0 : Int)) (Val.mk (0 : Int) (0 : Int) (0 : Int) [] [] [])).keys))
    (.leaf (.lf (.bool false), [.map .u16 .i64 m]))
    (.ite (!Px.smallOk (Val.mk (l.getD (Int.toNat (1 : Int)) (Val.mk (0 : Int) (0 : Int) (0 : Int) [] [] [])).kind (l.getD (Int.toNat (1 : Int)) (Val.mk (0 : Int) (0 : Int) (0 : Int) [] [] [])).num (l.getD (Int.toNat (1 : Int)) (Val.mk (0 : Int) (0 : Int) (0 : Int) [] [] [])).gen (l.getD (Int.toNat (1 : Int)) (Val.mk (0 : Int) (0 : Int) (0 : Int) [] [] [])).text (l.getD (Int.toNat (1 : Int)) (Val.mk (0 : Int) (0 : Int) (0 : Int) [] [] [])).list (l.getD (Int.toNat (1 : Int)) (Val.mk (0 : Int) (0 : Int) (0 : Int) [] [] [])).keys))
     (.leaf (.lf (.bool false), [.map .u16 .i64 m]))
     (.ite (ltI (l.getD (Int.toNat (0 : Int)) (Val.mk (0 : Int) (0 : Int) (0 : Int) [] [] [])).num first)
      (.leaf (.lf (.bool false), [.map .u16 .i64 m]))
      (.ite (leI (0 : Int) first && leI (l.getD (Int.toNat (0 : Int)) (Val.mk (0 : Int) (0 : Int) (0 : Int) [] [] [])).num (65535 : Int) && leI first ((l.getD (Int.toNat (0 : Int)) (Val.mk (0 : Int) (0 : Int) (0 : Int) [] [] [])).num + (1 : Int)))
       (.leaf (.lf (.bool true), [.map .u16 .i64 (Px.spanRun ((l.getD (Int.toNat (0 : Int)) (Val.mk (0 : Int) (0 : Int) (0 : Int) [] [] [])).num - first + (1 : Int)).toNat first (l.getD (Int.toNat (1 : Int)) (Val.mk (0 : Int) (0 : Int) (0 : Int) [] [] [])).num m)]))
       (.fail)))))
   (.fail))
  (.fail))
theorem e20 (m : List (Int × Int)) (first : Int) (l : List Val) : execFun E G20 ((Lam20)) false Go.Proofs.Tryz.f20 [.agg [.mp 0 0], .lf (.int .i64 first), .lf (.sl .val l)] [.map .u16 .i64 m] some = (w20 m first l).get := by kernel_rfl
noncomputable def raw20 : Spec E := fun args os => match args, os with
  | [.agg [.mp 0 0], .lf (.int .i64 first), .lf (.sl .val l)], [.map .u16 .i64 m] => w20 m first l
  | _, _ => .fail
theorem validraw20 (hL : Laws E) : Valid E 20 raw20 :=
  valid_of_body hL (hG20 hL) (Λ := (Lam20)) (fn := Go.Proofs.Tryz.f20) (keep := false) (by kernel_rfl) (by kernel_rfl) (by kernel_rfl) ((LamOK.of (m := 1) (by kernel_rfl) (fun j hj σ e σ' hg => by
      match j, hj with
      | 0, _ => exact ll20_0 hL σ e σ' hg
      ))) (fun args os r os' h => by
    unfold raw20 at h
    split at h
    · exact (e20 _ _ _).trans h
    · cases h)
noncomputable def spec20 : Spec E := fun args os => match args, os with
  | [.agg [.mp 0 0], .lf (.int .i64 c), .lf (.sl .val l)], [.map .u16 .i64 m] => .ite (decide (l.length ≤ 1000000000) && leI 0 c && leI c 65535) (.leaf (.lf (.bool (Px.spanOf l c m).1), [.map .u16 .i64 (Px.spanOf l c m).2])) .fail
  | _, _ => .fail
theorem eq20 (m : List (Int × Int)) (c : Int) (l : List Val) (h1 : l.length ≤ 1000000000) (h2 : 0 ≤ c) (h3 : c ≤ 65535) : (w20 m c l).get = some (.lf (.bool (Px.spanOf l c m).1), [.map .u16 .i64 (Px.spanOf l c m).2]) := by
  unfold w20 Px.spanOf
  have e0 : Nat.blt 1 l.length = !ltI (l.length : Int) 2 := by
    rw [ltI_eq]
    by_cases h : 1 < l.length
    · rw [decide_eq_false (by omega)]; exact Nat.ble_eq.mpr h
    · rw [decide_eq_true (by omega)]
      cases hb : Nat.blt 1 l.length with
      | false => rfl
      | true => exact absurd (Nat.le_of_ble_eq_true hb) h
  rw [e0, Tree.get_ite]
  cases hl : ltI (l.length : Int) 2 with
  | true => rfl
  | false =>
    rw [ltI_eq, decide_eq_false_iff_not] at hl
    have i0 : inB (0 : Int) l.length = true := inB_true.2 ⟨by omega, by omega⟩
    have i1 : inB (1 : Int) l.length = true := inB_true.2 ⟨by omega, by omega⟩
    have z0 : Int.toNat 0 = 0 := rfl
    have z1 : Int.toNat 1 = 1 := rfl
    obtain ⟨a, ha⟩ : ∃ a, l.getD 0 Px.vz = a := ⟨_, rfl⟩
    obtain ⟨b, hb⟩ : ∃ b, l.getD 1 Px.vz = b := ⟨_, rfl⟩
    simp only [Tree.get_ite, i0, i1, z0, z1, cond_true, cond_false, ha, hb, Bool.not_false, Bool.true_and, Px.val_eta]
    have e5 : ltI a.num c = !leI c a.num := by
      rw [ltI_eq, leI_eq, ← decide_not]; exact decide_eq_decide.2 (by omega)
    rw [e5]
    cases q1 : Px.smallOk a with
    | false => rfl
    | true =>
      cases q2 : Px.smallOk b with
      | false => rfl
      | true =>
        cases q7 : leI c a.num with
        | false => rfl
        | true =>
          unfold Px.smallOk at q1
          simp only [Bool.and_eq_true] at q1
          have e6 : leI 0 c = true := by rw [leI_eq]; exact decide_eq_true h2
          have e7 : leI c (a.num + 1) = true := by
            rw [leI_eq, decide_eq_true_eq] at q7
            rw [leI_eq]; exact decide_eq_true (by omega)
          rw [e6, e7, q1.2]
          rfl
theorem valid20 (hL : Laws E) : Valid E 20 spec20 := (validraw20 hL).less (fun args os x _ _ h => by
  unfold spec20 at h
  split at h
  · rcases Tree.get_ite_some h with ⟨h1, h⟩ | ⟨_, h⟩
    · simp only [leI_eq, Bool.and_eq_true, decide_eq_true_eq] at h1
      exact (eq20 _ _ _ h1.1.1 h1.1.2 h1.2).trans h
    · cases h
  · cases h)
end Go.Vx
namespace Go.Vx
open Go
noncomputable def G9 : FuncId → Option (Spec E)
  | 18 => some spec18
  | 19 => some spec19
  | 20 => some spec20
  | _ => none
theorem hG9 (hL : Laws E) : ∀ f spec, G9 f = some spec → Valid E f spec := by
  intro f spec h
  unfold G9 at h
  split at h
  · injection h with h; subst h; exact valid18 hL
  · injection h with h; subst h; exact valid19 hL
  · injection h with h; subst h; exact valid20 hL
  · cases h
def L9_0 : Ex → Live
  | .normal => ⟨[2, 4, 5], [192, 320, 832]⟩
  | .exit 0 => ⟨[2, 4], [192, 320, 832]⟩
  | .ret => ⟨[2, 3], [192]⟩
  | _ => ⟨[], []⟩
noncomputable def S9_0  (x : (List Val) × (List (Int × Int))) : St E.A := at' E 63 [(2, .lf (.ptr 192 0 0)), (4, .lf (.ptr 320 0 0)), (5, .lf (.sl .val x.1))] [(192, some (.cells 32 [.lit (Go.Value.map Option.none)])), (320, some (.cells 32 [.mp 832 0])), (832, some (.map .u16 .i64 x.2))]
noncomputable def t9_0  (x : (List Val) × (List (Int × Int))) : Tree ((List Val) × (List (Int × Int)) ⊕ Out' E) :=
 .ite (ltI (0 : Int) (↑x.fst.length : Int))
 (.ite (inB (0 : Int) x.fst.length)
  (.ite (inB (1 : Int) (x.fst.length + (1 : Nat)))
   (.ite (!Px.smallOk (Val.mk (x.fst.getD (Int.toNat (0 : Int)) (Val.mk (0 : Int) (0 : Int) (0 : Int) [] [] [])).kind (x.fst.getD (Int.toNat (0 : Int)) (Val.mk (0 : Int) (0 : Int) (0 : Int) [] [] [])).num (x.fst.getD (Int.toNat (0 : Int)) (Val.mk (0 : Int) (0 : Int) (0 : Int) [] [] [])).gen (x.fst.getD (Int.toNat (0 : Int)) (Val.mk (0 : Int) (0 : Int) (0 : Int) [] [] [])).text (x.fst.getD (Int.toNat (0 : Int)) (Val.mk (0 : Int) (0 : Int) (0 : Int) [] [] [])).list (x.fst.getD (Int.toNat (0 : Int)) (Val.mk (0 : Int) (0 : Int) (0 : Int) [] [] [])).keys))
    (.leaf (.inr (.ret, at' E 63 [(2, .lf (.ptr 192 0 0)), (3, .lf (.int .i64 ((2 : Int))))] [(192, some (.cells 32 [.lit (Go.Value.map Option.none)]))])))
    (.ite (eqI (↑(List.drop (Int.toNat (1 : Int)) x.fst).length : Int) (0 : Int))
     (.leaf (.inr (.ret, at' E 63 [(2, .lf (.ptr 192 0 0)), (3, .lf (.int .i64 ((2 : Int))))] [(192, some (.cells 32 [.lit (Go.Value.map Option.none)]))])))
     (.ite (inB (0 : Int) (List.drop (Int.toNat (1 : Int)) x.fst).length)
      (.ite (eqI ((List.drop (Int.toNat (1 : Int)) x.fst).getD (Int.toNat (0 : Int)) (Val.mk (0 : Int) (0 : Int) (0 : Int) [] [] [])).kind (5 : Int))
       (.ite (inB (0 : Int) (List.drop (Int.toNat (1 : Int)) x.fst).length)
        (.ite (decide (((List.drop (Int.toNat (1 : Int)) x.fst).getD (Int.toNat (0 : Int)) (Val.mk (0 : Int) (0 : Int) (0 : Int) [] [] [])).list.length ≤ (1000000000 : Nat)) && leI (0 : Int) (x.fst.getD (Int.toNat (0 : Int)) (Val.mk (0 : Int) (0 : Int) (0 : Int) [] [] [])).num && leI (x.fst.getD (Int.toNat (0 : Int)) (Val.mk (0 : Int) (0 : Int) (0 : Int) [] [] [])).num (65535 : Int))
         (.ite (!(Px.rowRun ((List.drop (Int.toNat (1 : Int)) x.fst).getD (Int.toNat (0 : Int)) (Val.mk (0 : Int) (0 : Int) (0 : Int) [] [] [])).list (x.fst.getD (Int.toNat (0 : Int)) (Val.mk (0 : Int) (0 : Int) (0 : Int) [] [] [])).num x.snd).fst)
          (.leaf (.inr (.ret, at' E 63 [(2, .lf (.ptr 192 0 0)), (3, .lf (.int .i64 ((2 : Int))))] [(192, some (.cells 32 [.lit (Go.Value.map Option.none)]))])))
          (.ite (inB (1 : Int) ((List.drop (Int.toNat (1 : Int)) x.fst).length + (1 : Nat)))
           (.leaf (.inl ((List.drop (Int.toNat (1 : Int)) (List.drop (Int.toNat (1 : Int)) x.fst)), ((Px.rowRun ((List.drop (Int.toNat (1 : Int)) x.fst).getD (Int.toNat (0 : Int)) (Val.mk (0 : Int) (0 : Int) (0 : Int) [] [] [])).list (x.fst.getD (Int.toNat (0 : Int)) (Val.mk (0 : Int) (0 : Int) (0 : Int) [] [] [])).num x.snd).snd))))
           (.fail)))
         (.fail))
        (.fail))
       (.ite (decide ((List.drop (Int.toNat (1 : Int)) x.fst).length ≤ (1000000000 : Nat)) && leI (0 : Int) (x.fst.getD (Int.toNat (0 : Int)) (Val.mk (0 : Int) (0 : Int) (0 : Int) [] [] [])).num && leI (x.fst.getD (Int.toNat (0 : Int)) (Val.mk (0 : Int) (0 : Int) (0 : Int) [] [] [])).num (65535 : Int))
        (.ite (!(Px.spanOf (List.drop (Int.toNat (1 : Int)) x.fst) (x.fst.getD (Int.toNat (0 : Int)) (Val.mk (0 : Int) (0 : Int) (0 : Int) [] [] [])).num x.snd).fst)
         (.leaf (.inr (.ret, at' E 63 [(2, .lf (.ptr 192 0 0)), (3, .lf (.int .i64 ((2 : Int))))] [(192, some (.cells 32 [.lit (Go.Value.map Option.none)]))])))
         (.ite (inB (2 : Int) ((List.drop (Int.toNat (1 : Int)) x.fst).length + (1 : Nat)))
          (.leaf (.inl ((List.drop (Int.toNat (2 : Int)) (List.drop (Int.toNat (1 : Int)) x.fst)), ((Px.spanOf (List.drop (Int.toNat (1 : Int)) x.fst) (x.fst.getD (Int.toNat (0 : Int)) (Val.mk (0 : Int) (0 : Int) (0 : Int) [] [] [])).num x.snd).snd))))
          (.fail)))
        (.fail)))
      (.fail))))
   (.fail))
  (.fail))
 (.leaf (.inr (.exit 0, at' E 63 [(2, .lf (.ptr 192 0 0)), (4, .lf (.ptr 320 0 0))] [(192, some (.cells 32 [.lit (Go.Value.map Option.none)])), (320, some (.cells 32 [.mp 832 0])), (832, some (.map .u16 .i64 x.snd))])))
theorem h9_0  (x : (List Val) × (List (Int × Int))) (k : Ex → St E.A → Option Unit) :
    exec E G9 (fun _ _ => .fail) 1 (lb Go.Proofs.Tryz.f9 0) (S9_0  x) (fun e σ1 => k e (clean E (L9_0 e) σ1)) = (t9_0  x).run (Sum.elim (fun x' => k .normal (S9_0  x')) (fun o => k o.1 o.2)) := by kernel_rfl
noncomputable def out9 (r : Bool × List (Int × Int)) : Tree (Out' E) :=
  .ite r.1 (.leaf (.exit 0, at' E 63 [(2, .lf (.ptr 192 0 0)), (4, .lf (.ptr 320 0 0))] [(192, some (.cells 32 [.lit (Go.Value.map Option.none)])), (320, some (.cells 32 [.mp 832 0])), (832, some (.map .u16 .i64 r.2))]))
    (.leaf (.ret, at' E 63 [(2, .lf (.ptr 192 0 0)), (3, .lf (.int .i64 2))] [(192, some (.cells 32 [.lit (Go.Value.map Option.none)]))]))
noncomputable def lam9_0 (x : (List Val) × (List (Int × Int))) : Tree (Out' E) :=
  .ite (Px.shortV x.1) (out9 (Px.widRun (x.1.length + 1) x.1 x.2)) .fail
theorem it9 : ∀ (n : Nat) (l : List Val) (m : List (Int × Int)), l.length < n → Px.shortV l = true → iter t9_0 n (l, m) = (out9 (Px.widRun n l m)).get
  | 0, l, m, h, _ => by omega
  | n + 1, [], m, h, _ => rfl
  | n + 1, [v], m, h, hs => by
    rw [iter]
    have i1 : ltI (0 : Int) (([v] : List Val).length : Int) = true := rfl
    have ht : (t9_0 ([v], m)).get = some (.inr (.ret, at' E 63 [(2, .lf (.ptr 192 0 0)), (3, .lf (.int .i64 2))] [(192, some (.cells 32 [.lit (Go.Value.map Option.none)]))])) := by
      unfold t9_0
      have i2 : inB (0 : Int) ([v] : List Val).length = true := rfl
      have i3 : inB (1 : Int) (([v] : List Val).length + 1) = true := rfl
      have z0 : ([v] : List Val).getD (Int.toNat 0) Px.vz = v := rfl
      have e : eqI ((List.drop (Int.toNat 1) ([v] : List Val)).length : Int) 0 = true := rfl
      simp only [Tree.get_ite, i1, i2, i3, cond_true, z0, Px.val_eta, e]
      cases Px.smallOk v <;> rfl
    rw [ht]
    rfl
  | n + 1, v :: u :: r, m, h, hs => by
    rw [iter]
    rw [List.length_cons, List.length_cons] at h
    obtain ⟨hs1, _, _⟩ := Px.shortV_tail hs
    obtain ⟨hs2, hu, hr⟩ := Px.shortV_tail hs1
    have i1 : ltI (0 : Int) ((v :: u :: r).length : Int) = true := by rw [ltI_eq, List.length_cons]; exact decide_eq_true (by omega)
    have i2 : inB (0 : Int) (v :: u :: r).length = true := inB_true.2 ⟨by omega, by rw [List.length_cons]; omega⟩
    have i3 : inB (1 : Int) ((v :: u :: r).length + 1) = true := inB_true.2 ⟨by omega, by rw [List.length_cons]; omega⟩
    have d1 : List.drop (Int.toNat 1) (v :: u :: r) = u :: r := rfl
    have z0 : (v :: u :: r).getD (Int.toNat 0) Px.vz = v := rfl
    have z1 : (u :: r).getD (Int.toNat 0) Px.vz = u := rfl
    have i4 : eqI ((u :: r).length : Int) 0 = false := by rw [eqI_eq, List.length_cons]; exact decide_eq_false (by omega)
    have i5 : inB (0 : Int) (u :: r).length = true := inB_true.2 ⟨by omega, by rw [List.length_cons]; omega⟩
    have i6 : inB (1 : Int) ((u :: r).length + 1) = true := inB_true.2 ⟨by omega, by rw [List.length_cons]; omega⟩
    unfold t9_0
    simp only [Tree.get_ite, i1, i2, i3, d1, z0, z1, i4, i5, i6, cond_true, cond_false, Px.val_eta]
    unfold Px.widRun
    cases hv : Px.smallOk v with
    | false => rfl
    | true =>
      obtain ⟨v0, v1⟩ := Px.small_range hv
      have g1 : (decide (u.list.length ≤ (1000000000 : Nat)) && leI (0 : Int) v.num && leI v.num (65535 : Int)) = true := by
        simp only [leI_eq, Bool.and_eq_true, decide_eq_true_eq]; exact ⟨⟨hu, v0⟩, v1⟩
      have g2 : (decide ((u :: r).length ≤ (1000000000 : Nat)) && leI (0 : Int) v.num && leI v.num (65535 : Int)) = true := by
        simp only [leI_eq, Bool.and_eq_true, decide_eq_true_eq]
        have := Px.shortV_drop hs 1
        unfold Px.shortV at this
        simp only [Bool.and_eq_true, decide_eq_true_eq] at this
        exact ⟨⟨this.1, v0⟩, v1⟩
      simp only [Bool.not_true, cond_false, cond_true, g1, g2]
      cases eqI u.kind 5 with
      | true =>
        simp only [cond_true]
        cases hq : (Px.rowRun u.list v.num m).1 with
        | false => rfl
        | true =>
          simp only [Bool.not_true, cond_false, cond_true, Tree.get_leaf]
          exact it9 n r _ (by omega) hs2
      | false =>
        simp only [cond_false]
        cases hq : (Px.spanOf (u :: r) v.num m).1 with
        | false => rfl
        | true =>
          have hl := Px.spanOf_len hq
          have i7 : inB (2 : Int) ((u :: r).length + 1) = true := inB_true.2 ⟨by omega, by omega⟩
          simp only [Bool.not_true, cond_false, cond_true, i7, Tree.get_leaf]
          have d2 : List.drop (Int.toNat 2) (u :: r) = r.drop 1 := rfl
          rw [d2]
          exact it9 n (r.drop 1) _ (by rw [List.length_drop]; omega) (Px.shortV_drop hs2 1)
theorem m9_0 {x : (List Val) × (List (Int × Int))} {e : Ex} {σ : St E.A} (_ : okLenR (E := E) (.lf (.sl .val x.1)) = true)
    (h : (lam9_0 x).get = some (e, σ)) : ∃ fuel, iter t9_0 fuel x = some (e, σ) ∧ e ≠ .normal := by
  obtain ⟨l, m⟩ := x
  unfold lam9_0 at h
  have h' := Tree.get_ite_some h
  clear h
  rcases h' with ⟨h1, h⟩ | ⟨_, h⟩
  · refine ⟨l.length + 1, (it9 (l.length + 1) l m (Nat.lt_succ_self _) h1).trans h, ?_⟩
    unfold out9 at h
    rcases Tree.get_ite_some h with ⟨_, h⟩ | ⟨_, h⟩ <;> (injection h with h; injection h with h1 _; rw [← h1]; intro hh; cases hh)
  · cases h
noncomputable def rd9_0 (σ : St E.A) : Tree (Out' E) :=
  let c := clean E (L9_0 .normal) σ
  if c.sl.length = 63 then
  match c.sl.getD 2 .undef, c.sl.getD 4 .undef, c.sl.getD 5 .undef, c.ob 192, c.ob 320, c.ob 832 with
  | .lf (.ptr 192 0 0), .lf (.ptr 320 0 0), .lf (.sl .val x5), some (.cells 32 [.lit (Go.Value.map Option.none)]), some (.cells 32 [.mp 832 0]), some (.map .u16 .i64 o832a) => lam9_0  (x5, o832a)
  | _, _, _, _, _, _ => .fail
  else .fail
theorem ll9_0 (hL : Laws E) (σ : St E.A) (e : Ex) (σ' : St E.A) (h : (rd9_0 σ).get = some (e, σ')) : LoopOK E (lb Go.Proofs.Tryz.f9 0) σ e σ' := by
  refine LoopOK.of_clean hL (L9_0 .normal) ?_
  unfold rd9_0 at h
  simp only at h
  split at h
  · rename_i hlen
    split at h
    · rename_i x5 o832a h0 h1 h2 h3 h4 h5
      refine LoopOK.lens 5 (fun g0 => ?_)
      rw [h2] at g0
      obtain ⟨fuel, hi, ho⟩ := m9_0 g0 h
      have hl := loop_at (Γ := G9) (Λ := fun _ _ => .fail) (n := 1) (body := lb Go.Proofs.Tryz.f9 0) hL (hG9 hL) (S := S9_0 ) (t := t9_0 ) (Lv := L9_0) (LamOK.none (by kernel_rfl)) (h9_0 ) hi ho
      refine LoopOK.fit hlen ?_ ?_ rfl rfl hl
      · exact ⟨h0, h1, h2, trivial⟩
      · exact ⟨h3, h4, h5, trivial⟩
    · cases h
  · cases h
noncomputable def Lam9 : Lam E
  | 0, σ => rd9_0 σ
  | _, _ => .fail
noncomputable def w9 (a0Kind : Int) (a0Num : Int) (a0Gen : Int) (a0Text : List UInt8) (a0List : List Val) (a0Keys : List (List UInt8)) : Tree (RV E.A × List (Obj E.A)) :=
 .ite (!eqI a0Kind (5 : Int))
 (.leaf (.tup [(true, [.lit (Go.Value.map Option.none)]), (false, [.int .i64 ((2 : Int))])], []))
 (.ite (Px.shortV a0List)
  (.ite ((Px.widRun (a0List.length + (1 : Nat)) a0List []).fst)
   (.leaf (.tup [(true, [.mp 0 0]), (false, [.int .i64 ((0 : Int))])], [.map .u16 .i64 ((Px.widRun (a0List.length + (1 : Nat)) a0List []).snd)]))
   (.leaf (.tup [(true, [.lit (Go.Value.map Option.none)]), (false, [.int .i64 ((2 : Int))])], [])))
  (.fail))
theorem e9 (a0Kind : Int) (a0Num : Int) (a0Gen : Int) (a0Text : List UInt8) (a0List : List Val) (a0Keys : List (List UInt8)) : execFun E G9 ((Lam9)) false Go.Proofs.Tryz.f9 [.agg [.int .u8 a0Kind, .int .i64 a0Num, .int .i64 a0Gen, .str a0Text, .sl .val a0List, .sl .str a0Keys]] [] some = (w9 a0Kind a0Num a0Gen a0Text a0List a0Keys).get := by kernel_rfl
noncomputable def raw9 : Spec E := fun args os => match args, os with
  | [.agg [.int .u8 a0Kind, .int .i64 a0Num, .int .i64 a0Gen, .str a0Text, .sl .val a0List, .sl .str a0Keys]], [] => w9 a0Kind a0Num a0Gen a0Text a0List a0Keys
  | _, _ => .fail
theorem validraw9 (hL : Laws E) : Valid E 9 raw9 :=
  valid_of_body hL (hG9 hL) (Λ := (Lam9)) (fn := Go.Proofs.Tryz.f9) (keep := false) (by kernel_rfl) (by kernel_rfl) (by kernel_rfl) ((LamOK.of (m := 1) (by kernel_rfl) (fun j hj σ e σ' hg => by
      match j, hj with
      | 0, _ => exact ll9_0 hL σ e σ' hg
      ))) (fun args os r os' h => by
    unfold raw9 at h
    split at h
    · exact (e9 _ _ _ _ _ _).trans h
    · cases h)
noncomputable def ans9 (k : Int) (l : List Val) : Tree (RV E.A × List (Obj E.A)) :=
  .ite (!eqI k 5) (.leaf (.tup [(true, [.lit (Go.Value.map Option.none)]), (false, [.int .i64 2])], []))
   (.ite (Px.shortV' l) (.ite (Px.widB' l) (.leaf (.tup [(true, [.mp 0 0]), (false, [.int .i64 0])], [.map .u16 .i64 (Px.widM' l)])) (.leaf (.tup [(true, [.lit (Go.Value.map Option.none)]), (false, [.int .i64 2])], []))) .fail)
noncomputable def spec9 : Spec E := fun args os => match args, os with
  | [.agg [.int .u8 k, .int .i64 _, .int .i64 _, .str _, .sl .val l, .sl .str _]], [] => ans9 k l
  | _, _ => .fail
theorem valid9 (hL : Laws E) : Valid E 9 spec9 := (validraw9 hL).less (fun args os x _ _ h => by
  unfold spec9 at h
  split at h
  · unfold ans9 at h
    rw [Px.shortV'_eq, Px.widB'_eq, Px.widM'_eq] at h
    exact h
  · cases h)
end Go.Vx
namespace Go.Vx
open Go
noncomputable def G10 : FuncId → Option (Spec E) := fun _ => none
theorem hG10 (hL : Laws E) : ∀ f spec, G10 f = some spec → Valid E f spec := by
  intro f spec h
  cases h
noncomputable def w10 (m : List (Int × Int)) : Tree (RV E.A × List (Obj E.A)) :=
 .ite (decide (m.length ≤ (2 : Nat) ^ (62 : Nat)))
 (.leaf (.lf (.int .i64 ((↑m.length : Int))), [.map .u16 .i64 m]))
 (.fail)
theorem e10 (m : List (Int × Int)) : execFun E G10 (fun _ _ => .fail) false Go.Proofs.Tryz.f10 [.agg [.mp 0 0]] [.map .u16 .i64 m] some = (w10 m).get := by kernel_rfl
noncomputable def w10_1  : Tree (RV E.A × List (Obj E.A)) :=
 .leaf (.lf (.int .i64 ((0 : Int))), [])
theorem e10_1  : execFun E G10 (fun _ _ => .fail) false Go.Proofs.Tryz.f10 [.agg [.lit (.map none)]] [] some = (w10_1 ).get := by kernel_rfl
noncomputable def spec10 : Spec E := fun args os => match args, os with
  | [.agg [.mp 0 0]], [.map .u16 .i64 m] => w10 m
  | [.agg [.lit (.map none)]], [] => w10_1
  | _, _ => .fail
theorem valid10 (hL : Laws E) : Valid E 10 spec10 :=
  valid_of_body hL (hG10 hL) (Λ := fun _ _ => .fail) (fn := Go.Proofs.Tryz.f10) (keep := false) (by kernel_rfl) (by kernel_rfl) (by kernel_rfl) (LamOK.none (by kernel_rfl)) (fun args os r os' h => by
    unfold spec10 at h
    split at h
    · exact (e10 _).trans h
    · exact (e10_1 ).trans h
    · cases h)
end Go.Vx
namespace Go.Vx
open Go
noncomputable def G12 : FuncId → Option (Spec E) := fun _ => none
theorem hG12 (hL : Laws E) : ∀ f spec, G12 f = some spec → Valid E f spec := by
  intro f spec h
  cases h
noncomputable def w12 (a0 : List UInt8) : Tree (RV E.A × List (Obj E.A)) :=
 .leaf (.agg [.int .u8 ((3 : Int)), .int .i64 ((0 : Int)), .int .i64 ((0 : Int)), .str a0, .sl .val [], .sl .str []], [])
theorem e12 (a0 : List UInt8) : execFun E G12 (fun _ _ => .fail) false Go.Proofs.Tryz.f12 [.lf (.str a0)] [] some = (w12 a0).get := by kernel_rfl
noncomputable def spec12 : Spec E := fun args os => match args, os with
  | [.lf (.str a0)], [] => w12 a0
  | _, _ => .fail
theorem valid12 (hL : Laws E) : Valid E 12 spec12 :=
  valid_of_body hL (hG12 hL) (Λ := fun _ _ => .fail) (fn := Go.Proofs.Tryz.f12) (keep := false) (by kernel_rfl) (by kernel_rfl) (by kernel_rfl) (LamOK.none (by kernel_rfl)) (fun args os r os' h => by
    unfold spec12 at h
    split at h
    · exact (e12 _).trans h
    · cases h)
end Go.Vx
namespace Go.Vx
open Go
noncomputable def G13 : FuncId → Option (Spec E) := fun _ => none
theorem hG13 (hL : Laws E) : ∀ f spec, G13 f = some spec → Valid E f spec := by
  intro f spec h
  cases h
noncomputable def w13 (a0 : Int) : Tree (RV E.A × List (Obj E.A)) :=
 .leaf (.agg [.int .u8 ((7 : Int)), .int .i64 a0, .int .i64 ((0 : Int)), .str [], .sl .val [], .sl .str []], [])
theorem e13 (a0 : Int) : execFun E G13 (fun _ _ => .fail) false Go.Proofs.Tryz.f13 [.lf (.int .i64 a0)] [] some = (w13 a0).get := by kernel_rfl
noncomputable def spec13 : Spec E := fun args os => match args, os with
  | [.lf (.int .i64 a0)], [] => w13 a0
  | _, _ => .fail
theorem valid13 (hL : Laws E) : Valid E 13 spec13 :=
  valid_of_body hL (hG13 hL) (Λ := fun _ _ => .fail) (fn := Go.Proofs.Tryz.f13) (keep := false) (by kernel_rfl) (by kernel_rfl) (by kernel_rfl) (LamOK.none (by kernel_rfl)) (fun args os r os' h => by
    unfold spec13 at h
    split at h
    · exact (e13 _).trans h
    · cases h)
end Go.Vx
namespace Go.Vx
open Go
noncomputable def G4 : FuncId → Option (Spec E)
  | 6 => some spec6
  | 7 => some spec7
  | 8 => some spec8
  | 9 => some spec9
  | 10 => some spec10
  | 12 => some spec12
  | 13 => some spec13
  | _ => none
theorem hG4 (hL : Laws E) : ∀ f spec, G4 f = some spec → Valid E f spec := by
  intro f spec h
  unfold G4 at h
  split at h
  · injection h with h; subst h; exact valid6 hL
  · injection h with h; subst h; exact valid7 hL
  · injection h with h; subst h; exact valid8 hL
  · injection h with h; subst h; exact valid9 hL
  · injection h with h; subst h; exact valid10 hL
  · injection h with h; subst h; exact valid12 hL
  · injection h with h; subst h; exact valid13 hL
  · cases h
def L4_0 : Ex → Live
  | .normal => ⟨[0, 1, 2, 7, 17, 18], []⟩
  | .exit 0 => ⟨[0, 1, 2, 7], []⟩
  | .ret => ⟨[6], []⟩
  | _ => ⟨[], []⟩
noncomputable def S4_0 (p0 : Int) (p1 : Int) (p2 : Int) (p17 : Int) (x : (List Val) × Int) : St E.A := at' E 101 [(0, .lf (.int .u16 p0)), (1, .lf (.int .u8 p1)), (2, .lf (.int .u8 p2)), (7, .lf (.own 0 0 .val x.1)), (17, .lf (.int .u8 p17)), (18, .lf (.int .u8 x.2))] []
noncomputable def t4_0 (p0 : Int) (p1 : Int) (p2 : Int) (p17 : Int) (x : (List Val) × Int) : Tree ((List Val) × Int ⊕ Out' E) :=
 .ite (ltI x.snd p17)
 (.ite (decide ((x.fst.length + [Val.mk (2 : Int) (7 : Int) (0 : Int) [] [] []].length) * (88 : Nat) ≤ (140737488355328 : Nat)))
  (.leaf (.inl ((x.fst ++ [Val.mk (2 : Int) (7 : Int) (0 : Int) [] [] []]), (IntKind.u8.wrap (x.snd + (1 : Int))))))
  (.fail))
 (.leaf (.inr (.exit 0, at' E 101 [(0, .lf (.int .u16 p0)), (1, .lf (.int .u8 p1)), (2, .lf (.int .u8 p2)), (7, .lf (.own 0 0 .val x.fst))] [])))
theorem h4_0 (p0 : Int) (p1 : Int) (p2 : Int) (p17 : Int) (x : (List Val) × Int) (k : Ex → St E.A → Option Unit) :
    exec E G4 (fun _ _ => .fail) 1 (lb Go.Proofs.Tryz.f4 0) (S4_0 p0 p1 p2 p17 x) (fun e σ1 => k e (clean E (L4_0 e) σ1)) = (t4_0 p0 p1 p2 p17 x).run (Sum.elim (fun x' => k .normal (S4_0 p0 p1 p2 p17 x')) (fun o => k o.1 o.2)) := by kernel_rfl
end Go.Vx
namespace Px
open Go.Vx Go
/-- so many sevens -/
def sevens (n : Nat) : List Val := List.replicate n (Val.mk (2 : Int) (7 : Int) (0 : Int) [] [] [])
end Px
namespace Go.Vx
open Go
noncomputable def lam4_0 (p0 : Int) (p1 : Int) (p2 : Int) (p17 : Int) (x : (List Val) × Int) : Tree (Out' E) :=
  .ite (leI 0 x.2 && leI x.2 p17 && leI p17 255 && decide (x.1.length ≤ 1000))
   (.leaf (.exit 0, at' E 101 [(0, .lf (.int .u16 p0)), (1, .lf (.int .u8 p1)), (2, .lf (.int .u8 p2)), (7, .lf (.own 0 0 .val (x.1 ++ Px.sevens (p17 - x.2).toNat)))] [])) .fail
theorem it4 (p0 p1 p2 : Int) (k : Nat) (hk : k ≤ 255) : ∀ (n i : Nat) (r : List Val), k < n + i → i ≤ k → r.length ≤ 1000 + i →
    iter (t4_0 p0 p1 p2 (k : Int)) n (r, (i : Int)) = some (.exit 0, at' E 101 [(0, .lf (.int .u16 p0)), (1, .lf (.int .u8 p1)), (2, .lf (.int .u8 p2)), (7, .lf (.own 0 0 .val (r ++ Px.sevens ((k : Int) - (i : Int)).toNat)))] [])
  | 0, i, r, h, h2, _ => by omega
  | n + 1, i, r, h, h2, h3 => by
    rw [iter]
    rcases Nat.lt_or_ge i k with hi | hi
    · have w1 : IntKind.u8.wrap ((i : Int) + 1) = ((i + 1 : Nat) : Int) := by rw [wu8] <;> omega
      have ht : (t4_0 p0 p1 p2 (k : Int) (r, (i : Int))).get = some (.inl (r ++ [Val.mk (2 : Int) (7 : Int) (0 : Int) [] [] []], ((i + 1 : Nat) : Int))) := by
        unfold t4_0
        rw [Tree.get_ite, ltI_nat hi, cond_true, Tree.get_ite, decide_eq_true (by simp only [List.length_cons, List.length_nil]; omega), cond_true, Tree.get_leaf, w1]
      rw [ht]
      have ih := it4 p0 p1 p2 k hk n (i + 1) (r ++ [Val.mk (2 : Int) (7 : Int) (0 : Int) [] [] []]) (by omega) (by omega) (by simp only [List.length_append, List.length_cons, List.length_nil]; omega)
      have e : ((k : Int) - (i : Int)).toNat = ((k : Int) - ((i + 1 : Nat) : Int)).toNat + 1 := by omega
      rw [e]
      unfold Px.sevens at ih ⊢
      rw [List.replicate_succ, ← List.append_cons] at *
      exact ih
    · obtain rfl : i = k := by omega
      have ht : (t4_0 p0 p1 p2 (i : Int) (r, (i : Int))).get = some (.inr (.exit 0, at' E 101 [(0, .lf (.int .u16 p0)), (1, .lf (.int .u8 p1)), (2, .lf (.int .u8 p2)), (7, .lf (.own 0 0 .val r))] [])) := by
        unfold t4_0
        simp only [Tree.get_ite, ltI_self, cond_false, Tree.get_leaf]
      rw [ht, Int.sub_self]
      have e : r ++ Px.sevens (Int.toNat 0) = r := List.append_nil r
      rw [e]
theorem m4_0 {p0 p1 p2 p17 : Int} {x : (List Val) × Int} {e : Ex} {σ : St E.A} (_ : okLenR (E := E) (.lf (.own 0 0 .val x.1)) = true)
    (h : (lam4_0 p0 p1 p2 p17 x).get = some (e, σ)) : ∃ fuel, iter (t4_0 p0 p1 p2 p17) fuel x = some (e, σ) ∧ e ≠ .normal := by
  obtain ⟨r, i⟩ := x
  unfold lam4_0 at h
  have h' := Tree.get_ite_some h
  clear h
  rcases h' with ⟨h1, h⟩ | ⟨_, h⟩
  · simp only [leI_eq, Bool.and_eq_true, decide_eq_true_eq] at h1
    obtain ⟨⟨⟨k1, k2⟩, k3⟩, k4⟩ := h1
    obtain ⟨i, rfl⟩ : ∃ j : Nat, i = (j : Int) := ⟨i.toNat, by omega⟩
    obtain ⟨k, rfl⟩ : ∃ j : Nat, p17 = (j : Int) := ⟨p17.toNat, by omega⟩
    refine ⟨k + 1, (it4 p0 p1 p2 k (by omega) (k + 1) i r (by omega) (by omega) (by omega)).trans h, ?_⟩
    injection h with h; injection h with h1 _; rw [← h1]; intro hh; cases hh
  · cases h
noncomputable def rd4_0 (σ : St E.A) : Tree (Out' E) :=
  let c := clean E (L4_0 .normal) σ
  if c.sl.length = 101 then
  match c.sl.getD 0 .undef, c.sl.getD 1 .undef, c.sl.getD 2 .undef, c.sl.getD 7 .undef, c.sl.getD 17 .undef, c.sl.getD 18 .undef with
  | .lf (.int .u16 p0), .lf (.int .u8 p1), .lf (.int .u8 p2), .lf (.own 0 0 .val x7), .lf (.int .u8 p17), .lf (.int .u8 x18) => lam4_0 p0 p1 p2 p17 (x7, x18)
  | _, _, _, _, _, _ => .fail
  else .fail
theorem ll4_0 (hL : Laws E) (σ : St E.A) (e : Ex) (σ' : St E.A) (h : (rd4_0 σ).get = some (e, σ')) : LoopOK E (lb Go.Proofs.Tryz.f4 0) σ e σ' := by
  refine LoopOK.of_clean hL (L4_0 .normal) ?_
  unfold rd4_0 at h
  simp only at h
  split at h
  · rename_i hlen
    split at h
    · rename_i p0 p1 p2 x7 p17 x18 h0 h1 h2 h3 h4 h5
      refine LoopOK.lens 7 (fun g0 => ?_)
      rw [h3] at g0
      obtain ⟨fuel, hi, ho⟩ := m4_0 g0 h
      have hl := loop_at (Γ := G4) (Λ := fun _ _ => .fail) (n := 1) (body := lb Go.Proofs.Tryz.f4 0) hL (hG4 hL) (S := S4_0 p0 p1 p2 p17) (t := t4_0 p0 p1 p2 p17) (Lv := L4_0) (LamOK.none (by kernel_rfl)) (h4_0 p0 p1 p2 p17) hi ho
      refine LoopOK.fit hlen ?_ ?_ rfl rfl hl
      · exact ⟨h0, h1, h2, h3, h4, h5, trivial⟩
      · exact trivial
    · cases h
  · cases h
noncomputable def Lam4 : Lam E
  | 0, σ => rd4_0 σ
  | _, _ => .fail
noncomputable def w4 (a0 : Int) (a1 : Int) (a2 : Int) : Tree (RV E.A × List (Obj E.A)) :=
 .ite (leI (0 : Int) (0 : Int) && leI (0 : Int) a1 && leI a1 (255 : Int) && decide (([] : List UInt8).length ≤ (1000 : Nat)))
 (.ite (decide (([] ++ Px.sevens (a1 - (0 : Int)).toNat).length ≤ (1000000000 : Nat)))
  (.ite (Px.shortV' [Val.mk (2 : Int) (IntKind.i64.wrap a0) (0 : Int) [] [] [], Val.mk (5 : Int) (0 : Int) (0 : Int) [] ([] ++ Px.sevens (a1 - (0 : Int)).toNat) []])
   (.ite (Px.widB' [Val.mk (2 : Int) (IntKind.i64.wrap a0) (0 : Int) [] [] [], Val.mk (5 : Int) (0 : Int) (0 : Int) [] ([] ++ Px.sevens (a1 - (0 : Int)).toNat) []])
    (.ite (!eqI (0 : Int) (0 : Int) == leI (IntKind.i64.wrap (IntKind.i64.wrap a0 + IntKind.i64.wrap a1)) (65536 : Int))
     (.leaf (.lf (.bool false), []))
     (.ite (leI (IntKind.i64.wrap (IntKind.i64.wrap a0 + IntKind.i64.wrap a1)) (65536 : Int))
      (.ite (decide (List.length (Px.widM' [Val.mk (2 : Int) (IntKind.i64.wrap a0) (0 : Int) [] [] [], Val.mk (5 : Int) (0 : Int) (0 : Int) [] ([] ++ Px.sevens (a1 - (0 : Int)).toNat) []]) ≤ (2 : Nat) ^ (62 : Nat)))
       (.ite (!eqI (↑(List.length (Px.widM' [Val.mk (2 : Int) (IntKind.i64.wrap a0) (0 : Int) [] [] [], Val.mk (5 : Int) (0 : Int) (0 : Int) [] ([] ++ Px.sevens (a1 - (0 : Int)).toNat) []])) : Int) (IntKind.i64.wrap a1))
        (.leaf (.lf (.bool false), []))
        (.ite (inB (a2.tmod (8 : Int)) [Val.mk (2 : Int) (5 : Int) (0 : Int) [] [] [], Val.mk (3 : Int) (0 : Int) (0 : Int) [(87 : UInt8)] [] [], Val.mk (5 : Int) (0 : Int) (0 : Int) [] [Val.mk (2 : Int) (IntKind.i64.wrap a0) (0 : Int) [] [] []] [], Val.mk (5 : Int) (0 : Int) (0 : Int) [] [Val.mk (2 : Int) (IntKind.i64.wrap a0) (0 : Int) [] [] [], Val.mk (2 : Int) (IntKind.i64.wrap a0) (0 : Int) [] [] []] [], Val.mk (5 : Int) (0 : Int) (0 : Int) [] [Val.mk (3 : Int) (0 : Int) (0 : Int) [(65 : UInt8)] [] [], Val.mk (5 : Int) (0 : Int) (0 : Int) [] [] []] [], Val.mk (5 : Int) (0 : Int) (0 : Int) [] [Val.mk (2 : Int) (IntKind.i64.wrap a0) (0 : Int) [] [] [], Val.mk (5 : Int) (0 : Int) (0 : Int) [] [Val.mk (5 : Int) (0 : Int) (0 : Int) [] [] []] []] [], Val.mk (5 : Int) (0 : Int) (0 : Int) [] [Val.mk (2 : Int) (IntKind.i64.wrap a0) (0 : Int) [] [] [], Val.mk (2 : Int) (IntKind.i64.wrap a0) (0 : Int) [] [] [], Val.mk (7 : Int) (1 : Int) (0 : Int) [] [] []] [], Val.mk (0 : Int) (0 : Int) (0 : Int) [] [] []].length)
         (.ite (!eqI ([Val.mk (2 : Int) (5 : Int) (0 : Int) [] [] [], Val.mk (3 : Int) (0 : Int) (0 : Int) [(87 : UInt8)] [] [], Val.mk (5 : Int) (0 : Int) (0 : Int) [] [Val.mk (2 : Int) (IntKind.i64.wrap a0) (0 : Int) [] [] []] [], Val.mk (5 : Int) (0 : Int) (0 : Int) [] [Val.mk (2 : Int) (IntKind.i64.wrap a0) (0 : Int) [] [] [], Val.mk (2 : Int) (IntKind.i64.wrap a0) (0 : Int) [] [] []] [], Val.mk (5 : Int) (0 : Int) (0 : Int) [] [Val.mk (3 : Int) (0 : Int) (0 : Int) [(65 : UInt8)] [] [], Val.mk (5 : Int) (0 : Int) (0 : Int) [] [] []] [], Val.mk (5 : Int) (0 : Int) (0 : Int) [] [Val.mk (2 : Int) (IntKind.i64.wrap a0) (0 : Int) [] [] [], Val.mk (5 : Int) (0 : Int) (0 : Int) [] [Val.mk (5 : Int) (0 : Int) (0 : Int) [] [] []] []] [], Val.mk (5 : Int) (0 : Int) (0 : Int) [] [Val.mk (2 : Int) (IntKind.i64.wrap a0) (0 : Int) [] [] [], Val.mk (2 : Int) (IntKind.i64.wrap a0) (0 : Int) [] [] [], Val.mk (7 : Int) (1 : Int) (0 : Int) [] [] []] [], Val.mk (0 : Int) (0 : Int) (0 : Int) [] [] []].getD (a2.tmod (8 : Int)).toNat (Val.mk (0 : Int) (0 : Int) (0 : Int) [] [] [])).kind (5 : Int))
          (.leaf (.lf (.bool (eqI (0 : Int) (0 : Int))), []))
          (.ite (Px.shortV' ([Val.mk (2 : Int) (5 : Int) (0 : Int) [] [] [], Val.mk (3 : Int) (0 : Int) (0 : Int) [(87 : UInt8)] [] [], Val.mk (5 : Int) (0 : Int) (0 : Int) [] [Val.mk (2 : Int) (IntKind.i64.wrap a0) (0 : Int) [] [] []] [], Val.mk (5 : Int) (0 : Int) (0 : Int) [] [Val.mk (2 : Int) (IntKind.i64.wrap a0) (0 : Int) [] [] [], Val.mk (2 : Int) (IntKind.i64.wrap a0) (0 : Int) [] [] []] [], Val.mk (5 : Int) (0 : Int) (0 : Int) [] [Val.mk (3 : Int) (0 : Int) (0 : Int) [(65 : UInt8)] [] [], Val.mk (5 : Int) (0 : Int) (0 : Int) [] [] []] [], Val.mk (5 : Int) (0 : Int) (0 : Int) [] [Val.mk (2 : Int) (IntKind.i64.wrap a0) (0 : Int) [] [] [], Val.mk (5 : Int) (0 : Int) (0 : Int) [] [Val.mk (5 : Int) (0 : Int) (0 : Int) [] [] []] []] [], Val.mk (5 : Int) (0 : Int) (0 : Int) [] [Val.mk (2 : Int) (IntKind.i64.wrap a0) (0 : Int) [] [] [], Val.mk (2 : Int) (IntKind.i64.wrap a0) (0 : Int) [] [] [], Val.mk (7 : Int) (1 : Int) (0 : Int) [] [] []] [], Val.mk (0 : Int) (0 : Int) (0 : Int) [] [] []].getD (a2.tmod (8 : Int)).toNat (Val.mk (0 : Int) (0 : Int) (0 : Int) [] [] [])).list)
           (.ite (Px.widB' ([Val.mk (2 : Int) (5 : Int) (0 : Int) [] [] [], Val.mk (3 : Int) (0 : Int) (0 : Int) [(87 : UInt8)] [] [], Val.mk (5 : Int) (0 : Int) (0 : Int) [] [Val.mk (2 : Int) (IntKind.i64.wrap a0) (0 : Int) [] [] []] [], Val.mk (5 : Int) (0 : Int) (0 : Int) [] [Val.mk (2 : Int) (IntKind.i64.wrap a0) (0 : Int) [] [] [], Val.mk (2 : Int) (IntKind.i64.wrap a0) (0 : Int) [] [] []] [], Val.mk (5 : Int) (0 : Int) (0 : Int) [] [Val.mk (3 : Int) (0 : Int) (0 : Int) [(65 : UInt8)] [] [], Val.mk (5 : Int) (0 : Int) (0 : Int) [] [] []] [], Val.mk (5 : Int) (0 : Int) (0 : Int) [] [Val.mk (2 : Int) (IntKind.i64.wrap a0) (0 : Int) [] [] [], Val.mk (5 : Int) (0 : Int) (0 : Int) [] [Val.mk (5 : Int) (0 : Int) (0 : Int) [] [] []] []] [], Val.mk (5 : Int) (0 : Int) (0 : Int) [] [Val.mk (2 : Int) (IntKind.i64.wrap a0) (0 : Int) [] [] [], Val.mk (2 : Int) (IntKind.i64.wrap a0) (0 : Int) [] [] [], Val.mk (7 : Int) (1 : Int) (0 : Int) [] [] []] [], Val.mk (0 : Int) (0 : Int) (0 : Int) [] [] []].getD (a2.tmod (8 : Int)).toNat (Val.mk (0 : Int) (0 : Int) (0 : Int) [] [] [])).list)
            (.leaf (.lf (.bool false), []))
            (.leaf (.lf (.bool (eqI (0 : Int) (0 : Int))), [])))
           (.fail)))
         (.fail)))
       (.fail))
      (.ite (inB (a2.tmod (8 : Int)) [Val.mk (2 : Int) (5 : Int) (0 : Int) [] [] [], Val.mk (3 : Int) (0 : Int) (0 : Int) [(87 : UInt8)] [] [], Val.mk (5 : Int) (0 : Int) (0 : Int) [] [Val.mk (2 : Int) (IntKind.i64.wrap a0) (0 : Int) [] [] []] [], Val.mk (5 : Int) (0 : Int) (0 : Int) [] [Val.mk (2 : Int) (IntKind.i64.wrap a0) (0 : Int) [] [] [], Val.mk (2 : Int) (IntKind.i64.wrap a0) (0 : Int) [] [] []] [], Val.mk (5 : Int) (0 : Int) (0 : Int) [] [Val.mk (3 : Int) (0 : Int) (0 : Int) [(65 : UInt8)] [] [], Val.mk (5 : Int) (0 : Int) (0 : Int) [] [] []] [], Val.mk (5 : Int) (0 : Int) (0 : Int) [] [Val.mk (2 : Int) (IntKind.i64.wrap a0) (0 : Int) [] [] [], Val.mk (5 : Int) (0 : Int) (0 : Int) [] [Val.mk (5 : Int) (0 : Int) (0 : Int) [] [] []] []] [], Val.mk (5 : Int) (0 : Int) (0 : Int) [] [Val.mk (2 : Int) (IntKind.i64.wrap a0) (0 : Int) [] [] [], Val.mk (2 : Int) (IntKind.i64.wrap a0) (0 : Int) [] [] [], Val.mk (7 : Int) (1 : Int) (0 : Int) [] [] []] [], Val.mk (0 : Int) (0 : Int) (0 : Int) [] [] []].length)
       (.ite (!eqI ([Val.mk (2 : Int) (5 : Int) (0 : Int) [] [] [], Val.mk (3 : Int) (0 : Int) (0 : Int) [(87 : UInt8)] [] [], Val.mk (5 : Int) (0 : Int) (0 : Int) [] [Val.mk (2 : Int) (IntKind.i64.wrap a0) (0 : Int) [] [] []] [], Val.mk (5 : Int) (0 : Int) (0 : Int) [] [Val.mk (2 : Int) (IntKind.i64.wrap a0) (0 : Int) [] [] [], Val.mk (2 : Int) (IntKind.i64.wrap a0) (0 : Int) [] [] []] [], Val.mk (5 : Int) (0 : Int) (0 : Int) [] [Val.mk (3 : Int) (0 : Int) (0 : Int) [(65 : UInt8)] [] [], Val.mk (5 : Int) (0 : Int) (0 : Int) [] [] []] [], Val.mk (5 : Int) (0 : Int) (0 : Int) [] [Val.mk (2 : Int) (IntKind.i64.wrap a0) (0 : Int) [] [] [], Val.mk (5 : Int) (0 : Int) (0 : Int) [] [Val.mk (5 : Int) (0 : Int) (0 : Int) [] [] []] []] [], Val.mk (5 : Int) (0 : Int) (0 : Int) [] [Val.mk (2 : Int) (IntKind.i64.wrap a0) (0 : Int) [] [] [], Val.mk (2 : Int) (IntKind.i64.wrap a0) (0 : Int) [] [] [], Val.mk (7 : Int) (1 : Int) (0 : Int) [] [] []] [], Val.mk (0 : Int) (0 : Int) (0 : Int) [] [] []].getD (a2.tmod (8 : Int)).toNat (Val.mk (0 : Int) (0 : Int) (0 : Int) [] [] [])).kind (5 : Int))
        (.leaf (.lf (.bool (eqI (0 : Int) (0 : Int))), []))
        (.ite (Px.shortV' ([Val.mk (2 : Int) (5 : Int) (0 : Int) [] [] [], Val.mk (3 : Int) (0 : Int) (0 : Int) [(87 : UInt8)] [] [], Val.mk (5 : Int) (0 : Int) (0 : Int) [] [Val.mk (2 : Int) (IntKind.i64.wrap a0) (0 : Int) [] [] []] [], Val.mk (5 : Int) (0 : Int) (0 : Int) [] [Val.mk (2 : Int) (IntKind.i64.wrap a0) (0 : Int) [] [] [], Val.mk (2 : Int) (IntKind.i64.wrap a0) (0 : Int) [] [] []] [], Val.mk (5 : Int) (0 : Int) (0 : Int) [] [Val.mk (3 : Int) (0 : Int) (0 : Int) [(65 : UInt8)] [] [], Val.mk (5 : Int) (0 : Int) (0 : Int) [] [] []] [], Val.mk (5 : Int) (0 : Int) (0 : Int) [] [Val.mk (2 : Int) (IntKind.i64.wrap a0) (0 : Int) [] [] [], Val.mk (5 : Int) (0 : Int) (0 : Int) [] [Val.mk (5 : Int) (0 : Int) (0 : Int) [] [] []] []] [], Val.mk (5 : Int) (0 : Int) (0 : Int) [] [Val.mk (2 : Int) (IntKind.i64.wrap a0) (0 : Int) [] [] [], Val.mk (2 : Int) (IntKind.i64.wrap a0) (0 : Int) [] [] [], Val.mk (7 : Int) (1 : Int) (0 : Int) [] [] []] [], Val.mk (0 : Int) (0 : Int) (0 : Int) [] [] []].getD (a2.tmod (8 : Int)).toNat (Val.mk (0 : Int) (0 : Int) (0 : Int) [] [] [])).list)
         (.ite (Px.widB' ([Val.mk (2 : Int) (5 : Int) (0 : Int) [] [] [], Val.mk (3 : Int) (0 : Int) (0 : Int) [(87 : UInt8)] [] [], Val.mk (5 : Int) (0 : Int) (0 : Int) [] [Val.mk (2 : Int) (IntKind.i64.wrap a0) (0 : Int) [] [] []] [], Val.mk (5 : Int) (0 : Int) (0 : Int) [] [Val.mk (2 : Int) (IntKind.i64.wrap a0) (0 : Int) [] [] [], Val.mk (2 : Int) (IntKind.i64.wrap a0) (0 : Int) [] [] []] [], Val.mk (5 : Int) (0 : Int) (0 : Int) [] [Val.mk (3 : Int) (0 : Int) (0 : Int) [(65 : UInt8)] [] [], Val.mk (5 : Int) (0 : Int) (0 : Int) [] [] []] [], Val.mk (5 : Int) (0 : Int) (0 : Int) [] [Val.mk (2 : Int) (IntKind.i64.wrap a0) (0 : Int) [] [] [], Val.mk (5 : Int) (0 : Int) (0 : Int) [] [Val.mk (5 : Int) (0 : Int) (0 : Int) [] [] []] []] [], Val.mk (5 : Int) (0 : Int) (0 : Int) [] [Val.mk (2 : Int) (IntKind.i64.wrap a0) (0 : Int) [] [] [], Val.mk (2 : Int) (IntKind.i64.wrap a0) (0 : Int) [] [] [], Val.mk (7 : Int) (1 : Int) (0 : Int) [] [] []] [], Val.mk (0 : Int) (0 : Int) (0 : Int) [] [] []].getD (a2.tmod (8 : Int)).toNat (Val.mk (0 : Int) (0 : Int) (0 : Int) [] [] [])).list)
          (.leaf (.lf (.bool false), []))
          (.leaf (.lf (.bool (eqI (0 : Int) (0 : Int))), [])))
         (.fail)))
       (.fail))))
    (.ite (!eqI (2 : Int) (0 : Int) == leI (IntKind.i64.wrap (IntKind.i64.wrap a0 + IntKind.i64.wrap a1)) (65536 : Int))
     (.leaf (.lf (.bool false), []))
     (.ite (leI (IntKind.i64.wrap (IntKind.i64.wrap a0 + IntKind.i64.wrap a1)) (65536 : Int))
      (.ite (!eqI (0 : Int) (IntKind.i64.wrap a1))
       (.leaf (.lf (.bool false), []))
       (.ite (inB (a2.tmod (8 : Int)) [Val.mk (2 : Int) (5 : Int) (0 : Int) [] [] [], Val.mk (3 : Int) (0 : Int) (0 : Int) [(87 : UInt8)] [] [], Val.mk (5 : Int) (0 : Int) (0 : Int) [] [Val.mk (2 : Int) (IntKind.i64.wrap a0) (0 : Int) [] [] []] [], Val.mk (5 : Int) (0 : Int) (0 : Int) [] [Val.mk (2 : Int) (IntKind.i64.wrap a0) (0 : Int) [] [] [], Val.mk (2 : Int) (IntKind.i64.wrap a0) (0 : Int) [] [] []] [], Val.mk (5 : Int) (0 : Int) (0 : Int) [] [Val.mk (3 : Int) (0 : Int) (0 : Int) [(65 : UInt8)] [] [], Val.mk (5 : Int) (0 : Int) (0 : Int) [] [] []] [], Val.mk (5 : Int) (0 : Int) (0 : Int) [] [Val.mk (2 : Int) (IntKind.i64.wrap a0) (0 : Int) [] [] [], Val.mk (5 : Int) (0 : Int) (0 : Int) [] [Val.mk (5 : Int) (0 : Int) (0 : Int) [] [] []] []] [], Val.mk (5 : Int) (0 : Int) (0 : Int) [] [Val.mk (2 : Int) (IntKind.i64.wrap a0) (0 : Int) [] [] [], Val.mk (2 : Int) (IntKind.i64.wrap a0) (0 : Int) [] [] [], Val.mk (7 : Int) (1 : Int) (0 : Int) [] [] []] [], Val.mk (0 : Int) (0 : Int) (0 : Int) [] [] []].length)
        (.ite (!eqI ([Val.mk (2 : Int) (5 : Int) (0 : Int) [] [] [], Val.mk (3 : Int) (0 : Int) (0 : Int) [(87 : UInt8)] [] [], Val.mk (5 : Int) (0 : Int) (0 : Int) [] [Val.mk (2 : Int) (IntKind.i64.wrap a0) (0 : Int) [] [] []] [], Val.mk (5 : Int) (0 : Int) (0 : Int) [] [Val.mk (2 : Int) (IntKind.i64.wrap a0) (0 : Int) [] [] [], Val.mk (2 : Int) (IntKind.i64.wrap a0) (0 : Int) [] [] []] [], Val.mk (5 : Int) (0 : Int) (0 : Int) [] [Val.mk (3 : Int) (0 : Int) (0 : Int) [(65 : UInt8)] [] [], Val.mk (5 : Int) (0 : Int) (0 : Int) [] [] []] [], Val.mk (5 : Int) (0 : Int) (0 : Int) [] [Val.mk (2 : Int) (IntKind.i64.wrap a0) (0 : Int) [] [] [], Val.mk (5 : Int) (0 : Int) (0 : Int) [] [Val.mk (5 : Int) (0 : Int) (0 : Int) [] [] []] []] [], Val.mk (5 : Int) (0 : Int) (0 : Int) [] [Val.mk (2 : Int) (IntKind.i64.wrap a0) (0 : Int) [] [] [], Val.mk (2 : Int) (IntKind.i64.wrap a0) (0 : Int) [] [] [], Val.mk (7 : Int) (1 : Int) (0 : Int) [] [] []] [], Val.mk (0 : Int) (0 : Int) (0 : Int) [] [] []].getD (a2.tmod (8 : Int)).toNat (Val.mk (0 : Int) (0 : Int) (0 : Int) [] [] [])).kind (5 : Int))
         (.leaf (.lf (.bool (eqI (0 : Int) (0 : Int))), []))
         (.ite (Px.shortV' ([Val.mk (2 : Int) (5 : Int) (0 : Int) [] [] [], Val.mk (3 : Int) (0 : Int) (0 : Int) [(87 : UInt8)] [] [], Val.mk (5 : Int) (0 : Int) (0 : Int) [] [Val.mk (2 : Int) (IntKind.i64.wrap a0) (0 : Int) [] [] []] [], Val.mk (5 : Int) (0 : Int) (0 : Int) [] [Val.mk (2 : Int) (IntKind.i64.wrap a0) (0 : Int) [] [] [], Val.mk (2 : Int) (IntKind.i64.wrap a0) (0 : Int) [] [] []] [], Val.mk (5 : Int) (0 : Int) (0 : Int) [] [Val.mk (3 : Int) (0 : Int) (0 : Int) [(65 : UInt8)] [] [], Val.mk (5 : Int) (0 : Int) (0 : Int) [] [] []] [], Val.mk (5 : Int) (0 : Int) (0 : Int) [] [Val.mk (2 : Int) (IntKind.i64.wrap a0) (0 : Int) [] [] [], Val.mk (5 : Int) (0 : Int) (0 : Int) [] [Val.mk (5 : Int) (0 : Int) (0 : Int) [] [] []] []] [], Val.mk (5 : Int) (0 : Int) (0 : Int) [] [Val.mk (2 : Int) (IntKind.i64.wrap a0) (0 : Int) [] [] [], Val.mk (2 : Int) (IntKind.i64.wrap a0) (0 : Int) [] [] [], Val.mk (7 : Int) (1 : Int) (0 : Int) [] [] []] [], Val.mk (0 : Int) (0 : Int) (0 : Int) [] [] []].getD (a2.tmod (8 : Int)).toNat (Val.mk (0 : Int) (0 : Int) (0 : Int) [] [] [])).list)
          (.ite (Px.widB' ([Val.mk (2 : Int) (5 : Int) (0 : Int) [] [] [], Val.mk (3 : Int) (0 : Int) (0 : Int) [(87 : UInt8)] [] [], Val.mk (5 : Int) (0 : Int) (0 : Int) [] [Val.mk (2 : Int) (IntKind.i64.wrap a0) (0 : Int) [] [] []] [], Val.mk (5 : Int) (0 : Int) (0 : Int) [] [Val.mk (2 : Int) (IntKind.i64.wrap a0) (0 : Int) [] [] [], Val.mk (2 : Int) (IntKind.i64.wrap a0) (0 : Int) [] [] []] [], Val.mk (5 : Int) (0 : Int) (0 : Int) [] [Val.mk (3 : Int) (0 : Int) (0 : Int) [(65 : UInt8)] [] [], Val.mk (5 : Int) (0 : Int) (0 : Int) [] [] []] [], Val.mk (5 : Int) (0 : Int) (0 : Int) [] [Val.mk (2 : Int) (IntKind.i64.wrap a0) (0 : Int) [] [] [], Val.mk (5 : Int) (0 : Int) (0 : Int) [] [Val.mk (5 : Int) (0 : Int) (0 : Int) [] [] []] []] [], Val.mk (5 : Int) (0 : Int) (0 : Int) [] [Val.mk (2 : Int) (IntKind.i64.wrap a0) (0 : Int) [] [] [], Val.mk (2 : Int) (IntKind.i64.wrap a0) (0 : Int) [] [] [], Val.mk (7 : Int) (1 : Int) (0 : Int) [] [] []] [], Val.mk (0 : Int) (0 : Int) (0 : Int) [] [] []].getD (a2.tmod (8 : Int)).toNat (Val.mk (0 : Int) (0 : Int) (0 : Int) [] [] [])).list)
           (.leaf (.lf (.bool false), []))
           (.leaf (.lf (.bool (eqI (0 : Int) (0 : Int))), [])))
          (.fail)))
        (.fail)))
      (.ite (inB (a2.tmod (8 : Int)) [Val.mk (2 : Int) (5 : Int) (0 : Int) [] [] [], Val.mk (3 : Int) (0 : Int) (0 : Int) [(87 : UInt8)] [] [], Val.mk (5 : Int) (0 : Int) (0 : Int) [] [Val.mk (2 : Int) (IntKind.i64.wrap a0) (0 : Int) [] [] []] [], Val.mk (5 : Int) (0 : Int) (0 : Int) [] [Val.mk (2 : Int) (IntKind.i64.wrap a0) (0 : Int) [] [] [], Val.mk (2 : Int) (IntKind.i64.wrap a0) (0 : Int) [] [] []] [], Val.mk (5 : Int) (0 : Int) (0 : Int) [] [Val.mk (3 : Int) (0 : Int) (0 : Int) [(65 : UInt8)] [] [], Val.mk (5 : Int) (0 : Int) (0 : Int) [] [] []] [], Val.mk (5 : Int) (0 : Int) (0 : Int) [] [Val.mk (2 : Int) (IntKind.i64.wrap a0) (0 : Int) [] [] [], Val.mk (5 : Int) (0 : Int) (0 : Int) [] [Val.mk (5 : Int) (0 : Int) (0 : Int) [] [] []] []] [], Val.mk (5 : Int) (0 : Int) (0 : Int) [] [Val.mk (2 : Int) (IntKind.i64.wrap a0) (0 : Int) [] [] [], Val.mk (2 : Int) (IntKind.i64.wrap a0) (0 : Int) [] [] [], Val.mk (7 : Int) (1 : Int) (0 : Int) [] [] []] [], Val.mk (0 : Int) (0 : Int) (0 : Int) [] [] []].length)
       (.ite (!eqI ([Val.mk (2 : Int) (5 : Int) (0 : Int) [] [] [], Val.mk (3 : Int) (0 : Int) (0 : Int) [(87 : UInt8)] [] [], Val.mk (5 : Int) (0 : Int) (0 : Int) [] [Val.mk (2 : Int) (IntKind.i64.wrap a0) (0 : Int) [] [] []] [], Val.mk (5 : Int) (0 : Int) (0 : Int) [] [Val.mk (2 : Int) (IntKind.i64.wrap a0) (0 : Int) [] [] [], Val.mk (2 : Int) (IntKind.i64.wrap a0) (0 : Int) [] [] []] [], Val.mk (5 : Int) (0 : Int) (0 : Int) [] [Val.mk (3 : Int) (0 : Int) (0 : Int) [(65 : UInt8)] [] [], Val.mk (5 : Int) (0 : Int) (0 : Int) [] [] []] [], Val.mk (5 : Int) (0 : Int) (0 : Int) [] [Val.mk (2 : Int) (IntKind.i64.wrap a0) (0 : Int) [] [] [], Val.mk (5 : Int) (0 : Int) (0 : Int) [] [Val.mk (5 : Int) (0 : Int) (0 : Int) [] [] []] []] [], Val.mk (5 : Int) (0 : Int) (0 : Int) [] [Val.mk (2 : Int) (IntKind.i64.wrap a0) (0 : Int) [] [] [], Val.mk (2 : Int) (IntKind.i64.wrap a0) (0 : Int) [] [] [], Val.mk (7 : Int) (1 : Int) (0 : Int) [] [] []] [], Val.mk (0 : Int) (0 : Int) (0 : Int) [] [] []].getD (a2.tmod (8 : Int)).toNat (Val.mk (0 : Int) (0 : Int) (0 : Int) [] [] [])).kind (5 : Int))
        (.leaf (.lf (.bool (eqI (0 : Int) (0 : Int))), []))
        (.ite (Px.shortV' ([Val.mk (2 : Int) (5 : Int) (0 : Int) [] [] [], Val.mk (3 : Int) (0 : Int) (0 : Int) [(87 : UInt8)] [] [], Val.mk (5 : Int) (0 : Int) (0 : Int) [] [Val.mk (2 : Int) (IntKind.i64.wrap a0) (0 : Int) [] [] []] [], Val.mk (5 : Int) (0 : Int) (0 : Int) [] [Val.mk (2 : Int) (IntKind.i64.wrap a0) (0 : Int) [] [] [], Val.mk (2 : Int) (IntKind.i64.wrap a0) (0 : Int) [] [] []] [], Val.mk (5 : Int) (0 : Int) (0 : Int) [] [Val.mk (3 : Int) (0 : Int) (0 : Int) [(65 : UInt8)] [] [], Val.mk (5 : Int) (0 : Int) (0 : Int) [] [] []] [], Val.mk (5 : Int) (0 : Int) (0 : Int) [] [Val.mk (2 : Int) (IntKind.i64.wrap a0) (0 : Int) [] [] [], Val.mk (5 : Int) (0 : Int) (0 : Int) [] [Val.mk (5 : Int) (0 : Int) (0 : Int) [] [] []] []] [], Val.mk (5 : Int) (0 : Int) (0 : Int) [] [Val.mk (2 : Int) (IntKind.i64.wrap a0) (0 : Int) [] [] [], Val.mk (2 : Int) (IntKind.i64.wrap a0) (0 : Int) [] [] [], Val.mk (7 : Int) (1 : Int) (0 : Int) [] [] []] [], Val.mk (0 : Int) (0 : Int) (0 : Int) [] [] []].getD (a2.tmod (8 : Int)).toNat (Val.mk (0 : Int) (0 : Int) (0 : Int) [] [] [])).list)
         (.ite (Px.widB' ([Val.mk (2 : Int) (5 : Int) (0 : Int) [] [] [], Val.mk (3 : Int) (0 : Int) (0 : Int) [(87 : UInt8)] [] [], Val.mk (5 : Int) (0 : Int) (0 : Int) [] [Val.mk (2 : Int) (IntKind.i64.wrap a0) (0 : Int) [] [] []] [], Val.mk (5 : Int) (0 : Int) (0 : Int) [] [Val.mk (2 : Int) (IntKind.i64.wrap a0) (0 : Int) [] [] [], Val.mk (2 : Int) (IntKind.i64.wrap a0) (0 : Int) [] [] []] [], Val.mk (5 : Int) (0 : Int) (0 : Int) [] [Val.mk (3 : Int) (0 : Int) (0 : Int) [(65 : UInt8)] [] [], Val.mk (5 : Int) (0 : Int) (0 : Int) [] [] []] [], Val.mk (5 : Int) (0 : Int) (0 : Int) [] [Val.mk (2 : Int) (IntKind.i64.wrap a0) (0 : Int) [] [] [], Val.mk (5 : Int) (0 : Int) (0 : Int) [] [Val.mk (5 : Int) (0 : Int) (0 : Int) [] [] []] []] [], Val.mk (5 : Int) (0 : Int) (0 : Int) [] [Val.mk (2 : Int) (IntKind.i64.wrap a0) (0 : Int) [] [] [], Val.mk (2 : Int) (IntKind.i64.wrap a0) (0 : Int) [] [] [], Val.mk (7 : Int) (1 : Int) (0 : Int) [] [] []] [], Val.mk (0 : Int) (0 : Int) (0 : Int) [] [] []].getD (a2.tmod (8 : Int)).toNat (Val.mk (0 : Int) (0 : Int) (0 : Int) [] [] [])).list)
          (.leaf (.lf (.bool false), []))
          (.leaf (.lf (.bool (eqI (0 : Int) (0 : Int))), [])))
         (.fail)))
       (.fail)))))
   (.fail))
  (.fail))
 (.fail)
theorem e4 (a0 : Int) (a1 : Int) (a2 : Int) : execFun E G4 ((Lam4)) false Go.Proofs.Tryz.f4 [.lf (.int .u16 a0), .lf (.int .u8 a1), .lf (.int .u8 a2)] [] some = (w4 a0 a1 a2).get := by kernel_rfl
noncomputable def raw4 : Spec E := fun args os => match args, os with
  | [.lf (.int .u16 a0), .lf (.int .u8 a1), .lf (.int .u8 a2)], [] => w4 a0 a1 a2
  | _, _ => .fail
theorem validraw4 (hL : Laws E) : Valid E 4 raw4 :=
  valid_of_body hL (hG4 hL) (Λ := (Lam4)) (fn := Go.Proofs.Tryz.f4) (keep := false) (by kernel_rfl) (by kernel_rfl) (by kernel_rfl) ((LamOK.of (m := 1) (by kernel_rfl) (fun j hj σ e σ' hg => by
      match j, hj with
      | 0, _ => exact ll4_0 hL σ e σ' hg
      ))) (fun args os r os' h => by
    unfold raw4 at h
    split at h
    · exact (e4 _ _ _).trans h
    · cases h)
theorem eq4 (a n k : Int) (h0 : 0 ≤ a) (h1 : a ≤ 65535) (n0 : 0 ≤ n) (n1 : n ≤ 255) (k0 : 0 ≤ k) (k1 : k ≤ 255) : (w4 a n k).get = some (.lf (.bool true), []) := by
  obtain ⟨m, rfl⟩ : ∃ j : Nat, n = (j : Int) := ⟨n.toNat, by omega⟩
  unfold w4
  have wa : IntKind.i64.wrap a = a := by rw [wi64] <;> omega
  have wn : IntKind.i64.wrap (m : Int) = (m : Int) := by rw [wi64] <;> omega
  have ws : IntKind.i64.wrap (a + (m : Int)) = a + (m : Int) := by rw [wi64] <;> omega
  have es : [] ++ Px.sevens ((m : Int) - (0 : Int)).toNat = List.replicate m (Px.vNum 7) := by
    rw [show ((m : Int) - 0).toNat = m by omega]; rfl
  have g1 : (leI (0 : Int) (0 : Int) && leI (0 : Int) (m : Int) && leI (m : Int) (255 : Int) && decide (([] : List UInt8).length ≤ (1000 : Nat))) = true := by
    simp only [leI_eq, Bool.and_eq_true, decide_eq_true_eq]
    exact ⟨⟨⟨Int.le_refl 0, by omega⟩, by omega⟩, Nat.zero_le _⟩
  have g2 : decide ((List.replicate m (Px.vNum 7)).length ≤ (1000000000 : Nat)) = true := decide_eq_true (by rw [List.length_replicate]; omega)
  have hi : inB (k.tmod 8) 8 = true := inB_true.2 ⟨Int.tmod_nonneg _ k0, Int.tmod_lt_of_pos _ (by omega)⟩
  have hk : (k.tmod 8).toNat < (Px.bads a).length := by
    have := Int.tmod_lt_of_pos k (show (0 : Int) < 8 by omega)
    show _ < 8
    have h0 := Int.tmod_nonneg (8 : Int) k0
    omega
  have hv := Px.bads_ok h0 h1 _ (getD_mem (d := Px.vz) hk)
  have wr := Px.wid_row h0 h1 m
  have hs : Px.shortV [Px.vNum a, Px.vList (List.replicate m (Px.vNum 7))] = true := by
    unfold Px.shortV
    simp only [List.all_cons, List.all_nil, Bool.and_eq_true, decide_eq_true_eq, Bool.and_true]
    refine ⟨Nat.le_of_ble_eq_true rfl, Nat.zero_le _, ?_⟩
    show (List.replicate m (Px.vNum 7)).length ≤ _
    rw [List.length_replicate]; omega
  simp only [wa, wn, ws, es, Px.shortV'_eq, Px.widB'_eq, Px.widM'_eq]
  rw [Tree.get_ite, g1, cond_true, Tree.get_ite, g2, cond_true, Tree.get_ite, hs, cond_true, Tree.get_ite, wr.1]
  have e0 : eqI (0 : Int) 0 = true := rfl
  have e2 : eqI (2 : Int) 0 = false := rfl
  generalize hV : (Px.bads a).getD (k.tmod 8).toNat Px.vz = V at hv
  have tail : (Tree.ite (inB (k.tmod (8 : Int)) (Px.bads a).length)
      (Tree.ite (!eqI V.kind (5 : Int)) (.leaf ((.lf (.bool true) : RV E.A), ([] : List (Obj E.A))))
        (.ite (Px.shortV V.list) (.ite (Px.widB V.list) (.leaf (.lf (.bool false), [])) (.leaf (.lf (.bool true), []))) .fail)) .fail).get = some (.lf (.bool true), []) := by
    rw [Tree.get_ite, show inB (k.tmod (8 : Int)) (Px.bads a).length = true from hi, cond_true, Tree.get_ite]
    rcases hv with hv | ⟨v1, v2⟩
    · rw [hv]; rfl
    · cases q : eqI V.kind 5 with
      | false => rfl
      | true =>
        rw [Bool.not_true, cond_false, Tree.get_ite, v1, cond_true, Tree.get_ite, v2]; rfl
  cases q : leI (a + (m : Int)) 65536 with
  | true =>
    have hl := wr.2 q
    have g5 : decide ((Px.widM [Px.vNum a, Px.vList (List.replicate m (Px.vNum 7))]).length ≤ (2 : Nat) ^ (62 : Nat)) = true := decide_eq_true (Nat.le_trans (show (Px.widM [Px.vNum a, Px.vList (List.replicate m (Px.vNum 7))]).length ≤ 255 by omega) (by decide))
    have g6 : (!eqI ((Px.widM [Px.vNum a, Px.vList (List.replicate m (Px.vNum 7))]).length : Int) (m : Int)) = false := by
      rw [hl, eqI_eq, decide_eq_true rfl]; rfl
    rw [cond_true, Tree.get_ite, e0]
    show cond false _ _ = _
    rw [cond_false, Tree.get_ite, cond_true, Tree.get_ite, g5, cond_true, Tree.get_ite, g6, cond_false]
    exact tail
  | false =>
    rw [cond_false, Tree.get_ite, e2]
    show cond false _ _ = _
    rw [cond_false, Tree.get_ite, cond_false]
    rw [e0]
    exact tail
noncomputable def spec4 : Spec E := fun args os => match args, os with
  | [.lf (.int .u16 a), .lf (.int .u8 n), .lf (.int .u8 k)], [] => .ite (inRb .u16 a && inRb .u8 n && inRb .u8 k) (.leaf (.lf (.bool true), [])) .fail
  | _, _ => .fail
theorem valid4 (hL : Laws E) : Valid E 4 spec4 := (validraw4 hL).less (fun args os x _ _ h => by
  unfold spec4 at h
  split at h
  · rcases Tree.get_ite_some h with ⟨h1, h⟩ | ⟨_, h⟩
    · simp only [Bool.and_eq_true, inRb, decide_eq_true_eq] at h1
      exact (eq4 _ _ _ h1.1.1.1 h1.1.1.2 h1.1.2.1 h1.1.2.2 h1.2.1 h1.2.2).trans h
    · cases h
  · cases h)
theorem sp4 (a n k : Int) (h1 : inRb .u16 a = true) (h2 : inRb .u8 n = true) (h3 : inRb .u8 k = true) : (spec4 [.lf (.int .u16 a), .lf (.int .u8 n), .lf (.int .u8 k)] []).get = some (.lf (.bool true), []) := by
  show Tree.get (.ite (inRb .u16 a && inRb .u8 n && inRb .u8 k) (.leaf ((.lf (.bool true) : RV E.A), ([] : List (Obj E.A)))) .fail) = _
  rw [Tree.get_ite, h1, h2, h3]; rfl
end Go.Vx
namespace Go.Vx
open Go Go.RowKit
/-- Nobody's own at the beginning. -/
def Gh.none : Gh := { blk := fun _ => Option.none, tok := fun _ => Option.none, ver := zero0, cur := zero0, oth := fun _ _ => False, bl := fun _ => (0, 0, 0) }
theorem none_pur (b o : Nat) : Gh.none.pur b o := by
  refine ⟨⟨fun _ h => ?_, fun _ _ _ h => ?_⟩, fun h => h⟩
  · cases h
  · cases h
theorem none_hrel {Key : Type} [DecidableEq Key] {E : Env Key} {w : World} (hg : ∀ g cs, E.gl g = some cs → Glob E Gh.none w cs g) : HRel E (fun i => ([] : List (Obj E.A))[i]?) Gh.none w where
  ob i o h := by simp at h
  lt _ _ h := by cases h
  inj _ _ _ h := by cases h
  tokb _ _ _ _ h := by cases h
  tokj _ _ _ _ _ _ _ _ h := by cases h
  gl := hg
  othf _ _ h := h.elim
theorem none_below {G' : Gh} {w w' : World} (h : Fr Gh.none w G' w') : Below w.heap.size w w' :=
  ⟨h.os, h.tape, h.output, h.size, fun k hk => (h.blk k hk ⟨fun _ h => (by cases h), fun _ _ _ h => (by cases h)⟩).1⟩
/-- The call, out of the contract. -/
theorem calls_of_valid {Key : Type} [DecidableEq Key] {E : Env Key} {f : FuncId} {spec : Spec E} (hV : Valid E f spec) {args : List (RV E.A)} {w : World} {vals : Array Value} {fn : Func} (hf : E.P.funcs[f]? = some fn) (hb : fn.body.isSome = true) (hnm : (fn.name == "runtime.NumGoroutine") = false) {b : Bool}
    (hs : (spec args []).get = some (.lf (.bool b), [])) (ha : ARel E Gh.none w args vals)
    (hg : ∀ g cs, E.gl g = some cs → Glob E Gh.none w cs g) :
    Calls E.P f vals w fun e w' => e = .returned (.bool b) ∧ Below w.heap.size w w' := by
  unfold Valid at hV
  have h := hV args [] _ _ hs Gh.none w vals ha (none_hrel hg) rfl rfl
  have hcf : (callFunc f vals).run E.P w = .ok (.enter f vals) w := by
    obtain ⟨c, hc⟩ := Option.isSome_iff_exists.1 hb
    unfold callFunc
    have hne : ¬ fn.name = "runtime.NumGoroutine" := by simpa using hnm
    simp [hf, hc, hne]
  rw [hcf] at h
  refine Calls.mono (show Calls E.P f vals w _ from h) ?_
  rintro e w' ⟨v, G', rfl, hbk⟩
  refine ⟨?_, none_below hbk.fr⟩
  cases hbk.val with
  | lf h => cases h; rfl
def IsRow (k : IntKind) (w : World) (a : Option Addr) (len cap : Nat) (zs : List Int) : Prop :=
  (a = Option.none ∧ len = 0 ∧ cap = 0 ∧ zs = []) ∨
  ∃ x, a = some x ∧ len ≤ cap ∧ cap ≤ maxLen ∧ zs.length = cap ∧ (∀ i, i < zs.length → w.cell? (x.add i) = some (.int k (zs.getD i 0))) ∧ ∀ n ∈ zs, (Lit.int k n).wf = true
theorem IsRow.len {k : IntKind} {w : World} {a : Option Addr} {len cap : Nat} {zs : List Int} (h : IsRow k w a len cap zs) : min len zs.length = len ∧ len ≤ big := by
  rcases h with ⟨_, rfl, _, rfl⟩ | ⟨_, _, h1, h2, h3, _⟩
  · exact ⟨rfl, by decide⟩
  · exact ⟨by omega, by unfold big; unfold maxLen at h2; omega⟩
theorem arel1 {w : World} {l0 : Leaf E.A} {v0 : Value} (h0 : Rep E Gh.none w l0 v0) : ARel E Gh.none w [.lf l0] #[v0] := by
  refine ⟨rfl, fun j r hj => ?_⟩
  match j with
  | 0 => injection hj with hj; subst hj; exact .lf h0
  | j + 1 => cases hj
theorem arel2 {w : World} {l0 l1 : Leaf E.A} {v0 v1 : Value} (h0 : Rep E Gh.none w l0 v0) (h1 : Rep E Gh.none w l1 v1) : ARel E Gh.none w [.lf l0, .lf l1] #[v0, v1] := by
  refine ⟨rfl, fun j r hj => ?_⟩
  match j with
  | 0 => injection hj with hj; subst hj; exact .lf h0
  | 1 => injection hj with hj; subst hj; exact .lf h1
  | j + 2 => cases hj
theorem arel3 {w : World} {l0 l1 l2 : Leaf E.A} {v0 v1 v2 : Value} (h0 : Rep E Gh.none w l0 v0) (h1 : Rep E Gh.none w l1 v1) (h2 : Rep E Gh.none w l2 v2) : ARel E Gh.none w [.lf l0, .lf l1, .lf l2] #[v0, v1, v2] := by
  refine ⟨rfl, fun j r hj => ?_⟩
  match j with
  | 0 => injection hj with hj; subst hj; exact .lf h0
  | 1 => injection hj with hj; subst hj; exact .lf h1
  | 2 => injection hj with hj; subst hj; exact .lf h2
  | j + 3 => cases hj
theorem arel4 {w : World} {l0 l1 l2 l3 : Leaf E.A} {v0 v1 v2 v3 : Value} (h0 : Rep E Gh.none w l0 v0) (h1 : Rep E Gh.none w l1 v1) (h2 : Rep E Gh.none w l2 v2) (h3 : Rep E Gh.none w l3 v3) :
    ARel E Gh.none w [.lf l0, .lf l1, .lf l2, .lf l3] #[v0, v1, v2, v3] := by
  refine ⟨rfl, fun j r hj => ?_⟩
  match j with
  | 0 => injection hj with hj; subst hj; exact .lf h0
  | 1 => injection hj with hj; subst hj; exact .lf h1
  | 2 => injection hj with hj; subst hj; exact .lf h2
  | 3 => injection hj with hj; subst hj; exact .lf h3
  | j + 4 => cases hj
theorem wf_inRb {k : IntKind} {n : Int} (h : (Lit.int k n).wf = true) : inRb k n = true := by
  simpa [Lit.wf, inRb] using h
theorem row_ok {α : Type} {zs : List Int} {len eb : Nat} (f : Int → α) (h : min len zs.length = len ∧ len ≤ big) (y : len * eb ≤ 140737488355328) : ((zs.take len).map f).length ≤ big ∧ ((zs.take len).map f).length * eb ≤ 140737488355328 := by
  rw [List.length_map, List.length_take, h.1]
  exact ⟨h.2, y⟩
theorem row_in {k : IntKind} {w : World} {a : Option Addr} {len cap : Nat} {zs : List Int} (h : IsRow k w a len cap zs) : ∀ z ∈ (zs.take len).map (fun z : Int => z), inRb k z = true := by
  intro z hz
  rw [List.map_id'] at hz
  have hm := List.mem_of_mem_take hz
  rcases h with ⟨_, _, _, rfl⟩ | ⟨_, _, _, _, _, _, h⟩
  · cases hm
  · exact wf_inRb (h z hm)
theorem sized_row {H : Type} {P : Program} {ts : List TypeId} {ds : List (DataW H)} (h : (DataW.weightsEach P ts ds).all (· ≤ reachBytes) = true) {j : Nat} {t e : TypeId} {k : IntKind} {zs : List Int} {len eb : Nat}
    (ht : ts[j]? = some t) (hd : ds[j]? = some (.slice (Go.ChangeShapes.lits k (zs.take len)) (Go.ChangeShapes.lits k (zs.drop len)))) (hu : P.underlying t = some (.slice e)) (hb : P.bytesOf e = eb) (hl : len ≤ zs.length) : len * eb ≤ 140737488355328 := by
  have h1 := sized_slice h ht hd hu
  have h2 := reachBytes_lt
  rw [hb] at h1
  have e1 : (Go.ChangeShapes.lits (H := H) k (zs.take len)).length = len := by simp [Go.ChangeShapes.lits]; omega
  rw [e1] at h1
  have : len * eb ≤ (len + (Go.ChangeShapes.lits (H := H) k (zs.drop len)).length) * eb := Nat.mul_le_mul_right _ (Nat.le_add_right _ _)
  omega
theorem rep_row {K0 : K} {ik : IntKind} (f : Int → E.A K0) (hs : E.sz K0 = 1) (henc : ∀ z, inRb ik z = true → E.enc K0 (f z) = [.int ik z]) {w : World}
    {a : Option Addr} {len cap : Nat} {zs : List Int} (h : IsRow ik w a len cap zs) : Rep E Gh.none w (.sl K0 ((zs.take len).map f)) (.slice a len cap) := by
  rcases h with ⟨rfl, rfl, rfl, rfl⟩ | ⟨x, rfl, hl, hm, hz, hc, hw⟩
  · exact .sl0 K0 _ _ (by decide)
  · rcases Nat.eq_zero_or_pos len with h0 | h0
    · subst h0; exact .sl0 K0 _ _ hm
    · have hx : x.spot = Option.none := by
        have := hc 0 (by omega)
        rw [show x.add 0 = x from rfl] at this
        unfold World.cell? at this
        split at this
        · cases hq : x.spot with
          | none => rfl
          | some q => rw [hq] at this; simp at this
        · cases this
      obtain ⟨b, off, sp⟩ := x
      obtain rfl : sp = Option.none := hx
      have e : ((zs.take len).map f).length = len := by simp; omega
      have hrep := Rep.sl (E := E) (G := Gh.none) (w := w) K0 ((zs.take len).map f) b off cap (fun i _ => .int ik (zs.getD i 0)) (by rw [e]; exact hl) hm
        (fun i j hi hj => by
          rw [hs] at hj ⊢
          obtain rfl : j = 0 := by omega
          refine ⟨?_, none_pur _ _⟩
          have := hc i (by rw [e] at hi; omega)
          simp only [Addr.add] at this
          split at this
          · rename_i h; subst h; simpa using this
          · simpa using this)
        (fun i y hy j l hl' => by
          rw [List.getElem?_map, Option.map_eq_some_iff] at hy
          obtain ⟨z, hz1, rfl⟩ := hy
          have hlt : i < len := by
            have := (List.getElem?_eq_some_iff.1 hz1).1
            simp at this; omega
          rw [List.getElem?_take_of_lt hlt] at hz1
          have hmem : z ∈ zs := List.mem_of_getElem? hz1
          rw [henc z (wf_inRb (hw z hmem))] at hl'
          match j with
          | 0 =>
            injection hl' with hl'
            subst hl'
            have : zs.getD i 0 = z := by rw [List.getD, hz1]; rfl
            rw [this]
            exact .int (wf_inRb (hw z hmem))
          | j + 1 => cases hl')
      rw [e] at hrep
      exact hrep
theorem enc_u8 (z : Int) (h : inRb .u8 z = true) : E.enc .u8 (UInt8.ofNat z.toNat) = [.int .u8 z] := by
  show [Leaf.int IntKind.u8 ((UInt8.ofNat z.toNat).toNat : Int)] = _
  simp only [inRb, Bool.and_eq_true, decide_eq_true_eq] at h
  have h1 : (0 : Int) ≤ z := h.1
  have h2 : z ≤ 255 := h.2
  have : ((UInt8.ofNat z.toNat).toNat : Int) = z := by simp; omega
  rw [this]; rfl
theorem int_of_shaped {P : Program} {w : World} {g : Nat} {t : TypeId} {zero : Array Value} {k : IntKind} (h : w.ShapedOpen P) (hg : g < P.globals.size)
    (h0 : ((begin P (fun _ _ => 0) default).world.heap[g]?).bind Obj.row? = some (zero, t)) (hz : zero.size = 1) (hb : P.buildable t = true) (hc : P.cellTypes P.depth t = some [t]) (hu : P.underlying t = some (.int k)) :
    ∃ m, k.has m ∧ w.cell? ⟨g, 0, none⟩ = some (.int k m) := by
  obtain ⟨cs, hh, hs, hr⟩ := h.1 g zero t hg h0
  obtain ⟨ts, hts, _, hall⟩ := hr hb
  rw [hc] at hts
  cases hts
  have h1 : 0 < cs.size := by omega
  obtain ⟨u, hu', hok⟩ := hall 0 cs[0] (by simp [h1])
  have : u = t := by simpa using hu'.symm
  subst this
  have hcell : w.cell? ⟨g, 0, none⟩ = some cs[0] := by simp [World.cell?, hh, h1]
  rw [hcell]
  unfold Cell.ok at hok
  rw [hu] at hok
  cases hv : cs[0] <;> rw [hv] at hok <;> simp at hok
  case int k' n => exact ⟨n, hok.2, by rw [hok.1]⟩
theorem shape_of_shaped {P : Program} {w : World} {g : Nat} {t : TypeId} {zero : Array Value} {n : Nat} (h : w.ShapedOpen P) (hg : g < P.globals.size)
    (h0 : ((begin P (fun _ _ => 0) default).world.heap[g]?).bind Obj.row? = some (zero, t)) (hz : zero.size = n) : ∃ t, w.shape? g = some (t, n) := by
  obtain ⟨cs, hh, hs, _⟩ := h.1 g zero t hg h0
  refine ⟨t, ?_⟩
  unfold World.shape?
  rw [hh]
  simp [hs, hz]
/-- A variable of the program's that holds these numbers. -/
theorem glob_of_cells {w : World} {ik : IntKind} {n g : Nat} (f : Nat → Int) (hf : ∀ i, i < n → inRb ik (f i) = true) (hc : ∀ i, i < n → w.cell? ⟨g, i, none⟩ = some (.int ik (f i))) (hs : ∃ t, w.shape? g = some (t, n)) (hga : E.ga g = none) :
    Glob E Gh.none w ((List.range n).map fun c => .int ik (f c)) g := by
  refine ⟨.pp _ g 0 (fun j => .int ik (f j)) (List.all_eq_true.2 fun l hl => ?_) (fun j hj => ⟨?_, none_pur _ _⟩) (fun j l hl => ?_), ?_, fun k hk => ?_⟩
  · obtain ⟨c, _, rfl⟩ := List.mem_map.1 hl
    rfl
  · rw [Nat.zero_add]
    exact hc j (by simpa using hj)
  · rw [List.getElem?_map, Option.map_eq_some_iff] at hl
    obtain ⟨z, hz, rfl⟩ := hl
    have hj : j < n := by
      have := (List.getElem?_eq_some_iff.1 hz).1
      simpa using this
    rw [List.getElem?_range hj] at hz
    injection hz with hz; subst hz
    exact .int (hf j hj)
  · rw [List.length_map, List.length_range]; exact hs
  · rw [hga] at hk; cases hk
theorem glob_of_tab {w : World} (h : Lib.TabIs E.P w "internal/strconv.uint64pow10" .u64 Lib.pow10Tab) (hs : ∃ t, w.shape? 5 = some (t, 20)) : Glob E Gh.none w ((Go.Lib.pow10Tab).map fun z => .int .u64 z) 5 := by
  have hg : E.P.globalNamed "internal/strconv.uint64pow10" = some 5 := by kernel_rfl
  have e : ((Go.Lib.pow10Tab).map fun z => (Leaf.int (A := E.A) .u64 z)) = (List.range 20).map fun c => .int .u64 (Lib.pow10Tab.getD c 0) := by kernel_rfl
  rw [e]
  refine glob_of_cells (fun c => Lib.pow10Tab.getD c 0) (fun i hi => ?_) (fun i hi => h.cell hg i hi) hs rfl
  have : (List.range 20).all (fun i => inRb .u64 (Lib.pow10Tab.getD i 0)) = true := by decide
  exact List.all_eq_true.1 this i (List.mem_range.2 hi)
theorem first_of_reads {w : World} (h : Lib.VarReads E.P w "unicode/utf8.first" Lib.firstData) (c : Nat) (hc : c < 256) : w.cell? ⟨1, c, none⟩ = some (.int .u8 (Lib.firstT c : Int)) := by
  obtain ⟨g, t, cs, fuel, p, hg, hty, hvar, hd⟩ := h
  obtain rfl := Option.some.inj ((show E.P.globalNamed "unicode/utf8.first" = some 1 from by kernel_rfl).symm.trans hg)
  obtain rfl := Option.some.inj ((show (E.P.globals[1]?).map (·.type) = some 122 from by kernel_rfl).symm.trans hty)
  have hcs := Lib.cells_of_tab (t := 122) (e := 5) (n := 256) (by kernel_rfl) (by kernel_rfl) (by kernel_rfl) (by kernel_rfl) hd
  have := World.var?_cell hg hvar c
  rw [this, ← Array.getElem?_toList, hcs]
  simp [Lib.firstTab, hc]
theorem accept_of_reads {w : World} (h : Lib.VarReads E.P w "unicode/utf8.acceptRanges" Lib.acceptData) (i : Nat) (hi : i < 16) :
    w.cell? ⟨2, 2 * i, none⟩ = some (.int .u8 (Lib.accLo i : Int)) ∧ w.cell? ⟨2, 2 * i + 1, none⟩ = some (.int .u8 (Lib.accHi i : Int)) := by
  obtain ⟨g, t, cs, fuel, p, hg, hty, hvar, hd⟩ := h
  obtain rfl := Option.some.inj ((show E.P.globalNamed "unicode/utf8.acceptRanges" = some 2 from by kernel_rfl).symm.trans hg)
  obtain rfl := Option.some.inj ((show (E.P.globals[2]?).map (·.type) = some 125 from by kernel_rfl).symm.trans hty)
  obtain ⟨fuel', d, q, hdi, he⟩ := Lib.array_elem (n := 16) (e := 124) (by kernel_rfl) hd i hi
  simp only [List.getElem?_map, List.getElem?_range hi, Option.map_some, Option.some.injEq] at hdi
  subst hdi
  have c2 : E.P.cellsOf 124 = 2 := by kernel_rfl
  have c5 : E.P.cellsOf 5 = 1 := by kernel_rfl
  have u5 : E.P.underlying 5 = some (.int .u8) := by kernel_rfl
  rw [c2] at he
  have hcs := Lib.ints_of_struct Go.Proofs.Tryz.underlying124 (fun j f hj => by
    match j, hj with
    | 0, hj => simp at hj; subst hj; exact ⟨u5, rfl, c5⟩
    | 1, hj => simp at hj; subst hj; exact ⟨u5, rfl, c5⟩
    | j + 2, hj => simp at hj) (c2.trans rfl) he
  have e0 := congrArg (·[0]?) hcs
  have e1 := congrArg (·[1]?) hcs
  simp only [List.getElem?_take, List.getElem?_drop] at e0 e1
  constructor
  · rw [World.var?_cell hg hvar (2 * i), ← Array.getElem?_toList]
    simpa [Nat.mul_comm] using e0
  · rw [World.var?_cell hg hvar (2 * i + 1), ← Array.getElem?_toList]
    simpa [Nat.mul_comm] using e1
theorem err_ty (u : TypeId) (hu : E.P.typeName? 3 u = some "*errors.errorString") : u = 133 := by
  have e : some "*errors.errorString" = some ("*" ++ "errors.errorString") := by decide +kernel
  rw [e] at hu
  exact typeName_ptr_named (P := E.P) (nm := "errors.errorString") (tp := 133) (by decide +kernel) (by decide +kernel) (by decide +kernel) u hu
theorem err_of_laid {P : Program} {w : World} {n : String} {d : DataW Unit} {g ti : Nat} {ms : Array (String × TypeId)} {e : TypeId} (hg : P.globalNamed n = some g) (hty : (P.globals[g]?).map (·.type) = some ti) (hms : P.underlying ti = some (.interface ms))
    (hnm : ∀ u, P.typeName? 3 u = some "*errors.errorString" → u = 133) (hpt : P.underlying 133 = some (.pointer e)) (h : laidMet P [(n, .iface "*errors.errorString" (.ptr d))] w) :
    ∃ v : Value, w.cell? ⟨g, 0, none⟩ = some (.iface 133 v) ∧ v.oneCell' = true := by
  obtain ⟨ps, ⟨g', t', cs, fuel, p, q, h1, h2, hvar, hd, hq, rfl⟩, _, hall⟩ := h
  obtain rfl := Option.some.inj (hg.symm.trans h1)
  obtain rfl := Option.some.inj (hty.symm.trans h2)
  obtain ⟨fuel', u, v, hcs, hn, _⟩ := iface_of_trod hms hd
  have hc0 : w.cell? ⟨g, 0, none⟩ = some (.iface u v) := by
    rw [World.var?_cell hg hvar 0, ← Array.getElem?_toList, hcs]; rfl
  have hsz : cs.size = 1 := by rw [← Array.length_toList, hcs]; rfl
  have hok := (hall g 0 (by rw [hsz]; simp [MemPlace.row])).2 u v hc0
  obtain rfl := hnm u hn
  obtain ⟨a, rfl⟩ := WideShapes.okWide_pointer hpt hok
  exact ⟨_, hc0, rfl⟩
theorem glob_of_err {w : World} {g : Nat} (h : ∃ v : Value, w.cell? ⟨g, 0, none⟩ = some (.iface 133 v) ∧ v.oneCell' = true) (hs : ∃ t, w.shape? g = some (t, 1)) (hga : E.ga g = none) : Glob E Gh.none w [.ifc 133 .dead] g := by
  obtain ⟨v, hc, hv⟩ := h
  refine ⟨.pp _ g 0 (fun _ => .iface 133 v) rfl (fun j hj => ⟨?_, none_pur _ _⟩) (fun j l hl => ?_), hs, fun k hk => by rw [hga] at hk; cases hk⟩
  · have hj' : j < 1 := hj
    obtain rfl : j = 0 := by omega
    exact hc
  · match j, hl with
    | 0, hl => injection hl with hl; subst hl; exact .ifc (.dead hv)
    | j + 1, hl => cases hl
def errS : DataW Unit := .agg [.lit (.string [105, 110, 118, 97, 108, 105, 100, 32, 115, 121, 110, 116, 97, 120])]
def errR : DataW Unit := .agg [.lit (.string [118, 97, 108, 117, 101, 32, 111, 117, 116, 32, 111, 102, 32, 114, 97, 110, 103, 101])]
theorem gl_of_laid {w : World} {laid : List (String × DataW Unit)} (hf : laid.filter (fun x => x.1 == "internal/strconv.uint64pow10") = [("internal/strconv.uint64pow10", Lib.tabData .u64 Lib.pow10Tab)])
    (hf2 : laid.filter (fun x => x.1 == "unicode/utf8.first") = [("unicode/utf8.first", Lib.firstData)]) (hf3 : laid.filter (fun x => x.1 == "unicode/utf8.acceptRanges") = [("unicode/utf8.acceptRanges", Lib.acceptData)])
    (hf5 : laid.filter (fun x => x.1 == "strconv.ErrSyntax") = [("strconv.ErrSyntax", .iface "*errors.errorString" (.ptr errS))]) (hf6 : laid.filter (fun x => x.1 == "strconv.ErrRange") = [("strconv.ErrRange", .iface "*errors.errorString" (.ptr errR))])
    (h : laidMetH E.P laid w) (hs : w.ShapedOpen E.P) :
    ∀ g cs, E.gl g = some cs → Glob E Gh.none w cs g := by
  intro g cs hg
  match g, hg with
  | 0, hg =>
    injection hg with hg; subst hg
    obtain ⟨m, hm, hc⟩ := int_of_shaped (g := 0) (t := 3) (k := .i64) (zero := #[.int .i64 0]) hs (by decide +kernel) (by kernel_rfl) rfl (by kernel_rfl) (by kernel_rfl) (by kernel_rfl)
    refine ⟨.pp _ 0 0 (fun _ => .int .i64 m) rfl (fun j hj => ⟨?_, none_pur _ _⟩) (fun j l hl => ?_), shape_of_shaped (g := 0) (t := 3) (zero := #[.int .i64 0]) hs (by decide +kernel) (by kernel_rfl) rfl, fun k hk => ?_⟩
    · have hj' : j < 1 := hj
      obtain rfl : j = 0 := by omega
      exact hc
    · match j, hl with
      | 0, hl => injection hl with hl; subst hl; exact .dead rfl
      | j + 1, hl => cases hl
    · injection hk with hk; subst hk
      refine ⟨m, ?_, hc, none_pur _ _⟩
      unfold IntKind.has at hm
      unfold inRb
      simpa using hm
  | 1, hg =>
    injection hg with hg; subst hg
    have h1 := laidMetH.filter (fun x => x.1 == "unicode/utf8.first") h
    rw [hf2] at h1
    have h2 : laidMet E.P [("unicode/utf8.first", Lib.firstData)] w := h1
    have h3 := Lib.laidMet.reads h2 (List.mem_singleton.2 rfl)
    refine glob_of_cells (fun c => (Lib.firstT c : Int)) (fun i hi => ?_) (first_of_reads h3) (shape_of_shaped (g := 1) (t := 122) (zero := Array.replicate 256 (.int .u8 0)) hs (by decide +kernel) (by kernel_rfl) Array.size_replicate) rfl
    have : (List.range 256).all (fun i => inRb .u8 (Lib.firstT i : Int)) = true := by decide +kernel
    exact List.all_eq_true.1 this i (List.mem_range.2 hi)
  | 2, hg =>
    injection hg with hg; subst hg
    have h1 := laidMetH.filter (fun x => x.1 == "unicode/utf8.acceptRanges") h
    rw [hf3] at h1
    have h2 : laidMet E.P [("unicode/utf8.acceptRanges", Lib.acceptData)] w := h1
    have h3 := Lib.laidMet.reads h2 (List.mem_singleton.2 rfl)
    refine glob_of_cells (fun c => if c % 2 = 0 then (Lib.accLo (c / 2) : Int) else (Lib.accHi (c / 2) : Int)) (fun i hi => ?_) (fun i hi => ?_) (shape_of_shaped (g := 2) (t := 125) (zero := Array.replicate 32 (.int .u8 0)) hs (by decide +kernel) (by kernel_rfl) Array.size_replicate) rfl
    · have : (List.range 32).all (fun c => inRb .u8 (if c % 2 = 0 then (Lib.accLo (c / 2) : Int) else (Lib.accHi (c / 2) : Int))) = true := by decide +kernel
      exact List.all_eq_true.1 this i (List.mem_range.2 hi)
    · obtain ⟨k1, k2⟩ := accept_of_reads h3 (i / 2) (by omega)
      rcases Nat.mod_two_eq_zero_or_one i with e | e
      · rw [if_pos e]
        rw [show 2 * (i / 2) = i by omega] at k1
        exact k1
      · rw [if_neg (by omega)]
        rw [show 2 * (i / 2) + 1 = i by omega] at k2
        exact k2
  | 3, hg =>
    injection hg with hg; subst hg
    have h1 := laidMetH.filter (fun x => x.1 == "strconv.ErrSyntax") h
    rw [hf5] at h1
    have h2 : laidMet E.P [("strconv.ErrSyntax", .iface "*errors.errorString" (.ptr errS))] w := h1
    exact glob_of_err (err_of_laid (g := 3) (ti := 83) (e := 135) (by kernel_rfl) (by kernel_rfl) Go.Proofs.Tryz.underlying83 err_ty (by kernel_rfl) h2) (shape_of_shaped (g := 3) (t := 83) (zero := #[.nilIface]) hs (by decide +kernel) (by kernel_rfl) rfl) rfl
  | 4, hg =>
    injection hg with hg; subst hg
    have h1 := laidMetH.filter (fun x => x.1 == "strconv.ErrRange") h
    rw [hf6] at h1
    have h2 : laidMet E.P [("strconv.ErrRange", .iface "*errors.errorString" (.ptr errR))] w := h1
    exact glob_of_err (err_of_laid (g := 4) (ti := 83) (e := 135) (by kernel_rfl) (by kernel_rfl) Go.Proofs.Tryz.underlying83 err_ty (by kernel_rfl) h2) (shape_of_shaped (g := 4) (t := 83) (zero := #[.nilIface]) hs (by decide +kernel) (by kernel_rfl) rfl) rfl
  | 5, hg =>
    injection hg with hg; subst hg
    have h1 := laidMetH.filter (fun x => x.1 == "internal/strconv.uint64pow10") h
    rw [hf] at h1
    have h2 : laidMet E.P [("internal/strconv.uint64pow10", Lib.tabData .u64 Lib.pow10Tab)] w := h1
    have h3 : Lib.TabIs E.P w "internal/strconv.uint64pow10" .u64 Lib.pow10Tab := Lib.tabIs_of_head (g := 5) (t := 143) (e := 109) (n := 20) (by kernel_rfl) (by kernel_rfl) (by kernel_rfl) (by kernel_rfl) (by kernel_rfl) (by kernel_rfl) h2
    exact glob_of_tab h3 (shape_of_shaped (g := 5) (t := 143) (zero := Array.replicate 20 (.int .u64 0)) hs (by decide +kernel) (by kernel_rfl) Array.size_replicate)
  | g + 6, hg => cases hg
variable {H : Type} {enc : TypeId × Value → H}
/-- From the contract to the row, the world's shape kept. -/
theorem returns_shaped {a : Assume} {C : Checked} {os : Os} {f : FuncId} {fn : Func} {s : ChangeSpec} {conds : List PathCond} {apart fresh handsOn again : Bool} {X : World → Array Value → Prop}
    (hX : ∀ (w w' : World) (args : Array Value), w.heap = w'.heap → X w args → X w' args)
    (own : ownKnob C.prog.godebug = none) (started : os.Started) (noInit : C.prog.inits.idxOf? f = none) (hfn : C.prog.funcs[f]? = some fn)
    (witness : ∃ (w : World) (tape : Tape) (i : Input), w.os = os ∧ (w.forCall tape i).Shaped C.prog ∧ i.vars = [] ∧ Input.okWide C.prog (w.forCall tape i) .any w.heap.size f i ∧
      ((s.pre enc C.prog fn conds apart (w.forCall tape i).memory i.args ∧ X (w.forCall tape i).memory i.args) ∧ sizedMet enc C.prog fn (OpenSpec.ofChange s) apart (w.forCall tape i).memory i.args) ∧ a.holds C.prog (lone (Frame.enter C.prog f i.args .normal) [] (w.forCall tape i)))
    (contract : ∀ (W : World) (base : Nat) (args : Array Value) (ds gs : List (DataW H)) (before : List MemPlace),
      (∀ (j : Nat) t v, fn.params[j]? = some t → args[j]? = some v → Value.okWide C.prog W .any base t v) →
      DataW.Whole enc C.prog fn.params.toList s.vars apart W args.toList ds gs before →
      conds.all (PathCond.test C.prog ⟨fn.params.toList, ds, s.plain.varTypes C.prog, gs⟩) = true →
      (DataW.weightsEach C.prog (fn.params.toList ++ s.plain.varTypes C.prog) (ds ++ gs)).all (· ≤ reachBytes) = true → X W args → W.ShapedOpen C.prog →
      Calls C.prog f args W fun e W' => ∃ v, e = .returned v ∧ s.post enc C.prog fn apart fresh handsOn again W args v W') :
    ReturnsInHanded a C os f .any (fun w args => (s.pre enc C.prog fn conds apart w args ∧ X w args) ∧ sizedMet enc C.prog fn (OpenSpec.ofChange s) apart w args) (s.post enc C.prog fn apart fresh handsOn again) := by
  refine returnsInHanded_of_calls own started noInit witness ?_
  intro w tape i _ hsh _ hok hpre _
  obtain ⟨_, _, _, fn', hfn', _, _, _, _, hval⟩ := hok
  have e : fn' = fn := Option.some.inj (hfn'.symm.trans hfn)
  subst e
  obtain ⟨⟨⟨ds, gs, before, hw, hc⟩, hx⟩, hz⟩ := hpre
  have hw' := DataW.Whole.of_heap (w' := w.forCall tape i) (by rfl) hw
  refine (contract (w.forCall tape i) w.heap.size i.args ds gs before hval hw' hc (hz.weights hw) (hX _ _ _ (by rfl) hx) hsh).mono fun e W' ⟨v, he, hp⟩ => ?_
  subst he
  exact ChangeSpec.post_blind hp
end Go.Vx
