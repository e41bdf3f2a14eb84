/-
  Part 3 of the proof: the second reading of the model, its laws, and the functions' contracts. Lemmas alone.
-/
import Derived.Lib.IndexAny
import Derived.Test.YtjnmckakmljejaaGreatDoorA1
set_option linter.unusedSectionVars false
set_option linter.unusedVariables false
set_option linter.unusedSimpArgs false
noncomputable section
namespace Px
open Go.Vx Go
def hv (c : UInt8) : Nat :=
 cond (Nat.ble 48 c.toNat && Nat.ble c.toNat 57) (c.toNat - 48) (cond (Nat.ble 97 c.toNat && Nat.ble c.toNat 102) (c.toNat - 87) (cond (Nat.ble 65 c.toNat && Nat.ble c.toNat 70) (c.toNat - 55) 16))
theorem all_u8 {q : UInt8 → Bool} (h : (List.range 256).all (fun n => q (UInt8.ofNat n)) = true) (c : UInt8) : q c = true := by
 have := List.all_eq_true.1 h c.toNat (List.mem_range.2 c.toNat_lt)
 rwa [UInt8.ofNat_toNat] at this
theorem all_nat {m : Nat} {q : Nat → Bool} (h : (List.range m).all q = true) {n : Nat} (hn : n < m) : q n = true := List.all_eq_true.1 h n (List.mem_range.2 hn)
theorem hv_le (c : UInt8) : hv c ≤ 16 := by
 have := all_u8 (q := fun c => Nat.ble (hv c) 16) (by kernel_rfl) c
 exact Nat.le_of_ble_eq_true this
def hvi (c : UInt8) : Int := Lib.indexByte [48, 49, 50, 51, 52, 53, 54, 55, 56, 57, 97, 98, 99, 100, 101, 102] (UInt8.ofNat (vbits Go.BinOp.or IntKind.u8 (c.toNat : Int) 32).toNat)
theorem hvi_fact (c : UInt8) : (hv c < 16 ∧ hvi c = hv c ∧ ltI (c.toNat : Int) 48 = false) ∨ (hv c = 16 ∧ (ltI (hvi c) 0 = true ∨ (ltI (hvi c) 0 = false ∧ ltI (c.toNat : Int) 48 = true))) := by
 have := all_u8 (q := fun c => (Nat.blt (hv c) 16 && eqI (hvi c) (hv c) && !(ltI (c.toNat : Int) 48)) || (Nat.beq (hv c) 16 && (ltI (hvi c) 0 || (!(ltI (hvi c) 0) && ltI (c.toNat : Int) 48)))) (by kernel_rfl) c
 simp only [Bool.or_eq_true, Bool.and_eq_true, Bool.not_eq_true', eqI_eq, decide_eq_true_eq, Nat.beq_eq] at this
 rcases this with ⟨⟨h1, h2⟩, h3⟩ | ⟨h1, h2⟩
 ·exact .inl ⟨Nat.le_of_ble_eq_true h1, h2, h3⟩
 ·exact .inr ⟨h1, h2⟩
theorem hi_fact {d : Nat} (h : d < 16) : UInt8.ofNat (IntKind.u8.wrap (vshl IntKind.i64 (d : Int) 4)).toNat = UInt8.ofNat (16 * d) := by
 have := all_nat (m := 16) (q := fun d => Nat.beq (UInt8.ofNat (IntKind.u8.wrap (vshl IntKind.i64 (d : Int) 4)).toNat).toNat (UInt8.ofNat (16 * d)).toNat) (by kernel_rfl) h
 exact UInt8.toNat_inj.1 (Nat.beq_eq ▸ this)
theorem lo_fact {a d : Nat} (ha : a < 16) (h : d < 16) : UInt8.ofNat (vbits Go.BinOp.or IntKind.u8 ((16 * a : Nat) : Int) (IntKind.u8.wrap (d : Int))).toNat = UInt8.ofNat (16 * a + d) := by
 have := all_nat (m := 16) (q := fun a => (List.range 16).all fun d => Nat.beq (UInt8.ofNat (vbits Go.BinOp.or IntKind.u8 ((16 * a : Nat) : Int) (IntKind.u8.wrap (d : Int))).toNat).toNat (UInt8.ofNat (16 * a + d)).toNat) (by kernel_rfl) ha
 have := all_nat this h
 exact UInt8.toNat_inj.1 (Nat.beq_eq ▸ this)
def textStep (a : Nat × List UInt8) (c : UInt8) : Option (Nat × List UInt8) :=
 cond (blank (c.toNat : Int)) (some a) (cond (Nat.blt (hv c) 16)
  (some (a.1 + 1, cond (Nat.beq (a.1 % 2) 0) (a.2 ++ [UInt8.ofNat (16 * hv c)]) (a.2.set (a.1 / 2) (UInt8.ofNat ((a.2.getD (a.1 / 2) 0).toNat + hv c))))) none)
def textRun : Nat × List UInt8 → List UInt8 → Option (Nat × List UInt8)
 | a, [] => some a
 | a, c :: r => match textStep a c with | none => none | some a' => textRun a' r
def textInv (i : Nat) (a : Nat × List UInt8) : Prop := a.2.length = (a.1 + 1) / 2 ∧ a.1 ≤ i ∧ (a.1 % 2 = 1 → ∃ k, k < 16 ∧ (a.2.getD (a.1 / 2) 0).toNat = 16 * k)
theorem textInv_step {i : Nat} {a a' : Nat × List UInt8} {c : UInt8} (h : textInv i a) (hs : textStep a c = some a') : textInv (i + 1) a' := by
 obtain ⟨n, out⟩ := a
 obtain ⟨h1, h2, h3⟩ := h
 simp only at h1 h2 h3
 unfold textStep at hs
 cases hb : blank (c.toNat : Int) with
 | true =>
  rw [hb] at hs
  injection hs with hs
  subst hs
  exact ⟨h1, Nat.le_succ_of_le h2, h3⟩
 | false =>
  rw [hb] at hs
  cases hd : Nat.blt (hv c) 16 with
  | false => rw [hd] at hs; cases hs
  | true =>
   rw [hd] at hs
   injection hs with hs
   subst hs
   cases he : Nat.beq (n % 2) 0 with
   | true =>
    have he := Nat.eq_of_beq_eq_true he
    have hd : hv c < 16 := Nat.le_of_ble_eq_true hd
    refine ⟨?_, ?_, fun _ => ⟨hv c, hd, ?_⟩⟩
    ·simp only [cond_true, List.length_append, List.length_cons, List.length_nil]; omega
    ·simp only; omega
    ·simp only [cond_true]
     rw [show (n + 1) / 2 = out.length by omega]
     simp [List.getD]; omega
   | false =>
    have he : ¬ n % 2 = 0 := fun hh => by rw [hh] at he; cases he
    refine ⟨?_, ?_, fun hh => ?_⟩
    ·simp only [cond_false, List.length_set]; omega
    ·simp only; omega
    ·simp only at hh; omega
theorem run_text {O : Type} (R : O) (f : Nat × List UInt8 → O) : ∀ (l : List UInt8) (i : Nat) (a : Nat × List UInt8),
  rangeRun (fun _ a c => match textStep a c with | none => .inr R | some a' => .inl a') f i a l = match textRun a l with | none => R | some a' => f a'
 | [], _, _ => rfl
 | c :: l, i, a => by
  simp only [rangeRun, textRun]
  cases h : textStep a c with
  | none => rfl
  | some a' => exact run_text R f l (i + 1) a'
def textGo (p : List UInt8) : Option (Nat × List UInt8) := textRun (0, []) p
def textIs (p : List UInt8) : Bool := (textGo p).isSome
def textOut (p : List UInt8) : List UInt8 := match textGo p with | some a => a.2 | none => []
end Px
namespace Px
open Go.Vx Go
def hasPre (s p : List UInt8) : Bool := decide (s.take p.length = p)
def breaks : List UInt8 := [0, 9, 10, 12, 13, 32, 40, 41, 60, 62, 91, 93, 123, 125, 47, 37]
def ascii (l : List UInt8) : Bool := l.all fun b => Nat.ble b.toNat 127
theorem indexByte_bound (c : UInt8) : ∀ l : List UInt8, -1 ≤ Lib.indexByte l c ∧ Lib.indexByte l c < (l.length : Int)
 | [] => ⟨Int.le_refl _, show (-1 : Int) < 0 by decide⟩
 | b :: l => by
  have ih := indexByte_bound c l
  simp only [Lib.indexByte, List.length_cons]
  split
  ·omega
  ·split
   ·omega
   ·omega
end Px
end
