/-
  Part 7 of the proof: the second reading of the model, its laws, and the functions' contracts. Lemmas alone.
-/
import Derived.Lib.QuoteLoop
import Derived.Lib.IndexEntry
import Derived.Shelf.Spec.DecodeRune
import Derived.Test.YtmllilgelombiaaDoorA6
set_option linter.unusedSectionVars false
set_option linter.unusedVariables false
set_option linter.unusedSimpArgs false
namespace Go.Vx
open Go Go.Lib
theorem dn_facts (n b0 b1 b2 b3 : Nat) (hn : 1 ≤ n) (h0 : 128 ≤ b0) (h1 : b0 < 256) :
    1 ≤ (decodeN n b0 b1 b2 b3).2 ∧ (decodeN n b0 b1 b2 b3).2 ≤ 4 ∧ (decodeN n b0 b1 b2 b3).2 ≤ n ∧ 128 ≤ (decodeN n b0 b1 b2 b3).1 ∧ (decodeN n b0 b1 b2 b3).1 ≤ 1114111 ∧
    (2 ≤ (decodeN n b0 b1 b2 b3).2 → 128 ≤ b1) ∧ (3 ≤ (decodeN n b0 b1 b2 b3).2 → 128 ≤ b2) ∧ (4 ≤ (decodeN n b0 b1 b2 b3).2 → 128 ≤ b3) ∧
    ((decodeN n b0 b1 b2 b3).1 ≠ 65533 → ((decodeN n b0 b1 b2 b3).2 = 2 ∧ (decodeN n b0 b1 b2 b3).1 < 2048) ∨ ((decodeN n b0 b1 b2 b3).2 = 3 ∧ 2048 ≤ (decodeN n b0 b1 b2 b3).1 ∧ (decodeN n b0 b1 b2 b3).1 < 65536) ∨ ((decodeN n b0 b1 b2 b3).2 = 4 ∧ 65536 ≤ (decodeN n b0 b1 b2 b3).1)) := by
  unfold decodeN
  repeat' split
  all_goals (dsimp only; exact ⟨by omega, by omega, by omega, by omega, by omega, fun _ => by omega, fun _ => by omega, fun _ => by omega, fun hne => by first | exact absurd rfl hne | omega | exact .inl ⟨rfl, by omega⟩ | exact .inr (.inl ⟨rfl, by omega, by omega⟩) | exact .inr (.inr ⟨rfl, by omega⟩)⟩)
/-- what the decoder tells of a byte beyond ASCII -/
structure Wide (s : ByteArray) (r k : Nat) : Prop where
  k1 : 1 ≤ k
  k4 : k ≤ 4
  kn : k ≤ s.size
  r1 : 128 ≤ r
  r2 : r ≤ 1114111
  far : ∀ j, j < k → 128 ≤ (s.get! j).toNat
  enc : r ≠ 65533 → 2 ≤ k ∧ (Utf8.encode (r : Int)).size = k ∧ ∃ c l, (Utf8.encode (r : Int)).data.toList = c :: l ∧ 128 ≤ c.toNat
theorem wide_of (s : ByteArray) (h0 : 0 < s.size) (hx : 128 ≤ (s.get! 0).toNat) : Wide s (decodeGo s).1 (decodeGo s).2 := by
  have hs : ¬ s.size = 0 := by omega
  have hd : decodeGo s = decodeN s.size (s.get! 0).toNat (s.get! 1).toNat (s.get! 2).toNat (s.get! 3).toNat := by
    simp only [decodeGo, hs, if_false]
    rw [decode_at, Nat.sub_zero]
  have hv := decodeN_valid s.size (s.get! 0).toNat (s.get! 1).toNat (s.get! 2).toNat (s.get! 3).toNat (s.get! 0).toNat_lt
  have hf := dn_facts s.size (s.get! 0).toNat (s.get! 1).toNat (s.get! 2).toNat (s.get! 3).toNat h0 hx (s.get! 0).toNat_lt
  rw [hd]
  generalize decodeN s.size (s.get! 0).toNat (s.get! 1).toNat (s.get! 2).toNat (s.get! 3).toNat = d at hv hf ⊢
  obtain ⟨r, k⟩ := d
  simp only at hv hf ⊢
  obtain ⟨f1, f2, f3, f4, f5, f6, f7, f8, f9⟩ := hf
  refine ⟨f1, f2, f3, f4, f5, fun j hj => ?_, fun hne => ?_⟩
  · match j, hj with
    | 0, _ => exact hx
    | 1, h => exact f6 h
    | 2, h => exact f7 h
    | 3, h => exact f8 h
    | j + 4, h => omega
  · have hval : Utf8.valid (r : Int) = true := by
      unfold Utf8.valid
      simp only [Bool.or_eq_true, Bool.and_eq_true, decide_eq_true_eq]
      omega
    have hU : ∀ n, n < 256 → (UInt8.ofNat n).toNat = n := fun n h => by simp; omega
    rcases f9 hne with ⟨rfl, h⟩ | ⟨rfl, h, h'⟩ | ⟨rfl, h⟩
    · have e : Utf8.encode (r : Int) = ⟨#[UInt8.ofNat (0xC0 + r / 64), UInt8.ofNat (0x80 + r % 64)]⟩ := by
        unfold Utf8.encode
        simp only [hval, if_true, Int.toNat_natCast]
        rw [if_neg (by omega), if_pos (by omega)]
      rw [e]
      exact ⟨by omega, rfl, _, _, rfl, by rw [hU _ (by omega)]; omega⟩
    · have e : Utf8.encode (r : Int) = ⟨#[UInt8.ofNat (0xE0 + r / 4096), UInt8.ofNat (0x80 + r / 64 % 64), UInt8.ofNat (0x80 + r % 64)]⟩ := by
        unfold Utf8.encode
        simp only [hval, if_true, Int.toNat_natCast]
        rw [if_neg (by omega), if_neg (by omega), if_pos (by omega)]
      rw [e]
      exact ⟨by omega, rfl, _, _, rfl, by rw [hU _ (by omega)]; omega⟩
    · have e : Utf8.encode (r : Int) = ⟨#[UInt8.ofNat (0xF0 + r / 262144), UInt8.ofNat (0x80 + r / 4096 % 64), UInt8.ofNat (0x80 + r / 64 % 64), UInt8.ofNat (0x80 + r % 64)]⟩ := by
        unfold Utf8.encode
        simp only [hval, if_true, Int.toNat_natCast]
        rw [if_neg (by omega), if_neg (by omega), if_neg (by omega)]
      rw [e]
      exact ⟨by omega, rfl, _, _, rfl, by rw [hU _ (by omega)]; omega⟩
/-- no byte beyond ASCII is in an ASCII text -/
theorem index_far {c : UInt8} {l : List UInt8} (hc : 128 ≤ c.toNat) : ∀ chars : List UInt8, (∀ (j : Nat) b, chars[j]? = some b → b.toNat < 128) → Lib.index chars (c :: l) = -1
  | [], _ => rfl
  | b :: r, h => by
    have ih := index_far (l := l) hc r (fun j b hb => h (j + 1) b hb)
    have hb := h 0 b rfl
    have hne : (c == b) = false := by
      rw [beq_eq_false_iff_ne]; intro e; subst e; omega
    simp only [Lib.index, List.isPrefixOf, hne, Bool.false_and, Bool.false_eq_true, if_false, ih]
    rfl
theorem contains_far {c : UInt8} (hc : 128 ≤ c.toNat) {chars : List UInt8} (h : ∀ (j : Nat) b, chars[j]? = some b → b.toNat < 128) : chars.contains c = false := by
  cases hin : chars.contains c with
  | false => rfl
  | true =>
    rw [List.contains_iff_mem] at hin
    obtain ⟨j, hj⟩ := List.mem_iff_getElem?.1 hin
    have := h j c hj
    omega
end Go.Vx
