/-
  Part 11 of the proof: the second reading of the model, its laws, and the functions' contracts. Lemmas alone.
-/
import Derived.Lib.IndexAny
import Derived.Test.YtmllilgelombiaaDoorA2
import Derived.Test.YtmllilgelombiaaDoorA3
import Derived.Test.YtmllilgelombiaaDoorA4
import Derived.Test.YtmllilgelombiaaDoorA5
import Derived.Test.YtmllilgelombiaaDoorA10
set_option linter.unusedSectionVars false
set_option linter.unusedVariables false
set_option linter.unusedSimpArgs false
namespace Px
open Go.Vx Go
/-- a digit to the base 16; 16: it is none -/
def hv (c : UInt8) : Nat :=
  cond (Nat.ble 48 c.toNat && Nat.ble c.toNat 57) (c.toNat - 48) (cond (Nat.ble 97 c.toNat && Nat.ble c.toNat 102) (c.toNat - 87) (cond (Nat.ble 65 c.toNat && Nat.ble c.toNat 70) (c.toNat - 55) 16))
theorem all_u8 {q : UInt8 → Bool} (h : (List.range 256).all (fun n => q (UInt8.ofNat n)) = true) (c : UInt8) : q c = true := by
  have := List.all_eq_true.1 h c.toNat (List.mem_range.2 c.toNat_lt)
  rwa [UInt8.ofNat_toNat] at this
theorem all_nat {m : Nat} {q : Nat → Bool} (h : (List.range m).all q = true) {n : Nat} (hn : n < m) : q n = true := List.all_eq_true.1 h n (List.mem_range.2 hn)
theorem hv_le (c : UInt8) : hv c ≤ 16 := by
  have := all_u8 (q := fun c => Nat.ble (hv c) 16) (by kernel_rfl) c
  exact Nat.le_of_ble_eq_true this
/-- the place in the digits -/
def hvi (c : UInt8) : Int := Lib.indexByte [48, 49, 50, 51, 52, 53, 54, 55, 56, 57, 97, 98, 99, 100, 101, 102] (UInt8.ofNat (vbits Go.BinOp.or IntKind.u8 (c.toNat : Int) 32).toNat)
theorem hvi_fact (c : UInt8) : (hv c < 16 ∧ hvi c = hv c ∧ ltI (c.toNat : Int) 48 = false) ∨ (hv c = 16 ∧ (ltI (hvi c) 0 = true ∨ (ltI (hvi c) 0 = false ∧ ltI (c.toNat : Int) 48 = true))) := by
  have := all_u8 (q := fun c => (Nat.blt (hv c) 16 && eqI (hvi c) (hv c) && !(ltI (c.toNat : Int) 48)) || (Nat.beq (hv c) 16 && (ltI (hvi c) 0 || (!(ltI (hvi c) 0) && ltI (c.toNat : Int) 48)))) (by kernel_rfl) c
  simp only [Bool.or_eq_true, Bool.and_eq_true, Bool.not_eq_true', eqI_eq, decide_eq_true_eq, Nat.beq_eq] at this
  rcases this with ⟨⟨h1, h2⟩, h3⟩ | ⟨h1, h2⟩
  · exact .inl ⟨Nat.le_of_ble_eq_true h1, h2, h3⟩
  · exact .inr ⟨h1, h2⟩
theorem digit_fact (c : UInt8) : (hv c < 16 ∧ digit (c.toNat : Int) = hv c) ∨ (hv c = 16 ∧ digit (c.toNat : Int) = -1) := by
  have := all_u8 (q := fun c => (Nat.blt (hv c) 16 && eqI (digit (c.toNat : Int)) (hv c)) || (Nat.beq (hv c) 16 && eqI (digit (c.toNat : Int)) (-1))) (by kernel_rfl) c
  simp only [Bool.or_eq_true, Bool.and_eq_true, eqI_eq, decide_eq_true_eq, Nat.beq_eq] at this
  rcases this with ⟨h1, h2⟩ | h
  · exact .inl ⟨Nat.le_of_ble_eq_true h1, h2⟩
  · exact .inr h
theorem hi_fact {d : Nat} (h : d < 16) : UInt8.ofNat (IntKind.u8.wrap (vshl IntKind.i64 (d : Int) 4)).toNat = UInt8.ofNat (16 * d) := by
  have := all_nat (m := 16) (q := fun d => Nat.beq (UInt8.ofNat (IntKind.u8.wrap (vshl IntKind.i64 (d : Int) 4)).toNat).toNat (UInt8.ofNat (16 * d)).toNat) (by kernel_rfl) h
  exact UInt8.toNat_inj.1 (Nat.beq_eq ▸ this)
theorem lo_fact {a d : Nat} (ha : a < 16) (h : d < 16) : UInt8.ofNat (vbits Go.BinOp.or IntKind.u8 ((16 * a : Nat) : Int) (IntKind.u8.wrap (d : Int))).toNat = UInt8.ofNat (16 * a + d) := by
  have := all_nat (m := 16) (q := fun a => (List.range 16).all fun d => Nat.beq (UInt8.ofNat (vbits Go.BinOp.or IntKind.u8 ((16 * a : Nat) : Int) (IntKind.u8.wrap (d : Int))).toNat).toNat (UInt8.ofNat (16 * a + d)).toNat) (by kernel_rfl) ha
  have := all_nat this h
  exact UInt8.toNat_inj.1 (Nat.beq_eq ▸ this)
/-- one byte more of a string: how many digits, and the bytes -/
def textStep (a : Nat × List UInt8) (c : UInt8) : Option (Nat × List UInt8) :=
  cond (blank (c.toNat : Int)) (some a) (cond (Nat.blt (hv c) 16)
    (some (a.1 + 1, cond (Nat.beq (a.1 % 2) 0) (a.2 ++ [UInt8.ofNat (16 * hv c)]) (a.2.set (a.1 / 2) (UInt8.ofNat ((a.2.getD (a.1 / 2) 0).toNat + hv c))))) none)
def textRun : Nat × List UInt8 → List UInt8 → Option (Nat × List UInt8)
  | a, [] => some a
  | a, c :: r => match textStep a c with | none => none | some a' => textRun a' r
/-- what always holds -/
def textInv (i : Nat) (a : Nat × List UInt8) : Prop := a.2.length = (a.1 + 1) / 2 ∧ a.1 ≤ i ∧ (a.1 % 2 = 1 → ∃ k, k < 16 ∧ (a.2.getD (a.1 / 2) 0).toNat = 16 * k)
theorem textInv_step {i : Nat} {a a' : Nat × List UInt8} {c : UInt8} (h : textInv i a) (hs : textStep a c = some a') : textInv (i + 1) a' := by
  obtain ⟨n, out⟩ := a
  obtain ⟨h1, h2, h3⟩ := h
  simp only at h1 h2 h3
  unfold textStep at hs
  cases hb : blank (c.toNat : Int) with
  | true =>
    rw [hb] at hs
    injection hs with hs
    subst hs
    exact ⟨h1, Nat.le_succ_of_le h2, h3⟩
  | false =>
    rw [hb] at hs
    cases hd : Nat.blt (hv c) 16 with
    | false => rw [hd] at hs; cases hs
    | true =>
      rw [hd] at hs
      injection hs with hs
      subst hs
      cases he : Nat.beq (n % 2) 0 with
      | true =>
        have he := Nat.eq_of_beq_eq_true he
        have hd : hv c < 16 := Nat.le_of_ble_eq_true hd
        refine ⟨?_, ?_, fun _ => ⟨hv c, hd, ?_⟩⟩
        · simp only [cond_true, List.length_append, List.length_cons, List.length_nil]; omega
        · simp only; omega
        · simp only [cond_true]
          rw [show (n + 1) / 2 = out.length by omega]
          simp [List.getD]; omega
      | false =>
        have he : ¬ n % 2 = 0 := fun hh => by rw [hh] at he; cases he
        refine ⟨?_, ?_, fun hh => ?_⟩
        · simp only [cond_false, List.length_set]; omega
        · simp only; omega
        · simp only at hh; omega
theorem run_text {O : Type} (R : O) (f : Nat × List UInt8 → O) : ∀ (l : List UInt8) (i : Nat) (a : Nat × List UInt8),
    rangeRun (fun _ a c => match textStep a c with | none => .inr R | some a' => .inl a') f i a l = match textRun a l with | none => R | some a' => f a'
  | [], _, _ => rfl
  | c :: l, i, a => by
    simp only [rangeRun, textRun]
    cases h : textStep a c with
    | none => rfl
    | some a' => exact run_text R f l (i + 1) a'
def textGo (p : List UInt8) : Option (Nat × List UInt8) := textRun (0, []) p
/-- are they digits alone, and blanks? -/
def textIs (p : List UInt8) : Bool := (textGo p).isSome
def textN (p : List UInt8) : Nat := match textGo p with | some a => a.1 | none => 0
def textOut (p : List UInt8) : List UInt8 := match textGo p with | some a => a.2 | none => []
def textOk (p : List UInt8) : Bool := textIs p && Nat.beq (textN p % 2) 0
end Px
namespace Px
open Go.Vx Go
def hasPre (s p : List UInt8) : Bool := decide (s.take p.length = p)
def breaks : List UInt8 := [0, 9, 10, 12, 13, 32, 40, 41, 60, 62, 91, 93, 123, 125, 47, 37]
/-- a token, how long it is (nought: it has no end), is it right? -/
def tokR (l : List UInt8) : (List UInt8 × List UInt8 × Bool) × Nat × Bool :=
  cond (hasPre l [60, 60] || hasPre l [62, 62]) ((l.take 2, [], false), 2, true)
   (cond (eqI ((l.getD 0 0).toNat : Int) 60)
     (cond (ltI (Lib.indexByte l 62) 0) (([], [], false), 0, false)
       (([], textOut ((l.take (Lib.indexByte l 62).toNat).drop 1), true), (Lib.indexByte l 62).toNat + 1, textOk ((l.take (Lib.indexByte l 62).toNat).drop 1)))
     (cond (leI 0 (Lib.indexByte breaks (l.getD 0 0))) ((l.take 1, [], false), 1, true)
       (cond (ltI (Lib.indexAny l breaks) 0) ((l, [], false), l.length, true) ((l.take (Lib.indexAny l breaks).toNat, [], false), (Lib.indexAny l breaks).toNat, true))))
def tokW (l : List UInt8) : List UInt8 := (tokR l).1.1
def tokT (l : List UInt8) : List UInt8 := (tokR l).1.2.1
def tokI (l : List UInt8) : Bool := (tokR l).1.2.2
def tokN (l : List UInt8) : Nat := (tokR l).2.1
def tokOk (l : List UInt8) : Bool := (tokR l).2.2
/-- ASCII bytes alone -/
def ascii (l : List UInt8) : Bool := l.all fun b => Nat.ble b.toNat 127
def okAny (s c : List UInt8) : Bool := Nat.ble 1 s.length && Nat.ble 5 c.length && Nat.ble c.length 200 && ascii c
theorem indexByte_bound (c : UInt8) : ∀ l : List UInt8, -1 ≤ Lib.indexByte l c ∧ Lib.indexByte l c < (l.length : Int)
  | [] => ⟨Int.le_refl _, show (-1 : Int) < 0 by decide⟩
  | b :: l => by
    have ih := indexByte_bound c l
    simp only [Lib.indexByte, List.length_cons]
    split
    · omega
    · split
      · omega
      · omega
theorem indexAny_bound (c : List UInt8) : ∀ l : List UInt8, -1 ≤ Lib.indexAny l c ∧ Lib.indexAny l c ≤ (l.length : Int)
  | [] => ⟨Int.le_refl _, show (-1 : Int) ≤ 0 by decide⟩
  | b :: l => by
    have ih := indexAny_bound c l
    simp only [Lib.indexAny, List.length_cons]
    split
    · omega
    · split
      · omega
      · omega
/-- a byte that isn't the first isn't found at the first place -/
theorem indexByte_pos {l : List UInt8} {c : UInt8} (h : (l.getD 0 0).toNat ≠ c.toNat) (h0 : l ≠ []) : Lib.indexByte l c ≠ 0 := by
  cases l with
  | nil => exact absurd rfl h0
  | cons b r =>
    have hb : (b == c) = false := by
      rw [beq_eq_false_iff_ne]; rintro rfl; exact h rfl
    simp only [Lib.indexByte, hb, Bool.false_eq_true, if_false]
    have := (indexByte_bound c r).1
    split
    · omega
    · rename_i hh; simp only [beq_iff_eq] at hh; omega
theorem ascii_drop {l : List UInt8} (h : ascii l = true) (n : Nat) : ascii (l.drop n) = true := List.all_eq_true.2 fun b hb => List.all_eq_true.1 h b (List.mem_of_mem_drop hb)
theorem tokN_le (l : List UInt8) : tokN l ≤ l.length + 2 := by
  unfold tokN tokR
  have h1 := indexByte_bound 62 l
  have h2 := indexAny_bound breaks l
  cases hasPre l [60, 60] || hasPre l [62, 62] <;> simp only [cond_true, cond_false]
  · cases eqI ((l.getD 0 0).toNat : Int) 60 <;> simp only [cond_true, cond_false]
    · cases leI 0 (Lib.indexByte breaks (l.getD 0 0)) <;> simp only [cond_true, cond_false]
      · cases ltI (Lib.indexAny l breaks) 0 <;> simp only [cond_true, cond_false] <;> omega
      · omega
    · cases ltI (Lib.indexByte l 62) 0 <;> simp only [cond_true, cond_false] <;> omega
  · omega
end Px
namespace Px
open Go.Vx Go
theorem hasPre_len {l : List UInt8} {x y : UInt8} (h : hasPre l [x, y] = true) : 2 ≤ l.length := by
  have h := of_decide_eq_true h
  have := congrArg List.length h
  simp only [List.length_take, List.length_cons, List.length_nil] at this
  omega
theorem indexAny_pos {l c : List UInt8} (h : leI 0 (Lib.indexByte c (l.getD 0 0)) = false) (hne : l ≠ []) : Lib.indexAny l c ≠ 0 := by
  cases l with
  | nil => exact absurd rfl hne
  | cons b r =>
    intro h0
    have hc := Lib.contains_iff_indexByte c b
    have q4' : leI 0 (Lib.indexByte c b) = false := h
    rw [leI_eq] at q4'
    rw [q4'] at hc
    have b3 := indexAny_bound c r
    simp only [Lib.indexAny, hc, Bool.false_eq_true, if_false] at h0
    split at h0
    · omega
    · rename_i hh; simp only [beq_iff_eq] at hh; omega
theorem tokN_ok {l : List UInt8} (h : tokOk l = true) (hne : l ≠ []) : 1 ≤ tokN l ∧ tokN l ≤ l.length := by
  have hl : 1 ≤ l.length := by cases l with | nil => exact absurd rfl hne | cons => simp
  unfold tokOk at h
  unfold tokN
  have h1 := indexByte_bound 62 l
  have h2 := indexAny_bound breaks l
  unfold tokR at h ⊢
  cases q1 : hasPre l [60, 60] with
  | true =>
    have := hasPre_len q1
    simp only [Bool.true_or, cond_true]; omega
  | false =>
    cases q2 : hasPre l [62, 62] with
    | true =>
      have := hasPre_len q2
      simp only [Bool.or_true, cond_true]; omega
    | false =>
      rw [q1, q2] at h
      simp only [Bool.or_false, cond_false] at h ⊢
      cases q3 : eqI ((l.getD 0 0).toNat : Int) 60 with
      | true =>
        rw [q3] at h
        simp only [cond_true] at h ⊢
        cases q4 : ltI (Lib.indexByte l 62) 0 with
        | true => rw [q4] at h; cases h
        | false => simp only [cond_false]; omega
      | false =>
        simp only [cond_false]
        cases q4 : leI 0 (Lib.indexByte breaks (l.getD 0 0)) with
        | true => simp only [cond_true]; omega
        | false =>
          have := indexAny_pos q4 hne
          simp only [cond_false]
          cases q5 : ltI (Lib.indexAny l breaks) 0 with
          | true => simp only [cond_true]; omega
          | false =>
            rw [ltI_eq, decide_eq_false_iff_not] at q5
            simp only [cond_false]; omega
abbrev Tok := List UInt8 × List UInt8 × Bool
def wRange : List UInt8 := [98, 101, 103, 105, 110, 98, 102, 114, 97, 110, 103, 101]
def tokNext (l : List UInt8) : List UInt8 := (l.drop (tokN l)).drop (skipN false (l.drop (tokN l)))
/-- a code of an error (0: none), and the tokens -/
def toksRun : Nat → List Tok → List UInt8 → Int × List Tok
  | 0, acc, _ => (0, acc)
  | n + 1, acc, l => cond l.isEmpty (0, acc) (cond (tokOk l)
      (cond (decide (tokW l = [40])) (14, []) (cond (decide (tokW l = wRange)) (14, []) (toksRun n (acc ++ [(tokW l, tokT l, tokI l)]) (tokNext l)))) (2, []))
def toks (p : List UInt8) : Int × List Tok := toksRun (p.length + 1) [] (p.drop (skipN false p))
end Px
namespace Px
open Go.Vx Go
abbrev Map := List (Int × Int)
def mg (m : Map) (a : Int) : Option Int := (m.find? fun x => decide (a = x.1)).map (·.2)
def ms : Map → Int → Int → Map
  | [], a, b => [(a, b)]
  | x :: r, a, b => if decide (a = x.1) then (a, b) :: r else x :: ms r a b
theorem mg_eq (m : Map) (a : Int) : @mget K E .u16 .i32 m a = mg m a := rfl
theorem ms_eq (a b : Int) : ∀ m : Map, @mset K E .u16 .i32 m a b = ms m a b
  | [] => rfl
  | x :: r => by
    have ih := ms_eq a b r
    show (if decide (a = x.1) = true then (a, b) :: r else x :: @mset K E .u16 .i32 r a b) = _
    rw [ih]; rfl
def wEnd : List UInt8 := [101, 110, 100, 98, 102, 99, 104, 97, 114]
def wBegin : List UInt8 := [98, 101, 103, 105, 110, 98, 102, 99, 104, 97, 114]
/-- are two tokens a code that is new, and a scalar? -/
def pairOk (m : Map) (t u : Tok) : Bool := t.2.2 && u.2.2 && eqI (t.2.1.length : Int) 2 && leI 0 (rune u.2.1) && !(mg m (n2 t.2.1 0)).isSome
/-- pairs up to an end: behind how many tokens (0: something else; -1: no end), and the map then -/
def pairsRun : List Tok → Nat → Map → Int × Map
  | [], _, m => (-1, m)
  | [t], i, m => cond (decide (t.1 = wEnd)) (((i + 1 : Nat) : Int), m) (0, m)
  | t :: u :: r, i, m => cond (decide (t.1 = wEnd)) (((i + 1 : Nat) : Int), m) (cond (pairOk m t u) (pairsRun r (i + 2) (ms m (n2 t.2.1 0) (rune u.2.1))) (0, m))
def shortToks (l : List Tok) : Bool := l.all fun t => Nat.ble t.2.1.length 1000000000
end Px
namespace Px
open Go.Vx Go
theorem pairsRun_le : ∀ (l : List Tok) (i : Nat) (m : Map), (pairsRun l i m).1 ≤ ((i + l.length : Nat) : Int)
  | [], i, m => by unfold pairsRun; omega
  | [t], i, m => by
    unfold pairsRun
    cases decide (t.1 = wEnd) <;> simp only [cond_true, cond_false, List.length_cons, List.length_nil] <;> omega
  | t :: u :: r, i, m => by
    unfold pairsRun
    have ih := pairsRun_le r (i + 2) (ms m (n2 t.2.1 0) (rune u.2.1))
    cases decide (t.1 = wEnd) <;> cases pairOk m t u <;> simp only [cond_true, cond_false, List.length_cons] <;> omega
/-- the table of tokens: is it right? -/
def parseRun : Nat → List Tok → Map → Bool × Map
  | 0, _, m => (true, m)
  | _ + 1, [], m => (true, m)
  | n + 1, t :: r, m => cond (decide (t.1 = wBegin))
      (cond (leI 1 (pairsRun r 0 m).1) (parseRun n (r.drop (pairsRun r 0 m).1.toNat) (pairsRun r 0 m).2) (false, (pairsRun r 0 m).2)) (parseRun n r m)
theorem shortToks_drop {l : List Tok} (h : shortToks l = true) (n : Nat) : shortToks (l.drop n) = true := List.all_eq_true.2 fun b hb => List.all_eq_true.1 h b (List.mem_of_mem_drop hb)
/-- a table's error (0: none), and its codes -/
def parse (p : List UInt8) : Int × Map := cond (eqI (toks p).1 0) (cond (parseRun ((toks p).2.length + 1) (toks p).2 []).1 (0, (parseRun ((toks p).2.length + 1) (toks p).2 []).2) (2, [])) ((toks p).1, [])
/-! ### tokens are no longer than their bytes -/
theorem textRun_len : ∀ (l : List UInt8) (i : Nat) (a a' : Nat × List UInt8), textInv i a → textRun a l = some a' → textInv (i + l.length) a'
  | [], i, a, a', h, hr => by injection hr with hr; subst hr; exact h
  | c :: l, i, a, a', h, hr => by
    unfold textRun at hr
    cases hs : textStep a c with
    | none => rw [hs] at hr; cases hr
    | some b =>
      rw [hs] at hr
      have := textRun_len l (i + 1) b a' (textInv_step h hs) hr
      rw [List.length_cons, show i + (l.length + 1) = i + 1 + l.length by omega]
      exact this
theorem textOut_len (p : List UInt8) : (textOut p).length ≤ p.length := by
  unfold textOut textGo
  cases hr : textRun (0, []) p with
  | none => exact Nat.zero_le _
  | some a =>
    obtain ⟨h1, h2, _⟩ := textRun_len p 0 (0, []) a ⟨rfl, Nat.le_refl _, fun hh => by cases hh⟩ hr
    simp only
    omega
theorem tokT_len (l : List UInt8) : (tokT l).length ≤ l.length := by
  unfold tokT tokR
  cases hasPre l [60, 60] || hasPre l [62, 62] <;> simp only [cond_true, cond_false]
  · cases eqI ((l.getD 0 0).toNat : Int) 60 <;> simp only [cond_true, cond_false]
    · cases leI 0 (Lib.indexByte breaks (l.getD 0 0)) <;> simp only [cond_true, cond_false]
      · cases ltI (Lib.indexAny l breaks) 0 <;> simp only [cond_true, cond_false] <;> exact Nat.zero_le _
      · exact Nat.zero_le _
    · cases ltI (Lib.indexByte l 62) 0 <;> simp only [cond_true, cond_false]
      · refine Nat.le_trans (textOut_len _) ?_
        simp only [List.length_drop, List.length_take]; omega
      · exact Nat.zero_le _
  · exact Nat.zero_le _
theorem tokNext_len (l : List UInt8) : (tokNext l).length ≤ l.length - tokN l := by
  unfold tokNext
  simp only [List.length_drop]; omega
theorem toksRun_short (m : Nat) (hm : m ≤ 1000000000) : ∀ (n : Nat) (acc : List Tok) (l : List UInt8), l.length ≤ m → acc.length + l.length ≤ m → shortToks acc = true → shortToks (toksRun n acc l).2 = true ∧ (toksRun n acc l).2.length ≤ m
  | 0, acc, l, _, h2, h3 => ⟨h3, by simp only [toksRun]; omega⟩
  | n + 1, acc, l, h1, h2, h3 => by
    unfold toksRun
    cases q : l.isEmpty with
    | true => exact ⟨h3, by simp only [cond_true]; omega⟩
    | false =>
      have hne : l ≠ [] := by rintro rfl; cases q
      simp only [cond_false]
      cases q2 : tokOk l with
      | false => exact ⟨rfl, Nat.zero_le _⟩
      | true =>
        obtain ⟨n1, n2⟩ := tokN_ok q2 hne
        have hl := tokNext_len l
        have ht := tokT_len l
        simp only [cond_true]
        cases decide (tokW l = [40]) with
        | true => exact ⟨rfl, Nat.zero_le _⟩
        | false =>
          cases decide (tokW l = wRange) with
          | true => exact ⟨rfl, Nat.zero_le _⟩
          | false =>
            refine toksRun_short m hm n _ _ (by omega) (by simp only [List.length_append, List.length_cons, List.length_nil]; omega) ?_
            unfold shortToks at h3 ⊢
            rw [List.all_append, h3]
            simp only [List.all_cons, List.all_nil, Bool.and_true, Bool.true_and]
            exact Nat.ble_eq ▸ (by omega)
theorem toks_short {p : List UInt8} (h : p.length ≤ 1000000000) : shortToks (toks p).2 = true ∧ (toks p).2.length ≤ 1000000000 :=
  toksRun_short 1000000000 (Nat.le_refl _) _ [] _ (by simp only [List.length_drop]; omega) (by simp only [List.length_drop, List.length_nil]; omega) rfl
end Px
namespace Go.Vx
open Go
/-- round by round over a row -/
def loopO {S O α : Type} (f : S → α → Option (S ⊕ O)) (done : S → O) : List α → S → Option O
  | [], s => some (done s)
  | a :: r, s => match f s a with
    | some (.inl s') => loopO f done r s'
    | some (.inr o) => some o
    | none => none
theorem iter_idx {S O α X : Type} {t : X → Tree (X ⊕ O)} (mk : Int → S → X) (l : List α) (d : α) (f : S → α → Option (S ⊕ O)) (done : S → O)
    (h1 : ∀ (i : Nat) s y, i < l.length → f s (l.getD i d) = some y → (t (mk i s)).get = some (match y with | .inl s' => .inl (mk ((i + 1 : Nat) : Int) s') | .inr o => .inr o))
    (h2 : ∀ s, (t (mk l.length s)).get = some (.inr (done s))) :
    ∀ (n i : Nat) (s : S) (o : O), loopO f done (l.drop i) s = some o → l.length - i < n → i ≤ l.length → iter t n (mk i s) = some o
  | 0, _, _, _, _, hn, _ => by omega
  | n + 1, i, s, o, h, hn, hi => by
    rw [iter]
    rcases Nat.lt_or_ge i l.length with hlt | hge
    · rw [drop_cons l d i hlt] at h
      simp only [loopO] at h
      split at h
      · rename_i s' hf
        rw [h1 i s _ hlt hf]
        exact iter_idx mk l d f done h1 h2 n (i + 1) s' o h (by omega) hlt
      · rename_i o' hf
        rw [h1 i s _ hlt hf]
        exact h
      · cases h
    · obtain rfl : i = l.length := by omega
      rw [List.drop_length] at h
      rw [h2]
      exact h
noncomputable abbrev mget_u16_i64 (m : List (Int × Int)) (a : Int) : Option Int := @mget K E .u16 .i64 m a
noncomputable abbrev mset_u16_i64 (m : List (Int × Int)) (a b : Int) : List (Int × Int) := @mset K E .u16 .i64 m a b
noncomputable abbrev mget_u16_i32 (m : List (Int × Int)) (a : Int) : Option Int := @mget K E .u16 .i32 m a
noncomputable abbrev mset_u16_i32 (m : List (Int × Int)) (a b : Int) : List (Int × Int) := @mset K E .u16 .i32 m a b
theorem getD_mem {α : Type} {l : List α} {d : α} {i : Nat} (h : i < l.length) : l.getD i d ∈ l := by
  rw [List.getD, List.getElem?_eq_getElem h]; exact List.getElem_mem h
theorem len64 {α : Type} {k : K} {l : List α} (h : l.length ≤ big) : (l.length : Int) ≤ 9223372036854775807 := by unfold big at h; omega
end Go.Vx
namespace Px
open Go.Vx
theorem b2_n2 {a : Nat} (h : a < 65536) : ∃ x y : UInt8, b2 a = [x, y] ∧ 256 * x.toNat + y.toNat = a := by
  refine ⟨_, _, rfl, ?_⟩
  simp only [UInt8.toNat_ofNat']
  omega
theorem rune_utf16s {c : Int} (h : scalar c = true) : rune (utf16s c) = c := by
  have hs := (scalar_iff c).1 h
  obtain ⟨n, rfl⟩ : ∃ n : Nat, c = (n : Int) := ⟨c.toNat, by omega⟩
  by_cases hn : n < 65536
  · obtain ⟨x, y, hb, hxy⟩ := b2_n2 hn
    have e : n2 [x, y] 0 = (n : Int) := by rw [n2_two, hxy]
    rw [utf16s_low h hn, hb]
    unfold rune
    rw [e]
    have : (eqI (([x, y] : List UInt8).length : Int) 2 && scalar (n : Int)) = true := by rw [h]; rfl
    rw [this]; rfl
  · obtain ⟨m, rfl⟩ : ∃ m : Nat, n = m + 65536 := ⟨n - 65536, by omega⟩
    have hm : m < 1048576 := by omega
    rw [show ((m + 65536 : Nat) : Int) = (m : Int) + 65536 by omega] at h ⊢
    rw [utf16s_high h]
    obtain ⟨x, y, hb, hxy⟩ := b2_n2 (a := 55296 + m / 1024) (by omega)
    obtain ⟨z, u, hc, hzu⟩ := b2_n2 (a := 56320 + m % 1024) (by omega)
    rw [hb, hc]
    show rune [x, y, z, u] = _
    have e1 : n2 [x, y, z, u] 0 = ((55296 + m / 1024 : Nat) : Int) := by rw [n2_two, hxy]
    have e2 : n2 [x, y, z, u] 2 = ((56320 + m % 1024 : Nat) : Int) := by rw [n2_four, hzu]
    unfold rune
    rw [e1, e2]
    have c1 : (eqI (([x, y, z, u] : List UInt8).length : Int) 2 && scalar ((55296 + m / 1024 : Nat) : Int)) = false := rfl
    have c2 : (eqI (([x, y, z, u] : List UInt8).length : Int) 4 && leI 55296 ((55296 + m / 1024 : Nat) : Int) && ltI ((55296 + m / 1024 : Nat) : Int) 56320 && leI 56320 ((56320 + m % 1024 : Nat) : Int) && ltI ((56320 + m % 1024 : Nat) : Int) 57344) = true := by
      simp only [leI_eq, ltI_eq, Bool.and_eq_true, decide_eq_true_eq]
      refine ⟨⟨⟨⟨rfl, ?_⟩, ?_⟩, ?_⟩, ?_⟩ <;> omega
    rw [c1, c2]
    simp only [cond_false, cond_true]
    omega
theorem rune_range (p : List UInt8) : rune p = -1 ∨ (0 ≤ rune p ∧ rune p < 1114112) := by
  unfold rune
  have h1 := n2_nonneg p 0
  have h2 := n2_lt p 0
  have h3 := n2_lt p 2
  cases hA : (eqI (p.length : Int) 2 && scalar (n2 p 0)) with
  | true => right; simp only [cond_true]; omega
  | false =>
    simp only [cond_false]
    cases hB : (eqI (p.length : Int) 4 && leI 55296 (n2 p 0) && ltI (n2 p 0) 56320 && leI 56320 (n2 p 2) && ltI (n2 p 2) 57344) with
    | false => left; rfl
    | true =>
      right
      simp only [Bool.and_eq_true, leI_eq, ltI_eq, decide_eq_true_eq] at hB
      simp only [cond_true]; omega
/-! ### kept from being reckoned -/
theorem sealed {α : Type} (f : α) : Nonempty {g : α // g = f} := ⟨⟨f, rfl⟩⟩
noncomputable def ascii' : List UInt8 → Bool := (Classical.choice (sealed ascii)).1
theorem ascii'_eq : ascii' = ascii := (Classical.choice (sealed ascii)).2
noncomputable def parse' : List UInt8 → Int × Map := (Classical.choice (sealed parse)).1
theorem parse'_eq : parse' = parse := (Classical.choice (sealed parse)).2
end Px
namespace Px
open Go.Vx Go
def isBrk (b : UInt8) : Bool := breaks.contains b
inductive Piece
  | word (w : List UInt8)
  | str (h : List UInt8)
  | mark (b : UInt8)
  | two (b : UInt8)
def ptext : Piece → List UInt8
  | .word w => w
  | .str h => 60 :: (h ++ [62])
  | .mark b => [b]
  | .two b => [b, b]
def ptok : Piece → Tok
  | .word w => (w, [], false)
  | .str h => ([], textOut h, true)
  | .mark b => ([b], [], false)
  | .two b => ([b, b], [], false)
def pOk : Piece → Bool
  | .word w => !w.isEmpty && w.all (fun b => !isBrk b) && !decide (w = wRange)
  | .str h => h.all (fun b => !decide (b = 62)) && !decide (h.getD 0 0 = 60) && textOk h
  | .mark b => isBrk b && !decide (b = 60) && !decide (b = 40) && !decide (b = 62) && !decide (b = 37) && !blank (b.toNat : Int)
  | .two b => decide (b = 60) || decide (b = 62)
/-- what may stand behind a piece -/
def after (x : Piece) (r : List UInt8) : Bool :=
  match x with
  | .word _ => match r with | [] => true | b :: _ => isBrk b
  | _ => true
abbrev Text := List (Piece × List UInt8)
def text : Text → List UInt8
  | [] => []
  | x :: r => ptext x.1 ++ (x.2 ++ text r)
def SepOk (s : List UInt8) : Prop := ∀ r, skipN false (s ++ r) = s.length + skipN false r
def TextOk : Text → Prop
  | [] => True
  | x :: r => pOk x.1 = true ∧ after x.1 (x.2 ++ text r) = true ∧ SepOk x.2 ∧ TextOk r
theorem indexAny_word (c : List UInt8) : ∀ (w : List UInt8) (r : List UInt8), w.all (fun b => !c.contains b) = true → Lib.indexAny (w ++ r) c = (match r with | [] => -1 | b :: _ => if c.contains b then (w.length : Int) else if Lib.indexAny r c == -1 then -1 else w.length + Lib.indexAny r c)
  | [], r, _ => by
    cases r with
    | nil => rfl
    | cons b r =>
      simp only [List.nil_append, Lib.indexAny, List.length_nil]
      split
      · simp
      · split
        · rename_i h; simp only [beq_iff_eq] at h; simp [h]
        · rename_i h
          have h1 := Lib.indexAny_ge c r
          simp only [beq_iff_eq] at h
          have : ¬ (Lib.indexAny r c + 1 = -1) := by omega
          simp [this]
  | a :: w, r, h => by
    simp only [List.all_cons, Bool.and_eq_true, Bool.not_eq_true'] at h
    have ih := indexAny_word c w r h.2
    simp only [List.cons_append, Lib.indexAny, h.1, Bool.false_eq_true, if_false, ih, List.length_cons]
    cases r with
    | nil => rfl
    | cons b r =>
      simp only
      split
      · rename_i hb
        have : ¬ ((w.length : Int) = -1) := by omega
        simp [this]
      · split
        · rfl
        · rename_i h1 h2
          simp only [beq_iff_eq] at h2
          have h3 := Lib.indexAny_ge c (b :: r)
          have : ¬ ((w.length : Int) + Lib.indexAny (b :: r) c = -1) := by omega
          simp only [beq_iff_eq, this, if_false]
          omega
theorem indexByte_in (c : UInt8) : ∀ (h r : List UInt8), h.all (fun b => !decide (b = c)) = true → Lib.indexByte (h ++ c :: r) c = (h.length : Int)
  | [], r, _ => by simp [Lib.indexByte]
  | a :: h, r, ha => by
    simp only [List.all_cons, Bool.and_eq_true, Bool.not_eq_true', decide_eq_false_iff_not] at ha
    have ih := indexByte_in c h r ha.2
    have e : (a == c) = false := beq_eq_false_iff_ne.2 ha.1
    simp only [List.cons_append, Lib.indexByte, e, Bool.false_eq_true, if_false, ih, List.length_cons]
    have : ¬ ((h.length : Int) = -1) := by omega
    simp [this]
theorem hasPre2 (a b x y : UInt8) (r : List UInt8) : hasPre (a :: b :: r) [x, y] = (decide (a = x) && decide (b = y)) := by
  unfold hasPre
  simp only [List.length_cons, List.length_nil, List.take_succ_cons, List.take_zero]
  by_cases h1 : a = x <;> by_cases h2 : b = y <;> simp [h1, h2]
theorem hasPre_no (a x y : UInt8) (r : List UInt8) (h : a ≠ x) : hasPre (a :: r) [x, y] = false := by
  unfold hasPre
  cases r with
  | nil => simp
  | cons b r => simp [h]
theorem brk_index (b : UInt8) : leI 0 (Lib.indexByte breaks b) = isBrk b := by
  rw [leI_eq]; exact (Lib.contains_iff_indexByte breaks b).symm
theorem ne_of_brk {a b : UInt8} (h : isBrk a = false) (hb : isBrk b = true) : a ≠ b := by rintro rfl; rw [h] at hb; cases hb
theorem tokR_piece (x : Piece) (r : List UInt8) (hx : pOk x = true) (ha : after x r = true) : tokR (ptext x ++ r) = (ptok x, (ptext x).length, true) := by
  cases x with
  | word w =>
    simp only [pOk, Bool.and_eq_true, Bool.not_eq_true'] at hx
    obtain ⟨⟨h1, h2⟩, h3⟩ := hx
    obtain ⟨a, w', rfl⟩ : ∃ a w', w = a :: w' := by cases w with | nil => cases h1 | cons a w' => exact ⟨a, w', rfl⟩
    have hw := h2
    simp only [List.all_cons, Bool.and_eq_true, Bool.not_eq_true'] at h2
    have e60 : a ≠ 60 := ne_of_brk h2.1 (by decide)
    have e62 : a ≠ 62 := ne_of_brk h2.1 (by decide)
    have c60 : eqI ((a.toNat : Int)) 60 = false := by
      rw [eqI_lit a 60 60 rfl]; exact decide_eq_false e60
    unfold tokR
    show cond (hasPre (a :: (w' ++ r)) [60, 60] || hasPre (a :: (w' ++ r)) [62, 62]) _ _ = _
    rw [hasPre_no a 60 60 _ e60, hasPre_no a 62 62 _ e62]
    simp only [Bool.or_self, cond_false, ptext, List.cons_append, List.getD_cons_zero, c60, brk_index, h2.1]
    have hi := indexAny_word breaks (a :: w') r hw
    rw [List.cons_append] at hi
    rw [hi]
    cases r with
    | nil => simp only [List.append_nil]; rfl
    | cons b r =>
      have hb : breaks.contains b = true := ha
      simp only [hb, if_true]
      have e1 : ltI (((a :: w').length : Nat) : Int) 0 = false := by rw [ltI_eq]; exact decide_eq_false (by omega)
      rw [e1]
      simp only [cond_false, Int.toNat_natCast, ptok]
      rw [← List.cons_append, List.take_left]
  | str h =>
    simp only [pOk, Bool.and_eq_true, Bool.not_eq_true', decide_eq_false_iff_not] at hx
    obtain ⟨⟨h1, h2⟩, h3⟩ := hx
    have hne : hasPre (60 :: (h ++ 62 :: r)) [60, 60] = false := by
      cases h with
      | nil => rw [List.nil_append, hasPre2]; rfl
      | cons a h => rw [List.cons_append, hasPre2]; simp only [List.getD_cons_zero] at h2; simp [h2]
    have e1 : ptext (.str h) ++ r = 60 :: (h ++ 62 :: r) := by simp [ptext]
    rw [e1]
    unfold tokR
    rw [hne, hasPre_no 60 62 62 _ (by decide)]
    have e2 : Lib.indexByte (60 :: (h ++ 62 :: r)) 62 = ((h.length + 1 : Nat) : Int) := by
      have := indexByte_in 62 (60 :: h) r (by rw [List.all_cons, h1]; rfl)
      simpa using this
    have e3 : ltI (((h.length + 1 : Nat) : Int)) 0 = false := by rw [ltI_eq]; exact decide_eq_false (by omega)
    have c60 : eqI ((((60 :: (h ++ 62 :: r) : List UInt8).getD 0 0).toNat : Int)) 60 = true := rfl
    rw [c60, e2, e3]
    simp only [Bool.or_self, cond_false, cond_true, Int.toNat_natCast, List.take_succ_cons, List.take_left, List.drop_succ_cons, List.drop_zero, h3, ptok, ptext, List.length_cons, List.length_append, List.length_nil]
  | mark b =>
    simp only [pOk, Bool.and_eq_true, Bool.not_eq_true', decide_eq_false_iff_not] at hx
    obtain ⟨⟨⟨⟨⟨h1, h2⟩, _⟩, h3⟩, _⟩, _⟩ := hx
    unfold tokR
    show cond (hasPre (b :: r) [60, 60] || hasPre (b :: r) [62, 62]) _ _ = _
    rw [hasPre_no b 60 60 _ h2, hasPre_no b 62 62 _ h3]
    have c60 : eqI ((b.toNat : Int)) 60 = false := by rw [eqI_lit b 60 60 rfl]; exact decide_eq_false h2
    simp only [Bool.or_self, cond_false, ptext, List.cons_append, List.nil_append, List.getD_cons_zero, c60, brk_index, h1, cond_true, ptok]
    rfl
  | two b =>
    unfold tokR
    show cond (hasPre (b :: b :: r) [60, 60] || hasPre (b :: b :: r) [62, 62]) _ _ = _
    rw [hasPre2, hasPre2]
    have : (decide (b = 60) && decide (b = 60) || decide (b = 62) && decide (b = 62)) = true := by simpa [pOk] using hx
    rw [this]; rfl
theorem skip_piece (x : Piece) (r : List UInt8) (hx : pOk x = true) : skipN false (ptext x ++ r) = 0 := by
  have key : ∀ (b : UInt8) (l : List UInt8), eqI (b.toNat : Int) 37 = false → blank (b.toNat : Int) = false → skipN false (b :: l) = 0 := by
    intro b l h1 h2; simp only [skipN, h1, h2, cond_false]
  have nb : ∀ b : UInt8, isBrk b = false → eqI (b.toNat : Int) 37 = false ∧ blank (b.toNat : Int) = false := by
    intro b hb
    have := all_u8 (q := fun b => isBrk b || (!eqI (b.toNat : Int) 37 && !blank (b.toNat : Int))) (by kernel_rfl) b
    rw [hb] at this
    simpa using this
  cases x with
  | word w =>
    simp only [pOk, Bool.and_eq_true, Bool.not_eq_true'] at hx
    obtain ⟨⟨h1, h2⟩, _⟩ := hx
    cases w with
    | nil => cases h1
    | cons a w =>
      simp only [List.all_cons, Bool.and_eq_true, Bool.not_eq_true'] at h2
      obtain ⟨q1, q2⟩ := nb a h2.1
      exact key a _ q1 q2
  | str h => exact key 60 _ rfl rfl
  | mark b =>
    simp only [pOk, Bool.and_eq_true, Bool.not_eq_true', decide_eq_false_iff_not] at hx
    exact key b _ (by rw [eqI_lit b 37 37 rfl]; exact decide_eq_false hx.1.2) hx.2
  | two b =>
    have hb : b = 60 ∨ b = 62 := by simpa [pOk] using hx
    rcases hb with rfl | rfl
    · exact key 60 _ rfl rfl
    · exact key 62 _ rfl rfl
theorem skip_text (l : Text) (hl : TextOk l) : skipN false (text l) = 0 := by
  cases l with
  | nil => rfl
  | cons x r => exact skip_piece x.1 _ hl.1
theorem ptext_pos (x : Piece) (hx : pOk x = true) : 1 ≤ (ptext x).length := by
  cases x with
  | word w =>
    simp only [pOk, Bool.and_eq_true, Bool.not_eq_true'] at hx
    cases w with
    | nil => cases hx.1.1
    | cons a w => simp [ptext]
  | str h => simp [ptext]
  | mark b => simp [ptext]
  | two b => simp [ptext]
theorem toksRun_text : ∀ (l : Text) (n : Nat) (acc : List Tok), TextOk l → l.length < n → toksRun n acc (text l) = (0, acc ++ l.map fun x => ptok x.1)
  | l, 0, _, _, h => by omega
  | [], n + 1, acc, _, _ => by simp [toksRun, text]
  | x :: r, n + 1, acc, ⟨h1, h2, h3, h4⟩, h => by
    have ht := tokR_piece x.1 (x.2 ++ text r) h1 h2
    have hpos := ptext_pos x.1 h1
    have hne : (text (x :: r)).isEmpty = false := by
      have : 0 < (text (x :: r)).length := by simp only [text, List.length_append]; omega
      cases h : text (x :: r) with
      | nil => rw [h] at this; simp at this
      | cons => rfl
    have e1 : tokOk (text (x :: r)) = true := by unfold tokOk; simp only [text]; rw [ht]
    have e2 : tokW (text (x :: r)) = (ptok x.1).1 := by unfold tokW; simp only [text]; rw [ht]
    have e3 : tokT (text (x :: r)) = (ptok x.1).2.1 := by unfold tokT; simp only [text]; rw [ht]
    have e4 : tokI (text (x :: r)) = (ptok x.1).2.2 := by unfold tokI; simp only [text]; rw [ht]
    have e5 : tokNext (text (x :: r)) = text r := by
      unfold tokNext tokN
      simp only [text]
      rw [ht]
      simp only [List.drop_left]
      rw [h3, skip_text r h4, Nat.add_zero, List.drop_left]
    have w1 : decide ((ptok x.1).1 = [40]) = false := by
      refine decide_eq_false ?_
      cases hx : x.1 with
      | word w =>
        rw [hx] at h1
        simp only [pOk, Bool.and_eq_true, Bool.not_eq_true'] at h1
        rintro rfl
        exact absurd h1.1.2 (by decide)
      | str h => intro hh; cases hh
      | mark b =>
        rw [hx] at h1
        simp only [pOk, Bool.and_eq_true, Bool.not_eq_true', decide_eq_false_iff_not] at h1
        intro hh; injection hh with hh _; exact h1.1.1.1.2 hh
      | two b => intro hh; injection hh with _ hh; cases hh
    have w2 : decide ((ptok x.1).1 = wRange) = false := by
      refine decide_eq_false ?_
      cases hx : x.1 with
      | word w =>
        rw [hx] at h1
        simp only [pOk, Bool.and_eq_true, Bool.not_eq_true', decide_eq_false_iff_not] at h1
        exact h1.2
      | str h => intro hh; cases hh
      | mark b => intro hh; injection hh with _ hh; cases hh
      | two b => intro hh; injection hh with _ hh; injection hh with _ hh; cases hh
    unfold toksRun
    rw [hne, e1, e2, e3, e4, e5, w1, w2]
    simp only [cond_false, cond_true]
    rw [toksRun_text r n _ h4 (by simp at h; omega)]
    simp [List.append_assoc]
theorem text_len : ∀ l : Text, TextOk l → l.length ≤ (text l).length
  | [], _ => Nat.le_refl _
  | x :: r, ⟨h1, _, _, h4⟩ => by
    have := text_len r h4
    have := ptext_pos x.1 h1
    simp only [text, List.length_append, List.length_cons]; omega
/-- **what is read of a text is its pieces** -/
theorem toks_text (l : Text) (hl : TextOk l) : toks (text l) = (0, l.map fun x => ptok x.1) := by
  unfold toks
  rw [skip_text l hl, List.drop_zero, toksRun_text l _ [] hl (by have := text_len l hl; omega)]
  rfl
/-! ### hexadecimal strings -/
theorem hd_fact {d : Nat} (h : d < 16) : hv (hd d) = d ∧ blank ((hd d).toNat : Int) = false ∧ hd d ≠ 62 ∧ hd d ≠ 60 ∧ Nat.ble (hd d).toNat 127 = true := by
  have := all_nat (m := 16) (q := fun d => Nat.beq (hv (hd d)) d && !blank ((hd d).toNat : Int) && !decide (hd d = 62) && !decide (hd d = 60) && Nat.ble (hd d).toNat 127) (by kernel_rfl) h
  simp only [Bool.and_eq_true, Bool.not_eq_true', decide_eq_false_iff_not, Nat.beq_eq] at this
  exact ⟨this.1.1.1.1, this.1.1.1.2, this.1.1.2, this.1.2, this.2⟩
theorem textRun_hexs : ∀ (p out : List UInt8), textRun (2 * out.length, out) (hexs p) = some (2 * (out.length + p.length), out ++ p)
  | [], out => by simp [textRun, hexs]
  | b :: p, out => by
    have hb := b.toNat_lt
    obtain ⟨a1, a2, _⟩ := hd_fact (d := b.toNat / 16) (by omega)
    obtain ⟨b1, b2, _⟩ := hd_fact (d := b.toNat % 16) (by omega)
    have s1 : textStep (2 * out.length, out) (hd (b.toNat / 16)) = some (2 * out.length + 1, out ++ [UInt8.ofNat (16 * (b.toNat / 16))]) := by
      unfold textStep
      rw [a2, a1]
      have c1 : Nat.blt (b.toNat / 16) 16 = true := by rw [Nat.blt_eq]; omega
      have c2 : Nat.beq (2 * out.length % 2) 0 = true := by rw [Nat.beq_eq]; omega
      simp only [cond_false, c1, cond_true, c2]
    have s2 : textStep (2 * out.length + 1, out ++ [UInt8.ofNat (16 * (b.toNat / 16))]) (hd (b.toNat % 16)) = some (2 * (out ++ [b]).length, out ++ [b]) := by
      unfold textStep
      rw [b2, b1]
      have c1 : Nat.blt (b.toNat % 16) 16 = true := by rw [Nat.blt_eq]; omega
      have c2 : Nat.beq ((2 * out.length + 1) % 2) 0 = false := by rw [Bool.eq_false_iff]; intro h; have := Nat.eq_of_beq_eq_true h; omega
      have c3 : (2 * out.length + 1) / 2 = out.length := by omega
      simp only [cond_false, c1, cond_true, c2, c3]
      have e1 : (out ++ [UInt8.ofNat (16 * (b.toNat / 16))]).getD out.length 0 = UInt8.ofNat (16 * (b.toNat / 16)) := by simp [List.getD]
      have e2 : ∀ y : UInt8, (out ++ [UInt8.ofNat (16 * (b.toNat / 16))]).set out.length y = out ++ [y] := by intro y; simp
      rw [e1, e2]
      have e3 : UInt8.ofNat ((UInt8.ofNat (16 * (b.toNat / 16))).toNat + b.toNat % 16) = b := by
        have : (UInt8.ofNat (16 * (b.toNat / 16))).toNat = 16 * (b.toNat / 16) := by rw [UInt8.toNat_ofNat']; omega
        rw [this, show 16 * (b.toNat / 16) + b.toNat % 16 = b.toNat by omega]; simp
      rw [e3]
      simp only [List.length_append, List.length_cons, List.length_nil]
      congr 2
    rw [hexs, textRun, s1]
    simp only
    rw [textRun, s2]
    simp only
    rw [textRun_hexs p (out ++ [b])]
    simp only [List.length_append, List.length_cons, List.length_nil, List.append_assoc, List.singleton_append]
    congr 2; omega
theorem text_hexs (p : List UInt8) : textOut (hexs p) = p ∧ textOk (hexs p) = true := by
  have h := textRun_hexs p []
  simp only [List.length_nil, Nat.mul_zero, Nat.zero_add, List.nil_append] at h
  unfold textOut textOk textIs textN textGo
  rw [h]
  refine ⟨rfl, ?_⟩
  simp
theorem hexs_ok (p : List UInt8) : pOk (.str (hexs p)) = true := by
  have key : ∀ p : List UInt8, (hexs p).all (fun b => !decide (b = 62)) = true ∧ (hexs p).getD 0 0 ≠ 60 := by
    intro p
    induction p with
    | nil => exact ⟨rfl, by decide⟩
    | cons b p ih =>
      have hb := b.toNat_lt
      obtain ⟨_, _, a3, a4, _⟩ := hd_fact (d := b.toNat / 16) (by omega)
      obtain ⟨_, _, b3, b4, _⟩ := hd_fact (d := b.toNat % 16) (by omega)
      exact ⟨by simp only [hexs, List.all_cons, ih.1, decide_eq_false a3, decide_eq_false b3]; rfl, by simp only [hexs, List.getD_cons_zero]; exact a4⟩
  simp only [pOk, Bool.and_eq_true, Bool.not_eq_true', decide_eq_false_iff_not]
  exact ⟨⟨(key p).1, (key p).2⟩, (text_hexs p).2⟩
end Px
namespace Px
open Go.Vx Go
/-- a string's bytes up to its end: how many digits, and the bytes; where it ends -/
def hexRun : Nat × List UInt8 → List UInt8 → Option (Nat × List UInt8) × Nat
  | a, [] => (some a, 0)
  | a, c :: r => cond (eqI (c.toNat : Int) 62) (some a, 0) (match textStep a c with | none => (none, 0) | some a' => ((hexRun a' r).1, (hexRun a' r).2 + 1))
def hexGo (p : List UInt8) : Option (Nat × List UInt8) := (hexRun (0, []) p).1
def hexIs (p : List UInt8) : Bool := (hexGo p).isSome
def hexN (p : List UInt8) : Nat := match hexGo p with | some a => a.1 | none => 0
def hexOut (p : List UInt8) : List UInt8 := match hexGo p with | some a => a.2 | none => []
def hexAt (p : List UInt8) : Nat := (hexRun (0, []) p).2
/-- how many bytes are ahead of a blank or a mark -/
def wordN : List UInt8 → Nat
  | [] => 0
  | c :: r => cond (brk (c.toNat : Int)) 0 (wordN r + 1)
def wordM (b : UInt8) (l : List UInt8) : Nat := cond (brk (b.toNat : Int)) 0 (wordN l)
theorem brk_isBrk (b : UInt8) : brk (b.toNat : Int) = isBrk b := by
  have := all_u8 (q := fun b => decide (brk (b.toNat : Int) = isBrk b)) (by kernel_rfl) b
  exact of_decide_eq_true this
/-- a token, and how long it is, or none: what the document's package tells -/
def rtok (l : List UInt8) : Option (Tok × Nat) :=
  cond (hasPre l [60, 60] || hasPre l [62, 62]) (some ((l.take 2, [], false), 2))
   (cond (eqI ((l.getD 0 0).toNat : Int) 60)
     (cond (hexIs (l.drop 1)) (cond (Nat.ble l.length (1 + hexAt (l.drop 1)) || ltI 0 ((hexN (l.drop 1) % 2 : Nat) : Int)) none (some (([], hexOut (l.drop 1), true), 2 + hexAt (l.drop 1)))) none)
     (cond (decide (l.take (1 + wordM (l.getD 0 0) (l.drop 1)) = [40]) || decide (l.take (1 + wordM (l.getD 0 0) (l.drop 1)) = wRange)) none
       (some ((l.take (1 + wordM (l.getD 0 0) (l.drop 1)), [], false), 1 + wordM (l.getD 0 0) (l.drop 1)))))
/-- all tokens, as the document's package tells them -/
def toksB (p : List UInt8) : Bool := eqI (toks p).1 0
def toksL (p : List UInt8) : List Tok := cond (eqI (toks p).1 0) (toks p).2 []
theorem hex_in : ∀ (l : List UInt8) (a : Nat × List UInt8), ¬ Lib.indexByte l 62 < 0 →
    (hexRun a l).1 = textRun a (l.take (Lib.indexByte l 62).toNat) ∧ ((hexRun a l).1.isSome = true → (hexRun a l).2 = (Lib.indexByte l 62).toNat)
  | [], a, h => by exact absurd (show (-1 : Int) < 0 by decide) h
  | c :: l, a, h => by
    have hb := (indexByte_bound 62 l).1
    simp only [Lib.indexByte] at h ⊢
    unfold hexRun
    have ec : eqI (c.toNat : Int) 62 = (c == 62) := by
      rw [eqI_lit c 62 62 rfl]; cases h : (c == 62) <;> simp_all
    rw [ec]
    cases he : (c == 62) with
    | true => simp [textRun]
    | false =>
      rw [he] at h
      simp only [Bool.false_eq_true, if_false, cond_false] at h ⊢
      split at h
      · exact absurd (show (-1 : Int) < 0 by decide) h
      · rename_i hne
        have hne' : (Lib.indexByte l 62 == -1) = false := by simpa using hne
        simp only [hne', Bool.false_eq_true, if_false]
        simp only [beq_iff_eq] at hne
        have e : (Lib.indexByte l 62 + 1).toNat = (Lib.indexByte l 62).toNat + 1 := by omega
        rw [e, List.take_succ_cons]
        cases hs : textStep a c with
        | none => simp [textRun, hs]
        | some a' =>
          have ih := hex_in l a' (by omega)
          simp only [textRun, hs]
          exact ⟨ih.1, fun h => by rw [ih.2 h]⟩
theorem hex_out : ∀ (l : List UInt8) (a : Nat × List UInt8), Lib.indexByte l 62 < 0 → (hexRun a l).1.isSome = true → (hexRun a l).2 = l.length
  | [], a, _, _ => rfl
  | c :: l, a, h, hs => by
    have hb := (indexByte_bound 62 l).1
    simp only [Lib.indexByte] at h
    have ec : eqI (c.toNat : Int) 62 = (c == 62) := by
      rw [eqI_lit c 62 62 rfl]; cases h : (c == 62) <;> simp_all
    unfold hexRun at hs ⊢
    rw [ec] at hs ⊢
    cases he : (c == 62) with
    | true => rw [he] at h; simp at h
    | false =>
      rw [he] at h hs
      simp only [Bool.false_eq_true, if_false, cond_false] at h hs ⊢
      have hl : Lib.indexByte l 62 < 0 := by
        split at h
        · rename_i hh; simp only [beq_iff_eq] at hh; omega
        · omega
      cases ht : textStep a c with
      | none => rw [ht] at hs; cases hs
      | some a' =>
        rw [ht] at hs
        simp only at hs ⊢
        rw [hex_out l a' hl hs, List.length_cons]
theorem word_in : ∀ (l : List UInt8), wordN l = if Lib.indexAny l breaks < 0 then l.length else (Lib.indexAny l breaks).toNat
  | [] => rfl
  | c :: l => by
    have ih := word_in l
    have hb := (indexAny_bound breaks l).1
    have e : Lib.indexAny (c :: l) breaks = if isBrk c = true then 0 else if Lib.indexAny l breaks == -1 then -1 else Lib.indexAny l breaks + 1 := rfl
    simp only [wordN, brk_isBrk]
    generalize Lib.indexAny (c :: l) breaks = y at e ⊢
    subst e
    cases isBrk c with
    | true => simp
    | false =>
      simp only [cond_false, Bool.false_eq_true, if_false, ih, List.length_cons]
      by_cases h : Lib.indexAny l breaks < 0
      · have : Lib.indexAny l breaks = -1 := by omega
        simp [this]
      · have h1 : ¬ Lib.indexAny l breaks = -1 := by omega
        have h2 : ¬ Lib.indexAny l breaks + 1 < 0 := by omega
        simp only [h, if_false, beq_iff_eq, h1, h2]
        omega
theorem hexRun_le : ∀ (l : List UInt8) (a : Nat × List UInt8), (hexRun a l).2 ≤ l.length
  | [], _ => Nat.le_refl _
  | c :: l, a => by
    unfold hexRun
    cases eqI (c.toNat : Int) 62 with
    | true => exact Nat.zero_le _
    | false =>
      simp only [cond_false]
      cases textStep a c with
      | none => exact Nat.zero_le _
      | some a' =>
        have := hexRun_le l a'
        simp only [List.length_cons]; omega
theorem hexAt_le (l : List UInt8) : hexAt l ≤ l.length := hexRun_le l _
theorem wordN_le : ∀ l : List UInt8, wordN l ≤ l.length
  | [] => Nat.le_refl _
  | c :: l => by
    have := wordN_le l
    unfold wordN
    cases brk (c.toNat : Int) with
    | true => exact Nat.zero_le _
    | false => simp only [cond_false, List.length_cons]; omega
theorem wordM_le (b : UInt8) (l : List UInt8) : wordM b l ≤ l.length := by
  unfold wordM
  cases brk (b.toNat : Int) with
  | true => exact Nat.zero_le _
  | false => exact wordN_le l
theorem rtok_eq (l : List UInt8) (hne : l ≠ []) : rtok l = cond (tokOk l && !decide (tokW l = [40]) && !decide (tokW l = wRange)) (some ((tokW l, tokT l, tokI l), tokN l)) none := by
  obtain ⟨b, r, rfl⟩ : ∃ b r, l = b :: r := by cases l with | nil => exact absurd rfl hne | cons b r => exact ⟨b, r, rfl⟩
  unfold rtok tokW tokT tokI tokN tokOk
  unfold tokR
  cases q1 : hasPre (b :: r) [60, 60] || hasPre (b :: r) [62, 62] with
  | true =>
    have hl : (b :: r).take 2 = [60, 60] ∨ (b :: r).take 2 = [62, 62] := by
      rw [Bool.or_eq_true] at q1
      exact q1.imp of_decide_eq_true of_decide_eq_true
    simp only [cond_true]
    rcases hl with h | h <;> rw [h] <;> rfl
  | false =>
    simp only [cond_false, List.getD_cons_zero, List.drop_succ_cons, List.drop_zero]
    cases q3 : eqI (b.toNat : Int) 60 with
    | true =>
      have hb60 : b = 60 := by rw [eqI_lit b 60 60 rfl] at q3; exact of_decide_eq_true q3
      have e1 : Lib.indexByte (b :: r) 62 = if Lib.indexByte r 62 == -1 then -1 else Lib.indexByte r 62 + 1 := by
        have : (b == 62) = false := by rw [hb60]; rfl
        simp only [Lib.indexByte, this, Bool.false_eq_true, if_false]
      have hb := indexByte_bound 62 r
      simp only [cond_true]
      rw [e1]
      by_cases h : Lib.indexByte r 62 < 0
      · have hm : Lib.indexByte r 62 = -1 := by omega
        have ho := hex_out r (0, []) h
        rw [hm]
        have c1 : ltI (if ((-1 : Int) == -1) = true then (-1 : Int) else -1 + 1) 0 = true := rfl
        rw [c1]
        simp only [cond_true, Bool.false_and, cond_false]
        cases hi : hexIs r with
        | false => rfl
        | true =>
          have : hexAt r = r.length := ho hi
          rw [this, List.length_cons, cond_true]
          have : Nat.ble (r.length + 1) (1 + r.length) = true := Nat.ble_eq ▸ (by omega)
          rw [this]; rfl
      · have hm : ¬ Lib.indexByte r 62 = -1 := by omega
        have hm' : (Lib.indexByte r 62 == -1) = false := beq_eq_false_iff_ne.2 hm
        have hi := hex_in r (0, []) h
        rw [hm']
        simp only [Bool.false_eq_true, if_false]
        have c1 : ltI (Lib.indexByte r 62 + 1) 0 = false := by rw [ltI_eq]; exact decide_eq_false (by omega)
        rw [c1]
        have e2 : (Lib.indexByte r 62 + 1).toNat = (Lib.indexByte r 62).toNat + 1 := by omega
        rw [e2]
        simp only [cond_false, List.take_succ_cons, List.drop_succ_cons, List.drop_zero]
        have e3 : textGo (r.take (Lib.indexByte r 62).toNat) = hexGo r := hi.1.symm
        have e4 : hexIs r = true → hexAt r = (Lib.indexByte r 62).toNat := hi.2
        unfold textOk textIs textN textOut
        rw [e3]
        unfold hexIs hexN hexOut
        unfold hexIs at e4
        cases hg : hexGo r with
        | none => simp
        | some a =>
          rw [hg] at e4
          have e5 := e4 rfl
          rw [e5]
          simp only [Option.isSome_some, cond_true, Bool.true_and, List.length_cons]
          have c2 : Nat.ble (r.length + 1) (1 + (Lib.indexByte r 62).toNat) = false := by
            cases hh : Nat.ble (r.length + 1) (1 + (Lib.indexByte r 62).toNat) with
            | false => rfl
            | true => have := Nat.le_of_ble_eq_true hh; omega
          rw [c2, Bool.false_or]
          have c3 : ltI 0 ((a.1 % 2 : Nat) : Int) = !Nat.beq (a.1 % 2) 0 := by
            rw [ltI_eq]
            rcases Nat.mod_two_eq_zero_or_one a.1 with h | h <;> rw [h] <;> rfl
          rw [c3]
          have d1 : decide (([] : List UInt8) = [40]) = false := rfl
          have d2 : decide (([] : List UInt8) = wRange) = false := rfl
          rw [d1, d2]
          cases Nat.beq (a.1 % 2) 0
          · rfl
          · simp only [Bool.not_true, cond_false, Bool.not_false, Bool.and_true, cond_true]
            rw [show 2 + (Lib.indexByte r 62).toNat = (Lib.indexByte r 62).toNat + 1 + 1 by omega]
    | false =>
      simp only [cond_false]
      rw [brk_index]
      have key : ∀ (n m : Nat), n = m → (cond (decide ((b :: r).take n = [40]) || decide ((b :: r).take n = wRange)) (none : Option (Tok × Nat)) (some (((b :: r).take n, [], false), n))) =
          cond (true && !decide ((b :: r).take m = [40]) && !decide ((b :: r).take m = wRange)) (some (((b :: r).take m, [], false), m)) none := by
        rintro n _ rfl
        cases decide ((b :: r).take n = [40]) <;> cases decide ((b :: r).take n = wRange) <;> rfl
      unfold wordM
      rw [brk_isBrk]
      cases hk : isBrk b with
      | true => simp only [cond_true]; exact key _ _ rfl
      | false =>
        have hw := word_in (b :: r)
        have e : wordN (b :: r) = wordN r + 1 := by simp only [wordN, brk_isBrk, hk, cond_false]
        rw [e] at hw
        simp only [cond_false]
        by_cases hx : Lib.indexAny (b :: r) breaks < 0
        · have c1 : ltI (Lib.indexAny (b :: r) breaks) 0 = true := by rw [ltI_eq]; exact decide_eq_true hx
          rw [c1]
          rw [if_pos hx] at hw
          simp only [cond_true]
          have k := key (1 + wordN r) (b :: r).length (by omega)
          rw [List.take_length] at k
          exact k
        · have c1 : ltI (Lib.indexAny (b :: r) breaks) 0 = false := by rw [ltI_eq]; exact decide_eq_false hx
          rw [c1]
          rw [if_neg hx] at hw
          simp only [cond_false]
          exact key _ _ (by omega)
end Px
namespace Px
open Go.Vx Go
/-- where a code is among the entries; below 0: nowhere -/
def find2 (l : List (Int × Int)) (c : Int) : Int := findI (fun (b : Int × Int) => eqI b.1 c) 0 l
theorem findI_some (c : Int) : ∀ (l : List (Int × Int)) (i : Nat), leI 0 (findI (fun (b : Int × Int) => eqI b.1 c) i l) = (mg l c).isSome
  | [], i => rfl
  | x :: l, i => by
    unfold findI mg
    by_cases h : c = x.1
    · subst h
      have e : eqI x.1 x.1 = true := by rw [eqI_eq]; exact decide_eq_true rfl
      simp only [e, cond_true, if_true, List.find?_cons, decide_true, Option.map_some, Option.isSome_some]
      rw [leI_eq]; exact decide_eq_true (by omega)
    · have e : eqI x.1 c = false := by rw [eqI_eq]; exact decide_eq_false (fun hh => h hh.symm)
      have d : decide (c = x.1) = false := decide_eq_false h
      have ih := findI_some c l (i + 1)
      simp only [e, cond_false, Bool.false_eq_true, if_false, List.find?_cons, d]
      exact ih
theorem find2_some (l : List (Int × Int)) (c : Int) : leI 0 (find2 l c) = (mg l c).isSome := findI_some c l 0
theorem ms_new (a b : Int) : ∀ m : Map, (mg m a).isSome = false → ms m a b = m ++ [(a, b)]
  | [], _ => rfl
  | x :: m, h => by
    by_cases e : a = x.1
    · subst e; simp [mg] at h
    · have d : decide (a = x.1) = false := decide_eq_false e
      have h' : (mg m a).isSome = false := by
        unfold mg at h ⊢
        simpa [List.find?_cons, d] using h
      have ih := ms_new a b m h'
      simp only [ms, d, Bool.false_eq_true, if_false, ih, List.cons_append]
theorem ms_len (a b : Int) : ∀ m : Map, (ms m a b).length ≤ m.length + 1
  | [] => by simp [ms]
  | x :: m => by
    have ih := ms_len a b m
    simp only [ms]
    split
    · simp
    · simp only [List.length_cons]; omega
theorem pairsRun_len : ∀ (l : List Tok) (i : Nat) (m : Map), leI 1 (pairsRun l i m).1 = true → (((pairsRun l i m).2.length + i : Nat) : Int) ≤ (m.length : Int) + (pairsRun l i m).1
  | [], i, m, h => by cases h
  | [t], i, m, h => by
    unfold pairsRun at h ⊢
    cases hd : decide (t.1 = wEnd) with
    | true => simp only [cond_true]; omega
    | false => rw [hd] at h; cases h
  | t :: u :: r, i, m, h => by
    unfold pairsRun at h ⊢
    cases hd : decide (t.1 = wEnd) with
    | true => simp only [cond_true]; omega
    | false =>
      rw [hd] at h
      simp only [cond_false] at h ⊢
      cases hp : pairOk m t u with
      | false => rw [hp] at h; cases h
      | true =>
        rw [hp] at h
        simp only [cond_true] at h ⊢
        have ih := pairsRun_len r (i + 2) _ h
        have hm := ms_len (n2 t.2.1 0) (rune u.2.1) m
        omega
/-- is a row of bytes a table, as the document's package tells it? and its entries -/
def refB (p : List UInt8) : Bool := toksB p && (parseRun ((toksL p).length + 1) (toksL p) []).1
def refL (p : List UInt8) : Map := cond (refB p) (parseRun ((toksL p).length + 1) (toksL p) []).2 []
/-- an entry that a map tells so -/
def lookOk (m : Map) (e : Int × Int) : Bool := leI 0 e.1 && leI e.1 65535 && leI 0 e.2 && leI e.2 1114111 && decide (mg m e.1 = some e.2)
def allOk (m : Map) (l : Map) : Bool := l.all (lookOk m)
noncomputable def allOk' : Map → Map → Bool := (Classical.choice (sealed allOk)).1
theorem allOk'_eq : allOk' = allOk := (Classical.choice (sealed allOk)).2
noncomputable def refB' : List UInt8 → Bool := (Classical.choice (sealed refB)).1
theorem refB'_eq : refB' = refB := (Classical.choice (sealed refB)).2
noncomputable def refL' : List UInt8 → Map := (Classical.choice (sealed refL)).1
theorem refL'_eq : refL' = refL := (Classical.choice (sealed refL)).2
noncomputable def find2' : Map → Int → Int := (Classical.choice (sealed find2)).1
theorem find2'_eq : find2' = find2 := (Classical.choice (sealed find2)).2
end Px
namespace Px
open Go.Vx Go
/-- the errors of the reader of words -/
theorem toksRun_code : ∀ (n : Nat) (acc : List Tok) (l : List UInt8), (toksRun n acc l).1 = 0 ∨ (toksRun n acc l).1 = 2 ∨ (toksRun n acc l).1 = 14
  | 0, acc, l => .inl rfl
  | n + 1, acc, l => by
    unfold toksRun
    cases l.isEmpty with
    | true => exact .inl rfl
    | false =>
      simp only [cond_false]
      cases tokOk l with
      | false => exact .inr (.inl rfl)
      | true =>
        simp only [cond_true]
        cases decide (tokW l = [40]) with
        | true => exact .inr (.inr rfl)
        | false =>
          simp only [cond_false]
          cases decide (tokW l = wRange) with
          | true => exact .inr (.inr rfl)
          | false => exact toksRun_code n _ _
/-- every entry of a map is told by it, and is a code and a scalar -/
def Good (m : Map) : Prop := ∀ e ∈ m, lookOk m e = true
theorem lookOk_iff (m : Map) (e : Int × Int) : lookOk m e = true ↔ (0 ≤ e.1 ∧ e.1 ≤ 65535 ∧ 0 ≤ e.2 ∧ e.2 ≤ 1114111 ∧ mg m e.1 = some e.2) := by
  unfold lookOk
  simp only [leI_eq, Bool.and_eq_true, decide_eq_true_eq, and_assoc]
theorem mg_app (a b c : Int) : ∀ m : Map, (∀ x, mg m c = some x → mg (m ++ [(a, b)]) c = some x) ∧ (mg m c = none → mg (m ++ [(a, b)]) c = if c = a then some b else none)
  | [] => by
    refine ⟨fun x h => by simp [mg] at h, fun _ => ?_⟩
    unfold mg
    by_cases h : c = a <;> simp [h]
  | y :: m => by
    obtain ⟨h1, h2⟩ := mg_app a b c m
    unfold mg at h1 h2 ⊢
    by_cases h : c = y.1
    · refine ⟨fun x hx => ?_, fun hx => ?_⟩
      · simp only [List.find?_cons, h, decide_true, List.cons_append] at hx ⊢; exact hx
      · simp [List.find?_cons, h] at hx
    · have d : decide (c = y.1) = false := decide_eq_false h
      refine ⟨fun x hx => ?_, fun hx => ?_⟩
      · simp only [List.find?_cons, d, List.cons_append] at hx ⊢; exact h1 x hx
      · simp only [List.find?_cons, d, List.cons_append] at hx ⊢; exact h2 hx
theorem good_new {m : Map} (h : Good m) {a b : Int} (hn : (mg m a).isSome = false) (ha : 0 ≤ a ∧ a ≤ 65535) (hb : 0 ≤ b ∧ b ≤ 1114111) : Good (ms m a b) := by
  rw [ms_new a b m hn]
  intro e he
  rw [lookOk_iff]
  rcases List.mem_append.1 he with he | he
  · obtain ⟨h1, h2, h3, h4, h5⟩ := (lookOk_iff m e).1 (h e he)
    exact ⟨h1, h2, h3, h4, (mg_app a b e.1 m).1 e.2 h5⟩
  · rw [List.mem_singleton] at he
    subst he
    have hnone : mg m a = none := by
      cases hm : mg m a with
      | none => rfl
      | some x => rw [hm] at hn; cases hn
    exact ⟨ha.1, ha.2, hb.1, hb.2, by rw [(mg_app a b a m).2 hnone, if_pos rfl]⟩
theorem pairsRun_good : ∀ (l : List Tok) (i : Nat) (m : Map), Good m → Good (pairsRun l i m).2
  | [], i, m, h => h
  | [t], i, m, h => by
    unfold pairsRun
    cases decide (t.1 = wEnd) <;> exact h
  | t :: u :: r, i, m, h => by
    unfold pairsRun
    cases decide (t.1 = wEnd) with
    | true => exact h
    | false =>
      simp only [cond_false]
      cases hp : pairOk m t u with
      | false => exact h
      | true =>
        simp only [cond_true]
        unfold pairOk at hp
        simp only [Bool.and_eq_true, Bool.not_eq_true', leI_eq, decide_eq_true_eq] at hp
        have h1 := n2_nonneg t.2.1 0
        have h2 := n2_lt t.2.1 0
        have h3 := rune_range u.2.1
        exact pairsRun_good r _ _ (good_new h hp.2 ⟨by omega, by omega⟩ ⟨by omega, by omega⟩)
theorem parseRun_good : ∀ (n : Nat) (l : List Tok) (m : Map), Good m → Good (parseRun n l m).2
  | 0, _, m, h => h
  | n + 1, [], m, h => h
  | n + 1, t :: r, m, h => by
    unfold parseRun
    have hp := pairsRun_good r 0 m h
    cases decide (t.1 = wBegin) with
    | false => exact parseRun_good n r m h
    | true =>
      simp only [cond_true]
      cases leI 1 (pairsRun r 0 m).1 with
      | false => exact hp
      | true => exact parseRun_good n _ _ hp
theorem good_nil : Good [] := fun _ h => by cases h
theorem refL_good (p : List UInt8) : Good (refL p) := by
  unfold refL
  cases refB p with
  | true => exact parseRun_good _ _ _ good_nil
  | false => exact good_nil
theorem parse_yes {p : List UInt8} (h : refB p = true) : parse p = (0, refL p) := by
  unfold refL
  rw [h]
  unfold refB toksB toksL at h
  unfold parse toksL
  cases q : eqI (toks p).1 0 with
  | false => rw [q] at h; cases h
  | true =>
    rw [q] at h
    simp only [cond_true, Bool.true_and] at h ⊢
    rw [h]; rfl
theorem parse_no {p : List UInt8} (h : refB p = false) : (parse p).1 = 2 ∨ (parse p).1 = 14 := by
  unfold refB toksB toksL at h
  unfold parse
  cases q : eqI (toks p).1 0 with
  | false =>
    simp only [cond_false]
    rcases toksRun_code (p.length + 1) [] (p.drop (skipN false p)) with h1 | h1
    · rw [eqI_eq] at q
      exact absurd h1 (of_decide_eq_false q)
    · exact h1
  | true =>
    rw [q] at h
    simp only [cond_true, Bool.true_and] at h ⊢
    rw [h]; exact .inl rfl
theorem parseRun_len : ∀ (n : Nat) (l : List Tok) (m : Map), (parseRun n l m).1 = true → (parseRun n l m).2.length ≤ m.length + l.length
  | 0, _, m, _ => Nat.le_add_right _ _
  | n + 1, [], m, _ => Nat.le_add_right _ _
  | n + 1, t :: r, m, h => by
    unfold parseRun at h ⊢
    cases hd : decide (t.1 = wBegin) with
    | false =>
      rw [hd] at h
      simp only [cond_false] at h ⊢
      have := parseRun_len n r m h
      simp only [List.length_cons]; omega
    | true =>
      rw [hd] at h
      simp only [cond_true] at h ⊢
      cases hl : leI 1 (pairsRun r 0 m).1 with
      | false => rw [hl] at h; cases h
      | true =>
        rw [hl] at h
        simp only [cond_true] at h ⊢
        have ih := parseRun_len n _ _ h
        have h1 := pairsRun_len r 0 m hl
        have h2 := pairsRun_le r 0 m
        rw [leI_eq, decide_eq_true_eq] at hl
        rw [List.length_drop] at ih
        simp only [List.length_cons]
        omega
theorem refL_len {p : List UInt8} (h1 : p.length ≤ 1000000000) : (refL p).length ≤ 1000000000 := by
  unfold refL
  cases h : refB p with
  | false => exact Nat.zero_le _
  | true =>
    simp only [cond_true]
    have h2 : (parseRun ((toksL p).length + 1) (toksL p) []).1 = true := by
      unfold refB at h
      rw [Bool.and_eq_true] at h
      exact h.2
    have h3 := parseRun_len _ _ _ h2
    obtain ⟨_, s2⟩ := toks_short h1
    have h4 : (toksL p).length ≤ 1000000000 := by
      unfold toksL
      cases eqI (toks p).1 0 with
      | true => exact s2
      | false => exact Nat.zero_le _
    simp only [List.length_nil] at h3
    omega
end Px
namespace Go.Vx
open Go
noncomputable def G49 : FuncId → Option (Spec E) := fun _ => none
theorem hG49 (hL : Laws E) : ∀ f spec, G49 f = some spec → Valid E f spec := by
  intro f spec h
  cases h
noncomputable def w49 (xs : List UInt8) (p : List UInt8) : Tree (RV E.A × List (Obj E.A)) :=
 .ite (decide ((xs.length + p.length) * (1 : Nat) ≤ (140737488355328 : Nat)))
 (.leaf (.lf (.ptr 0 0 0), [.cells 84 [.own 0 0 .u8 (xs ++ p)]]))
 (.fail)
theorem e49 (xs : List UInt8) (p : List UInt8) : execFun E G49 (fun _ _ => .fail) false Go.Proofs.Tryd.f49 [.lf (.ptr 0 0 0), .lf (.sl .u8 p)] [.cells 84 [.own 0 0 .u8 xs]] some = (w49 xs p).get := by kernel_rfl
noncomputable def spec49 : Spec E := fun args os => match args, os with
  | [.lf (.ptr 0 0 0), .lf (.sl .u8 p)], [.cells 84 [.own 0 0 .u8 xs]] => w49 xs p
  | _, _ => .fail
theorem valid49 (hL : Laws E) : Valid E 49 spec49 :=
  valid_of_body hL (hG49 hL) (Λ := fun _ _ => .fail) (fn := Go.Proofs.Tryd.f49) (keep := false) (by kernel_rfl) (by kernel_rfl) (by kernel_rfl) (LamOK.none (by kernel_rfl)) (fun args os r os' h => by
    unfold spec49 at h
    split at h
    · exact (e49 _ _).trans h
    · cases h)
end Go.Vx
namespace Go.Vx
open Go
noncomputable def G32 : FuncId → Option (Spec E)
  | 49 => some spec49
  | _ => none
theorem hG32 (hL : Laws E) : ∀ f spec, G32 f = some spec → Valid E f spec := by
  intro f spec h
  unfold G32 at h
  split at h
  · injection h with h; subst h; exact valid49 hL
  · cases h
noncomputable def w32 (xs : List UInt8) (n : Int) : Tree (RV E.A × List (Obj E.A)) :=
 .ite (decide ((xs.length + [UInt8.ofNat (IntKind.u8.wrap (vshr IntKind.u16 n (8 : Int))).toNat, UInt8.ofNat (IntKind.u8.wrap n).toNat].length) * (1 : Nat) ≤ (140737488355328 : Nat)))
 (.leaf (.lf (.ptr 0 0 0), [.cells 84 [.own 0 0 .u8 (xs ++ [UInt8.ofNat (IntKind.u8.wrap (vshr IntKind.u16 n (8 : Int))).toNat, UInt8.ofNat (IntKind.u8.wrap n).toNat])]]))
 (.fail)
theorem e32 (xs : List UInt8) (n : Int) : execFun E G32 (fun _ _ => .fail) false Go.Proofs.Tryd.f32 [.lf (.ptr 0 0 0), .lf (.int .u16 n)] [.cells 84 [.own 0 0 .u8 xs]] some = (w32 xs n).get := by kernel_rfl
noncomputable def spec32 : Spec E := fun args os => match args, os with
  | [.lf (.ptr 0 0 0), .lf (.int .u16 n)], [.cells 84 [.own 0 0 .u8 xs]] => w32 xs n
  | _, _ => .fail
theorem valid32 (hL : Laws E) : Valid E 32 spec32 :=
  valid_of_body hL (hG32 hL) (Λ := fun _ _ => .fail) (fn := Go.Proofs.Tryd.f32) (keep := false) (by kernel_rfl) (by kernel_rfl) (by kernel_rfl) (LamOK.none (by kernel_rfl)) (fun args os r os' h => by
    unfold spec32 at h
    split at h
    · exact (e32 _ _).trans h
    · cases h)
end Go.Vx
namespace Go.Vx
open Go
noncomputable def G50 : FuncId → Option (Spec E) := fun _ => none
theorem hG50 (hL : Laws E) : ∀ f spec, G50 f = some spec → Valid E f spec := by
  intro f spec h
  cases h
noncomputable def w50 (a0 : List UInt8) : WTree (RV E.A × List (Obj E.A)) :=
 .ite (Nat.blt (0 : Nat) a0.length)
 (.ite (decide ((([] : List UInt8).length + a0.length) * (1 : Nat) ≤ (140737488355328 : Nat)))
  (.leaf (.lf (.sl .u8 ([] ++ a0)), []))
  (.fail))
 (.both
  (.leaf (.lf (.sl .u8 []), []))
  (.ite (decide ((([] : List UInt8).length + a0.length) * (1 : Nat) ≤ (140737488355328 : Nat)))
   (.leaf (.lf (.sl .u8 ([] ++ a0)), []))
   (.fail)))
theorem e50 (a0 : List UInt8) : execFun E G50 (fun _ _ => .fail) false Go.Proofs.Tryd.f50 [.lf (.sl .u8 a0)] [] some = (w50 a0).get := by kernel_rfl
noncomputable def raw50 : List (RV E.A) → List (Obj E.A) → Option (RV E.A × List (Obj E.A)) := fun args os => match args, os with
  | [.lf (.sl .u8 a0)], [] => (w50 a0).get
  | _, _ => none
theorem validraw50 (hL : Laws E) {spec : Spec E} (hs : ∀ args os x, (spec args os).get = some x → raw50 args os = some x) : Valid E 50 spec :=
  valid_of_body hL (hG50 hL) (Λ := fun _ _ => .fail) (fn := Go.Proofs.Tryd.f50) (keep := false) (by kernel_rfl) (by kernel_rfl) (by kernel_rfl) (LamOK.none (by kernel_rfl)) (fun args os r os' h => by
    have h := hs args os _ h
    unfold raw50 at h
    split at h
    · exact (e50 _).trans h
    · cases h)
/-- bytes.Clone -/
noncomputable def spec50 : Spec E := fun args os => match args, os with
  | [.lf (.sl .u8 p)], [] => .ite (decide (p.length ≤ 140737488355328)) (.leaf (.lf (.sl .u8 p), [])) .fail
  | _, _ => .fail
theorem eq50 (p : List UInt8) (h : p.length ≤ 140737488355328) : (w50 p).get = some (.lf (.sl .u8 p), []) := by
  unfold w50
  have e1 : decide ((([] : List UInt8).length + p.length) * 1 ≤ 140737488355328) = true := decide_eq_true (by simp; omega)
  simp only [WTree.get, e1, cond_true, List.nil_append]
  cases p with
  | nil => exact bothO_same _
  | cons a l => rfl
theorem valid50 (hL : Laws E) : Valid E 50 spec50 := validraw50 hL (fun args os x h => by
  unfold spec50 at h
  split at h
  · rename_i p
    rcases Tree.get_ite_some h with ⟨h1, h⟩ | ⟨_, h⟩
    · injection h with h; subst h
      exact eq50 p (of_decide_eq_true h1)
    · cases h
  · cases h)
end Go.Vx
namespace Go.Vx
open Go
noncomputable def G33 : FuncId → Option (Spec E)
  | 50 => some spec50
  | _ => none
theorem hG33 (hL : Laws E) : ∀ f spec, G33 f = some spec → Valid E f spec := by
  intro f spec h
  unfold G33 at h
  split at h
  · injection h with h; subst h; exact valid50 hL
  · cases h
noncomputable def w33 (xs : List UInt8) : Tree (RV E.A × List (Obj E.A)) :=
 .ite (decide (xs.length ≤ (140737488355328 : Nat)))
 (.leaf (.lf (.sl .u8 xs), [.cells 84 [.own 0 0 .u8 xs]]))
 (.fail)
theorem e33 (xs : List UInt8) : execFun E G33 (fun _ _ => .fail) false Go.Proofs.Tryd.f33 [.lf (.ptr 0 0 0)] [.cells 84 [.own 0 0 .u8 xs]] some = (w33 xs).get := by kernel_rfl
noncomputable def spec33 : Spec E := fun args os => match args, os with
  | [.lf (.ptr 0 0 0)], [.cells 84 [.own 0 0 .u8 xs]] => w33 xs
  | _, _ => .fail
theorem valid33 (hL : Laws E) : Valid E 33 spec33 :=
  valid_of_body hL (hG33 hL) (Λ := fun _ _ => .fail) (fn := Go.Proofs.Tryd.f33) (keep := false) (by kernel_rfl) (by kernel_rfl) (by kernel_rfl) (LamOK.none (by kernel_rfl)) (fun args os r os' h => by
    unfold spec33 at h
    split at h
    · exact (e33 _).trans h
    · cases h)
end Go.Vx
namespace Go.Vx
open Go
noncomputable def G41 : FuncId → Option (Spec E) := fun _ => none
theorem hG41 (hL : Laws E) : ∀ f spec, G41 f = some spec → Valid E f spec := by
  intro f spec h
  cases h
noncomputable def w41 (a0 : Int) : Tree (RV E.A × List (Obj E.A)) :=
 .ite (leI (0 : Int) a0)
 (.ite (leI a0 (1114111 : Int))
  (.ite (ltI a0 (55296 : Int))
   (.leaf (.lf (.bool true), []))
   (.leaf (.lf (.bool (ltI (57343 : Int) a0)), [])))
  (.leaf (.lf (.bool false), [])))
 (.leaf (.lf (.bool false), []))
theorem e41 (a0 : Int) : execFun E G41 (fun _ _ => .fail) false Go.Proofs.Tryd.f41 [.lf (.int .i32 a0)] [] some = (w41 a0).get := by kernel_rfl
noncomputable def raw41 : Spec E := fun args os => match args, os with
  | [.lf (.int .i32 a0)], [] => w41 a0
  | _, _ => .fail
theorem validraw41 (hL : Laws E) : Valid E 41 raw41 :=
  valid_of_body hL (hG41 hL) (Λ := fun _ _ => .fail) (fn := Go.Proofs.Tryd.f41) (keep := false) (by kernel_rfl) (by kernel_rfl) (by kernel_rfl) (LamOK.none (by kernel_rfl)) (fun args os r os' h => by
    unfold raw41 at h
    split at h
    · exact (e41 _).trans h
    · cases h)
theorem eq41 (a : Int) : (w41 a).get = some (.lf (.bool (Px.scalar a)), []) := by
  unfold w41
  simp only [Tree.get_ite, Tree.get_leaf, ltI_eq, leI_eq, eqI_eq, cond_dec]
  repeat' split
  all_goals (refine someB ?_; rw [Bool.eq_iff_iff, Px.scalar_iff]; simp; try omega)
noncomputable def spec41 : Spec E := fun args os => match args, os with
  | [.lf (.int .i32 a0)], [] => .leaf (.lf (.bool (Px.scalar a0)), [])
  | _, _ => .fail
theorem valid41 (hL : Laws E) : Valid E 41 spec41 := (validraw41 hL).less (fun args os x _ _ h => by
  unfold spec41 at h
  split at h
  · exact (eq41 _).trans h
  · cases h)
end Go.Vx
namespace Go.Vx
open Go
noncomputable def G19 : FuncId → Option (Spec E)
  | 32 => some spec32
  | 33 => some spec33
  | 41 => some spec41
  | _ => none
theorem hG19 (hL : Laws E) : ∀ f spec, G19 f = some spec → Valid E f spec := by
  intro f spec h
  unfold G19 at h
  split at h
  · injection h with h; subst h; exact valid32 hL
  · injection h with h; subst h; exact valid33 hL
  · injection h with h; subst h; exact valid41 hL
  · cases h
noncomputable def w19 (a0 : Int) : Tree (RV E.A × List (Obj E.A)) :=
 .ite (!Px.scalar a0)
 (.leaf (.lf (.sl .u8 []), []))
 (.ite (ltI a0 (65536 : Int))
  (.leaf (.lf (.sl .u8 ([] ++ [UInt8.ofNat (IntKind.u8.wrap (vshr IntKind.u16 (IntKind.u16.wrap a0) (8 : Int))).toNat, UInt8.ofNat (IntKind.u8.wrap (IntKind.u16.wrap a0)).toNat])), []))
  (.leaf (.lf (.sl .u8 ([] ++ [UInt8.ofNat (IntKind.u8.wrap (vshr IntKind.u16 (vbits Go.BinOp.or IntKind.u16 (55296 : Int) (IntKind.u16.wrap (vshr IntKind.i32 (IntKind.i32.wrap (a0 - (65536 : Int))) (10 : Int)))) (8 : Int))).toNat, UInt8.ofNat (IntKind.u8.wrap (vbits Go.BinOp.or IntKind.u16 (55296 : Int) (IntKind.u16.wrap (vshr IntKind.i32 (IntKind.i32.wrap (a0 - (65536 : Int))) (10 : Int))))).toNat] ++ [UInt8.ofNat (IntKind.u8.wrap (vshr IntKind.u16 (vbits Go.BinOp.or IntKind.u16 (56320 : Int) (vbits Go.BinOp.and IntKind.u16 (IntKind.u16.wrap a0) (1023 : Int))) (8 : Int))).toNat, UInt8.ofNat (IntKind.u8.wrap (vbits Go.BinOp.or IntKind.u16 (56320 : Int) (vbits Go.BinOp.and IntKind.u16 (IntKind.u16.wrap a0) (1023 : Int)))).toNat])), [])))
theorem e19 (a0 : Int) : execFun E G19 (fun _ _ => .fail) false Go.Proofs.Tryd.f19 [.lf (.int .i32 a0)] [] some = (w19 a0).get := by kernel_rfl
noncomputable def raw19 : Spec E := fun args os => match args, os with
  | [.lf (.int .i32 a0)], [] => w19 a0
  | _, _ => .fail
theorem validraw19 (hL : Laws E) : Valid E 19 raw19 :=
  valid_of_body hL (hG19 hL) (Λ := fun _ _ => .fail) (fn := Go.Proofs.Tryd.f19) (keep := false) (by kernel_rfl) (by kernel_rfl) (by kernel_rfl) (LamOK.none (by kernel_rfl)) (fun args os r os' h => by
    unfold raw19 at h
    split at h
    · exact (e19 _).trans h
    · cases h)
theorem someL {x y : List UInt8} {os : List (Obj E.A)} (h : x = y) : some ((.lf (.sl .u8 x) : RV E.A), os) = some (.lf (.sl .u8 y), os) := by rw [h]
theorem vshr16 (n : Nat) (h : n < 65536) : vshr IntKind.u16 (n : Int) 8 = ((n / 256 : Nat) : Int) := by
  unfold vshr
  have : min (Int.toNat 8) (IntKind.u16.bits) = 8 := by decide
  rw [this]
  show ((n : Int)).fdiv 256 = _
  rw [Int.fdiv_eq_ediv_of_nonneg _ (by omega)]
  omega
theorem vshr32 (n : Nat) : vshr IntKind.i32 (n : Int) 10 = ((n / 1024 : Nat) : Int) := by
  unfold vshr
  have : min (Int.toNat 10) (IntKind.i32.bits) = 10 := by decide
  rw [this]
  show ((n : Int)).fdiv 1024 = _
  rw [Int.fdiv_eq_ediv_of_nonneg _ (by omega)]
  omega
theorem u16b2 (n : Nat) (h : n < 65536) : [UInt8.ofNat (IntKind.u8.wrap (vshr IntKind.u16 (n : Int) 8)).toNat, UInt8.ofNat (IntKind.u8.wrap (n : Int)).toNat] = Px.b2 n := by
  rw [vshr16 n h, wu8 _ (by omega) (by omega), Int.toNat_natCast]
  have e : IntKind.u8.wrap (n : Int) = ((n % 256 : Nat) : Int) := by
    simp only [IntKind.wrap, IntKind.bits, IntKind.signed]; simp
  rw [e, Int.toNat_natCast]
  unfold Px.b2
  rw [Nat.mod_eq_of_lt (show n / 256 < 256 by omega)]
theorem u16wrap (n : Nat) : IntKind.u16.wrap (n : Int) = ((n % 65536 : Nat) : Int) := by
  simp only [IntKind.wrap, IntKind.bits, IntKind.signed]; simp
theorem and1023 (n : Nat) (h : n < 65536) : vbits .and IntKind.u16 (n : Int) 1023 = ((n % 1024 : Nat) : Int) := by
  have := vbits_and IntKind.u16 n 1023 h (by decide)
  rw [show ((1023 : Nat) : Int) = 1023 from rfl] at this
  rw [this, show (1023 : Nat) = 2 ^ 10 - 1 from rfl, Nat.and_two_pow_sub_one_eq_mod, wu16] <;> omega
theorem orHigh (k n : Nat) (hk : k < 64) (h : n < 1024) : vbits .or IntKind.u16 ((k * 1024 : Nat) : Int) (n : Int) = ((k * 1024 + n : Nat) : Int) := by
  rw [vbits_or IntKind.u16 _ _ (by show _ < 65536; omega) (by show _ < 65536; omega), show (k * 1024) ||| n = k * 1024 + n from or_low k n 10 h, wu16] <;> omega
theorem eq19 (c : Int) : (w19 c).get = some (.lf (.sl .u8 (Px.utf16s c)), []) := by
  unfold w19
  cases hs : Px.scalar c with
  | false => rw [Px.utf16s_no hs]; rfl
  | true =>
    obtain ⟨h1, h2, h3⟩ := (Px.scalar_iff c).1 hs
    simp only [Tree.get_ite, Tree.get_leaf, Bool.not_true, cond_false, ltI_eq]
    by_cases hc : c < 65536
    · obtain ⟨c, rfl⟩ : ∃ a : Nat, c = (a : Int) := ⟨c.toNat, by omega⟩
      have hc' : c < 65536 := by omega
      rw [decide_eq_true hc, cond_true, Px.utf16s_low hs hc', u16wrap, Nat.mod_eq_of_lt hc', u16b2 c hc']
      rfl
    · obtain ⟨m, rfl⟩ : ∃ a : Nat, c = (a : Int) + 65536 := ⟨(c - 65536).toNat, by omega⟩
      have hm : m < 1048576 := by omega
      have e1 : IntKind.i32.wrap ((m : Int) + 65536 - 65536) = (m : Int) := by rw [wi32] <;> omega
      have e2 : IntKind.u16.wrap ((m / 1024 : Nat) : Int) = ((m / 1024 : Nat) : Int) := by rw [wu16] <;> omega
      have e3 : IntKind.u16.wrap ((m : Int) + 65536) = ((m % 65536 : Nat) : Int) := by
        rw [show (m : Int) + 65536 = ((m + 65536 : Nat) : Int) by omega, u16wrap, Nat.add_mod_right]
      rw [decide_eq_false hc, cond_false, Px.utf16s_high hs, e1, vshr32, e2, e3, and1023 _ (by omega)]
      have o1 := orHigh 54 (m / 1024) (by omega) (by omega)
      have o2 := orHigh 55 (m % 65536 % 1024) (by omega) (by omega)
      rw [show ((54 * 1024 : Nat) : Int) = 55296 from rfl] at o1
      rw [show ((55 * 1024 : Nat) : Int) = 56320 from rfl] at o2
      rw [o1, o2, u16b2 _ (by omega), u16b2 _ (by omega), show m % 65536 % 1024 = m % 1024 by omega]
      rfl
noncomputable def spec19 : Spec E := fun args os => match args, os with
  | [.lf (.int .i32 c)], [] => .leaf (.lf (.sl .u8 (Px.utf16s c)), [])
  | _, _ => .fail
theorem valid19 (hL : Laws E) : Valid E 19 spec19 := (validraw19 hL).less (fun args os x g1 g2 h => by
  unfold spec19 at h
  split at h
  · exact (eq19 _).trans h
  · cases h)
end Go.Vx
namespace Go.Vx
open Go
noncomputable def G45 : FuncId → Option (Spec E) := fun _ => none
theorem hG45 (hL : Laws E) : ∀ f spec, G45 f = some spec → Valid E f spec := by
  intro f spec h
  cases h
def L45_0 : Ex → Live
  | .normal => ⟨[0, 1, 7, 8, 9], []⟩
  | .exit 0 => ⟨[], []⟩
  | .ret => ⟨[4], []⟩
  | _ => ⟨[], []⟩
noncomputable def S45_0 (p0 : List (Int × Int)) (p1 : Int) (p7 : List (Int × Int)) (p8 : Int) (x : Int) : St E.A := at' E 39 [(0, .lf (.sl .pair p0)), (1, .lf (.int .i32 p1)), (7, .lf (.sl .pair p7)), (8, .lf (.int .i64 p8)), (9, .lf (.int .i64 x))] []
noncomputable def t45_0 (p0 : List (Int × Int)) (p1 : Int) (p7 : List (Int × Int)) (p8 : Int) (x : Int) : Tree ((Int) ⊕ Out' E) :=
 .ite (ltI x p8)
 (.ite (inB x p7.length)
  (.ite (ltI (p7.getD x.toNat ((0 : Int), (0 : Int))).fst (0 : Int))
   (.leaf (.inr (.ret, at' E 39 [(4, .lf (.bool false))] [])))
   (.ite (ltI p1 (p7.getD x.toNat ((0 : Int), (0 : Int))).fst)
    (.leaf (.inr (.ret, at' E 39 [(4, .lf (.bool false))] [])))
    (.ite (ltI (0 : Int) x)
     (.ite (inB (IntKind.i64.wrap (x - (1 : Int))) p0.length)
      (.ite (leI (p7.getD x.toNat ((0 : Int), (0 : Int))).fst (p0.getD (IntKind.i64.wrap (x - (1 : Int))).toNat ((0 : Int), (0 : Int))).fst)
       (.leaf (.inr (.ret, at' E 39 [(4, .lf (.bool false))] [])))
       (.leaf (.inl ((IntKind.i64.wrap (x + (1 : Int)))))))
      (.fail))
     (.leaf (.inl ((IntKind.i64.wrap (x + (1 : Int)))))))))
  (.fail))
 (.leaf (.inr (.exit 0, at' E 39 [] [])))
theorem h45_0 (p0 : List (Int × Int)) (p1 : Int) (p7 : List (Int × Int)) (p8 : Int) (x : Int) (k : Ex → St E.A → Option Unit) :
    exec E G45 (fun _ _ => .fail) 1 (lb Go.Proofs.Tryd.f45 0) (S45_0 p0 p1 p7 p8 x) (fun e σ1 => k e (clean E (L45_0 e) σ1)) = (t45_0 p0 p1 p7 p8 x).run (Sum.elim (fun x' => k .normal (S45_0 p0 p1 p7 p8 x')) (fun o => k o.1 o.2)) := by kernel_rfl
end Go.Vx
namespace Px
def risesFrom (top : Int) : Option Int → List (Int × Int) → Bool
  | _, [] => true
  | p, x :: r => decide (0 ≤ x.1) && decide (x.1 ≤ top) && (match p with | none => true | some q => decide (q < x.1)) && risesFrom top (some x.1) r
def prevAt (l : List (Int × Int)) : Nat → Option Int
  | 0 => none
  | n + 1 => some (l.getD n (0, 0)).1
end Px
namespace Go.Vx
open Go
noncomputable def lam45_0 (p0 : List (Int × Int)) (p1 : Int) (p7 : List (Int × Int)) (p8 : Int) (x : Int) : Tree (Out' E) :=
  .ite (decide (p0 = p7) && eqI p8 p7.length && leI 0 x && leI x p8)
   (.ite (Px.risesFrom p1 (Px.prevAt p7 x.toNat) (p7.drop x.toNat)) (.leaf (.exit 0, at' E 39 [] [])) (.leaf (.ret, at' E 39 [(4, .lf (.bool false))] [])))
   .fail
theorem m45_0 {p0 : List (Int × Int)} {p1 : Int} {p7 : List (Int × Int)} {p8 x : Int} {e : Ex} {σ : St E.A} (_ : okLenR (E := E) (.lf (.sl .pair p0)) = true) (g : okLenR (E := E) (.lf (.sl .pair p7)) = true)
    (h : (lam45_0 p0 p1 p7 p8 x).get = some (e, σ)) : ∃ fuel, iter (t45_0 p0 p1 p7 p8) fuel x = some (e, σ) ∧ e ≠ .normal := by
  have hb : p7.length ≤ big := of_decide_eq_true g
  unfold big at hb
  refine ⟨(p8 - x).toNat + 1, iter_tree (lam := lam45_0 p0 p1 p7 p8) (m := fun x => (p8 - x).toNat) (fun x o h => ?_) _ x (e, σ) h (by omega), ?_⟩
  · unfold lam45_0 at h
    rcases Tree.get_ite_some h with ⟨h1, h⟩ | ⟨_, h⟩
    · simp only [eqI_eq, leI_eq, Bool.and_eq_true, decide_eq_true_eq] at h1
      obtain ⟨⟨⟨rfl, h2⟩, h3⟩, h4⟩ := h1
      unfold t45_0
      by_cases hx : x < p8
      · obtain ⟨i, rfl⟩ : ∃ i : Nat, x = (i : Int) := ⟨x.toNat, by omega⟩
        have hi : i < p0.length := by omega
        rw [Int.toNat_natCast] at h
        rw [drop_cons p0 (0, 0) i hi] at h
        have e1 : IntKind.i64.wrap ((i : Int) + 1) = ((i + 1 : Nat) : Int) := by rw [wi64] <;> omega
        have e2 : 0 < (i : Int) → IntKind.i64.wrap ((i : Int) - 1) = ((i - 1 : Nat) : Int) := by intro h; rw [wi64] <;> omega
        have hin : inB (i : Int) p0.length = true := inB_true.2 ⟨by omega, by omega⟩
        simp only [ltI_eq, leI_eq, Tree.get_ite, hx, decide_true, cond_true, hin, Int.toNat_natCast]
        simp only [Px.risesFrom] at h
        obtain ⟨v, hv⟩ : ∃ v, (p0.getD i (0, 0)).1 = v := ⟨_, rfl⟩
        simp only [hv] at h ⊢
        have hlam : ∀ b : Bool, Px.risesFrom p1 (some v) (p0.drop (i + 1)) = b → (lam45_0 p0 p1 p0 p8 ((i + 1 : Nat) : Int)).get = (if b then some (.exit 0, at' E 39 [] []) else some (.ret, at' E 39 [(4, .lf (.bool false))] [])) := by
          intro b hb
          unfold lam45_0
          have : (decide (p0 = p0) && eqI p8 (p0.length : Int) && leI 0 ((i + 1 : Nat) : Int) && leI ((i + 1 : Nat) : Int) p8) = true := by simp [eqI_eq, leI_eq]; omega
          rw [Tree.get_ite, this, Int.toNat_natCast]
          simp only [Px.prevAt, hv, hb, cond_true, Tree.get_ite, Tree.get_leaf]
          cases b <;> rfl
        by_cases c1 : v < 0
        · have c1' : ¬ 0 ≤ v := by omega
          simp only [c1, c1', decide_true, decide_false, cond_true, cond_false, Bool.true_and, Bool.false_and, Tree.get_leaf, Tree.get_ite] at h ⊢
          injection h with h; subst h; exact .inr rfl
        · have c1' : 0 ≤ v := by omega
          simp only [c1, c1', decide_false, decide_true, cond_false, Bool.true_and] at h ⊢
          by_cases c2 : p1 < v
          · have c2' : ¬ v ≤ p1 := by omega
            simp only [c2, c2', decide_true, decide_false, cond_true, cond_false, Bool.true_and, Bool.false_and, Tree.get_leaf, Tree.get_ite] at h ⊢
            injection h with h; subst h; exact .inr rfl
          · have c2' : v ≤ p1 := by omega
            simp only [c2, c2', decide_false, decide_true, cond_false, Bool.true_and] at h ⊢
            cases i with
            | zero =>
              simp only [Px.prevAt, Bool.true_and] at h
              simp only [e1]
              refine .inl ⟨((0 + 1 : Nat) : Int), by simp, by omega, ?_⟩
              rw [hlam _ rfl]
              revert h; cases Px.risesFrom p1 (some v) (p0.drop (0 + 1)) <;> exact id
            | succ i =>
              have hp : 0 < ((i + 1 : Nat) : Int) := by omega
              have hin2 : inB (((i + 1 : Nat) : Int) - 1) p0.length = true := inB_true.2 ⟨by omega, by omega⟩
              have e3 : IntKind.i64.wrap (((i + 1 : Nat) : Int) - 1) = (i : Int) := by rw [wi64] <;> omega
              have hin3 : inB (i : Int) p0.length = true := inB_true.2 ⟨by omega, by omega⟩
              simp only [Px.prevAt] at h
              simp only [e1, e3, hp, decide_true, cond_true, hin3, Int.toNat_natCast]
              by_cases c3 : v ≤ (p0.getD i (0, 0)).1
              · have c3' : ¬ (p0.getD i (0, 0)).1 < v := by omega
                simp only [c3, c3', decide_true, decide_false, cond_true, cond_false, Bool.true_and, Bool.false_and, Tree.get_leaf, Tree.get_ite] at h ⊢
                injection h with h; subst h; exact .inr rfl
              · have c3' : (p0.getD i (0, 0)).1 < v := by omega
                simp only [c3, c3', decide_false, decide_true, cond_false, Bool.true_and] at h ⊢
                refine .inl ⟨_, rfl, by omega, ?_⟩
                rw [hlam _ rfl]
                revert h; cases Px.risesFrom p1 (some v) (p0.drop (i + 1 + 1)) <;> exact id
      · refine .inr ?_
        have : p0.drop x.toNat = [] := List.drop_of_length_le (by omega)
        rw [this] at h
        simp [ltI_eq, hx, Px.risesFrom] at h ⊢
        exact h
    · cases h
  · unfold lam45_0 at h
    rcases Tree.get_ite_some h with ⟨_, h⟩ | ⟨_, h⟩
    · rcases Tree.get_ite_some h with ⟨_, h⟩ | ⟨_, h⟩
      · injection h with h; injection h with h1 _; rw [← h1]; intro hh; cases hh
      · injection h with h; injection h with h1 _; rw [← h1]; intro hh; cases hh
    · cases h
noncomputable def rd45_0 (σ : St E.A) : Tree (Out' E) :=
  let c := clean E (L45_0 .normal) σ
  if c.sl.length = 39 then
  match c.sl.getD 0 .undef, c.sl.getD 1 .undef, c.sl.getD 7 .undef, c.sl.getD 8 .undef, c.sl.getD 9 .undef with
  | .lf (.sl .pair p0), .lf (.int .i32 p1), .lf (.sl .pair p7), .lf (.int .i64 p8), .lf (.int .i64 x9) => lam45_0 p0 p1 p7 p8 (x9)
  | _, _, _, _, _ => .fail
  else .fail
theorem ll45_0 (hL : Laws E) (σ : St E.A) (e : Ex) (σ' : St E.A) (h : (rd45_0 σ).get = some (e, σ')) : LoopOK E (lb Go.Proofs.Tryd.f45 0) σ e σ' := by
  refine LoopOK.of_clean hL (L45_0 .normal) ?_
  unfold rd45_0 at h
  simp only at h
  split at h
  · rename_i hlen
    split at h
    · rename_i p0 p1 p7 p8 x9 h0 h1 h2 h3 h4
      refine LoopOK.lens 0 (fun g0 => ?_)
      rw [h0] at g0
      refine LoopOK.lens 7 (fun g1 => ?_)
      rw [h2] at g1
      obtain ⟨fuel, hi, ho⟩ := m45_0 g0 g1 h
      have hl := loop_at (Γ := G45) (Λ := fun _ _ => .fail) (n := 1) (body := lb Go.Proofs.Tryd.f45 0) hL (hG45 hL) (S := S45_0 p0 p1 p7 p8) (t := t45_0 p0 p1 p7 p8) (Lv := L45_0) (LamOK.none (by kernel_rfl)) (h45_0 p0 p1 p7 p8) hi ho
      refine LoopOK.fit hlen ?_ ?_ rfl rfl hl
      · exact ⟨h0, h1, h2, h3, h4, trivial⟩
      · exact trivial
    · cases h
  · cases h
noncomputable def Lam45 : Lam E
  | 0, σ => rd45_0 σ
  | _, _ => .fail
noncomputable def w45 (a0 : List (Int × Int)) (a1 : Int) : Tree (RV E.A × List (Obj E.A)) :=
 .ite (decide (a0 = a0) && eqI (↑a0.length : Int) (↑a0.length : Int) && leI (0 : Int) (0 : Int) && leI (0 : Int) (↑a0.length : Int))
 (.ite (Px.risesFrom a1 (Px.prevAt a0 (Int.toNat (0 : Int))) (List.drop (Int.toNat (0 : Int)) a0))
  (.leaf (.lf (.bool true), []))
  (.leaf (.lf (.bool false), [])))
 (.fail)
theorem e45 (a0 : List (Int × Int)) (a1 : Int) : execFun E G45 ((Lam45)) false Go.Proofs.Tryd.f45 [.lf (.sl .pair a0), .lf (.int .i32 a1)] [] some = (w45 a0 a1).get := by kernel_rfl
noncomputable def raw45 : Spec E := fun args os => match args, os with
  | [.lf (.sl .pair a0), .lf (.int .i32 a1)], [] => w45 a0 a1
  | _, _ => .fail
theorem validraw45 (hL : Laws E) : Valid E 45 raw45 :=
  valid_of_body hL (hG45 hL) (Λ := (Lam45)) (fn := Go.Proofs.Tryd.f45) (keep := false) (by kernel_rfl) (by kernel_rfl) (by kernel_rfl) ((LamOK.of (m := 1) (by kernel_rfl) (fun j hj σ e σ' hg => by
      match j, hj with
      | 0, _ => exact ll45_0 hL σ e σ' hg
      ))) (fun args os r os' h => by
    unfold raw45 at h
    split at h
    · exact (e45 _ _).trans h
    · cases h)
end Go.Vx
namespace Px
/-- codes that rise, from 0 to a greatest one -/
def rises (top : Int) (l : List (Int × Int)) : Bool := risesFrom top none l
end Px
namespace Go.Vx
open Go
theorem eq45 (l : List (Int × Int)) (top : Int) : (w45 l top).get = some (.lf (.bool (Px.rises top l)), []) := by
  unfold w45 Px.rises
  have h1 : (decide (l = l) && eqI (↑l.length : Int) (↑l.length : Int) && leI (0 : Int) (0 : Int) && leI (0 : Int) (↑l.length : Int)) = true := by simp [eqI_eq, leI_eq]
  rw [Tree.get_ite, h1]
  show (cond (Px.risesFrom top none l) _ _) = _
  cases Px.risesFrom top none l <;> rfl
noncomputable def spec45 : Spec E := fun args os => match args, os with
  | [.lf (.sl .pair l), .lf (.int .i32 top)], [] => .leaf (.lf (.bool (Px.rises top l)), [])
  | _, _ => .fail
theorem valid45 (hL : Laws E) : Valid E 45 spec45 := (validraw45 hL).less (fun args os x _ _ h => by
  unfold spec45 at h
  split at h
  · exact (eq45 _ _).trans h
  · cases h)
end Go.Vx
namespace Go.Vx
open Go
noncomputable def G27 : FuncId → Option (Spec E)
  | 41 => some spec41
  | 45 => some spec45
  | _ => none
theorem hG27 (hL : Laws E) : ∀ f spec, G27 f = some spec → Valid E f spec := by
  intro f spec h
  unfold G27 at h
  split at h
  · injection h with h; subst h; exact valid41 hL
  · injection h with h; subst h; exact valid45 hL
  · cases h
def L27_0 : Ex → Live
  | .normal => ⟨[0, 3, 7, 8, 9], [448]⟩
  | .exit 0 => ⟨[0, 3], [448]⟩
  | .ret => ⟨[2], []⟩
  | _ => ⟨[], []⟩
noncomputable def S27_0 (p0 : List (Int × Int)) (p7 : List (Int × Int)) (p8 : Int) (x : Int × (List (Int × Int))) : St E.A := at' E 32 [(0, .lf (.sl .pair p0)), (3, .lf (.mp 448 0)), (7, .lf (.sl .pair p7)), (8, .lf (.int .i64 p8)), (9, .lf (.int .i64 x.1))] [(448, some (.map .u16 .i64 x.2))]
noncomputable def t27_0 (p0 : List (Int × Int)) (p7 : List (Int × Int)) (p8 : Int) (x : Int × (List (Int × Int))) : Tree (Int × (List (Int × Int)) ⊕ Out' E) :=
 .ite (ltI x.fst p8)
 (.ite (inB x.fst p7.length)
  (.ite (!Px.scalar (p7.getD x.fst.toNat ((0 : Int), (0 : Int))).fst)
   (.leaf (.inr (.ret, at' E 32 [(2, .lf (.bool false))] [])))
   (.leaf (.inl ((IntKind.i64.wrap (x.fst + (1 : Int))), (mset_u16_i64 x.snd (p7.getD x.fst.toNat ((0 : Int), (0 : Int))).snd (IntKind.i64.wrap ((mget_u16_i64 x.snd (p7.getD x.fst.toNat ((0 : Int), (0 : Int))).snd).getD (Int.ofNat (0 : Nat)) + (1 : Int))))))))
  (.fail))
 (.leaf (.inr (.exit 0, at' E 32 [(0, .lf (.sl .pair p0)), (3, .lf (.mp 448 0))] [(448, some (.map .u16 .i64 x.snd))])))
theorem h27_0 (p0 : List (Int × Int)) (p7 : List (Int × Int)) (p8 : Int) (x : Int × (List (Int × Int))) (k : Ex → St E.A → Option Unit) :
    exec E G27 (fun _ _ => .fail) 1 (lb Go.Proofs.Tryd.f27 0) (S27_0 p0 p7 p8 x) (fun e σ1 => k e (clean E (L27_0 e) σ1)) = (t27_0 p0 p7 p8 x).run (Sum.elim (fun x' => k .normal (S27_0 p0 p7 p8 x')) (fun o => k o.1 o.2)) := by kernel_rfl
end Go.Vx
namespace Px
abbrev Cnt := List (Int × Int)
/-- one more of a code -/
noncomputable def more (m : Cnt) (g : Int) : Cnt := Go.Vx.mset_u16_i64 m g (Go.IntKind.i64.wrap ((Go.Vx.mget_u16_i64 m g).getD 0 + 1))
noncomputable def seen (l : List (Int × Int)) (m : Cnt) : Cnt := l.foldl (fun m x => more m x.2) m
def scalars (l : List (Int × Int)) : Bool := l.all fun x => scalar x.1
end Px
namespace Go.Vx
open Go
noncomputable def lam27_0 (p0 : List (Int × Int)) (p7 : List (Int × Int)) (p8 : Int) (x : Int × (List (Int × Int))) : Tree (Out' E) :=
  .ite (eqI p8 p7.length && leI 0 x.1 && leI x.1 p8)
   (.ite (Px.scalars (p7.drop x.1.toNat)) (.leaf (.exit 0, at' E 32 [(0, .lf (.sl .pair p0)), (3, .lf (.mp 448 0))] [(448, some (.map .u16 .i64 (Px.seen (p7.drop x.1.toNat) x.2)))])) (.leaf (.ret, at' E 32 [(2, .lf (.bool false))] [])))
   .fail
theorem lo27 {O : Type} (o1 : O) (done : Px.Cnt → O) : ∀ (l : List (Int × Int)) (m : Px.Cnt), loopO (fun m x => some (if Px.scalar x.1 then .inl (Px.more m x.2) else .inr o1)) done l m = some (if Px.scalars l then done (Px.seen l m) else o1)
  | [], m => rfl
  | x :: l, m => by
    unfold loopO
    have ih := lo27 o1 done l (Px.more m x.2)
    cases h : Px.scalar x.1 with
    | true => simp only [if_true, ih, Px.scalars, List.all_cons, h, Bool.true_and]; rfl
    | false => simp [Px.scalars, h]
theorem m27_0 {p0 : List (Int × Int)} {p7 : List (Int × Int)} {p8 : Int} {x : Int × (List (Int × Int))} {e : Ex} {σ : St E.A} (_ : okLenR (E := E) (.lf (.sl .pair p0)) = true) (g : okLenR (E := E) (.lf (.sl .pair p7)) = true)
    (h : (lam27_0 p0 p7 p8 x).get = some (e, σ)) : ∃ fuel, iter (t27_0 p0 p7 p8) fuel x = some (e, σ) ∧ e ≠ .normal := by
  have hb : (p7.length : Int) ≤ 9223372036854775807 := len64 (k := .pair) (of_decide_eq_true g)
  obtain ⟨i, m⟩ := x
  unfold lam27_0 at h
  have h' := Tree.get_ite_some h
  clear h
  rcases h' with ⟨h1, h⟩ | ⟨_, h⟩
  · simp only [eqI_eq, leI_eq, Bool.and_eq_true, decide_eq_true_eq] at h1
    obtain ⟨⟨rfl, h3⟩, h4⟩ := h1
    obtain ⟨i, rfl⟩ : ∃ j : Nat, i = (j : Int) := ⟨i.toNat, by omega⟩
    rw [Int.toNat_natCast] at h
    refine ⟨_, iter_idx (t := t27_0 p0 p7 p7.length) (fun i s => (i, s)) p7 (0, 0) (fun m x => some (if Px.scalar x.1 then .inl (Px.more m x.2) else .inr (.ret, at' E 32 [(2, .lf (.bool false))] []))) (fun m => (.exit 0, at' E 32 [(0, .lf (.sl .pair p0)), (3, .lf (.mp 448 0))] [(448, some (.map .u16 .i64 m))])) (fun i s y hi hy => ?_) (fun s => ?_) _ i m _ ?_ (Nat.lt_succ_self _) (by omega), ?_⟩
    · injection hy with hy; subst hy
      unfold t27_0
      have e1 : IntKind.i64.wrap ((i : Int) + 1) = ((i + 1 : Nat) : Int) := by rw [wi64] <;> omega
      have hin : inB (i : Int) p7.length = true := inB_true.2 ⟨by omega, by omega⟩
      have hlt : ltI (i : Int) p7.length = true := by rw [ltI_eq]; exact decide_eq_true (by omega)
      simp only [Tree.get_ite, hin, hlt, cond_true, e1, Int.toNat_natCast]
      cases Px.scalar (p7.getD i (0, 0)).1 <;> rfl
    · unfold t27_0
      have hlt : ltI (p7.length : Int) p7.length = false := by rw [ltI_eq]; exact decide_eq_false (by omega)
      simp only [Tree.get_ite, hlt]; rfl
    · rw [lo27]
      rcases Tree.get_ite_some h with ⟨h1, h⟩ | ⟨h1, h⟩ <;> rw [h1] <;> exact h
    · rcases Tree.get_ite_some h with ⟨_, h⟩ | ⟨_, h⟩ <;> (injection h with h; injection h with h1 _; rw [← h1]; intro hh; cases hh)
  · cases h
noncomputable def rd27_0 (σ : St E.A) : Tree (Out' E) :=
  let c := clean E (L27_0 .normal) σ
  if c.sl.length = 32 then
  match c.sl.getD 0 .undef, c.sl.getD 3 .undef, c.sl.getD 7 .undef, c.sl.getD 8 .undef, c.sl.getD 9 .undef, c.ob 448 with
  | .lf (.sl .pair p0), .lf (.mp 448 0), .lf (.sl .pair p7), .lf (.int .i64 p8), .lf (.int .i64 x9), some (.map .u16 .i64 o448a) => lam27_0 p0 p7 p8 (x9, o448a)
  | _, _, _, _, _, _ => .fail
  else .fail
theorem ll27_0 (hL : Laws E) (σ : St E.A) (e : Ex) (σ' : St E.A) (h : (rd27_0 σ).get = some (e, σ')) : LoopOK E (lb Go.Proofs.Tryd.f27 0) σ e σ' := by
  refine LoopOK.of_clean hL (L27_0 .normal) ?_
  unfold rd27_0 at h
  simp only at h
  split at h
  · rename_i hlen
    split at h
    · rename_i p0 p7 p8 x9 o448a h0 h1 h2 h3 h4 h5
      refine LoopOK.lens 0 (fun g0 => ?_)
      rw [h0] at g0
      refine LoopOK.lens 7 (fun g1 => ?_)
      rw [h2] at g1
      obtain ⟨fuel, hi, ho⟩ := m27_0 g0 g1 h
      have hl := loop_at (Γ := G27) (Λ := fun _ _ => .fail) (n := 1) (body := lb Go.Proofs.Tryd.f27 0) hL (hG27 hL) (S := S27_0 p0 p7 p8) (t := t27_0 p0 p7 p8) (Lv := L27_0) (LamOK.none (by kernel_rfl)) (h27_0 p0 p7 p8) hi ho
      refine LoopOK.fit hlen ?_ ?_ rfl rfl hl
      · exact ⟨h0, h1, h2, h3, h4, trivial⟩
      · exact ⟨h5, trivial⟩
    · cases h
  · cases h
noncomputable def Lam27 : Lam E
  | 0, σ => rd27_0 σ
  | _, _ => .fail
noncomputable def w27 (a0 : List (Int × Int)) : Tree (RV E.A × List (Obj E.A)) :=
 .ite (eqI (↑a0.length : Int) (↑a0.length : Int) && leI (0 : Int) (0 : Int) && leI (0 : Int) (↑a0.length : Int))
 (.ite (Px.scalars (List.drop (Int.toNat (0 : Int)) a0))
  (.ite (Px.rises (1114111 : Int) a0)
   (.ite (decide (List.length (Px.seen (List.drop (Int.toNat (0 : Int)) a0) []) ≤ (2 : Nat) ^ (62 : Nat)))
    (.leaf (.lf (.bool (eqI (↑(List.length (Px.seen (List.drop (Int.toNat (0 : Int)) a0) [])) : Int) (↑a0.length : Int))), []))
    (.fail))
   (.leaf (.lf (.bool false), [])))
  (.leaf (.lf (.bool false), [])))
 (.fail)
theorem e27 (a0 : List (Int × Int)) : execFun E G27 ((Lam27)) false Go.Proofs.Tryd.f27 [.lf (.sl .pair a0)] [] some = (w27 a0).get := by kernel_rfl
noncomputable def raw27 : Spec E := fun args os => match args, os with
  | [.lf (.sl .pair a0)], [] => w27 a0
  | _, _ => .fail
theorem validraw27 (hL : Laws E) : Valid E 27 raw27 :=
  valid_of_body hL (hG27 hL) (Λ := (Lam27)) (fn := Go.Proofs.Tryd.f27) (keep := false) (by kernel_rfl) (by kernel_rfl) (by kernel_rfl) ((LamOK.of (m := 1) (by kernel_rfl) (fun j hj σ e σ' hg => by
      match j, hj with
      | 0, _ => exact ll27_0 hL σ e σ' hg
      ))) (fun args os r os' h => by
    unfold raw27 at h
    split at h
    · exact (e27 _).trans h
    · cases h)
end Go.Vx
namespace Px
noncomputable def right (l : List (Int × Int)) : Bool := scalars l && rises 1114111 l && Go.Vx.eqI (seen l []).length l.length
end Px
namespace Go.Vx
open Go
theorem mset_len {k v : K} (a : E.A k) (b : E.A v) : ∀ m : List (E.A k × E.A v), (mset E m a b).length ≤ m.length + 1
  | [] => Nat.le_refl _
  | x :: r => by
    unfold mset
    split
    · simp
    · have := mset_len a b r
      simp only [List.length_cons]; omega
theorem seen_len : ∀ (l : List (Int × Int)) (m : Px.Cnt), (Px.seen l m).length ≤ l.length + m.length
  | [], m => by simp [Px.seen]
  | x :: l, m => by
    have h1 := seen_len l (Px.more m x.2)
    have h2 : (Px.more m x.2).length ≤ m.length + 1 := mset_len (k := .u16) (v := .i64) _ _ m
    have h3 : Px.seen (x :: l) m = Px.seen l (Px.more m x.2) := rfl
    rw [h3, List.length_cons]; omega
theorem eq27 (l : List (Int × Int)) (hl : l.length ≤ 1000000000) : (w27 l).get = some (.lf (.bool (Px.right l)), []) := by
  unfold w27 Px.right
  have h1 : (eqI (l.length : Int) (l.length : Int) && leI (0 : Int) (0 : Int) && leI (0 : Int) (l.length : Int)) = true := by simp [eqI_eq, leI_eq]
  have e0 : l.drop (Int.toNat 0) = l := rfl
  have h2 : decide ((Px.seen l []).length ≤ 2 ^ 62) = true := decide_eq_true (by have := seen_len l []; simp at this; omega)
  simp only [Tree.get_ite, h1, cond_true, e0, h2]
  cases Px.scalars l <;> cases Px.rises 1114111 l <;> rfl
noncomputable def spec27 : Spec E := fun args os => match args, os with
  | [.lf (.sl .pair l)], [] => .ite (decide (l.length ≤ 1000000000)) (.leaf (.lf (.bool (Px.right l)), [])) .fail
  | _, _ => .fail
theorem valid27 (hL : Laws E) : Valid E 27 spec27 := (validraw27 hL).less (fun args os x _ _ h => by
  unfold spec27 at h
  split at h
  · rcases Tree.get_ite_some h with ⟨h1, h⟩ | ⟨_, h⟩
    · exact (eq27 _ (of_decide_eq_true h1)).trans h
    · cases h
  · cases h)
end Go.Vx
namespace Go.Vx
open Go
/-- internal/abi.NoEscape: the pointer as it is -/
def spec57 : Spec E := fun args os => match args with
  | [.lf l] => .leaf (.lf l, os)
  | _ => .fail
theorem valid57 (_ : Laws E) : Valid E 57 spec57 :=
  valid_extern (fn := Go.Proofs.Tryd.f57) (e := Extern.AbiNoEscape.same) (by kernel_rfl) (by kernel_rfl) (by kernel_rfl) (by kernel_rfl) (by kernel_rfl) (fun args os r os' h => by
    unfold spec57 at h
    split at h
    · injection h with h; injection h with h1 h2
      subst h1; subst h2
      refine ⟨rfl, fun G w vals ha => ?_⟩
      obtain ⟨v, rfl, hv⟩ := arel_one ha
      exact ⟨v, rfl, hv⟩
    · cases h)
end Go.Vx
namespace Go.Vx
open Go
noncomputable def G46 : FuncId → Option (Spec E)
  | 57 => some spec57
  | _ => none
theorem hG46 (hL : Laws E) : ∀ f spec, G46 f = some spec → Valid E f spec := by
  intro f spec h
  unfold G46 at h
  split at h
  · injection h with h; subst h; exact valid57 hL
  · cases h
noncomputable def w46 (xs : List UInt8) : Tree (RV E.A × List (Obj E.A)) :=
 .leaf (.tup [], [.cells 74 [.ptr 0 0 0, .own 0 0 .u8 xs]])
theorem e46 (xs : List UInt8) : execFun E G46 (fun _ _ => .fail) false Go.Proofs.Tryd.f46 [.lf (.ptr 0 0 0)] [.cells 74 [.lit (.pointer none), .own 0 0 .u8 xs]] some = (w46 xs).get := by kernel_rfl
noncomputable def w46_1 (xs : List UInt8) : Tree (RV E.A × List (Obj E.A)) :=
 .leaf (.tup [], [.cells 74 [.ptr 0 0 0, .own 0 0 .u8 xs]])
theorem e46_1 (xs : List UInt8) : execFun E G46 (fun _ _ => .fail) false Go.Proofs.Tryd.f46 [.lf (.ptr 0 0 0)] [.cells 74 [.ptr 0 0 0, .own 0 0 .u8 xs]] some = (w46_1 xs).get := by kernel_rfl
noncomputable def spec46 : Spec E := fun args os => match args, os with
  | [.lf (.ptr 0 0 0)], [.cells 74 [.lit (.pointer none), .own 0 0 .u8 xs]] => w46 xs
  | [.lf (.ptr 0 0 0)], [.cells 74 [.ptr 0 0 0, .own 0 0 .u8 xs]] => w46_1 xs
  | _, _ => .fail
theorem valid46 (hL : Laws E) : Valid E 46 spec46 :=
  valid_of_body hL (hG46 hL) (Λ := fun _ _ => .fail) (fn := Go.Proofs.Tryd.f46) (keep := false) (by kernel_rfl) (by kernel_rfl) (by kernel_rfl) (LamOK.none (by kernel_rfl)) (fun args os r os' h => by
    unfold spec46 at h
    split at h
    · exact (e46 _).trans h
    · exact (e46_1 _).trans h
    · cases h)
end Go.Vx
namespace Go.Vx
open Go
noncomputable def G28 : FuncId → Option (Spec E)
  | 46 => some spec46
  | _ => none
theorem hG28 (hL : Laws E) : ∀ f spec, G28 f = some spec → Valid E f spec := by
  intro f spec h
  unfold G28 at h
  split at h
  · injection h with h; subst h; exact valid46 hL
  · cases h
noncomputable def w28 (xs : List UInt8) (s : List UInt8) : Tree (RV E.A × List (Obj E.A)) :=
 .ite (decide ((xs.length + s.length) * (1 : Nat) ≤ (140737488355328 : Nat)))
 (.leaf (.tup [(false, [.int .i64 ((↑s.length : Int))]), (false, [.lit Go.Value.nilIface])], [.cells 74 [.ptr 0 0 0, .own 0 0 .u8 (xs ++ s)]]))
 (.fail)
theorem e28 (xs : List UInt8) (s : List UInt8) : execFun E G28 (fun _ _ => .fail) false Go.Proofs.Tryd.f28 [.lf (.ptr 0 0 0), .lf (.str s)] [.cells 74 [.lit (.pointer none), .own 0 0 .u8 xs]] some = (w28 xs s).get := by kernel_rfl
noncomputable def w28_1 (xs : List UInt8) (s : List UInt8) : Tree (RV E.A × List (Obj E.A)) :=
 .ite (decide ((xs.length + s.length) * (1 : Nat) ≤ (140737488355328 : Nat)))
 (.leaf (.tup [(false, [.int .i64 ((↑s.length : Int))]), (false, [.lit Go.Value.nilIface])], [.cells 74 [.ptr 0 0 0, .own 0 0 .u8 (xs ++ s)]]))
 (.fail)
theorem e28_1 (xs : List UInt8) (s : List UInt8) : execFun E G28 (fun _ _ => .fail) false Go.Proofs.Tryd.f28 [.lf (.ptr 0 0 0), .lf (.str s)] [.cells 74 [.ptr 0 0 0, .own 0 0 .u8 xs]] some = (w28_1 xs s).get := by kernel_rfl
noncomputable def spec28 : Spec E := fun args os => match args, os with
  | [.lf (.ptr 0 0 0), .lf (.str s)], [.cells 74 [.lit (.pointer none), .own 0 0 .u8 xs]] => w28 xs s
  | [.lf (.ptr 0 0 0), .lf (.str s)], [.cells 74 [.ptr 0 0 0, .own 0 0 .u8 xs]] => w28_1 xs s
  | _, _ => .fail
theorem valid28 (hL : Laws E) : Valid E 28 spec28 :=
  valid_of_body hL (hG28 hL) (Λ := fun _ _ => .fail) (fn := Go.Proofs.Tryd.f28) (keep := false) (by kernel_rfl) (by kernel_rfl) (by kernel_rfl) (LamOK.none (by kernel_rfl)) (fun args os r os' h => by
    unfold spec28 at h
    split at h
    · exact (e28 _ _).trans h
    · exact (e28_1 _ _).trans h
    · cases h)
end Go.Vx
namespace Go.Vx
open Go
noncomputable def G29 : FuncId → Option (Spec E) := fun _ => none
theorem hG29 (hL : Laws E) : ∀ f spec, G29 f = some spec → Valid E f spec := by
  intro f spec h
  cases h
noncomputable def w29 (a0 : List (Int × Int)) (a1 : Int) : Tree (RV E.A × List (Obj E.A)) :=
 .ite (ltI a1 (1 : Int))
 (.fail)
 (.leaf (.lf (.fn 47 [.ptr 0 0 0, .ptr 1 0 0]), [.cells 26 [.sl .pair a0], .cells 3 [.int .i64 a1]]))
theorem e29 (a0 : List (Int × Int)) (a1 : Int) : execFun E G29 (fun _ _ => .fail) false Go.Proofs.Tryd.f29 [.lf (.sl .pair a0), .lf (.int .i64 a1)] [] some = (w29 a0 a1).get := by kernel_rfl
noncomputable def spec29 : Spec E := fun args os => match args, os with
  | [.lf (.sl .pair a0), .lf (.int .i64 a1)], [] => w29 a0 a1
  | _, _ => .fail
theorem valid29 (hL : Laws E) : Valid E 29 spec29 :=
  valid_of_body hL (hG29 hL) (Λ := fun _ _ => .fail) (fn := Go.Proofs.Tryd.f29) (keep := false) (by kernel_rfl) (by kernel_rfl) (by kernel_rfl) (LamOK.none (by kernel_rfl)) (fun args os r os' h => by
    unfold spec29 at h
    split at h
    · exact (e29 _ _).trans h
    · cases h)
end Go.Vx

namespace Go.Vx
open Go
noncomputable def G31 : FuncId → Option (Spec E) := fun _ => none
theorem hG31 (hL : Laws E) : ∀ f spec, G31 f = some spec → Valid E f spec := by
  intro f spec h
  cases h
def L31_0 : Ex → Live
  | .normal => ⟨[3, 7, 8, 9], []⟩
  | .exit 0 => ⟨[3], []⟩
  | .ret => ⟨[2], []⟩
  | _ => ⟨[], []⟩
noncomputable def S31_0 (p7 : List UInt8) (p8 : Int) (x : (List UInt8) × Int) : St E.A := at' E 27 [(3, .lf (.own 0 0 .u8 x.1)), (7, .lf (.sl .u8 p7)), (8, .lf (.int .i64 p8)), (9, .lf (.int .i64 x.2))] []
noncomputable def t31_0 (p7 : List UInt8) (p8 : Int) (x : (List UInt8) × Int) : Tree ((List UInt8) × Int ⊕ Out' E) :=
 .ite (ltI x.snd p8)
 (.ite (inB x.snd p7.length)
  (.ite (inB (vshr IntKind.u8 (↑(p7.getD x.snd.toNat (0 : UInt8)).toNat : Int) (4 : Int)) [(48 : UInt8), (49 : UInt8), (50 : UInt8), (51 : UInt8), (52 : UInt8), (53 : UInt8), (54 : UInt8), (55 : UInt8), (56 : UInt8), (57 : UInt8), (97 : UInt8), (98 : UInt8), (99 : UInt8), (100 : UInt8), (101 : UInt8), (102 : UInt8)].length)
   (.ite (inB (vbits Go.BinOp.and IntKind.u8 (↑(p7.getD x.snd.toNat (0 : UInt8)).toNat : Int) (15 : Int)) [(48 : UInt8), (49 : UInt8), (50 : UInt8), (51 : UInt8), (52 : UInt8), (53 : UInt8), (54 : UInt8), (55 : UInt8), (56 : UInt8), (57 : UInt8), (97 : UInt8), (98 : UInt8), (99 : UInt8), (100 : UInt8), (101 : UInt8), (102 : UInt8)].length)
    (.ite (decide ((x.fst.length + [UInt8.ofNat (↑([(48 : UInt8), (49 : UInt8), (50 : UInt8), (51 : UInt8), (52 : UInt8), (53 : UInt8), (54 : UInt8), (55 : UInt8), (56 : UInt8), (57 : UInt8), (97 : UInt8), (98 : UInt8), (99 : UInt8), (100 : UInt8), (101 : UInt8), (102 : UInt8)].getD (vshr IntKind.u8 (↑(p7.getD x.snd.toNat (0 : UInt8)).toNat : Int) (4 : Int)).toNat (0 : UInt8)).toNat : Int).toNat, UInt8.ofNat (↑([(48 : UInt8), (49 : UInt8), (50 : UInt8), (51 : UInt8), (52 : UInt8), (53 : UInt8), (54 : UInt8), (55 : UInt8), (56 : UInt8), (57 : UInt8), (97 : UInt8), (98 : UInt8), (99 : UInt8), (100 : UInt8), (101 : UInt8), (102 : UInt8)].getD (vbits Go.BinOp.and IntKind.u8 (↑(p7.getD x.snd.toNat (0 : UInt8)).toNat : Int) (15 : Int)).toNat (0 : UInt8)).toNat : Int).toNat].length) * (1 : Nat) ≤ (140737488355328 : Nat)))
     (.leaf (.inl ((x.fst ++ [UInt8.ofNat (↑([(48 : UInt8), (49 : UInt8), (50 : UInt8), (51 : UInt8), (52 : UInt8), (53 : UInt8), (54 : UInt8), (55 : UInt8), (56 : UInt8), (57 : UInt8), (97 : UInt8), (98 : UInt8), (99 : UInt8), (100 : UInt8), (101 : UInt8), (102 : UInt8)].getD (vshr IntKind.u8 (↑(p7.getD x.snd.toNat (0 : UInt8)).toNat : Int) (4 : Int)).toNat (0 : UInt8)).toNat : Int).toNat, UInt8.ofNat (↑([(48 : UInt8), (49 : UInt8), (50 : UInt8), (51 : UInt8), (52 : UInt8), (53 : UInt8), (54 : UInt8), (55 : UInt8), (56 : UInt8), (57 : UInt8), (97 : UInt8), (98 : UInt8), (99 : UInt8), (100 : UInt8), (101 : UInt8), (102 : UInt8)].getD (vbits Go.BinOp.and IntKind.u8 (↑(p7.getD x.snd.toNat (0 : UInt8)).toNat : Int) (15 : Int)).toNat (0 : UInt8)).toNat : Int).toNat]), (IntKind.i64.wrap (x.snd + (1 : Int))))))
     (.fail))
    (.fail))
   (.fail))
  (.fail))
 (.leaf (.inr (.exit 0, at' E 27 [(3, .lf (.own 0 0 .u8 x.fst))] [])))
theorem h31_0 (p7 : List UInt8) (p8 : Int) (x : (List UInt8) × Int) (k : Ex → St E.A → Option Unit) :
    exec E G31 (fun _ _ => .fail) 1 (lb Go.Proofs.Tryd.f31 0) (S31_0 p7 p8 x) (fun e σ1 => k e (clean E (L31_0 e) σ1)) = (t31_0 p7 p8 x).run (Sum.elim (fun x' => k .normal (S31_0 p7 p8 x')) (fun o => k o.1 o.2)) := by kernel_rfl
noncomputable def lam31_0 (p7 : List UInt8) (p8 : Int) (x : (List UInt8) × Int) : Tree (Out' E) :=
  .ite (eqI p8 p7.length && leI 0 x.2 && leI x.2 p8 && decide (x.1.length + 2 * (p7.length - x.2.toNat) ≤ 140737488355328))
   (.leaf (.exit 0, at' E 27 [(3, .lf (.own 0 0 .u8 (x.1 ++ Px.hexs (p7.drop x.2.toNat))))] [])) .fail
theorem run31 {O : Type} (f : List UInt8 → O) : ∀ (l : List UInt8) (i : Nat) (acc : List UInt8),
    rangeRun (fun _ (acc : List UInt8) (b : UInt8) => (.inl (acc ++ [Px.hd (b.toNat / 16), Px.hd (b.toNat % 16)]) : List UInt8 ⊕ O)) f i acc l = f (acc ++ Px.hexs l)
  | [], i, acc => by simp [rangeRun, Px.hexs]
  | c :: l, i, acc => by
    simp only [rangeRun, Px.hexs]
    rw [run31 f l (i + 1)]
    simp
theorem m31_0 {p7 : List UInt8} {p8 : Int} {x : (List UInt8) × Int} {e : Ex} {σ : St E.A} (_ : okLenR (E := E) (.lf (.own 0 0 .u8 x.1)) = true) (g : okLenR (E := E) (.lf (.sl .u8 p7)) = true)
    (h : (lam31_0 p7 p8 x).get = some (e, σ)) : ∃ fuel, iter (t31_0 p7 p8) fuel x = some (e, σ) ∧ e ≠ .normal := by
  have hb : p7.length ≤ big := of_decide_eq_true g
  obtain ⟨acc, i⟩ := x
  unfold lam31_0 at h
  have h' := Tree.get_ite_some h
  clear h
  rcases h' with ⟨h1, h⟩ | ⟨_, h⟩
  · simp only [eqI_eq, leI_eq, Bool.and_eq_true, decide_eq_true_eq] at h1
    obtain ⟨⟨⟨rfl, h3⟩, h4⟩, h6⟩ := h1
    simp only at h3 h4 h6 h
    obtain ⟨i, rfl⟩ : ∃ j : Nat, i = (j : Int) := ⟨i.toNat, by omega⟩
    rw [Int.toNat_natCast] at h6
    have key := range_iter (t := t31_0 p7 p7.length) (l := p7) (0 : UInt8) (fun (a : List UInt8) i => (a, i)) (fun _ a b => .inl (a ++ [Px.hd (b.toNat / 16), Px.hd (b.toNat % 16)]))
      (fun a => (Ex.exit 0, at' E 27 [(3, .lf (.own 0 0 .u8 a))] [])) (fun i a => a.length + 2 * (p7.length - i) ≤ 140737488355328)
      (fun i a hi ho => ⟨by
        have hr : (a.length + 2) * 1 ≤ 140737488355328 := by omega
        have hb0 := (p7.getD i 0).toNat_lt
        have n1 : inB (((p7.getD i 0).toNat / 16 : Nat) : Int) 16 = true := inB_nat (by omega)
        have n2 : inB (((p7.getD i 0).toNat % 16 : Nat) : Int) 16 = true := inB_nat (by omega)
        have l16 : ([(48 : UInt8), (49 : UInt8), (50 : UInt8), (51 : UInt8), (52 : UInt8), (53 : UInt8), (54 : UInt8), (55 : UInt8), (56 : UInt8), (57 : UInt8), (97 : UInt8), (98 : UInt8), (99 : UInt8), (100 : UInt8), (101 : UInt8), (102 : UInt8)]).length = 16 := rfl
        have hdd : ∀ n, ([(48 : UInt8), (49 : UInt8), (50 : UInt8), (51 : UInt8), (52 : UInt8), (53 : UInt8), (54 : UInt8), (55 : UInt8), (56 : UInt8), (57 : UInt8), (97 : UInt8), (98 : UInt8), (99 : UInt8), (100 : UInt8), (101 : UInt8), (102 : UInt8)]).getD n 0 = Px.hd n := fun _ => rfl
        unfold t31_0
        rw [Tree.get_ite, ltI_nat hi, cond_true, Tree.get_ite, inB_nat hi, cond_true, Int.toNat_natCast, vshr_u8, and_u8, Int.toNat_natCast, Int.toNat_natCast, l16, hdd, hdd]
        rw [Tree.get_ite, n1, cond_true, Tree.get_ite, n2, cond_true, Tree.get_ite]
        simp only [List.length_cons, List.length_nil, Nat.zero_add, hr, decide_true, cond_true, Tree.get_leaf, i64_succ hi hb, u8_rt, UInt8.ofNat_toNat, Int.toNat_natCast], fun a' h => by
        injection h with h
        subst h
        simp only [List.length_append, List.length_cons, List.length_nil]; omega⟩)
      (fun a _ => by simp only [t31_0, Tree.get_ite, Tree.get_leaf, ltI_self, cond_false])
      (p7.length - i) i acc (by omega) h6
    rw [run31] at key
    refine ⟨_, key.trans h, ?_⟩
    injection h with h; injection h with h1 _; rw [← h1]; intro hh; cases hh
  · cases h
noncomputable def rd31_0 (σ : St E.A) : Tree (Out' E) :=
  let c := clean E (L31_0 .normal) σ
  if c.sl.length = 27 then
  match c.sl.getD 3 .undef, c.sl.getD 7 .undef, c.sl.getD 8 .undef, c.sl.getD 9 .undef with
  | .lf (.own 0 0 .u8 x3), .lf (.sl .u8 p7), .lf (.int .i64 p8), .lf (.int .i64 x9) => lam31_0 p7 p8 (x3, x9)
  | _, _, _, _ => .fail
  else .fail
theorem ll31_0 (hL : Laws E) (σ : St E.A) (e : Ex) (σ' : St E.A) (h : (rd31_0 σ).get = some (e, σ')) : LoopOK E (lb Go.Proofs.Tryd.f31 0) σ e σ' := by
  refine LoopOK.of_clean hL (L31_0 .normal) ?_
  unfold rd31_0 at h
  simp only at h
  split at h
  · rename_i hlen
    split at h
    · rename_i x3 p7 p8 x9 h0 h1 h2 h3
      refine LoopOK.lens 3 (fun g0 => ?_)
      rw [h0] at g0
      refine LoopOK.lens 7 (fun g1 => ?_)
      rw [h1] at g1
      obtain ⟨fuel, hi, ho⟩ := m31_0 g0 g1 h
      have hl := loop_at (Γ := G31) (Λ := fun _ _ => .fail) (n := 1) (body := lb Go.Proofs.Tryd.f31 0) hL (hG31 hL) (S := S31_0 p7 p8) (t := t31_0 p7 p8) (Lv := L31_0) (LamOK.none (by kernel_rfl)) (h31_0 p7 p8) hi ho
      refine LoopOK.fit hlen ?_ ?_ rfl rfl hl
      · exact ⟨h0, h1, h2, h3, trivial⟩
      · exact trivial
    · cases h
  · cases h
noncomputable def Lam31 : Lam E
  | 0, σ => rd31_0 σ
  | _, _ => .fail
noncomputable def w31 (a0 : List UInt8) : Tree (RV E.A × List (Obj E.A)) :=
 .ite (eqI (↑a0.length : Int) (↑a0.length : Int) && leI (0 : Int) (0 : Int) && leI (0 : Int) (↑a0.length : Int) && decide ([UInt8.ofNat (Int.toNat (60 : Int))].length + (2 : Nat) * (a0.length - Int.toNat (0 : Int)) ≤ (140737488355328 : Nat)))
 (.ite (decide ((([UInt8.ofNat (Int.toNat (60 : Int))] ++ Px.hexs (List.drop (Int.toNat (0 : Int)) a0)).length + [UInt8.ofNat (Int.toNat (62 : Int))].length) * (1 : Nat) ≤ (140737488355328 : Nat)))
  (.leaf (.lf (.str ([UInt8.ofNat (Int.toNat (60 : Int))] ++ Px.hexs (List.drop (Int.toNat (0 : Int)) a0) ++ [UInt8.ofNat (Int.toNat (62 : Int))])), []))
  (.fail))
 (.fail)
theorem e31 (a0 : List UInt8) : execFun E G31 ((Lam31)) false Go.Proofs.Tryd.f31 [.lf (.sl .u8 a0)] [] some = (w31 a0).get := by kernel_rfl
noncomputable def raw31 : Spec E := fun args os => match args, os with
  | [.lf (.sl .u8 a0)], [] => w31 a0
  | _, _ => .fail
theorem validraw31 (hL : Laws E) : Valid E 31 raw31 :=
  valid_of_body hL (hG31 hL) (Λ := (Lam31)) (fn := Go.Proofs.Tryd.f31) (keep := false) (by kernel_rfl) (by kernel_rfl) (by kernel_rfl) ((LamOK.of (m := 1) (by kernel_rfl) (fun j hj σ e σ' hg => by
      match j, hj with
      | 0, _ => exact ll31_0 hL σ e σ' hg
      ))) (fun args os r os' h => by
    unfold raw31 at h
    split at h
    · exact (e31 _).trans h
    · cases h)
theorem eq31 (p : List UInt8) (h : p.length ≤ 1000000000) : (w31 p).get = some (.lf (.str (60 :: (Px.hexs p ++ [62]))), []) := by
  have hl := Px.hexs_len p
  unfold w31
  have c1 : (eqI (↑p.length : Int) (↑p.length : Int) && leI (0 : Int) (0 : Int) && leI (0 : Int) (↑p.length : Int) && decide ([UInt8.ofNat (Int.toNat (60 : Int))].length + (2 : Nat) * (p.length - Int.toNat (0 : Int)) ≤ (140737488355328 : Nat))) = true := by
    simp only [eqI_eq, leI_eq, Bool.and_eq_true, decide_eq_true_eq, List.length_cons, List.length_nil]
    exact ⟨⟨⟨trivial, by omega⟩, by omega⟩, by omega⟩
  rw [Tree.get_ite, c1]
  show (cond (decide ((([60] ++ Px.hexs p : List UInt8).length + ([62] : List UInt8).length) * 1 ≤ 140737488355328)) _ _) = _
  rw [decide_eq_true (by simp only [List.length_append, List.length_cons, List.length_nil]; omega)]
  rfl
noncomputable def spec31 : Spec E := fun args os => match args, os with
  | [.lf (.sl .u8 p)], [] => .ite (decide (p.length ≤ 1000000000)) (.leaf (.lf (.str (60 :: (Px.hexs p ++ [62]))), [])) .fail
  | _, _ => .fail
theorem valid31 (hL : Laws E) : Valid E 31 spec31 := (validraw31 hL).less (fun args os x g1 g2 h => by
  unfold spec31 at h
  split at h
  · rcases Tree.get_ite_some h with ⟨h1, h⟩ | ⟨_, h⟩
    · exact (eq31 _ (of_decide_eq_true h1)).trans h
    · cases h
  · cases h)
end Go.Vx
namespace Go.Vx
open Go
noncomputable def G34 : FuncId → Option (Spec E) := fun _ => none
theorem hG34 (hL : Laws E) : ∀ f spec, G34 f = some spec → Valid E f spec := by
  intro f spec h
  cases h
noncomputable def w34 (xs : List UInt8) : Tree (RV E.A × List (Obj E.A)) :=
 .ite (decide (xs.length ≠ (0 : Nat)))
 (.ite (eqI (↑xs.length : Int) (↑xs.length : Int))
  (.leaf (.lf (.str xs), [.cells 74 [.lit (Go.Value.pointer Option.none), .sl .u8 xs]]))
  (.fail))
 (.fail)
theorem e34 (xs : List UInt8) : execFun E G34 (fun _ _ => .fail) false Go.Proofs.Tryd.f34 [.lf (.ptr 0 0 0)] [.cells 74 [.lit (.pointer none), .own 0 0 .u8 xs]] some = (w34 xs).get := by kernel_rfl
noncomputable def w34_1 (xs : List UInt8) : Tree (RV E.A × List (Obj E.A)) :=
 .ite (decide (xs.length ≠ (0 : Nat)))
 (.ite (eqI (↑xs.length : Int) (↑xs.length : Int))
  (.leaf (.lf (.str xs), [.cells 74 [.ptr 0 0 0, .sl .u8 xs]]))
  (.fail))
 (.fail)
theorem e34_1 (xs : List UInt8) : execFun E G34 (fun _ _ => .fail) false Go.Proofs.Tryd.f34 [.lf (.ptr 0 0 0)] [.cells 74 [.ptr 0 0 0, .own 0 0 .u8 xs]] some = (w34_1 xs).get := by kernel_rfl
noncomputable def spec34 : Spec E := fun args os => match args, os with
  | [.lf (.ptr 0 0 0)], [.cells 74 [.lit (.pointer none), .own 0 0 .u8 xs]] => w34 xs
  | [.lf (.ptr 0 0 0)], [.cells 74 [.ptr 0 0 0, .own 0 0 .u8 xs]] => w34_1 xs
  | _, _ => .fail
theorem valid34 (hL : Laws E) : Valid E 34 spec34 :=
  valid_of_body hL (hG34 hL) (Λ := fun _ _ => .fail) (fn := Go.Proofs.Tryd.f34) (keep := false) (by kernel_rfl) (by kernel_rfl) (by kernel_rfl) (LamOK.none (by kernel_rfl)) (fun args os r os' h => by
    unfold spec34 at h
    split at h
    · exact (e34 _).trans h
    · exact (e34_1 _).trans h
    · cases h)
end Go.Vx
namespace Go.Vx
open Go
noncomputable def G11 : FuncId → Option (Spec E)
  | 19 => some spec19
  | 27 => some spec27
  | 28 => some spec28
  | 29 => some spec29
  | 30 => some spec30
  | 31 => some spec31
  | 32 => some spec32
  | 33 => some spec33
  | 34 => some spec34
  | _ => none
theorem hG11 (hL : Laws E) : ∀ f spec, G11 f = some spec → Valid E f spec := by
  intro f spec h
  unfold G11 at h
  split at h
  · injection h with h; subst h; exact valid19 hL
  · injection h with h; subst h; exact valid27 hL
  · injection h with h; subst h; exact valid28 hL
  · injection h with h; subst h; exact valid29 hL
  · injection h with h; subst h; exact valid30 hL
  · injection h with h; subst h; exact valid31 hL
  · injection h with h; subst h; exact valid32 hL
  · injection h with h; subst h; exact valid33 hL
  · injection h with h; subst h; exact valid34 hL
  · cases h
noncomputable def ob11_0 (x : (List UInt8)) : List (Obj E.A) := [.cells 74 [.ptr 0 0 0, .own 0 0 .u8 x]]
noncomputable def ar11_0  : List (RV E.A) := [.lf (.ptr 0 0 0)]
noncomputable def rs11_0  (x : (List UInt8)) (a : List (Int × Int)) : St E.A := rst 44 [3] (ar11_0 ) (rf Go.Proofs.Tryd.f11 0).2.1.toList [.lf (.sl .pair a)] (ob11_0 x)
def L11_1 : Ex → Live
  | .normal => ⟨[3, 20, 21, 22], [0]⟩
  | .exit 2 => ⟨[3], [0]⟩
  | .ret => ⟨[], [0]⟩
  | _ => ⟨[], []⟩
noncomputable def S11_1 (p20 : List (Int × Int)) (p21 : Int) (x : Int × (List UInt8)) : St E.A := at' E 44 [(3, .lf (.ptr 0 0 0)), (20, .lf (.sl .pair p20)), (21, .lf (.int .i64 p21)), (22, .lf (.int .i64 x.1))] [(0, some (.cells 74 [.ptr 0 0 0, .own 0 0 .u8 x.2]))]
noncomputable def t11_1 (p20 : List (Int × Int)) (p21 : Int) (x : Int × (List UInt8)) : Tree (Int × (List UInt8) ⊕ Out' E) :=
 .ite (ltI x.fst p21)
 (.ite (inB x.fst p20.length)
  (.ite (decide ((Px.utf16s (p20.getD x.fst.toNat ((0 : Int), (0 : Int))).fst).length ≤ (1000000000 : Nat)))
   (.ite (decide (((60 : UInt8) :: (Px.hexs ([] ++ [UInt8.ofNat (IntKind.u8.wrap (vshr IntKind.u16 (p20.getD x.fst.toNat ((0 : Int), (0 : Int))).snd (8 : Int))).toNat, UInt8.ofNat (IntKind.u8.wrap (p20.getD x.fst.toNat ((0 : Int), (0 : Int))).snd).toNat]) ++ [(62 : UInt8)]) ++ [(32 : UInt8)]).length + ((60 : UInt8) :: (Px.hexs (Px.utf16s (p20.getD x.fst.toNat ((0 : Int), (0 : Int))).fst) ++ [(62 : UInt8)])).length ≤ (2 : Nat) ^ (60 : Nat)))
    (.ite (decide (((60 : UInt8) :: (Px.hexs ([] ++ [UInt8.ofNat (IntKind.u8.wrap (vshr IntKind.u16 (p20.getD x.fst.toNat ((0 : Int), (0 : Int))).snd (8 : Int))).toNat, UInt8.ofNat (IntKind.u8.wrap (p20.getD x.fst.toNat ((0 : Int), (0 : Int))).snd).toNat]) ++ [(62 : UInt8)]) ++ [(32 : UInt8)] ++ (60 : UInt8) :: (Px.hexs (Px.utf16s (p20.getD x.fst.toNat ((0 : Int), (0 : Int))).fst) ++ [(62 : UInt8)])).length + [(10 : UInt8)].length ≤ (2 : Nat) ^ (60 : Nat)))
     (.ite (decide ((x.snd.length + ((60 : UInt8) :: (Px.hexs ([] ++ [UInt8.ofNat (IntKind.u8.wrap (vshr IntKind.u16 (p20.getD x.fst.toNat ((0 : Int), (0 : Int))).snd (8 : Int))).toNat, UInt8.ofNat (IntKind.u8.wrap (p20.getD x.fst.toNat ((0 : Int), (0 : Int))).snd).toNat]) ++ [(62 : UInt8)]) ++ [(32 : UInt8)] ++ (60 : UInt8) :: (Px.hexs (Px.utf16s (p20.getD x.fst.toNat ((0 : Int), (0 : Int))).fst) ++ [(62 : UInt8)]) ++ [(10 : UInt8)]).length) * (1 : Nat) ≤ (140737488355328 : Nat)))
      (.leaf (.inl ((IntKind.i64.wrap (x.fst + (1 : Int))), (x.snd ++ ((60 : UInt8) :: (Px.hexs ([] ++ [UInt8.ofNat (IntKind.u8.wrap (vshr IntKind.u16 (p20.getD x.fst.toNat ((0 : Int), (0 : Int))).snd (8 : Int))).toNat, UInt8.ofNat (IntKind.u8.wrap (p20.getD x.fst.toNat ((0 : Int), (0 : Int))).snd).toNat]) ++ [(62 : UInt8)]) ++ [(32 : UInt8)] ++ (60 : UInt8) :: (Px.hexs (Px.utf16s (p20.getD x.fst.toNat ((0 : Int), (0 : Int))).fst) ++ [(62 : UInt8)]) ++ [(10 : UInt8)])))))
      (.fail))
     (.fail))
    (.fail))
   (.fail))
  (.fail))
 (.leaf (.inr (.exit 2, at' E 44 [(3, .lf (.ptr 0 0 0))] [(0, some (.cells 74 [.ptr 0 0 0, .own 0 0 .u8 x.snd]))])))
theorem h11_1 (p20 : List (Int × Int)) (p21 : Int) (x : Int × (List UInt8)) (k : Ex → St E.A → Option Unit) :
    exec E G11 (fun _ _ => .fail) 2 (lb Go.Proofs.Tryd.f11 1) (S11_1 p20 p21 x) (fun e σ1 => k e (clean E (L11_1 e) σ1)) = (t11_1 p20 p21 x).run (Sum.elim (fun x' => k .normal (S11_1 p20 p21 x')) (fun o => k o.1 o.2)) := by kernel_rfl
end Go.Vx
namespace Px
/-- a pair's line in a table -/
noncomputable def line (x : Int × Int) : List UInt8 :=
  (60 : UInt8) :: (hexs ([] ++ [UInt8.ofNat (Go.IntKind.u8.wrap (Go.Vx.vshr Go.IntKind.u16 x.2 (8 : Int))).toNat, UInt8.ofNat (Go.IntKind.u8.wrap x.2).toNat]) ++ [(62 : UInt8)]) ++ [(32 : UInt8)] ++ (60 : UInt8) :: (hexs (utf16s x.1) ++ [(62 : UInt8)]) ++ [(10 : UInt8)]
noncomputable def lines (l : List (Int × Int)) : List UInt8 := l.flatMap line
theorem line_len (x : Int × Int) : (line x).length ≤ 18 := by
  have := utf16s_len x.1
  simp only [line, List.length_append, List.length_cons, List.length_nil, hexs_len]
  omega
end Px
namespace Go.Vx
open Go
noncomputable def lam11_1 (p20 : List (Int × Int)) (p21 : Int) (x : Int × (List UInt8)) : Tree (Out' E) :=
  .ite (eqI p21 p20.length && leI 0 x.1 && leI x.1 p21 && decide (p20.length ≤ 1000000000) && decide (x.2.length + 18 * (p20.length - x.1.toNat) ≤ 1000000000000))
   (.leaf (.exit 2, at' E 44 [(3, .lf (.ptr 0 0 0))] [(0, some (.cells 74 [.ptr 0 0 0, .own 0 0 .u8 (x.2 ++ Px.lines (p20.drop x.1.toNat))]))])) .fail
theorem lo11 {O : Type} (done : List UInt8 → O) : ∀ (l : List (Int × Int)) (s : List UInt8), s.length + 18 * l.length ≤ 1000000000000 → loopO (fun s x => if s.length ≤ 1000000000000 - 18 then some (.inl (s ++ Px.line x)) else none) done l s = some (done (s ++ Px.lines l))
  | [], s, _ => by simp [loopO, Px.lines]
  | x :: l, s, h => by
    have hx := Px.line_len x
    rw [List.length_cons] at h
    have ih := lo11 done l (s ++ Px.line x) (by rw [List.length_append]; omega)
    unfold loopO
    rw [if_pos (by omega)]
    simp only [ih]
    simp only [Px.lines, List.flatMap_cons, List.append_assoc]
theorem m11_1 {p20 : List (Int × Int)} {p21 : Int} {x : Int × (List UInt8)} {e : Ex} {σ : St E.A} (_ : okLenR (E := E) (.lf (.sl .pair p20)) = true) (_ : okLenO (E := E) (.cells 74 [.ptr 0 0 0, .own 0 0 .u8 x.2]) = true)
    (h : (lam11_1 p20 p21 x).get = some (e, σ)) : ∃ fuel, iter (t11_1 p20 p21) fuel x = some (e, σ) ∧ e ≠ .normal := by
  obtain ⟨i, s⟩ := x
  unfold lam11_1 at h
  have h' := Tree.get_ite_some h
  clear h
  rcases h' with ⟨h1, h⟩ | ⟨_, h⟩
  · simp only [eqI_eq, leI_eq, Bool.and_eq_true, decide_eq_true_eq] at h1
    obtain ⟨⟨⟨⟨rfl, h3⟩, h4⟩, h5⟩, h6⟩ := h1
    obtain ⟨i, rfl⟩ : ∃ j : Nat, i = (j : Int) := ⟨i.toNat, by omega⟩
    rw [Int.toNat_natCast] at h h6
    refine ⟨_, iter_idx (t := t11_1 p20 p20.length) (fun i s => (i, s)) p20 (0, 0) (fun s x => if s.length ≤ 1000000000000 - 18 then some (.inl (s ++ Px.line x)) else none) (fun s => (.exit 2, at' E 44 [(3, .lf (.ptr 0 0 0))] [(0, some (.cells 74 [.ptr 0 0 0, .own 0 0 .u8 s]))])) (fun i s y hi hy => ?_) (fun s => ?_) _ i s _ ?_ (Nat.lt_succ_self _) (by omega), ?_⟩
    · split at hy
      · rename_i hs
        injection hy with hy; subst hy
        unfold t11_1
        have e1 : IntKind.i64.wrap ((i : Int) + 1) = ((i + 1 : Nat) : Int) := by rw [wi64] <;> omega
        have hin : inB (i : Int) p20.length = true := inB_true.2 ⟨by omega, by omega⟩
        have hlt : ltI (i : Int) p20.length = true := by rw [ltI_eq]; exact decide_eq_true (by omega)
        generalize hx : p20.getD i (0, 0) = x
        have hu := Px.utf16s_len x.1
        have hl := Px.line_len x
        have d1 : decide ((Px.utf16s x.1).length ≤ 1000000000) = true := decide_eq_true (by omega)
        have hll : (Px.line x).length = 2 + 2 * 2 + 1 + (2 + 2 * (Px.utf16s x.1).length) + 1 := by
          simp only [Px.line, List.length_append, List.length_cons, List.length_nil, Px.hexs_len]; omega
        simp only [Int.toNat_natCast, hx, Tree.get_ite, hin, hlt, cond_true, e1, d1]
        rw [decide_eq_true (by simp only [List.length_append, List.length_cons, List.length_nil, Px.hexs_len]; omega), cond_true, decide_eq_true (by simp only [List.length_append, List.length_cons, List.length_nil, Px.hexs_len]; omega), cond_true,
          decide_eq_true (by show (s.length + (Px.line x).length) * 1 ≤ _; omega), cond_true]
        rfl
      · cases hy
    · unfold t11_1
      have hlt : ltI (p20.length : Int) p20.length = false := by rw [ltI_eq]; exact decide_eq_false (by omega)
      simp only [Tree.get_ite, hlt]; rfl
    · rw [lo11 _ _ _ (by rw [List.length_drop]; omega)]
      exact h
    · injection h with h; injection h with h1 _; rw [← h1]; intro hh; cases hh
  · cases h
noncomputable def rd11_1 (σ : St E.A) : Tree (Out' E) :=
  let c := clean E (L11_1 .normal) σ
  if c.sl.length = 44 then
  match c.sl.getD 3 .undef, c.sl.getD 20 .undef, c.sl.getD 21 .undef, c.sl.getD 22 .undef, c.ob 0 with
  | .lf (.ptr 0 0 0), .lf (.sl .pair p20), .lf (.int .i64 p21), .lf (.int .i64 x22), some (.cells 74 [.ptr 0 0 0, .own 0 0 .u8 o0a]) => lam11_1 p20 p21 (x22, o0a)
  | _, _, _, _, _ => .fail
  else .fail
theorem ll11_1 (hL : Laws E) (σ : St E.A) (e : Ex) (σ' : St E.A) (h : (rd11_1 σ).get = some (e, σ')) : LoopOK E (lb Go.Proofs.Tryd.f11 1) σ e σ' := by
  refine LoopOK.of_clean hL (L11_1 .normal) ?_
  unfold rd11_1 at h
  simp only at h
  split at h
  · rename_i hlen
    split at h
    · rename_i p20 p21 x22 o0a h0 h1 h2 h3 h4
      refine LoopOK.lens 20 (fun g0 => ?_)
      rw [h1] at g0
      refine LoopOK.lensO 0 (fun gg => ?_)
      have g1 := gg _ h4
      obtain ⟨fuel, hi, ho⟩ := m11_1 g0 g1 h
      have hl := loop_at (Γ := G11) (Λ := fun _ _ => .fail) (n := 2) (body := lb Go.Proofs.Tryd.f11 1) hL (hG11 hL) (S := S11_1 p20 p21) (t := t11_1 p20 p21) (Lv := L11_1) (LamOK.none (by kernel_rfl)) (h11_1 p20 p21) hi ho
      refine LoopOK.fit hlen ?_ ?_ rfl rfl hl
      · exact ⟨h0, h1, h2, h3, trivial⟩
      · exact ⟨h4, trivial⟩
    · cases h
  · cases h
noncomputable def Lm11_0 : Lam E
  | 1, σ => rd11_1 σ
  | _, _ => .fail
noncomputable def t11_0  (x : (List UInt8)) (a : List (Int × Int)) : Tree (Ex × ((List UInt8))) :=
 .ite (leI (0 : Int) (↑a.length : Int) && leI (↑a.length : Int) (1000000 : Int))
 (.ite (decide ((Go.Lib.decDigits (↑a.length : Int).toNat).length + [(32 : UInt8), (98 : UInt8), (101 : UInt8), (103 : UInt8), (105 : UInt8), (110 : UInt8), (98 : UInt8), (102 : UInt8), (99 : UInt8), (104 : UInt8), (97 : UInt8), (114 : UInt8), (10 : UInt8)].length ≤ (2 : Nat) ^ (60 : Nat)))
  (.ite (decide ((x.length + (Go.Lib.decDigits (↑a.length : Int).toNat ++ [(32 : UInt8), (98 : UInt8), (101 : UInt8), (103 : UInt8), (105 : UInt8), (110 : UInt8), (98 : UInt8), (102 : UInt8), (99 : UInt8), (104 : UInt8), (97 : UInt8), (114 : UInt8), (10 : UInt8)]).length) * (1 : Nat) ≤ (140737488355328 : Nat)))
   (.ite (eqI (↑a.length : Int) (↑a.length : Int) && leI (0 : Int) (0 : Int) && leI (0 : Int) (↑a.length : Int) && decide (a.length ≤ (1000000000 : Nat)) && decide ((x ++ (Go.Lib.decDigits (↑a.length : Int).toNat ++ [(32 : UInt8), (98 : UInt8), (101 : UInt8), (103 : UInt8), (105 : UInt8), (110 : UInt8), (98 : UInt8), (102 : UInt8), (99 : UInt8), (104 : UInt8), (97 : UInt8), (114 : UInt8), (10 : UInt8)])).length + (18 : Nat) * (a.length - Int.toNat (0 : Int)) ≤ (1000000000000 : Nat)))
    (.ite (decide (((x ++ (Go.Lib.decDigits (↑a.length : Int).toNat ++ [(32 : UInt8), (98 : UInt8), (101 : UInt8), (103 : UInt8), (105 : UInt8), (110 : UInt8), (98 : UInt8), (102 : UInt8), (99 : UInt8), (104 : UInt8), (97 : UInt8), (114 : UInt8), (10 : UInt8)]) ++ Px.lines (List.drop (Int.toNat (0 : Int)) a)).length + [(101 : UInt8), (110 : UInt8), (100 : UInt8), (98 : UInt8), (102 : UInt8), (99 : UInt8), (104 : UInt8), (97 : UInt8), (114 : UInt8), (10 : UInt8)].length) * (1 : Nat) ≤ (140737488355328 : Nat)))
     (.leaf (.normal, ((x ++ (Go.Lib.decDigits (↑a.length : Int).toNat ++ [(32 : UInt8), (98 : UInt8), (101 : UInt8), (103 : UInt8), (105 : UInt8), (110 : UInt8), (98 : UInt8), (102 : UInt8), (99 : UInt8), (104 : UInt8), (97 : UInt8), (114 : UInt8), (10 : UInt8)]) ++ Px.lines (List.drop (Int.toNat (0 : Int)) a) ++ [(101 : UInt8), (110 : UInt8), (100 : UInt8), (98 : UInt8), (102 : UInt8), (99 : UInt8), (104 : UInt8), (97 : UInt8), (114 : UInt8), (10 : UInt8)]))))
     (.fail))
    (.fail))
   (.fail))
  (.fail))
 (.fail)
theorem h11_0  (x : (List UInt8)) (a : List (Int × Int)) (k : Ex → St E.A → Option Unit) :
    execR E G11 Lm11_0 1 (rf Go.Proofs.Tryd.f11 0).2.2.1 (rf Go.Proofs.Tryd.f11 0).2.2.2 (rs11_0  x a) (fun e σ1 => k e (clean E ⟨[], List.range 1⟩ σ1)) = (t11_0  x a).run (fun r => k r.1 (rend 44 (ob11_0 r.2))) := by kernel_rfl
end Go.Vx
namespace Px
def wRow : List UInt8 := [32, 98, 101, 103, 105, 110, 98, 102, 99, 104, 97, 114, 10]
def wEndRow : List UInt8 := [101, 110, 100, 98, 102, 99, 104, 97, 114, 10]
/-- a row of a table -/
noncomputable def rowText (a : List (Int × Int)) : List UInt8 := Go.Lib.decDigits a.length ++ wRow ++ lines a ++ wEndRow
noncomputable def addRows (xs : List UInt8) (q : List (Int × Int)) : List UInt8 := xs ++ (Go.Vx.chunks 100 q).flatMap rowText
end Px
namespace Go.Vx
open Go
noncomputable def R11_0 : RSpec E := fun g caps cobs args os => match g, caps, cobs, args, os with
  | 47, [.ptr _ _ 0, .ptr _ _ 0], [some (.cells _ [.sl .pair q]), some (.cells _ [.int .i64 n])], [.lf (.ptr 0 0 0)], [.cells 74 [.ptr 0 0 0, .own 0 0 .u8 xs]] =>
    .ite (eqI n 100 && decide (q.length ≤ 1000000) && decide (xs.length ≤ 1000)) (.leaf (.normal, [.cells 74 [.ptr 0 0 0, .own 0 0 .u8 (Px.addRows xs q)]])) .fail
  | _, _, _, _, _ => .fail
theorem lines_len : ∀ l : List (Int × Int), (Px.lines l).length ≤ 18 * l.length
  | [] => Nat.le_refl _
  | x :: l => by
    have h1 := Px.line_len x
    have h2 := lines_len l
    simp only [Px.lines, List.flatMap_cons, List.length_append, List.length_cons] at h2 ⊢
    omega
theorem rowText_len (a : List (Int × Int)) : (Px.rowText a).length ≤ 19 * a.length + 24 := by
  have h1 := lines_len a
  have h2 := itoa_len a.length
  simp only [Px.rowText, List.length_append, Px.wRow, Px.wEndRow, List.length_cons, List.length_nil]
  omega
theorem round11 (x : List UInt8) (a : List (Int × Int)) (ha : a.length ≤ 100) (hx : x.length ≤ 500000000) : (t11_0 x a).get = some (.normal, x ++ Px.rowText a) := by
  unfold t11_0
  have h2 := itoa_len a.length
  have h3 := lines_len a
  have e0 : a.drop (Int.toNat 0) = a := rfl
  have c1 : (leI (0 : Int) (a.length : Int) && leI (a.length : Int) 1000000) = true := by simp [leI_eq]; omega
  simp only [Tree.get_ite, c1, cond_true, Int.toNat_natCast, e0]
  rw [decide_eq_true (by simp only [List.length_cons, List.length_nil]; omega), cond_true, decide_eq_true (by simp only [List.length_append, List.length_cons, List.length_nil]; omega), cond_true]
  have c2 : ∀ b : Bool, b = true → (eqI (a.length : Int) (a.length : Int) && leI (0 : Int) (0 : Int) && leI (0 : Int) (a.length : Int) && decide (a.length ≤ 1000000000) && b) = true := by
    intro b hb; subst hb; simp [eqI_eq, leI_eq]; omega
  rw [c2 _ (decide_eq_true (by simp only [List.length_append, List.length_cons, List.length_nil]; omega)), cond_true, decide_eq_true (by simp only [List.length_append, List.length_cons, List.length_nil]; omega), cond_true]
  simp only [Tree.get_leaf, Px.rowText, Px.wRow, Px.wEndRow, List.append_assoc]
theorem iter11 : ∀ (l : List (List (Int × Int))) (x : List UInt8), (∀ a ∈ l, a.length ≤ 100) → x.length + 2000 * l.length ≤ 500000000 → iterR t11_0 x l = some (.normal, x ++ l.flatMap Px.rowText)
  | [], x, _, _ => by simp [iterR]
  | a :: l, x, ha, hx => by
    rw [List.length_cons] at hx
    have h1 := ha a (List.mem_cons_self ..)
    have h2 := rowText_len a
    rw [iterR, round11 x a h1 (by omega)]
    simp only
    rw [iter11 l (x ++ Px.rowText a) (fun b hb => ha b (List.mem_cons_of_mem _ hb)) (by rw [List.length_append]; omega), List.flatMap_cons, List.append_assoc]
theorem chunks_len {α : Type} (n : Nat) (xs : List α) : (∀ a ∈ chunks n xs, a.length ≤ n) ∧ (chunks n xs).length = (xs.length + n - 1) / n := by
  refine ⟨fun a ha => ?_, by simp [chunks]⟩
  obtain ⟨k, _, rfl⟩ := List.mem_map.1 ha
  simp only [List.length_take]; omega
theorem rows11 (xs : List UInt8) (q : List (Int × Int)) (h2 : q.length ≤ 1000000) (h3 : xs.length ≤ 1000) : iterR t11_0 xs (chunks 100 q) = some (.normal, Px.addRows xs q) := by
  have hc := chunks_len 100 q
  exact iter11 (chunks 100 q) xs hc.1 (by rw [hc.2]; omega)
noncomputable def rd11_0 (σ : St E.A) : Tree (Out' E) := if σ.sl.length = 44 then rangeRd 5000 (rf Go.Proofs.Tryd.f11 0).1 [3] R11_0 σ else .fail
theorem k11_0 (hL : Laws E) : LamB E Lm11_0 1 (rf Go.Proofs.Tryd.f11 0).2.2.2 := (LamOK.of (m := 1) (by kernel_rfl) (fun j hj σ e σ' hg => by
      match j, hj with
      | 0, _ => exact (show (loopAt (rf Go.Proofs.Tryd.f11 0).2.2.2 0).getD .skip = lb Go.Proofs.Tryd.f11 1 from by kernel_rfl) ▸ ll11_1 hL σ e σ' hg
      ))
theorem ra11_0 (hL : Laws E)  {x x' : (List UInt8)} {elems : List (List (Int × Int))} {e : Ex} (hi : iterR (t11_0 ) x elems = some (e, x')) : RdOK E 44 (rf Go.Proofs.Tryd.f11 0).1 (rf Go.Proofs.Tryd.f11 0).2.1 (rf Go.Proofs.Tryd.f11 0).2.2.1 (rf Go.Proofs.Tryd.f11 0).2.2.2 [3] (ar11_0 ) (ob11_0 x) (elems.map fun a => [.lf (.sl .pair a)]) e (ob11_0 x') :=
  RdOK.of (m := 1) hL (hG11 hL) (LamOK.none (by kernel_rfl)).1 (k11_0 hL).1 (by kernel_rfl) (k11_0 hL).2 (fun _ => rfl) (by decide) (fun _ => rfl) rfl rfl (fun _ => by kernel_rfl) (h11_0 ) hi
theorem sp11_0 (hL : Laws E) : SpecR E 44 (rf Go.Proofs.Tryd.f11 0).1 (rf Go.Proofs.Tryd.f11 0).2.1 (rf Go.Proofs.Tryd.f11 0).2.2.1 (rf Go.Proofs.Tryd.f11 0).2.2.2 [3] R11_0 := by
  intro g caps cobs args os e os' h
  unfold R11_0 at h
  split at h
  · rename_i q t2 n xs
    have h' := Tree.get_ite_some h
    clear h
    rcases h' with ⟨h1, h⟩ | ⟨_, h⟩
    · simp only [eqI_eq, Bool.and_eq_true, decide_eq_true_eq] at h1
      obtain ⟨⟨rfl, h2⟩, h3⟩ := h1
      injection h with h; injection h with h4 h5
      subst h4; subst h5
      exact ⟨_, chunk_it (N := 100) (by omega) (by omega) (Nat.le_trans h2 (by decide)), ra11_0 hL (x := xs) (rows11 xs q h2 h3)⟩
    · cases h
  · cases h
theorem ll11_0 (hL : Laws E) (σ : St E.A) (e : Ex) (σ' : St E.A) (h : (rd11_0 σ).get = some (e, σ')) : RangeOK E (rf Go.Proofs.Tryd.f11 0).1 (rf Go.Proofs.Tryd.f11 0).2.1 (rf Go.Proofs.Tryd.f11 0).2.2.1 (rf Go.Proofs.Tryd.f11 0).2.2.2 σ e σ' := by
  unfold rd11_0 at h
  split at h
  · rename_i hn; exact range_ok hL (sp11_0 hL) hn h
  · cases h
noncomputable def Lam11 : Lam E
  | 0, σ => rd11_0 σ
  | 1, σ => rd11_1 σ
  | _, _ => .fail
noncomputable def w11 (a0 : List (Int × Int)) : Tree (RV E.A × List (Obj E.A)) :=
 .ite (decide (a0.length ≤ (1000000000 : Nat)))
 (.ite (!Px.right a0)
  (.leaf (.lf (.sl .u8 []), []))
  (.ite (eqI (100 : Int) (100 : Int) && decide (a0.length ≤ (1000000 : Nat)) && decide (([] ++ [(98 : UInt8), (101 : UInt8), (103 : UInt8), (105 : UInt8), (110 : UInt8), (99 : UInt8), (109 : UInt8), (97 : UInt8), (112 : UInt8), (10 : UInt8), (49 : UInt8), (32 : UInt8), (98 : UInt8), (101 : UInt8), (103 : UInt8), (105 : UInt8), (110 : UInt8), (99 : UInt8), (111 : UInt8), (100 : UInt8), (101 : UInt8), (115 : UInt8), (112 : UInt8), (97 : UInt8), (99 : UInt8), (101 : UInt8), (114 : UInt8), (97 : UInt8), (110 : UInt8), (103 : UInt8), (101 : UInt8), (10 : UInt8), (60 : UInt8), (48 : UInt8), (48 : UInt8), (48 : UInt8), (48 : UInt8), (62 : UInt8), (32 : UInt8), (60 : UInt8), (102 : UInt8), (102 : UInt8), (102 : UInt8), (102 : UInt8), (62 : UInt8), (10 : UInt8), (101 : UInt8), (110 : UInt8), (100 : UInt8), (99 : UInt8), (111 : UInt8), (100 : UInt8), (101 : UInt8), (115 : UInt8), (112 : UInt8), (97 : UInt8), (99 : UInt8), (101 : UInt8), (114 : UInt8), (97 : UInt8), (110 : UInt8), (103 : UInt8), (101 : UInt8), (10 : UInt8)]).length ≤ (1000 : Nat)))
   (.ite (decide (((Px.addRows ([] ++ [(98 : UInt8), (101 : UInt8), (103 : UInt8), (105 : UInt8), (110 : UInt8), (99 : UInt8), (109 : UInt8), (97 : UInt8), (112 : UInt8), (10 : UInt8), (49 : UInt8), (32 : UInt8), (98 : UInt8), (101 : UInt8), (103 : UInt8), (105 : UInt8), (110 : UInt8), (99 : UInt8), (111 : UInt8), (100 : UInt8), (101 : UInt8), (115 : UInt8), (112 : UInt8), (97 : UInt8), (99 : UInt8), (101 : UInt8), (114 : UInt8), (97 : UInt8), (110 : UInt8), (103 : UInt8), (101 : UInt8), (10 : UInt8), (60 : UInt8), (48 : UInt8), (48 : UInt8), (48 : UInt8), (48 : UInt8), (62 : UInt8), (32 : UInt8), (60 : UInt8), (102 : UInt8), (102 : UInt8), (102 : UInt8), (102 : UInt8), (62 : UInt8), (10 : UInt8), (101 : UInt8), (110 : UInt8), (100 : UInt8), (99 : UInt8), (111 : UInt8), (100 : UInt8), (101 : UInt8), (115 : UInt8), (112 : UInt8), (97 : UInt8), (99 : UInt8), (101 : UInt8), (114 : UInt8), (97 : UInt8), (110 : UInt8), (103 : UInt8), (101 : UInt8), (10 : UInt8)]) a0).length + [(101 : UInt8), (110 : UInt8), (100 : UInt8), (99 : UInt8), (109 : UInt8), (97 : UInt8), (112 : UInt8), (10 : UInt8)].length) * (1 : Nat) ≤ (140737488355328 : Nat)))
    (.ite (eqI (↑(Px.addRows ([] ++ [(98 : UInt8), (101 : UInt8), (103 : UInt8), (105 : UInt8), (110 : UInt8), (99 : UInt8), (109 : UInt8), (97 : UInt8), (112 : UInt8), (10 : UInt8), (49 : UInt8), (32 : UInt8), (98 : UInt8), (101 : UInt8), (103 : UInt8), (105 : UInt8), (110 : UInt8), (99 : UInt8), (111 : UInt8), (100 : UInt8), (101 : UInt8), (115 : UInt8), (112 : UInt8), (97 : UInt8), (99 : UInt8), (101 : UInt8), (114 : UInt8), (97 : UInt8), (110 : UInt8), (103 : UInt8), (101 : UInt8), (10 : UInt8), (60 : UInt8), (48 : UInt8), (48 : UInt8), (48 : UInt8), (48 : UInt8), (62 : UInt8), (32 : UInt8), (60 : UInt8), (102 : UInt8), (102 : UInt8), (102 : UInt8), (102 : UInt8), (62 : UInt8), (10 : UInt8), (101 : UInt8), (110 : UInt8), (100 : UInt8), (99 : UInt8), (111 : UInt8), (100 : UInt8), (101 : UInt8), (115 : UInt8), (112 : UInt8), (97 : UInt8), (99 : UInt8), (101 : UInt8), (114 : UInt8), (97 : UInt8), (110 : UInt8), (103 : UInt8), (101 : UInt8), (10 : UInt8)]) a0 ++ [(101 : UInt8), (110 : UInt8), (100 : UInt8), (99 : UInt8), (109 : UInt8), (97 : UInt8), (112 : UInt8), (10 : UInt8)]).length : Int) (↑(Px.addRows ([] ++ [(98 : UInt8), (101 : UInt8), (103 : UInt8), (105 : UInt8), (110 : UInt8), (99 : UInt8), (109 : UInt8), (97 : UInt8), (112 : UInt8), (10 : UInt8), (49 : UInt8), (32 : UInt8), (98 : UInt8), (101 : UInt8), (103 : UInt8), (105 : UInt8), (110 : UInt8), (99 : UInt8), (111 : UInt8), (100 : UInt8), (101 : UInt8), (115 : UInt8), (112 : UInt8), (97 : UInt8), (99 : UInt8), (101 : UInt8), (114 : UInt8), (97 : UInt8), (110 : UInt8), (103 : UInt8), (101 : UInt8), (10 : UInt8), (60 : UInt8), (48 : UInt8), (48 : UInt8), (48 : UInt8), (48 : UInt8), (62 : UInt8), (32 : UInt8), (60 : UInt8), (102 : UInt8), (102 : UInt8), (102 : UInt8), (102 : UInt8), (62 : UInt8), (10 : UInt8), (101 : UInt8), (110 : UInt8), (100 : UInt8), (99 : UInt8), (111 : UInt8), (100 : UInt8), (101 : UInt8), (115 : UInt8), (112 : UInt8), (97 : UInt8), (99 : UInt8), (101 : UInt8), (114 : UInt8), (97 : UInt8), (110 : UInt8), (103 : UInt8), (101 : UInt8), (10 : UInt8)]) a0 ++ [(101 : UInt8), (110 : UInt8), (100 : UInt8), (99 : UInt8), (109 : UInt8), (97 : UInt8), (112 : UInt8), (10 : UInt8)]).length : Int))
     (.leaf (.lf (.sl .u8 (Px.addRows ([] ++ [(98 : UInt8), (101 : UInt8), (103 : UInt8), (105 : UInt8), (110 : UInt8), (99 : UInt8), (109 : UInt8), (97 : UInt8), (112 : UInt8), (10 : UInt8), (49 : UInt8), (32 : UInt8), (98 : UInt8), (101 : UInt8), (103 : UInt8), (105 : UInt8), (110 : UInt8), (99 : UInt8), (111 : UInt8), (100 : UInt8), (101 : UInt8), (115 : UInt8), (112 : UInt8), (97 : UInt8), (99 : UInt8), (101 : UInt8), (114 : UInt8), (97 : UInt8), (110 : UInt8), (103 : UInt8), (101 : UInt8), (10 : UInt8), (60 : UInt8), (48 : UInt8), (48 : UInt8), (48 : UInt8), (48 : UInt8), (62 : UInt8), (32 : UInt8), (60 : UInt8), (102 : UInt8), (102 : UInt8), (102 : UInt8), (102 : UInt8), (62 : UInt8), (10 : UInt8), (101 : UInt8), (110 : UInt8), (100 : UInt8), (99 : UInt8), (111 : UInt8), (100 : UInt8), (101 : UInt8), (115 : UInt8), (112 : UInt8), (97 : UInt8), (99 : UInt8), (101 : UInt8), (114 : UInt8), (97 : UInt8), (110 : UInt8), (103 : UInt8), (101 : UInt8), (10 : UInt8)]) a0 ++ [(101 : UInt8), (110 : UInt8), (100 : UInt8), (99 : UInt8), (109 : UInt8), (97 : UInt8), (112 : UInt8), (10 : UInt8)])), []))
     (.fail))
    (.fail))
   (.fail)))
 (.fail)
theorem e11 (a0 : List (Int × Int)) : execFun E G11 ((Lam11)) false Go.Proofs.Tryd.f11 [.lf (.sl .pair a0)] [] some = (w11 a0).get := by kernel_rfl
noncomputable def raw11 : Spec E := fun args os => match args, os with
  | [.lf (.sl .pair a0)], [] => w11 a0
  | _, _ => .fail
theorem validraw11 (hL : Laws E) : Valid E 11 raw11 :=
  valid_of_bodyR hL (hG11 hL) (Λ := (Lam11)) (fn := Go.Proofs.Tryd.f11) (keep := false) (by kernel_rfl) (by kernel_rfl) (by kernel_rfl) ((LamR.of (m := 2) (by kernel_rfl) (fun j hj => by
      match j, hj with
      | 0, _ => exact .inr ⟨by kernel_rfl, fun σ e σ' hg => ll11_0 hL σ e σ' hg⟩
      | 1, _ => exact .inl ⟨by kernel_rfl, fun σ e σ' hg => ll11_1 hL σ e σ' hg⟩
      ))) (fun args os r os' h => by
    unfold raw11 at h
    split at h
    · exact (e11 _).trans h
    · cases h)
end Go.Vx
namespace Px
def wFront : List UInt8 := [98, 101, 103, 105, 110, 99, 109, 97, 112, 10, 49, 32, 98, 101, 103, 105, 110, 99, 111, 100, 101, 115, 112, 97, 99, 101, 114, 97, 110, 103, 101, 10, 60, 48, 48, 48, 48, 62, 32, 60, 102, 102, 102, 102, 62, 10, 101, 110, 100, 99, 111, 100, 101, 115, 112, 97, 99, 101, 114, 97, 110, 103, 101, 10]
def wBack : List UInt8 := [101, 110, 100, 99, 109, 97, 112, 10]
/-- a table -/
noncomputable def build (l : List (Int × Int)) : List UInt8 := cond (right l) (addRows wFront l ++ wBack) []
noncomputable def build' : List (Int × Int) → List UInt8 := (Classical.choice (sealed build)).1
theorem build'_eq : build' = build := (Classical.choice (sealed build)).2
end Px
namespace Go.Vx
open Go
theorem rowsAll_len : ∀ (l : List (List (Int × Int))), (∀ a ∈ l, a.length ≤ 100) → (l.flatMap Px.rowText).length ≤ 2000 * l.length
  | [], _ => Nat.le_refl _
  | a :: l, h => by
    have h1 := h a (List.mem_cons_self ..)
    have h2 := rowText_len a
    have h3 := rowsAll_len l (fun b hb => h b (List.mem_cons_of_mem _ hb))
    rw [List.flatMap_cons, List.length_append, List.length_cons]; omega
theorem addRows_len (xs : List UInt8) (l : List (Int × Int)) : (Px.addRows xs l).length ≤ xs.length + 2000 * ((l.length + 99) / 100) := by
  have hc := chunks_len 100 l
  have := rowsAll_len (chunks 100 l) hc.1
  rw [hc.2] at this
  unfold Px.addRows
  rw [List.length_append]
  exact Nat.add_le_add_left this _
theorem eq11 (l : List (Int × Int)) (hl : l.length ≤ 1000000) : (w11 l).get = some (.lf (.sl .u8 (Px.build l)), []) := by
  unfold w11 Px.build
  have hlen := addRows_len Px.wFront l
  have hf : Px.wFront.length = 64 := rfl
  rw [Tree.get_ite, decide_eq_true (by omega), cond_true]
  cases hr : Px.right l with
  | false => rfl
  | true =>
    have c1 : (eqI (100 : Int) 100 && decide (l.length ≤ 1000000) && true) = true := by simp [eqI_eq]; exact hl
    have hne : 0 < (Px.addRows Px.wFront l ++ Px.wBack).length := by rw [List.length_append]; exact Nat.lt_of_lt_of_le (by decide : 0 < Px.wBack.length) (Nat.le_add_left _ _)
    have c2 : decide (((Px.addRows Px.wFront l).length + Px.wBack.length) * 1 ≤ 140737488355328) = true := decide_eq_true (by have : Px.wBack.length = 8 := rfl; omega)
    have c3 : eqI ((Px.addRows Px.wFront l ++ Px.wBack).length : Int) ((Px.addRows Px.wFront l ++ Px.wBack).length : Int) = true := by rw [eqI_eq]; exact decide_eq_true rfl
    rw [Tree.get_ite, Bool.not_true, cond_false, Tree.get_ite]
    show cond (eqI (100 : Int) 100 && decide (l.length ≤ 1000000) && true) _ _ = _
    rw [c1, cond_true]
    show cond (decide (((Px.addRows Px.wFront l).length + Px.wBack.length) * 1 ≤ 140737488355328)) _ _ = _
    rw [c2, cond_true]
    show cond (eqI ((Px.addRows Px.wFront l ++ Px.wBack).length : Int) ((Px.addRows Px.wFront l ++ Px.wBack).length : Int)) _ _ = _
    rw [c3]
    rfl
noncomputable def spec11 : Spec E := fun args os => match args, os with
  | [.lf (.sl .pair l)], [] => .ite (decide (l.length ≤ 1000000)) (.leaf (.lf (.sl .u8 (Px.build' l)), [])) .fail
  | _, _ => .fail
theorem valid11 (hL : Laws E) : Valid E 11 spec11 := (validraw11 hL).less (fun args os x _ _ h => by
  unfold spec11 at h
  split at h
  · rcases Tree.get_ite_some h with ⟨h1, h⟩ | ⟨_, h⟩
    · exact (eq11 _ (of_decide_eq_true h1)).trans (by rw [← Px.build'_eq]; exact h)
    · cases h
  · cases h)
end Go.Vx
namespace Go.Vx
open Go
/-- internal/bytealg.IndexByteString -/
def spec73 : Spec E := fun args os => match args with
  | [.lf (.str s), .lf (.int .u8 c)] => .leaf (.lf (.int .i64 (Lib.indexByte s (UInt8.ofNat c.toNat))), os)
  | _ => .fail
theorem indexByte_le (c : UInt8) : ∀ l : List UInt8, -1 ≤ Lib.indexByte l c ∧ Lib.indexByte l c < (l.length : Int)
  | [] => ⟨Int.le_refl _, show (-1 : Int) < 0 by decide⟩
  | b :: l => by
    have ih := indexByte_le c l
    simp only [Lib.indexByte, List.length_cons]
    split
    · omega
    · split
      · omega
      · omega
theorem indexByte_in {l : List UInt8} {c : UInt8} (h : l.length ≤ big) : inRb .i64 (Lib.indexByte l c) = true := by
  have := indexByte_le c l
  unfold big at h
  rw [inRb_iff]
  simp [IntKind.min, IntKind.max, IntKind.signed, IntKind.bits]
  omega
theorem valid73 (_ : Laws E) : Valid E 73 spec73 :=
  valid_extern (fn := Go.Proofs.Tryd.f73) (e := Extern.BytealgIndexByte.indexByte) (by kernel_rfl) (by kernel_rfl) (by kernel_rfl) (by kernel_rfl) (by kernel_rfl) (fun args os r os' h => by
    unfold spec73 at h
    split at h
    · injection h with h; injection h with h1 h2
      subst h1; subst h2
      refine ⟨rfl, fun G w vals ha => ?_⟩
      obtain ⟨v, u, rfl, hv, hu⟩ := arel_two ha
      obtain ⟨ba, rfl, rfl, hsz⟩ := hv.str_inv
      obtain ⟨rfl, _⟩ := hu.int_inv
      exact ⟨_, Lib.run_indexByteString ba _ w, .lf (.int (indexByte_in hsz))⟩
    · cases h)
end Go.Vx
namespace Go.Vx
open Go
noncomputable def G72 : FuncId → Option (Spec E)
  | 73 => some spec73
  | _ => none
theorem hG72 (hL : Laws E) : ∀ f spec, G72 f = some spec → Valid E f spec := by
  intro f spec h
  unfold G72 at h
  split at h
  · injection h with h; subst h; exact valid73 hL
  · cases h
noncomputable def w72 (a0 : List UInt8) (a1 : Int) : Tree (RV E.A × List (Obj E.A)) :=
 .leaf (.lf (.int .i64 (Go.Lib.indexByte a0 (UInt8.ofNat a1.toNat))), [])
theorem e72 (a0 : List UInt8) (a1 : Int) : execFun E G72 (fun _ _ => .fail) false Go.Proofs.Tryd.f72 [.lf (.str a0), .lf (.int .u8 a1)] [] some = (w72 a0 a1).get := by kernel_rfl
noncomputable def spec72 : Spec E := fun args os => match args, os with
  | [.lf (.str a0), .lf (.int .u8 a1)], [] => w72 a0 a1
  | _, _ => .fail
theorem valid72 (hL : Laws E) : Valid E 72 spec72 :=
  valid_of_body hL (hG72 hL) (Λ := fun _ _ => .fail) (fn := Go.Proofs.Tryd.f72) (keep := false) (by kernel_rfl) (by kernel_rfl) (by kernel_rfl) (LamOK.none (by kernel_rfl)) (fun args os r os' h => by
    unfold spec72 at h
    split at h
    · exact (e72 _ _).trans h
    · cases h)
end Go.Vx
namespace Go.Vx
open Go
noncomputable def G63 : FuncId → Option (Spec E)
  | 72 => some spec72
  | _ => none
theorem hG63 (hL : Laws E) : ∀ f spec, G63 f = some spec → Valid E f spec := by
  intro f spec h
  unfold G63 at h
  split at h
  · injection h with h; subst h; exact valid72 hL
  · cases h
noncomputable def w63 (a0 : List UInt8) (a1 : Int) : Tree (RV E.A × List (Obj E.A)) :=
 .leaf (.lf (.int .i64 (Go.Lib.indexByte a0 (UInt8.ofNat a1.toNat))), [])
theorem e63 (a0 : List UInt8) (a1 : Int) : execFun E G63 (fun _ _ => .fail) false Go.Proofs.Tryd.f63 [.lf (.str a0), .lf (.int .u8 a1)] [] some = (w63 a0 a1).get := by kernel_rfl
noncomputable def spec63 : Spec E := fun args os => match args, os with
  | [.lf (.str a0), .lf (.int .u8 a1)], [] => w63 a0 a1
  | _, _ => .fail
theorem valid63 (hL : Laws E) : Valid E 63 spec63 :=
  valid_of_body hL (hG63 hL) (Λ := fun _ _ => .fail) (fn := Go.Proofs.Tryd.f63) (keep := false) (by kernel_rfl) (by kernel_rfl) (by kernel_rfl) (LamOK.none (by kernel_rfl)) (fun args os r os' h => by
    unfold spec63 at h
    split at h
    · exact (e63 _ _).trans h
    · cases h)
end Go.Vx
namespace Go.Vx
open Go
noncomputable def G59 : FuncId → Option (Spec E)
  | 63 => some spec63
  | _ => none
theorem hG59 (hL : Laws E) : ∀ f spec, G59 f = some spec → Valid E f spec := by
  intro f spec h
  unfold G59 at h
  split at h
  · injection h with h; subst h; exact valid63 hL
  · cases h
noncomputable def w59 (a0 : List UInt8) (a1 : Int) (a2 : List UInt8) : Tree (RV E.A × List (Obj E.A)) :=
 .ite (ltI a1 (↑a0.length : Int))
 (.ite (inB a1 a0.length)
  (.leaf (.lf (.bool (leI (0 : Int) (Go.Lib.indexByte a2 (UInt8.ofNat (↑(a0.getD a1.toNat (0 : UInt8)).toNat : Int).toNat)))), []))
  (.fail))
 (.leaf (.lf (.bool false), []))
theorem e59 (a0 : List UInt8) (a1 : Int) (a2 : List UInt8) : execFun E G59 (fun _ _ => .fail) false Go.Proofs.Tryd.f59 [.lf (.sl .u8 a0), .lf (.int .i64 a1), .lf (.str a2)] [] some = (w59 a0 a1 a2).get := by kernel_rfl
noncomputable def spec59 : Spec E := fun args os => match args, os with
  | [.lf (.sl .u8 a0), .lf (.int .i64 a1), .lf (.str a2)], [] => w59 a0 a1 a2
  | _, _ => .fail
theorem valid59 (hL : Laws E) : Valid E 59 spec59 :=
  valid_of_body hL (hG59 hL) (Λ := fun _ _ => .fail) (fn := Go.Proofs.Tryd.f59) (keep := false) (by kernel_rfl) (by kernel_rfl) (by kernel_rfl) (LamOK.none (by kernel_rfl)) (fun args os r os' h => by
    unfold spec59 at h
    split at h
    · exact (e59 _ _ _).trans h
    · cases h)
end Go.Vx
namespace Go.Vx
open Go
noncomputable def G51 : FuncId → Option (Spec E)
  | 59 => some spec59
  | _ => none
theorem hG51 (hL : Laws E) : ∀ f spec, G51 f = some spec → Valid E f spec := by
  intro f spec h
  unfold G51 at h
  split at h
  · injection h with h; subst h; exact valid59 hL
  · cases h
def L51_0 : Ex → Live
  | .normal => ⟨[0, 1, 5], []⟩
  | .exit 0 => ⟨[1], []⟩
  | .ret => ⟨[4], []⟩
  | _ => ⟨[], []⟩
noncomputable def S51_0 (p0 : List UInt8) (x : Int × Bool) : St E.A := at' E 41 [(0, .lf (.sl .u8 p0)), (1, .lf (.int .i64 x.1)), (5, .lf (.bool x.2))] []
noncomputable def t51_0 (p0 : List UInt8) (x : Int × Bool) : Tree (Int × Bool ⊕ Out' E) :=
 .ite (ltI x.fst (↑p0.length : Int))
 (.ite x.snd
  (.ite (ltI x.fst (↑p0.length : Int))
   (.ite (inB x.fst p0.length)
    (.leaf (.inl ((IntKind.i64.wrap (x.fst + (1 : Int))), (!leI (0 : Int) (Go.Lib.indexByte [(10 : UInt8), (13 : UInt8)] (UInt8.ofNat (↑(p0.getD x.fst.toNat (0 : UInt8)).toNat : Int).toNat))))))
    (.fail))
   (.leaf (.inl ((IntKind.i64.wrap (x.fst + (1 : Int))), !false))))
  (.ite (inB x.fst p0.length)
   (.ite (eqI (↑(p0.getD x.fst.toNat (0 : UInt8)).toNat : Int) (37 : Int))
    (.leaf (.inl ((IntKind.i64.wrap (x.fst + (1 : Int))), true)))
    (.ite (ltI x.fst (↑p0.length : Int))
     (.ite (inB x.fst p0.length)
      (.ite (!leI (0 : Int) (Go.Lib.indexByte [(0 : UInt8), (9 : UInt8), (10 : UInt8), (12 : UInt8), (13 : UInt8), (32 : UInt8)] (UInt8.ofNat (↑(p0.getD x.fst.toNat (0 : UInt8)).toNat : Int).toNat)))
       (.leaf (.inr (.ret, at' E 41 [(4, .lf (.int .i64 x.fst))] [])))
       (.leaf (.inl ((IntKind.i64.wrap (x.fst + (1 : Int))), x.snd))))
      (.fail))
     (.leaf (.inr (.ret, at' E 41 [(4, .lf (.int .i64 x.fst))] [])))))
   (.fail)))
 (.leaf (.inr (.exit 0, at' E 41 [(1, .lf (.int .i64 x.fst))] [])))
theorem h51_0 (p0 : List UInt8) (x : Int × Bool) (k : Ex → St E.A → Option Unit) :
    exec E G51 (fun _ _ => .fail) 1 (lb Go.Proofs.Tryd.f51 0) (S51_0 p0 x) (fun e σ1 => k e (clean E (L51_0 e) σ1)) = (t51_0 p0 x).run (Sum.elim (fun x' => k .normal (S51_0 p0 x')) (fun o => k o.1 o.2)) := by kernel_rfl
noncomputable def lam51_0 (p0 : List UInt8) (x : Int × Bool) : Tree (Out' E) :=
  .ite (leI 0 x.1 && leI x.1 p0.length) (.ite (ltI (x.1 + (Px.skipN x.2 (p0.drop x.1.toNat) : Int)) p0.length)
    (.leaf (.ret, at' E 41 [(4, .lf (.int .i64 (x.1 + (Px.skipN x.2 (p0.drop x.1.toNat) : Int))))] []))
    (.leaf (.exit 0, at' E 41 [(1, .lf (.int .i64 (x.1 + (Px.skipN x.2 (p0.drop x.1.toNat) : Int))))] []))) .fail
/-- one byte of it -/
def step51 {O : Type} (f : Int → O) (i : Nat) (c : Bool) (b : UInt8) : Bool ⊕ O :=
  cond c (.inl (!Px.nl b)) (cond (eqI (b.toNat : Int) 37) (.inl true) (cond (Px.blank (b.toNat : Int)) (.inl false) (.inr (f (i : Int)))))
theorem run51 {O : Type} (f g : Int → O) (n : Nat) : ∀ (l : List UInt8) (i : Nat) (c : Bool), i + l.length = n →
    rangeRun (step51 f) (fun _ => g (n : Int)) i c l = cond (ltI ((i + Px.skipN c l : Nat) : Int) (n : Int)) (f ((i + Px.skipN c l : Nat) : Int)) (g ((i + Px.skipN c l : Nat) : Int))
  | [], i, c, h => by
    have e : Px.skipN c [] = 0 := by cases c <;> rfl
    simp only [List.length_nil, Nat.add_zero] at h
    subst h
    rw [e, Nat.add_zero, ltI_self]; rfl
  | b :: l, i, c, h => by
    have ih := fun c => run51 f g n l (i + 1) c (by simp at h; omega)
    simp only [rangeRun, step51]
    cases c with
    | true =>
      simp only [cond_true, Px.skipN]
      rw [ih, show i + (Px.skipN (!Px.nl b) l + 1) = i + 1 + Px.skipN (!Px.nl b) l by omega]
    | false =>
      simp only [cond_false, Px.skipN]
      cases eqI (b.toNat : Int) 37 with
      | true =>
        simp only [cond_true]
        rw [ih, show i + (Px.skipN true l + 1) = i + 1 + Px.skipN true l by omega]
      | false =>
        cases Px.blank (b.toNat : Int) with
        | true =>
          simp only [cond_true, cond_false]
          rw [ih, show i + (Px.skipN false l + 1) = i + 1 + Px.skipN false l by omega]
        | false =>
          simp only [cond_false, Nat.add_zero]
          have : i < n := by simp at h; omega
          rw [ltI_nat this]; rfl
theorem m51_0 {p0 : List UInt8} {x : Int × Bool} {e : Ex} {σ : St E.A} (g : okLenR (E := E) (.lf (.sl .u8 p0)) = true)
    (h : (lam51_0 p0 x).get = some (e, σ)) : ∃ fuel, iter (t51_0 p0) fuel x = some (e, σ) ∧ e ≠ .normal := by
  have hb : p0.length ≤ big := of_decide_eq_true g
  obtain ⟨i, c⟩ := x
  unfold lam51_0 at h
  have h' := Tree.get_ite_some h
  clear h
  rcases h' with ⟨h1, h⟩ | ⟨_, h⟩
  · simp only [leI_eq, Bool.and_eq_true, decide_eq_true_eq] at h1
    obtain ⟨i, rfl⟩ : ∃ j : Nat, i = (j : Int) := ⟨i.toNat, by omega⟩
    have key := range_iter (t := t51_0 p0) (l := p0) (0 : UInt8) (fun (c : Bool) i => (i, c)) (step51 (fun j => (Ex.ret, at' E 41 [(4, .lf (.int .i64 j))] [])))
      (fun _ => (Ex.exit 0, at' E 41 [(1, .lf (.int .i64 (p0.length : Int)))] [])) (fun _ _ => True)
      (fun i c hi _ => ⟨by
        simp only [t51_0, Tree.get_ite, Tree.get_leaf, ltI_nat hi, inB_nat hi, cond_true, i64_succ hi hb, Int.toNat_natCast, UInt8.ofNat_toNat, nl_any, blank_any, step51]
        cases c <;> cases eqI ((p0.getD i 0).toNat : Int) 37 <;> cases Px.blank ((p0.getD i 0).toNat : Int) <;> rfl, fun _ _ => trivial⟩)
      (fun a _ => by simp only [t51_0, Tree.get_ite, Tree.get_leaf, ltI_self, cond_false])
      (p0.length - i) i c (by omega) trivial
    rw [run51 (fun j => (Ex.ret, at' E 41 [(4, .lf (.int .i64 j))] [])) (fun j => (Ex.exit 0, at' E 41 [(1, .lf (.int .i64 j))] [])) p0.length _ _ _ (by simp; omega)] at key
    rw [Tree.get_ite, Tree.get_leaf, Tree.get_leaf] at h
    simp only [Int.toNat_natCast, ← Int.natCast_add] at h
    refine ⟨_, key.trans ?_, ?_⟩
    · rw [← h]; cases ltI ((i + Px.skipN c (p0.drop i) : Nat) : Int) (p0.length : Int) <;> rfl
    · cases hd : ltI ((i + Px.skipN c (p0.drop i) : Nat) : Int) (p0.length : Int) <;> rw [hd] at h <;> (injection h with h; injection h with h1 _; rw [← h1]; intro hh; cases hh)
  · cases h
noncomputable def rd51_0 (σ : St E.A) : Tree (Out' E) :=
  let c := clean E (L51_0 .normal) σ
  if c.sl.length = 41 then
  match c.sl.getD 0 .undef, c.sl.getD 1 .undef, c.sl.getD 5 .undef with
  | .lf (.sl .u8 p0), .lf (.int .i64 x1), .lf (.bool x5) => lam51_0 p0 (x1, x5)
  | _, _, _ => .fail
  else .fail
theorem ll51_0 (hL : Laws E) (σ : St E.A) (e : Ex) (σ' : St E.A) (h : (rd51_0 σ).get = some (e, σ')) : LoopOK E (lb Go.Proofs.Tryd.f51 0) σ e σ' := by
  refine LoopOK.of_clean hL (L51_0 .normal) ?_
  unfold rd51_0 at h
  simp only at h
  split at h
  · rename_i hlen
    split at h
    · rename_i p0 x1 x5 h0 h1 h2
      refine LoopOK.lens 0 (fun g0 => ?_)
      rw [h0] at g0
      obtain ⟨fuel, hi, ho⟩ := m51_0 g0 h
      have hl := loop_at (Γ := G51) (Λ := fun _ _ => .fail) (n := 1) (body := lb Go.Proofs.Tryd.f51 0) hL (hG51 hL) (S := S51_0 p0) (t := t51_0 p0) (Lv := L51_0) (LamOK.none (by kernel_rfl)) (h51_0 p0) hi ho
      refine LoopOK.fit hlen ?_ ?_ rfl rfl hl
      · exact ⟨h0, h1, h2, trivial⟩
      · exact trivial
    · cases h
  · cases h
noncomputable def Lam51 : Lam E
  | 0, σ => rd51_0 σ
  | _, _ => .fail
noncomputable def w51 (a0 : List UInt8) (a1 : Int) : Tree (RV E.A × List (Obj E.A)) :=
 .ite (ltI a1 (0 : Int))
 (.leaf (.lf (.int .i64 ((↑a0.length : Int))), []))
 (.ite (ltI (↑a0.length : Int) a1)
  (.leaf (.lf (.int .i64 ((↑a0.length : Int))), []))
  (.ite (leI (0 : Int) a1 && leI a1 (↑a0.length : Int))
   (.ite (ltI (a1 + (↑(Px.skipN false (List.drop a1.toNat a0)) : Int)) (↑a0.length : Int))
    (.leaf (.lf (.int .i64 (a1 + (↑(Px.skipN false (List.drop a1.toNat a0)) : Int))), []))
    (.leaf (.lf (.int .i64 (a1 + (↑(Px.skipN false (List.drop a1.toNat a0)) : Int))), [])))
   (.fail)))
theorem e51 (a0 : List UInt8) (a1 : Int) : execFun E G51 ((Lam51)) false Go.Proofs.Tryd.f51 [.lf (.sl .u8 a0), .lf (.int .i64 a1)] [] some = (w51 a0 a1).get := by kernel_rfl
noncomputable def raw51 : Spec E := fun args os => match args, os with
  | [.lf (.sl .u8 a0), .lf (.int .i64 a1)], [] => w51 a0 a1
  | _, _ => .fail
theorem validraw51 (hL : Laws E) : Valid E 51 raw51 :=
  valid_of_body hL (hG51 hL) (Λ := (Lam51)) (fn := Go.Proofs.Tryd.f51) (keep := false) (by kernel_rfl) (by kernel_rfl) (by kernel_rfl) ((LamOK.of (m := 1) (by kernel_rfl) (fun j hj σ e σ' hg => by
      match j, hj with
      | 0, _ => exact ll51_0 hL σ e σ' hg
      ))) (fun args os r os' h => by
    unfold raw51 at h
    split at h
    · exact (e51 _ _).trans h
    · cases h)
theorem eq51 (p : List UInt8) (i : Nat) (hi : i ≤ p.length) : (w51 p (i : Int)).get = some (.lf (.int .i64 ((i + Px.skipN false (p.drop i) : Nat) : Int)), []) := by
  have e0 : ltI (i : Int) 0 = false := by rw [ltI_eq]; exact decide_eq_false (by omega)
  have e1 : ltI (p.length : Int) (i : Int) = false := by rw [ltI_eq]; exact decide_eq_false (by omega)
  have h1 : (leI 0 (i : Int) && leI (i : Int) p.length) = true := by simp only [leI_eq, Bool.and_eq_true, decide_eq_true_eq]; omega
  unfold w51
  simp only [Tree.get_ite, Tree.get_leaf, e0, e1, h1, cond_true, cond_false, Int.toNat_natCast, Int.natCast_add]
  cases ltI ((i : Int) + (Px.skipN false (p.drop i) : Int)) (p.length : Int) <;> rfl
noncomputable def spec51 : Spec E := fun args os => match args, os with
  | [.lf (.sl .u8 p), .lf (.int .i64 i)], [] => .ite (leI 0 i && leI i (p.length : Int)) (.leaf (.lf (.int .i64 (i + (Px.skipN false (p.drop i.toNat) : Int))), [])) .fail
  | _, _ => .fail
theorem valid51 (hL : Laws E) : Valid E 51 spec51 := (validraw51 hL).less (fun args os x g1 g2 h => by
  unfold spec51 at h
  split at h
  · rename_i p i
    have h' := Tree.get_ite_some h
    clear h
    rcases h' with ⟨h1, h⟩ | ⟨_, h⟩
    · simp only [leI_eq, Bool.and_eq_true, decide_eq_true_eq] at h1
      obtain ⟨j, rfl⟩ : ∃ j : Nat, i = (j : Int) := ⟨i.toNat, by omega⟩
      rw [Int.toNat_natCast, ← Int.natCast_add] at h
      exact (eq51 p j (Int.ofNat_le.1 h1.2)).trans h
    · cases h
  · cases h)
end Go.Vx
namespace Go.Vx
open Go
noncomputable def G44 : FuncId → Option (Spec E) := fun _ => none
theorem hG44 (hL : Laws E) : ∀ f spec, G44 f = some spec → Valid E f spec := by
  intro f spec h
  cases h
noncomputable def w44 (a0 : List UInt8) (a1 : List UInt8) : Tree (RV E.A × List (Obj E.A)) :=
 .leaf (.lf (.bool (decide (a0 = a1))), [])
theorem e44 (a0 : List UInt8) (a1 : List UInt8) : execFun E G44 (fun _ _ => .fail) false Go.Proofs.Tryd.f44 [.lf (.sl .u8 a0), .lf (.sl .u8 a1)] [] some = (w44 a0 a1).get := by kernel_rfl
noncomputable def spec44 : Spec E := fun args os => match args, os with
  | [.lf (.sl .u8 a0), .lf (.sl .u8 a1)], [] => w44 a0 a1
  | _, _ => .fail
theorem valid44 (hL : Laws E) : Valid E 44 spec44 :=
  valid_of_body hL (hG44 hL) (Λ := fun _ _ => .fail) (fn := Go.Proofs.Tryd.f44) (keep := false) (by kernel_rfl) (by kernel_rfl) (by kernel_rfl) (LamOK.none (by kernel_rfl)) (fun args os r os' h => by
    unfold spec44 at h
    split at h
    · exact (e44 _ _).trans h
    · cases h)
end Go.Vx
namespace Go.Vx
open Go
noncomputable def G60 : FuncId → Option (Spec E)
  | 44 => some spec44
  | _ => none
theorem hG60 (hL : Laws E) : ∀ f spec, G60 f = some spec → Valid E f spec := by
  intro f spec h
  unfold G60 at h
  split at h
  · injection h with h; subst h; exact valid44 hL
  · cases h
noncomputable def w60 (a0 : List UInt8) (a1 : List UInt8) : Tree (RV E.A × List (Obj E.A)) :=
 .ite (leI (↑a1.length : Int) (↑a0.length : Int))
 (.ite (leI (0 : Int) (↑(0 : Nat) : Int) && leI (↑(0 : Nat) : Int) (↑a1.length : Int) && leI (↑a1.length : Int) (↑a0.length : Int))
  (.leaf (.lf (.bool (decide (List.drop (↑(0 : Nat) : Int).toNat (List.take (↑a1.length : Int).toNat a0) = a1))), []))
  (.fail))
 (.leaf (.lf (.bool false), []))
theorem e60 (a0 : List UInt8) (a1 : List UInt8) : execFun E G60 (fun _ _ => .fail) false Go.Proofs.Tryd.f60 [.lf (.sl .u8 a0), .lf (.sl .u8 a1)] [] some = (w60 a0 a1).get := by kernel_rfl
noncomputable def raw60 : Spec E := fun args os => match args, os with
  | [.lf (.sl .u8 a0), .lf (.sl .u8 a1)], [] => w60 a0 a1
  | _, _ => .fail
theorem validraw60 (hL : Laws E) : Valid E 60 raw60 :=
  valid_of_body hL (hG60 hL) (Λ := fun _ _ => .fail) (fn := Go.Proofs.Tryd.f60) (keep := false) (by kernel_rfl) (by kernel_rfl) (by kernel_rfl) (LamOK.none (by kernel_rfl)) (fun args os r os' h => by
    unfold raw60 at h
    split at h
    · exact (e60 _ _).trans h
    · cases h)
theorem eq60 (s p : List UInt8) : (w60 s p).get = some (.lf (.bool (Px.hasPre s p)), []) := by
  unfold w60
  have hl : (leI (p.length : Int) (s.length : Int)) = decide (p.length ≤ s.length) := by rw [leI_eq]; exact decide_eq_decide.2 (by omega)
  rw [Tree.get_ite, hl]
  by_cases h : p.length ≤ s.length
  · have c : (leI (0 : Int) (↑(0 : Nat) : Int) && leI (↑(0 : Nat) : Int) (↑p.length : Int) && true) = true := by
      simp [leI_eq]
    rw [decide_eq_true h, cond_true, Tree.get_ite, c]
    rfl
  · rw [decide_eq_false h, cond_false]
    have : Px.hasPre s p = false := decide_eq_false fun hh => h (by rw [← hh, List.length_take]; omega)
    rw [this]; rfl
noncomputable def spec60 : Spec E := fun args os => match args, os with
  | [.lf (.sl .u8 s), .lf (.sl .u8 p)], [] => .leaf (.lf (.bool (Px.hasPre s p)), [])
  | _, _ => .fail
theorem valid60 (hL : Laws E) : Valid E 60 spec60 := (validraw60 hL).less (fun args os x g1 g2 h => by
  unfold spec60 at h
  split at h
  · exact (eq60 _ _).trans h
  · cases h)
end Go.Vx
namespace Go.Vx
open Go
/-- internal/bytealg.IndexByte -/
def spec71 : Spec E := fun args os => match args with
  | [.lf (.sl .u8 s), .lf (.int .u8 c)] => .leaf (.lf (.int .i64 (Lib.indexByte s (UInt8.ofNat c.toNat))), os)
  | _ => .fail
theorem bytesOf_nat : ∀ s : List UInt8, Lib.bytesOf (s.map fun b => (b.toNat : Int)) = s
  | [] => rfl
  | b :: s => by
    have ih := bytesOf_nat s
    simp only [Lib.bytesOf, List.map_cons, List.map_map] at ih ⊢
    rw [ih]
    congr 1
    simp
theorem valid71 (_ : Laws E) : Valid E 71 spec71 :=
  valid_extern (fn := Go.Proofs.Tryd.f71) (e := Extern.BytealgIndexByte.indexByte) (by kernel_rfl) (by kernel_rfl) (by kernel_rfl) (by kernel_rfl) (by kernel_rfl) (fun args os r os' h => by
    unfold spec71 at h
    split at h
    · rename_i s c
      injection h with h; injection h with h1 h2
      subst h1; subst h2
      refine ⟨rfl, fun G w vals ha => ?_⟩
      obtain ⟨v, u, rfl, hv, hu⟩ := arel_two ha
      obtain ⟨rfl, _⟩ := hu.int_inv
      have hb : s.length ≤ big := by
        have := okLen_ok hv.lf_inv
        exact of_decide_eq_true this
      refine ⟨_, ?_, .lf (.int (indexByte_in hb))⟩
      cases hv.lf_inv with
      | sl0 k a cap _ =>
        cases a with
        | none => exact @Lib.run_indexByteNil E.P w 0 cap c
        | some a =>
          exact @Lib.run_indexByteNil E.P w 0 cap c
      | sl k xs b off cap vals h1 h2 h3 h4 =>
        have := Lib.run_indexByteSlice (P := E.P) (w := w) b off s.length cap (s.map fun b => (b.toNat : Int)) (by simp) (fun i hi => by
          have hx : s[i]? = some s[i] := List.getElem?_eq_getElem hi
          have hc := (h3 i 0 hi (by decide)).1
          have hr := h4 i _ hx 0 _ rfl
          have e1 : (s.map fun b => (b.toNat : Int)).getD i 0 = (s[i].toNat : Int) := by simp [List.getD, hx]
          rw [e1]
          have e2 : off + i * E.sz .u8 + 0 = off + i := by show off + i * 1 + 0 = _; omega
          rw [e2] at hc
          rw [hc]
          generalize vals i 0 = vv at hr
          obtain ⟨rfl, _⟩ := (RRep.lf hr).int_inv
          rfl) c
        exact this.trans (congrArg (fun l => Result.ok (Value.int IntKind.i64 (Lib.indexByte l c.toNat.toUInt8)) w) (bytesOf_nat s))
    · cases h)
end Go.Vx
namespace Go.Vx
open Go
noncomputable def G61 : FuncId → Option (Spec E)
  | 71 => some spec71
  | _ => none
theorem hG61 (hL : Laws E) : ∀ f spec, G61 f = some spec → Valid E f spec := by
  intro f spec h
  unfold G61 at h
  split at h
  · injection h with h; subst h; exact valid71 hL
  · cases h
noncomputable def w61 (a0 : List UInt8) (a1 : Int) : Tree (RV E.A × List (Obj E.A)) :=
 .leaf (.lf (.int .i64 (Go.Lib.indexByte a0 (UInt8.ofNat a1.toNat))), [])
theorem e61 (a0 : List UInt8) (a1 : Int) : execFun E G61 (fun _ _ => .fail) false Go.Proofs.Tryd.f61 [.lf (.sl .u8 a0), .lf (.int .u8 a1)] [] some = (w61 a0 a1).get := by kernel_rfl
noncomputable def spec61 : Spec E := fun args os => match args, os with
  | [.lf (.sl .u8 a0), .lf (.int .u8 a1)], [] => w61 a0 a1
  | _, _ => .fail
theorem valid61 (hL : Laws E) : Valid E 61 spec61 :=
  valid_of_body hL (hG61 hL) (Λ := fun _ _ => .fail) (fn := Go.Proofs.Tryd.f61) (keep := false) (by kernel_rfl) (by kernel_rfl) (by kernel_rfl) (LamOK.none (by kernel_rfl)) (fun args os r os' h => by
    unfold spec61 at h
    split at h
    · exact (e61 _ _).trans h
    · cases h)
end Go.Vx
namespace Go.Vx
open Go
noncomputable def G62 : FuncId → Option (Spec E)
  | 63 => some spec63
  | 1000004 => some (fun _ _ => .fail)
  | _ => none
theorem hG62 (hL : Laws E) : ∀ f spec, G62 f = some spec → Valid E f spec := by
  intro f spec h
  unfold G62 at h
  split at h
  · injection h with h; subst h; exact valid63 hL
  · injection h with h; subst h; exact Valid.never (fun _ _ => rfl)
  · cases h
def L62_0 : Ex → Live
  | .normal => ⟨[4, 5, 9, 10, 11], [320]⟩
  | .exit 0 => ⟨[4, 5], []⟩
  | .ret => ⟨[2, 3], []⟩
  | _ => ⟨[], []⟩
noncomputable def S62_0 (p9 : List UInt8) (p10 : Int) (x : Int × Int × (List UInt8)) : St E.A := at' E 52 [(4, .lf (.bf 320 0)), (5, .lf (.int .i64 x.1)), (9, .lf (.sl .u8 p9)), (10, .lf (.int .i64 p10)), (11, .lf (.int .i64 x.2.1))] [(320, some (.buf .u8 x.2.2))]
noncomputable def t62_0 (p9 : List UInt8) (p10 : Int) (x : Int × Int × (List UInt8)) : Tree (Int × Int × (List UInt8) ⊕ Out' E) :=
 .ite (ltI x.snd.fst p10)
 (.ite (inB x.snd.fst p9.length)
  (.ite (leI (0 : Int) (Go.Lib.indexByte [(0 : UInt8), (9 : UInt8), (10 : UInt8), (12 : UInt8), (13 : UInt8), (32 : UInt8)] (UInt8.ofNat (↑(p9.getD x.snd.fst.toNat (0 : UInt8)).toNat : Int).toNat)))
   (.leaf (.inl (x.fst, (IntKind.i64.wrap (x.snd.fst + (1 : Int))), x.snd.snd)))
   (.ite (ltI (Go.Lib.indexByte [(48 : UInt8), (49 : UInt8), (50 : UInt8), (51 : UInt8), (52 : UInt8), (53 : UInt8), (54 : UInt8), (55 : UInt8), (56 : UInt8), (57 : UInt8), (97 : UInt8), (98 : UInt8), (99 : UInt8), (100 : UInt8), (101 : UInt8), (102 : UInt8)] (UInt8.ofNat (vbits Go.BinOp.or IntKind.u8 (↑(p9.getD x.snd.fst.toNat (0 : UInt8)).toNat : Int) (32 : Int)).toNat)) (0 : Int))
    (.leaf (.inr (.ret, at' E 52 [(2, .lf (.own 0 0 .u8 [])), (3, .lf (.bool false))] [])))
    (.ite (ltI (↑(p9.getD x.snd.fst.toNat (0 : UInt8)).toNat : Int) (48 : Int))
     (.leaf (.inr (.ret, at' E 52 [(2, .lf (.own 0 0 .u8 [])), (3, .lf (.bool false))] [])))
     (.ite (eqI (x.fst.tmod (2 : Int)) (0 : Int))
      (.ite (decide ((x.snd.snd.length + [UInt8.ofNat (IntKind.u8.wrap (vshl IntKind.i64 (Go.Lib.indexByte [(48 : UInt8), (49 : UInt8), (50 : UInt8), (51 : UInt8), (52 : UInt8), (53 : UInt8), (54 : UInt8), (55 : UInt8), (56 : UInt8), (57 : UInt8), (97 : UInt8), (98 : UInt8), (99 : UInt8), (100 : UInt8), (101 : UInt8), (102 : UInt8)] (UInt8.ofNat (vbits Go.BinOp.or IntKind.u8 (↑(p9.getD x.snd.fst.toNat (0 : UInt8)).toNat : Int) (32 : Int)).toNat)) (4 : Int))).toNat].length) * (1 : Nat) ≤ (140737488355328 : Nat)))
       (.leaf (.inl ((IntKind.i64.wrap (x.fst + (1 : Int))), (IntKind.i64.wrap (x.snd.fst + (1 : Int))), (x.snd.snd ++ [UInt8.ofNat (IntKind.u8.wrap (vshl IntKind.i64 (Go.Lib.indexByte [(48 : UInt8), (49 : UInt8), (50 : UInt8), (51 : UInt8), (52 : UInt8), (53 : UInt8), (54 : UInt8), (55 : UInt8), (56 : UInt8), (57 : UInt8), (97 : UInt8), (98 : UInt8), (99 : UInt8), (100 : UInt8), (101 : UInt8), (102 : UInt8)] (UInt8.ofNat (vbits Go.BinOp.or IntKind.u8 (↑(p9.getD x.snd.fst.toNat (0 : UInt8)).toNat : Int) (32 : Int)).toNat)) (4 : Int))).toNat]))))
       (.fail))
      (.ite (inB (IntKind.i64.wrap (x.fst.tdiv (2 : Int))) x.snd.snd.length)
       (.ite (inB (IntKind.i64.wrap (x.fst.tdiv (2 : Int))) x.snd.snd.length)
        (.leaf (.inl ((IntKind.i64.wrap (x.fst + (1 : Int))), (IntKind.i64.wrap (x.snd.fst + (1 : Int))), (x.snd.snd.set (IntKind.i64.wrap (x.fst.tdiv (2 : Int))).toNat (UInt8.ofNat (vbits Go.BinOp.or IntKind.u8 (↑(x.snd.snd.getD (IntKind.i64.wrap (x.fst.tdiv (2 : Int))).toNat (0 : UInt8)).toNat : Int) (IntKind.u8.wrap (Go.Lib.indexByte [(48 : UInt8), (49 : UInt8), (50 : UInt8), (51 : UInt8), (52 : UInt8), (53 : UInt8), (54 : UInt8), (55 : UInt8), (56 : UInt8), (57 : UInt8), (97 : UInt8), (98 : UInt8), (99 : UInt8), (100 : UInt8), (101 : UInt8), (102 : UInt8)] (UInt8.ofNat (vbits Go.BinOp.or IntKind.u8 (↑(p9.getD x.snd.fst.toNat (0 : UInt8)).toNat : Int) (32 : Int)).toNat)))).toNat)))))
        (.fail))
       (.fail))))))
  (.fail))
 (.leaf (.inr (.exit 0, at' E 52 [(4, .lf (.sl .u8 x.snd.snd)), (5, .lf (.int .i64 x.fst))] [])))
theorem h62_0 (p9 : List UInt8) (p10 : Int) (x : Int × Int × (List UInt8)) (k : Ex → St E.A → Option Unit) :
    exec E G62 (fun _ _ => .fail) 1 (lb Go.Proofs.Tryd.f62 0) (S62_0 p9 p10 x) (fun e σ1 => k e (clean E (L62_0 e) σ1)) = (t62_0 p9 p10 x).run (Sum.elim (fun x' => k .normal (S62_0 p9 p10 x')) (fun o => k o.1 o.2)) := by kernel_rfl
noncomputable def lam62_0 (p9 : List UInt8) (p10 : Int) (x : Int × Int × (List UInt8)) : Tree (Out' E) :=
  .ite (eqI p10 p9.length && eqI x.1 0 && eqI x.2.1 0 && Nat.beq x.2.2.length 0 && decide (p9.length ≤ 1000000000))
   (.ite (Px.textIs p9) (.leaf (.exit 0, at' E 52 [(4, .lf (.sl .u8 (Px.textOut p9))), (5, .lf (.int .i64 (Px.textN p9)))] []))
     (.leaf (.ret, at' E 52 [(2, .lf (.own 0 0 .u8 [])), (3, .lf (.bool false))] []))) .fail
theorem m62_0 {p9 : List UInt8} {p10 : Int} {x : Int × Int × (List UInt8)} {e : Ex} {σ : St E.A} (g : okLenR (E := E) (.lf (.sl .u8 p9)) = true) (_ : okLenO (E := E) (.buf .u8 x.2.2) = true)
    (h : (lam62_0 p9 p10 x).get = some (e, σ)) : ∃ fuel, iter (t62_0 p9 p10) fuel x = some (e, σ) ∧ e ≠ .normal := by
  have hb : p9.length ≤ big := of_decide_eq_true g
  obtain ⟨n, i, out⟩ := x
  unfold lam62_0 at h
  have h' := Tree.get_ite_some h
  clear h
  rcases h' with ⟨h1, h⟩ | ⟨_, h⟩
  · simp only [eqI_eq, Bool.and_eq_true, decide_eq_true_eq, Nat.beq_eq, List.length_eq_zero_iff] at h1
    obtain ⟨⟨⟨⟨rfl, rfl⟩, rfl⟩, rfl⟩, h5⟩ := h1
    have key := range_iter (t := t62_0 p9 p9.length) (l := p9) (0 : UInt8) (fun (a : Nat × List UInt8) i => ((a.1 : Int), i, a.2)) (fun _ a c => match Px.textStep a c with | none => .inr (Ex.ret, at' E 52 [(2, .lf (.own 0 0 .u8 [])), (3, .lf (.bool false))] []) | some a' => .inl a')
      (fun a => (Ex.exit 0, at' E 52 [(4, .lf (.sl .u8 a.2)), (5, .lf (.int .i64 a.1))] [])) Px.textInv
      (fun i a hi ho => ⟨by
        obtain ⟨n, out⟩ := a
        obtain ⟨i1, i2, i3⟩ := ho
        simp only at i1 i2 i3
        unfold t62_0
        simp only
        rw [Tree.get_ite, ltI_nat hi, cond_true, Tree.get_ite, inB_nat hi, cond_true, Tree.get_ite, Tree.get_leaf, i64_succ hi hb, Int.toNat_natCast, Int.toNat_natCast, UInt8.ofNat_toNat, blank_any]
        generalize p9.getD i 0 = c
        unfold Px.textStep
        cases hbl : Px.blank (c.toNat : Int) with
        | true => rfl
        | false =>
          simp only [cond_false]
          have w1 : IntKind.i64.wrap ((n : Int) + 1) = ((n + 1 : Nat) : Int) := by rw [wi64] <;> omega
          have w2 : IntKind.i64.wrap ((n : Int).tdiv 2) = ((n / 2 : Nat) : Int) := by rw [show (n : Int).tdiv 2 = ((n / 2 : Nat) : Int) from rfl, wi64] <;> omega
          show Tree.get (.ite (ltI (Px.hvi c) 0) _ _) = _
          rw [Tree.get_ite]
          rcases Px.hvi_fact c with ⟨f1, f2, f3⟩ | ⟨f1, f2⟩
          · have f0 : ltI (Px.hvi c) 0 = false := by rw [f2, ltI_eq]; exact decide_eq_false (by omega)
            have f1' : Nat.blt (Px.hv c) 16 = true := Nat.ble_eq ▸ f1
            rw [f0, cond_false, Tree.get_ite, f3, cond_false, f1', cond_true, w1, w2, Tree.get_ite]
            have e2 : eqI ((n : Int).tmod 2) 0 = Nat.beq (n % 2) 0 := rfl
            rw [e2]
            cases he : Nat.beq (n % 2) 0 with
            | true =>
              simp only [cond_true]
              rw [Tree.get_ite, decide_eq_true (by simp only [List.length_cons, List.length_nil]; omega), cond_true]
              show some (Sum.inl (_, _, out ++ [UInt8.ofNat (IntKind.u8.wrap (vshl IntKind.i64 (Px.hvi c) 4)).toNat])) = _
              rw [f2, Px.hi_fact f1]
            | false =>
              have he' : n % 2 = 1 := by
                have : ¬ n % 2 = 0 := fun hh => by rw [hh] at he; cases he
                omega
              obtain ⟨k, hk, hk2⟩ := i3 he'
              have hin : inB ((n / 2 : Nat) : Int) out.length = true := inB_nat (by omega)
              simp only [cond_false]
              rw [Tree.get_ite, hin, cond_true, Tree.get_ite, cond_true, Tree.get_leaf, Int.toNat_natCast]
              show some (Sum.inl (_, _, out.set (n / 2) (UInt8.ofNat (vbits Go.BinOp.or IntKind.u8 ((out.getD (n / 2) 0).toNat : Int) (IntKind.u8.wrap (Px.hvi c))).toNat))) = _
              rw [f2, hk2, Px.lo_fact hk f1]
          · have f1' : Nat.blt (Px.hv c) 16 = false := by rw [f1]; rfl
            rw [f1', cond_false]
            rcases f2 with f2 | ⟨f2, f3⟩
            · rw [f2, cond_true]; rfl
            · rw [f2, cond_false, Tree.get_ite, f3, cond_true]; rfl, fun a' hs => by
        cases hst : Px.textStep a (p9.getD i 0) with
        | none => rw [hst] at hs; cases hs
        | some a'' => rw [hst] at hs; injection hs with hs; subst hs; exact Px.textInv_step ho hst⟩)
      (fun a _ => by simp only [t62_0, Tree.get_ite, Tree.get_leaf, ltI_self, cond_false])
      (p9.length - 0) 0 ((0, []) : Nat × List UInt8) (by omega) ⟨rfl, Nat.le_refl _, fun hh => by cases hh⟩
    have key := key.trans (congrArg some (Px.run_text _ _ _ _ _))
    rw [List.drop_zero] at key
    refine ⟨_, key.trans ?_, ?_⟩
    · rw [← h, Tree.get_ite, Tree.get_leaf, Tree.get_leaf]
      unfold Px.textIs Px.textOut Px.textN Px.textGo
      cases Px.textRun (0, []) p9 <;> rfl
    · rw [Tree.get_ite, Tree.get_leaf, Tree.get_leaf] at h
      cases hd : Px.textIs p9 <;> rw [hd] at h <;> (injection h with h; injection h with h1 _; rw [← h1]; intro hh; cases hh)
  · cases h
noncomputable def rd62_0 (σ : St E.A) : Tree (Out' E) :=
  let c := clean E (L62_0 .normal) σ
  if c.sl.length = 52 then
  match c.sl.getD 4 .undef, c.sl.getD 5 .undef, c.sl.getD 9 .undef, c.sl.getD 10 .undef, c.sl.getD 11 .undef, c.ob 320 with
  | .lf (.bf 320 0), .lf (.int .i64 x5), .lf (.sl .u8 p9), .lf (.int .i64 p10), .lf (.int .i64 x11), some (.buf .u8 o320a) => lam62_0 p9 p10 (x5, x11, o320a)
  | _, _, _, _, _, _ => .fail
  else .fail
theorem ll62_0 (hL : Laws E) (σ : St E.A) (e : Ex) (σ' : St E.A) (h : (rd62_0 σ).get = some (e, σ')) : LoopOK E (lb Go.Proofs.Tryd.f62 0) σ e σ' := by
  refine LoopOK.of_clean hL (L62_0 .normal) ?_
  unfold rd62_0 at h
  simp only at h
  split at h
  · rename_i hlen
    split at h
    · rename_i x5 p9 p10 x11 o320a h0 h1 h2 h3 h4 h5
      refine LoopOK.lens 9 (fun g0 => ?_)
      rw [h2] at g0
      refine LoopOK.lensO 320 (fun gg => ?_)
      have g1 := gg _ h5
      obtain ⟨fuel, hi, ho⟩ := m62_0 g0 g1 h
      have hl := loop_at (Γ := G62) (Λ := fun _ _ => .fail) (n := 1) (body := lb Go.Proofs.Tryd.f62 0) hL (hG62 hL) (S := S62_0 p9 p10) (t := t62_0 p9 p10) (Lv := L62_0) (LamOK.none (by kernel_rfl)) (h62_0 p9 p10) hi ho
      refine LoopOK.fit hlen ?_ ?_ rfl rfl hl
      · exact ⟨h0, h1, h2, h3, h4, trivial⟩
      · exact ⟨h5, trivial⟩
    · cases h
  · cases h
noncomputable def Lam62 : Lam E
  | 0, σ => rd62_0 σ
  | _, _ => .fail
noncomputable def w62 (a0 : List UInt8) : Tree (RV E.A × List (Obj E.A)) :=
 .ite (eqI (↑a0.length : Int) (↑a0.length : Int) && eqI (0 : Int) (0 : Int) && eqI (0 : Int) (0 : Int) && ([] : List UInt8).length.beq (0 : Nat) && decide (a0.length ≤ (1000000000 : Nat)))
 (.ite (Px.textIs a0)
  (.leaf (.tup [(false, [.sl .u8 (Px.textOut a0)]), (false, [.bool (eqI ((↑(Px.textN a0) : Int).tmod (2 : Int)) (0 : Int))])], []))
  (.leaf (.tup [(false, [.sl .u8 []]), (false, [.bool false])], [])))
 (.fail)
theorem e62 (a0 : List UInt8) : execFun E G62 ((Lam62)) false Go.Proofs.Tryd.f62 [.lf (.sl .u8 a0)] [] some = (w62 a0).get := by kernel_rfl
noncomputable def raw62 : Spec E := fun args os => match args, os with
  | [.lf (.sl .u8 a0)], [] => w62 a0
  | _, _ => .fail
theorem validraw62 (hL : Laws E) : Valid E 62 raw62 :=
  valid_of_body hL (hG62 hL) (Λ := (Lam62)) (fn := Go.Proofs.Tryd.f62) (keep := false) (by kernel_rfl) (by kernel_rfl) (by kernel_rfl) ((LamOK.of (m := 1) (by kernel_rfl) (fun j hj σ e σ' hg => by
      match j, hj with
      | 0, _ => exact ll62_0 hL σ e σ' hg
      ))) (fun args os r os' h => by
    unfold raw62 at h
    split at h
    · exact (e62 _).trans h
    · cases h)
theorem eq62 (p : List UInt8) (h : p.length ≤ 1000000000) : (w62 p).get = some (.tup [(false, [.sl .u8 (Px.textOut p)]), (false, [.bool (Px.textOk p)])], []) := by
  unfold w62
  have c1 : (eqI (↑p.length : Int) (↑p.length : Int) && eqI (0 : Int) (0 : Int) && eqI (0 : Int) (0 : Int) && ([] : List UInt8).length.beq (0 : Nat) && decide (p.length ≤ (1000000000 : Nat))) = true := by
    simp only [eqI_eq, Bool.and_eq_true, decide_eq_true_eq]
    exact ⟨⟨⟨⟨trivial, trivial⟩, trivial⟩, rfl⟩, h⟩
  rw [Tree.get_ite, c1, cond_true, Tree.get_ite, Tree.get_leaf, Tree.get_leaf]
  unfold Px.textOk Px.textIs Px.textN Px.textOut
  cases Px.textGo p with
  | none => rfl
  | some a => rfl
noncomputable def spec62 : Spec E := fun args os => match args, os with
  | [.lf (.sl .u8 p)], [] => .ite (decide (p.length ≤ 1000000000)) (.leaf (.tup [(false, [.sl .u8 (Px.textOut p)]), (false, [.bool (Px.textOk p)])], [])) .fail
  | _, _ => .fail
theorem valid62 (hL : Laws E) : Valid E 62 spec62 := (validraw62 hL).less (fun args os x g1 g2 h => by
  unfold spec62 at h
  split at h
  · rcases Tree.get_ite_some h with ⟨h1, h⟩ | ⟨_, h⟩
    · exact (eq62 _ (of_decide_eq_true h1)).trans h
    · cases h
  · cases h)
end Go.Vx
namespace Go.Vx
open Go
theorem lay64 : Lay64 Go.Proofs.Tryd.prog where
  mixed := by kernel_rfl
  f64 := by kernel_rfl
  f75 := by kernel_rfl
  f76 := by kernel_rfl
  f77 := by kernel_rfl
  f73 := by kernel_rfl
  t0 := by kernel_rfl
  a0 := fun w => by kernel_rfl
  z0 := fun w => by kernel_rfl
  v0 := fun w => by kernel_rfl
  t3 := by kernel_rfl
  a3 := fun w => by kernel_rfl
  z3 := fun w => by kernel_rfl
  v3 := fun w => by kernel_rfl
  t4 := by kernel_rfl
  a4 := fun w => by kernel_rfl
  z4 := fun w => by kernel_rfl
  v4 := fun w => by kernel_rfl
  t5 := by kernel_rfl
  a5 := fun w => by kernel_rfl
  z5 := fun w => by kernel_rfl
  v5 := fun w => by kernel_rfl
  t9 := by kernel_rfl
  a9 := fun w => by kernel_rfl
  z9 := fun w => by kernel_rfl
  v9 := fun w => by kernel_rfl
  t21 := by kernel_rfl
  a21 := fun w => by kernel_rfl
  z21 := fun w => by kernel_rfl
  v21 := fun w => by kernel_rfl
  t30 := by kernel_rfl
  a30 := fun w => by kernel_rfl
  z30 := fun w => by kernel_rfl
  t138 := by kernel_rfl
  a138 := fun w => by kernel_rfl
  z138 := fun w => by kernel_rfl
  hv138 := fun w => by kernel_rfl
  hi138 := by kernel_rfl
/-- bytes.IndexAny: which byte is the first of some ASCII bytes -/
def spec64 : Spec E := fun args os => match args with
  | [.lf (.sl .u8 s), .lf (.str c)] => .ite (Px.okAny s c) (.leaf (.lf (.int .i64 (Lib.indexAny s c)), os)) .fail
  | _ => .fail
theorem all_at {s : List UInt8} (h : s.all (fun b => Nat.ble b.toNat 127) = true) (j : Nat) (b : UInt8) (hb : s[j]? = some b) : b.toNat < 128 := by
  have := List.all_eq_true.1 h b (List.mem_of_getElem? hb)
  have := Nat.le_of_ble_eq_true this
  omega
theorem indexAny_lt (c : List UInt8) : ∀ l : List UInt8, Lib.indexAny l c < (l.length : Int) ∨ l = []
  | [] => .inr rfl
  | b :: l => by
    have ih := indexAny_lt c l
    have h2 := Lib.indexAny_ge c l
    left
    rw [Lib.indexAny, List.length_cons]
    rcases ih with ih | rfl
    · split
      · omega
      · split <;> omega
    · split
      · simp
      · simp [Lib.indexAny]
theorem indexAny_in {l c : List UInt8} (h : l.length ≤ big) : inRb .i64 (Lib.indexAny l c) = true := by
  have h1 := indexAny_lt c l
  have h2 := Lib.indexAny_ge c l
  unfold big at h
  rw [inRb_iff]
  simp [IntKind.min, IntKind.max, IntKind.signed, IntKind.bits]
  rcases h1 with h1 | rfl
  · omega
  · simp [Lib.indexAny]
theorem valid64 (_ : Laws E) : Valid E 64 spec64 :=
  valid_calls (Go.Proofs.enters_of (fn := Go.Proofs.Tryd.f64) (by kernel_rfl) (by kernel_rfl) rfl) (fun args os r os' h => by
    unfold spec64 at h
    split at h
    · rename_i s c
      rcases Tree.get_ite_some h with ⟨hg, h⟩ | ⟨_, h⟩
      · injection h with h; injection h with h1 h2
        subst h1; subst h2
        refine ⟨rfl, fun G w vals ha hh => ?_⟩
        obtain ⟨v, u, rfl, hv, hu⟩ := arel_two ha
        simp only [Px.okAny, Px.ascii, Bool.and_eq_true] at hg
        obtain ⟨⟨⟨g1, g2⟩, g3⟩, g4⟩ := hg
        have g1 := Nat.le_of_ble_eq_true g1
        have g2 := Nat.le_of_ble_eq_true g2
        have g3 := Nat.le_of_ble_eq_true g3
        have g4 := all_at g4
        obtain ⟨ba, rfl, rfl, hsz⟩ := hu.str_inv
        have hb : s.length ≤ big := by
          have := okLen_ok hv.lf_inv
          exact of_decide_eq_true this
        refine ⟨.int .i64 (Lib.indexAny s ba.data.toList), ?_, fun w' _ => .lf (.int (indexAny_in hb))⟩
        have hls : ba.size = ba.data.toList.length := Lib.size_eq ba
        cases hv.lf_inv with
        | sl0 k a cap _ => exact absurd g1 (by decide)
        | sl k xs b off cap vals h1 h2 h3 h4 =>
          have hcell : ∀ i, i < s.length → w.cell? ⟨b, off + i, none⟩ = some (.int .u8 (List.getD (α := UInt8) s i 0).toNat) := fun i hi => by
            have hx : s[i]? = some s[i] := List.getElem?_eq_getElem hi
            have hc := (h3 i 0 hi (by decide)).1
            have hr := h4 i _ hx 0 _ rfl
            have e2 : off + i * E.sz .u8 + 0 = off + i := by show off + i * 1 + 0 = _; omega
            rw [e2] at hc
            rw [hc]
            have e1 : List.getD (α := UInt8) s i 0 = s[i] := congrArg (fun o => Option.getD o (0 : UInt8)) hx
            rw [e1]
            generalize vals i 0 = vv at hr
            obtain ⟨rfl, _⟩ := (RRep.lf hr).int_inv
            rfl
          have hT := tabs_of_glob (hh.gl 2 _ rfl) (hh.gl 3 _ rfl)
          obtain ⟨m, _, hm, _⟩ := (hh.gl 0 _ rfl).2.2 .i64 rfl
          rcases Nat.lt_or_ge 8 s.length with h8 | h8
          · refine (calls64_long lay64 b off cap s ba w (by omega) h8 h1 h2 (by omega) g4 hcell).mono fun e w' ⟨k1, k2⟩ => ⟨k1, ?_⟩
            rw [k2]
            exact ((RowKit.Below.refl _ _).alloc (Nat.le_refl _) _).alloc (by simp) _
          · rcases Nat.lt_or_ge 1 s.length with h9 | h9
            · exact calls64_shortU lay64 calls78 (Go.Proofs.enters_of (fn := Go.Proofs.Tryd.f78) (by kernel_rfl) (by kernel_rfl) rfl) run79 b off cap s ba w m (by omega) (by omega) h9 h8 h1 h2 g4 hT hm hcell
            · match s, g1, h9, hcell, h1 with
              | [x], _, _, hcell, h1 =>
                have hc0 := hcell 0 Nat.zero_lt_one
                rcases Nat.lt_or_ge x.toNat 128 with hx | hx
                · refine (calls64_one lay64 b off cap x ba w (by omega) h1 h2 hx hc0).mono fun e w' ⟨k1, k2⟩ => ⟨k1, ?_⟩
                  rw [k2]; exact RowKit.Below.refl _ _
                · exact calls64_oneU lay64 b off cap x ba w (by omega) h1 h2 hx g4 hc0
      · cases h
    · cases h)
end Go.Vx
namespace Go.Vx
open Go
noncomputable def G52 : FuncId → Option (Spec E)
  | 60 => some spec60
  | 61 => some spec61
  | 62 => some spec62
  | 63 => some spec63
  | 64 => some spec64
  | _ => none
theorem hG52 (hL : Laws E) : ∀ f spec, G52 f = some spec → Valid E f spec := by
  intro f spec h
  unfold G52 at h
  split at h
  · injection h with h; subst h; exact valid60 hL
  · injection h with h; subst h; exact valid61 hL
  · injection h with h; subst h; exact valid62 hL
  · injection h with h; subst h; exact valid63 hL
  · injection h with h; subst h; exact valid64 hL
  · cases h
noncomputable def w52 (a0 : List UInt8) (a1 : Int) : Tree (RV E.A × List (Obj E.A)) :=
 .ite (inB a1 (a0.length + (1 : Nat)))
 (.ite (Px.hasPre (List.drop a1.toNat a0) [(60 : UInt8), (60 : UInt8)])
  (.ite (leI (0 : Int) (↑(0 : Nat) : Int) && leI (↑(0 : Nat) : Int) (2 : Int) && leI (2 : Int) (↑(List.drop a1.toNat a0).length : Int))
   (.leaf (.tup [(true, [.str (List.drop (↑(0 : Nat) : Int).toNat (List.take (Int.toNat (2 : Int)) (List.drop a1.toNat a0))), .sl .u8 [], .bool false]), (false, [.int .i64 (IntKind.i64.wrap (a1 + (2 : Int)))]), (false, [.bool true])], []))
   (.fail))
  (.ite (Px.hasPre (List.drop a1.toNat a0) [(62 : UInt8), (62 : UInt8)])
   (.ite (leI (0 : Int) (↑(0 : Nat) : Int) && leI (↑(0 : Nat) : Int) (2 : Int) && leI (2 : Int) (↑(List.drop a1.toNat a0).length : Int))
    (.leaf (.tup [(true, [.str (List.drop (↑(0 : Nat) : Int).toNat (List.take (Int.toNat (2 : Int)) (List.drop a1.toNat a0))), .sl .u8 [], .bool false]), (false, [.int .i64 (IntKind.i64.wrap (a1 + (2 : Int)))]), (false, [.bool true])], []))
    (.fail))
   (.ite (inB (0 : Int) (List.drop a1.toNat a0).length)
    (.ite (eqI (↑((List.drop a1.toNat a0).getD (Int.toNat (0 : Int)) (0 : UInt8)).toNat : Int) (60 : Int))
     (.ite (ltI (Go.Lib.indexByte (List.drop a1.toNat a0) (62 : UInt8)) (0 : Int))
      (.leaf (.tup [(true, [.str [], .sl .u8 [], .bool false]), (false, [.int .i64 ((0 : Int))]), (false, [.bool false])], []))
      (.ite (leI (0 : Int) (1 : Int) && leI (1 : Int) (Go.Lib.indexByte (List.drop a1.toNat a0) (62 : UInt8)) && leI (Go.Lib.indexByte (List.drop a1.toNat a0) (62 : UInt8)) (↑(List.drop a1.toNat a0).length : Int))
       (.ite (decide ((List.drop (Int.toNat (1 : Int)) (List.take (Go.Lib.indexByte (List.drop a1.toNat a0) (62 : UInt8)).toNat (List.drop a1.toNat a0))).length ≤ (1000000000 : Nat)))
        (.leaf (.tup [(true, [.str [], .sl .u8 (Px.textOut (List.drop (Int.toNat (1 : Int)) (List.take (Go.Lib.indexByte (List.drop a1.toNat a0) (62 : UInt8)).toNat (List.drop a1.toNat a0)))), .bool true]), (false, [.int .i64 (IntKind.i64.wrap (IntKind.i64.wrap (a1 + Go.Lib.indexByte (List.drop a1.toNat a0) (62 : UInt8)) + (1 : Int)))]), (false, [.bool (Px.textOk (List.drop (Int.toNat (1 : Int)) (List.take (Go.Lib.indexByte (List.drop a1.toNat a0) (62 : UInt8)).toNat (List.drop a1.toNat a0))))])], []))
        (.fail))
       (.fail)))
     (.ite (inB (0 : Int) (List.drop a1.toNat a0).length)
      (.ite (leI (0 : Int) (Go.Lib.indexByte [(0 : UInt8), (9 : UInt8), (10 : UInt8), (12 : UInt8), (13 : UInt8), (32 : UInt8), (40 : UInt8), (41 : UInt8), (60 : UInt8), (62 : UInt8), (91 : UInt8), (93 : UInt8), (123 : UInt8), (125 : UInt8), (47 : UInt8), (37 : UInt8)] (UInt8.ofNat (↑((List.drop a1.toNat a0).getD (Int.toNat (0 : Int)) (0 : UInt8)).toNat : Int).toNat)))
       (.ite (leI (0 : Int) (↑(0 : Nat) : Int) && leI (↑(0 : Nat) : Int) (1 : Int) && leI (1 : Int) (↑(List.drop a1.toNat a0).length : Int))
        (.leaf (.tup [(true, [.str (List.drop (↑(0 : Nat) : Int).toNat (List.take (Int.toNat (1 : Int)) (List.drop a1.toNat a0))), .sl .u8 [], .bool false]), (false, [.int .i64 (IntKind.i64.wrap (a1 + (1 : Int)))]), (false, [.bool true])], []))
        (.fail))
       (.ite (Px.okAny (List.drop a1.toNat a0) [(0 : UInt8), (9 : UInt8), (10 : UInt8), (12 : UInt8), (13 : UInt8), (32 : UInt8), (40 : UInt8), (41 : UInt8), (60 : UInt8), (62 : UInt8), (91 : UInt8), (93 : UInt8), (123 : UInt8), (125 : UInt8), (47 : UInt8), (37 : UInt8)])
        (.ite (ltI (Go.Lib.indexAny (List.drop a1.toNat a0) [(0 : UInt8), (9 : UInt8), (10 : UInt8), (12 : UInt8), (13 : UInt8), (32 : UInt8), (40 : UInt8), (41 : UInt8), (60 : UInt8), (62 : UInt8), (91 : UInt8), (93 : UInt8), (123 : UInt8), (125 : UInt8), (47 : UInt8), (37 : UInt8)]) (0 : Int))
         (.ite (leI (0 : Int) (↑(0 : Nat) : Int) && leI (↑(0 : Nat) : Int) (↑(List.drop a1.toNat a0).length : Int) && leI (↑(List.drop a1.toNat a0).length : Int) (↑(List.drop a1.toNat a0).length : Int))
          (.leaf (.tup [(true, [.str (List.drop (↑(0 : Nat) : Int).toNat (List.take (↑(List.drop a1.toNat a0).length : Int).toNat (List.drop a1.toNat a0))), .sl .u8 [], .bool false]), (false, [.int .i64 (IntKind.i64.wrap (a1 + (↑(List.drop a1.toNat a0).length : Int)))]), (false, [.bool true])], []))
          (.fail))
         (.ite (leI (0 : Int) (↑(0 : Nat) : Int) && leI (↑(0 : Nat) : Int) (Go.Lib.indexAny (List.drop a1.toNat a0) [(0 : UInt8), (9 : UInt8), (10 : UInt8), (12 : UInt8), (13 : UInt8), (32 : UInt8), (40 : UInt8), (41 : UInt8), (60 : UInt8), (62 : UInt8), (91 : UInt8), (93 : UInt8), (123 : UInt8), (125 : UInt8), (47 : UInt8), (37 : UInt8)]) && leI (Go.Lib.indexAny (List.drop a1.toNat a0) [(0 : UInt8), (9 : UInt8), (10 : UInt8), (12 : UInt8), (13 : UInt8), (32 : UInt8), (40 : UInt8), (41 : UInt8), (60 : UInt8), (62 : UInt8), (91 : UInt8), (93 : UInt8), (123 : UInt8), (125 : UInt8), (47 : UInt8), (37 : UInt8)]) (↑(List.drop a1.toNat a0).length : Int))
          (.leaf (.tup [(true, [.str (List.drop (↑(0 : Nat) : Int).toNat (List.take (Go.Lib.indexAny (List.drop a1.toNat a0) [(0 : UInt8), (9 : UInt8), (10 : UInt8), (12 : UInt8), (13 : UInt8), (32 : UInt8), (40 : UInt8), (41 : UInt8), (60 : UInt8), (62 : UInt8), (91 : UInt8), (93 : UInt8), (123 : UInt8), (125 : UInt8), (47 : UInt8), (37 : UInt8)]).toNat (List.drop a1.toNat a0))), .sl .u8 [], .bool false]), (false, [.int .i64 (IntKind.i64.wrap (a1 + Go.Lib.indexAny (List.drop a1.toNat a0) [(0 : UInt8), (9 : UInt8), (10 : UInt8), (12 : UInt8), (13 : UInt8), (32 : UInt8), (40 : UInt8), (41 : UInt8), (60 : UInt8), (62 : UInt8), (91 : UInt8), (93 : UInt8), (123 : UInt8), (125 : UInt8), (47 : UInt8), (37 : UInt8)]))]), (false, [.bool true])], []))
          (.fail)))
        (.fail)))
      (.fail)))
    (.fail))))
 (.fail)
theorem e52 (a0 : List UInt8) (a1 : Int) : execFun E G52 (fun _ _ => .fail) false Go.Proofs.Tryd.f52 [.lf (.sl .u8 a0), .lf (.int .i64 a1)] [] some = (w52 a0 a1).get := by kernel_rfl
noncomputable def raw52 : Spec E := fun args os => match args, os with
  | [.lf (.sl .u8 a0), .lf (.int .i64 a1)], [] => w52 a0 a1
  | _, _ => .fail
theorem validraw52 (hL : Laws E) : Valid E 52 raw52 :=
  valid_of_body hL (hG52 hL) (Λ := fun _ _ => .fail) (fn := Go.Proofs.Tryd.f52) (keep := false) (by kernel_rfl) (by kernel_rfl) (by kernel_rfl) (LamOK.none (by kernel_rfl)) (fun args os r os' h => by
    unfold raw52 at h
    split at h
    · exact (e52 _ _).trans h
    · cases h)
theorem hasPre_two {l : List UInt8} {x y : UInt8} (h : Px.hasPre l [x, y] = true) : 2 ≤ l.length := by
  have h := of_decide_eq_true h
  have := congrArg List.length h
  simp only [List.length_take, List.length_cons, List.length_nil] at this
  omega
theorem eq52 (p : List UInt8) (a : Nat) (h1 : p.length ≤ 1000000000) (h2 : a < p.length) : (w52 p a).get =
    some (.tup [(true, [.str (Px.tokW (p.drop a)), .sl .u8 (Px.tokT (p.drop a)), .bool (Px.tokI (p.drop a))]), (false, [.int .i64 (cond (Nat.beq (Px.tokN (p.drop a)) 0) 0 ((a : Int) + Px.tokN (p.drop a)))]), (false, [.bool (Px.tokOk (p.drop a))])], []) := by
  unfold w52
  have i1 : inB (a : Int) (p.length + 1) = true := inB_nat (by omega)
  rw [Tree.get_ite, i1, cond_true, Int.toNat_natCast]
  have hlen : (p.drop a).length = p.length - a := List.length_drop
  generalize p.drop a = l at hlen ⊢
  have hne : l ≠ [] := by rintro rfl; simp at hlen; omega
  have hw : ∀ m : Nat, m ≤ l.length + 1 → IntKind.i64.wrap ((a : Int) + (m : Int)) = (a : Int) + (m : Int) := fun m hm => by rw [wi64] <;> omega
  have b1 := Px.indexByte_bound 62 l
  have b2 := Px.indexAny_bound Px.breaks l
  rw [Tree.get_ite]
  unfold Px.tokW Px.tokT Px.tokI Px.tokN Px.tokOk
  cases q1 : Px.hasPre l [60, 60] with
  | true =>
    have hR : Px.tokR l = ((l.take 2, [], false), 2, true) := by unfold Px.tokR; rw [q1]; rfl
    have := hasPre_two q1
    have c : (leI (0 : Int) (↑(0 : Nat) : Int) && leI (↑(0 : Nat) : Int) (2 : Int) && leI (2 : Int) (l.length : Int)) = true := by
      simp only [leI_eq, Bool.and_eq_true, decide_eq_true_eq]; omega
    have hw2 := hw 2 (by omega)
    rw [cond_true, Tree.get_ite, c, cond_true, Tree.get_leaf, hR]
    simp only [show (a : Int) + 2 = (a : Int) + ((2 : Nat) : Int) from rfl, hw2]
    rfl
  | false =>
    rw [cond_false, Tree.get_ite]
    cases q2 : Px.hasPre l [62, 62] with
    | true =>
      have hR : Px.tokR l = ((l.take 2, [], false), 2, true) := by unfold Px.tokR; rw [q1, q2]; rfl
      have := hasPre_two q2
      have c : (leI (0 : Int) (↑(0 : Nat) : Int) && leI (↑(0 : Nat) : Int) (2 : Int) && leI (2 : Int) (l.length : Int)) = true := by
        simp only [leI_eq, Bool.and_eq_true, decide_eq_true_eq]; omega
      have hw2 := hw 2 (by omega)
      rw [cond_true, Tree.get_ite, c, cond_true, Tree.get_leaf, hR]
      simp only [show (a : Int) + 2 = (a : Int) + ((2 : Nat) : Int) from rfl, hw2]
      rfl
    | false =>
      have i2 : inB (0 : Int) l.length = true := inB_true.2 ⟨by omega, by omega⟩
      rw [cond_false, Tree.get_ite, i2, cond_true, Tree.get_ite]
      have z0 : Int.toNat 0 = 0 := rfl
      rw [z0]
      cases q3 : eqI ((l.getD 0 0).toNat : Int) 60 with
      | true =>
        have f0 : Lib.indexByte l 62 ≠ 0 := Px.indexByte_pos (by
          rw [eqI_eq, decide_eq_true_eq] at q3
          intro hh; rw [hh] at q3; revert q3; decide) hne
        rw [cond_true, Tree.get_ite]
        cases q4 : ltI (Lib.indexByte l 62) 0 with
        | true =>
          have hR : Px.tokR l = (([], [], false), 0, false) := by unfold Px.tokR; rw [q1, q2, q3, q4]; rfl
          rw [hR]; rfl
        | false =>
          have hR : Px.tokR l = (([], Px.textOut ((l.take (Lib.indexByte l 62).toNat).drop 1), true), (Lib.indexByte l 62).toNat + 1, Px.textOk ((l.take (Lib.indexByte l 62).toNat).drop 1)) := by unfold Px.tokR; rw [q1, q2, q3, q4]; rfl
          rw [ltI_eq, decide_eq_false_iff_not] at q4
          generalize Lib.indexByte l 62 = e at *
          obtain ⟨m, rfl⟩ : ∃ m : Nat, e = (m : Int) := ⟨e.toNat, by omega⟩
          have c : (leI (0 : Int) (1 : Int) && leI (1 : Int) (m : Int) && leI (m : Int) (l.length : Int)) = true := by
            simp only [leI_eq, Bool.and_eq_true, decide_eq_true_eq]; omega
          have hw1 := hw m (by omega)
          have hw2 := hw (m + 1) (by omega)
          rw [Int.toNat_natCast] at hR
          rw [cond_false, Tree.get_ite, c, cond_true, Int.toNat_natCast, Tree.get_ite, decide_eq_true (by simp only [List.length_drop, List.length_take]; omega), cond_true, Tree.get_leaf, hw1, hR]
          rw [show (a : Int) + (m : Int) + 1 = (a : Int) + ((m + 1 : Nat) : Int) by omega, hw2]
          rfl
      | false =>
        rw [cond_false, Tree.get_ite, cond_true, Tree.get_ite, Int.toNat_natCast, UInt8.ofNat_toNat]
        show (cond (leI 0 (Lib.indexByte Px.breaks (l.getD 0 0))) _ _) = _
        cases q4 : leI 0 (Lib.indexByte Px.breaks (l.getD 0 0)) with
        | true =>
          have hR : Px.tokR l = ((l.take 1, [], false), 1, true) := by unfold Px.tokR; rw [q1, q2, q3, q4]; rfl
          have c : (leI (0 : Int) (↑(0 : Nat) : Int) && leI (↑(0 : Nat) : Int) (1 : Int) && leI (1 : Int) (l.length : Int)) = true := by
            simp only [leI_eq, Bool.and_eq_true, decide_eq_true_eq]; omega
          have hw2 := hw 1 (by omega)
          rw [cond_true, Tree.get_ite, c, cond_true, Tree.get_leaf, hR]
          simp only [show (a : Int) + 1 = (a : Int) + ((1 : Nat) : Int) from rfl, hw2]
          rfl
        | false =>
          have hok : Px.okAny l Px.breaks = true := by
            have : Nat.ble 1 l.length = true := Nat.ble_eq ▸ (by omega)
            unfold Px.okAny; rw [this]; rfl
          rw [cond_false, Tree.get_ite]
          show (cond (Px.okAny l Px.breaks) (Tree.get (.ite (ltI (Lib.indexAny l Px.breaks) 0) _ _)) _) = _
          rw [hok, cond_true, Tree.get_ite]
          have hfirst : (ltI (Lib.indexAny l Px.breaks) 0 = false) → Lib.indexAny l Px.breaks ≠ 0 := fun _ h0 => by
            cases l with
            | nil => exact absurd rfl hne
            | cons b r =>
              have hc := Lib.contains_iff_indexByte Px.breaks b
              have q4' : leI 0 (Lib.indexByte Px.breaks b) = false := q4
              rw [leI_eq] at q4'
              rw [q4'] at hc
              have b3 := Px.indexAny_bound Px.breaks r
              simp only [Lib.indexAny, hc, Bool.false_eq_true, if_false] at h0
              split at h0
              · omega
              · rename_i hh; simp only [beq_iff_eq] at hh; omega
          cases q5 : ltI (Lib.indexAny l Px.breaks) 0 with
          | true =>
            have hR : Px.tokR l = ((l, [], false), l.length, true) := by unfold Px.tokR; rw [q1, q2, q3, q4, q5]; rfl
            have c : (leI (0 : Int) (↑(0 : Nat) : Int) && leI (↑(0 : Nat) : Int) (l.length : Int) && leI (l.length : Int) (l.length : Int)) = true := by
              simp only [leI_eq, Bool.and_eq_true, decide_eq_true_eq]; omega
            have hw2 := hw l.length (by omega)
            rw [cond_true, Tree.get_ite, c, cond_true, Tree.get_leaf, hR, hw2, Int.toNat_natCast, Int.toNat_natCast, List.take_length]
            have hb : Nat.beq l.length 0 = false := by
              cases l with
              | nil => exact absurd rfl hne
              | cons => rfl
            simp only [hb, cond_false]
            rfl
          | false =>
            have hR : Px.tokR l = ((l.take (Lib.indexAny l Px.breaks).toNat, [], false), (Lib.indexAny l Px.breaks).toNat, true) := by unfold Px.tokR; rw [q1, q2, q3, q4, q5]; rfl
            have hf := hfirst q5
            rw [ltI_eq, decide_eq_false_iff_not] at q5
            rw [hR, cond_false]
            show Tree.get (.ite (leI (0 : Int) (↑(0 : Nat) : Int) && leI (↑(0 : Nat) : Int) (Lib.indexAny l Px.breaks) && leI (Lib.indexAny l Px.breaks) (l.length : Int)) (.leaf ((.tup [(true, [.str ((l.take (Lib.indexAny l Px.breaks).toNat)), .sl .u8 [], .bool false]), (false, [.int .i64 (IntKind.i64.wrap ((a : Int) + Lib.indexAny l Px.breaks))]), (false, [.bool true])] : RV E.A), ([] : List (Obj E.A)))) .fail) = _
            generalize Lib.indexAny l Px.breaks = e at *
            obtain ⟨m, rfl⟩ : ∃ m : Nat, e = (m : Int) := ⟨e.toNat, by omega⟩
            have c : (leI (0 : Int) (↑(0 : Nat) : Int) && leI (↑(0 : Nat) : Int) (m : Int) && leI (m : Int) (l.length : Int)) = true := by
              simp only [leI_eq, Bool.and_eq_true, decide_eq_true_eq]; omega
            have hw2 := hw m (by omega)
            have hb : Nat.beq m 0 = false := by
              cases m with
              | zero => exact absurd rfl hf
              | succ => rfl
            rw [Tree.get_ite, c, cond_true, Tree.get_leaf, hw2, Int.toNat_natCast]
            simp only [hb, cond_false]
            rfl
noncomputable def spec52 : Spec E := fun args os => match args, os with
  | [.lf (.sl .u8 p), .lf (.int .i64 a)], [] => .ite (decide (p.length ≤ 1000000000) && leI 0 a && ltI a p.length)
     (.leaf (.tup [(true, [.str (Px.tokW (p.drop a.toNat)), .sl .u8 (Px.tokT (p.drop a.toNat)), .bool (Px.tokI (p.drop a.toNat))]), (false, [.int .i64 (cond (Nat.beq (Px.tokN (p.drop a.toNat)) 0) 0 (a + Px.tokN (p.drop a.toNat)))]), (false, [.bool (Px.tokOk (p.drop a.toNat))])], [])) .fail
  | _, _ => .fail
theorem valid52 (hL : Laws E) : Valid E 52 spec52 := (validraw52 hL).less (fun args os x g1 g2 h => by
  unfold spec52 at h
  split at h
  · rename_i p a
    rcases Tree.get_ite_some h with ⟨h1, h⟩ | ⟨_, h⟩
    · simp only [leI_eq, ltI_eq, Bool.and_eq_true, decide_eq_true_eq] at h1
      obtain ⟨⟨k1, k2⟩, k3⟩ := h1
      obtain ⟨m, rfl⟩ : ∃ m : Nat, a = (m : Int) := ⟨a.toNat, by omega⟩
      rw [Int.toNat_natCast] at h
      have k3' : m < (p : List UInt8).length := Int.ofNat_lt.1 k3
      exact (eq52 p m k1 k3').trans h
    · cases h
  · cases h)
end Go.Vx
namespace Go.Vx
open Go
noncomputable def G35 : FuncId → Option (Spec E)
  | 51 => some spec51
  | 52 => some spec52
  | _ => none
theorem hG35 (hL : Laws E) : ∀ f spec, G35 f = some spec → Valid E f spec := by
  intro f spec h
  unfold G35 at h
  split at h
  · injection h with h; subst h; exact valid51 hL
  · injection h with h; subst h; exact valid52 hL
  · cases h
def L35_0 : Ex → Live
  | .normal => ⟨[0, 4, 5], []⟩
  | .exit 0 => ⟨[4], []⟩
  | .ret => ⟨[2, 3], []⟩
  | _ => ⟨[], []⟩
noncomputable def S35_0 (p0 : List UInt8) (x : (List (List UInt8 × List UInt8 × Bool)) × Int) : St E.A := at' E 43 [(0, .lf (.sl .u8 p0)), (4, .lf (.own 0 0 .tok x.1)), (5, .lf (.int .i64 x.2))] []
noncomputable def t35_0 (p0 : List UInt8) (x : (List (List UInt8 × List UInt8 × Bool)) × Int) : Tree ((List (List UInt8 × List UInt8 × Bool)) × Int ⊕ Out' E) :=
 .ite (ltI x.snd (↑p0.length : Int))
 (.ite (decide (p0.length ≤ (1000000000 : Nat)) && leI (0 : Int) x.snd && ltI x.snd (↑p0.length : Int))
  (.ite (!Px.tokOk (List.drop x.snd.toNat p0))
   (.leaf (.inr (.ret, at' E 43 [(2, .lf (.own 0 0 .tok [])), (3, .lf (.int .i64 ((2 : Int))))] [])))
   (.ite (decide (Px.tokW (List.drop x.snd.toNat p0) = [(40 : UInt8)]))
    (.leaf (.inr (.ret, at' E 43 [(2, .lf (.own 0 0 .tok [])), (3, .lf (.int .i64 ((14 : Int))))] [])))
    (.ite (decide (Px.tokW (List.drop x.snd.toNat p0) = [(98 : UInt8), (101 : UInt8), (103 : UInt8), (105 : UInt8), (110 : UInt8), (98 : UInt8), (102 : UInt8), (114 : UInt8), (97 : UInt8), (110 : UInt8), (103 : UInt8), (101 : UInt8)]))
     (.leaf (.inr (.ret, at' E 43 [(2, .lf (.own 0 0 .tok [])), (3, .lf (.int .i64 ((14 : Int))))] [])))
     (.ite (decide ((x.fst.length + ([(Px.tokW (List.drop x.snd.toNat p0), Px.tokT (List.drop x.snd.toNat p0), Px.tokI (List.drop x.snd.toNat p0))] : List (List UInt8 × List UInt8 × Bool)).length) * (48 : Nat) ≤ (140737488355328 : Nat)))
      (.ite (leI (0 : Int) (bif (Px.tokN (List.drop x.snd.toNat p0)).beq (0 : Nat) then (0 : Int) else x.snd + (↑(Px.tokN (List.drop x.snd.toNat p0)) : Int)) && leI (bif (Px.tokN (List.drop x.snd.toNat p0)).beq (0 : Nat) then (0 : Int) else x.snd + (↑(Px.tokN (List.drop x.snd.toNat p0)) : Int)) (↑p0.length : Int))
       (.leaf (.inl ((x.fst ++ [(Px.tokW (List.drop x.snd.toNat p0), Px.tokT (List.drop x.snd.toNat p0), Px.tokI (List.drop x.snd.toNat p0))]), ((bif (Px.tokN (List.drop x.snd.toNat p0)).beq (0 : Nat) then (0 : Int) else x.snd + (↑(Px.tokN (List.drop x.snd.toNat p0)) : Int)) + (↑(Px.skipN false (List.drop (bif (Px.tokN (List.drop x.snd.toNat p0)).beq (0 : Nat) then (0 : Int) else x.snd + (↑(Px.tokN (List.drop x.snd.toNat p0)) : Int)).toNat p0)) : Int)))))
       (.fail))
      (.fail)))))
  (.fail))
 (.leaf (.inr (.exit 0, at' E 43 [(4, .lf (.own 0 0 .tok x.fst))] [])))
theorem h35_0 (p0 : List UInt8) (x : (List (List UInt8 × List UInt8 × Bool)) × Int) (k : Ex → St E.A → Option Unit) :
    exec E G35 (fun _ _ => .fail) 1 (lb Go.Proofs.Tryd.f35 0) (S35_0 p0 x) (fun e σ1 => k e (clean E (L35_0 e) σ1)) = (t35_0 p0 x).run (Sum.elim (fun x' => k .normal (S35_0 p0 x')) (fun o => k o.1 o.2)) := by kernel_rfl
noncomputable def out35 (r : Int × List (List UInt8 × List UInt8 × Bool)) : Tree (Out' E) :=
  .ite (eqI r.1 0) (.leaf (.exit 0, at' E 43 [(4, .lf (.own 0 0 .tok r.2))] [])) (.leaf (.ret, at' E 43 [(2, .lf (.own 0 0 .tok [])), (3, .lf (.int .i64 r.1))] []))
noncomputable def lam35_0 (p0 : List UInt8) (x : (List (List UInt8 × List UInt8 × Bool)) × Int) : Tree (Out' E) :=
  .ite (decide (p0.length ≤ 1000000000) && leI 0 x.2 && leI x.2 p0.length && Nat.beq x.1.length 0) (out35 (Px.toksRun (p0.length + 1) [] (p0.drop x.2.toNat))) .fail
theorem it35 (p : List UInt8) (hp : p.length ≤ 1000000000) : ∀ (n a : Nat) (acc : List (List UInt8 × List UInt8 × Bool)), p.length < n + a → a ≤ p.length → acc.length ≤ a →
    iter (t35_0 p) n (acc, (a : Int)) = (out35 (Px.toksRun n acc (p.drop a))).get
  | 0, a, acc, h, h2, _ => by omega
  | n + 1, a, acc, h, h2, h3 => by
    rw [iter]
    unfold t35_0 Px.toksRun
    simp only
    rw [Tree.get_ite, Int.toNat_natCast]
    rcases Nat.lt_or_ge a p.length with hl | hl
    · have hne : p.drop a ≠ [] := by
        intro hh
        have := congrArg List.length hh
        simp only [List.length_drop, List.length_nil] at this
        omega
      have hem : (p.drop a).isEmpty = false := by
        cases hd : p.drop a with
        | nil => exact absurd hd hne
        | cons => rfl
      have g : (decide (p.length ≤ 1000000000) && leI (0 : Int) (a : Int) && true) = true := by
        rw [decide_eq_true hp, leI_eq, decide_eq_true (by omega)]; rfl
      rw [ltI_nat hl, cond_true, Tree.get_ite, g, cond_true, Tree.get_ite, hem, cond_false]
      cases q : Px.tokOk (p.drop a) with
      | false => rfl
      | true =>
        obtain ⟨n1, n2⟩ := Px.tokN_ok q hne
        rw [List.length_drop] at n2
        have hb : Nat.beq (Px.tokN (p.drop a)) 0 = false := by
          cases hh : Px.tokN (p.drop a) with
          | zero => omega
          | succ => rfl
        rw [Bool.not_true, cond_false, cond_true, Tree.get_ite, hb, cond_false]
        have es : (a : Int) + (Px.tokN (p.drop a) : Int) = ((a + Px.tokN (p.drop a) : Nat) : Int) := by omega
        rw [es, Int.toNat_natCast]
        cases q1 : decide (Px.tokW (p.drop a) = [40]) with
        | true => rfl
        | false =>
          rw [cond_false, cond_false, Tree.get_ite]
          rw [show Px.wRange = [98, 101, 103, 105, 110, 98, 102, 114, 97, 110, 103, 101] from rfl]
          cases q2 : decide (Px.tokW (p.drop a) = [98, 101, 103, 105, 110, 98, 102, 114, 97, 110, 103, 101]) with
          | true => rfl
          | false =>
            have c : (leI (0 : Int) ((a + Px.tokN (p.drop a) : Nat) : Int) && leI ((a + Px.tokN (p.drop a) : Nat) : Int) (p.length : Int)) = true := by
              simp only [leI_eq, Bool.and_eq_true, decide_eq_true_eq]; omega
            rw [cond_false, cond_false, Tree.get_ite, decide_eq_true (by simp only [List.length_cons, List.length_nil]; omega), cond_true, Tree.get_ite, c, cond_true, Tree.get_leaf]
            have hd : p.drop (a + Px.tokN (p.drop a)) = (p.drop a).drop (Px.tokN (p.drop a)) := by rw [List.drop_drop]
            have hs := Px.skipN_le (p.drop (a + Px.tokN (p.drop a))) false
            rw [List.length_drop] at hs
            have ih := it35 p hp n (a + Px.tokN (p.drop a) + Px.skipN false (p.drop (a + Px.tokN (p.drop a)))) (acc ++ [(Px.tokW (p.drop a), Px.tokT (p.drop a), Px.tokI (p.drop a))]) (by omega) (by omega) (by simp only [List.length_append, List.length_cons, List.length_nil]; omega)
            have es2 : ((a + Px.tokN (p.drop a) : Nat) : Int) + (Px.skipN false (p.drop (a + Px.tokN (p.drop a))) : Int) = ((a + Px.tokN (p.drop a) + Px.skipN false (p.drop (a + Px.tokN (p.drop a))) : Nat) : Int) := by omega
            rw [es2]
            refine ih.trans ?_
            have en : p.drop (a + Px.tokN (p.drop a) + Px.skipN false (p.drop (a + Px.tokN (p.drop a)))) = Px.tokNext (p.drop a) := by
              unfold Px.tokNext
              rw [← hd, List.drop_drop]
            rw [en]
    · have e : a = p.length := by omega
      subst e
      rw [ltI_self, cond_false]
      have : (p.drop p.length).isEmpty = true := by rw [List.drop_length]; rfl
      rw [this]
      rfl
theorem m35_0 {p0 : List UInt8} {x : (List (List UInt8 × List UInt8 × Bool)) × Int} {e : Ex} {σ : St E.A} (_ : okLenR (E := E) (.lf (.sl .u8 p0)) = true) (_ : okLenR (E := E) (.lf (.own 0 0 .tok x.1)) = true)
    (h : (lam35_0 p0 x).get = some (e, σ)) : ∃ fuel, iter (t35_0 p0) fuel x = some (e, σ) ∧ e ≠ .normal := by
  obtain ⟨acc, a⟩ := x
  unfold lam35_0 at h
  have h' := Tree.get_ite_some h
  clear h
  rcases h' with ⟨h1, h⟩ | ⟨_, h⟩
  · simp only [leI_eq, Bool.and_eq_true, decide_eq_true_eq, Nat.beq_eq, List.length_eq_zero_iff] at h1
    obtain ⟨⟨⟨k1, k3⟩, k4⟩, rfl⟩ := h1
    obtain ⟨m, rfl⟩ : ∃ m : Nat, a = (m : Int) := ⟨a.toNat, by omega⟩
    rw [Int.toNat_natCast] at h
    have k4' : m ≤ p0.length := Int.ofNat_le.1 k4
    refine ⟨p0.length + 1, (it35 p0 k1 (p0.length + 1) m [] (by omega) k4' (by simp)).trans h, ?_⟩
    unfold out35 at h
    rcases Tree.get_ite_some h with ⟨_, h⟩ | ⟨_, h⟩ <;> (injection h with h; injection h with h1 _; rw [← h1]; intro hh; cases hh)
  · cases h
noncomputable def rd35_0 (σ : St E.A) : Tree (Out' E) :=
  let c := clean E (L35_0 .normal) σ
  if c.sl.length = 43 then
  match c.sl.getD 0 .undef, c.sl.getD 4 .undef, c.sl.getD 5 .undef with
  | .lf (.sl .u8 p0), .lf (.own 0 0 .tok x4), .lf (.int .i64 x5) => lam35_0 p0 (x4, x5)
  | _, _, _ => .fail
  else .fail
theorem ll35_0 (hL : Laws E) (σ : St E.A) (e : Ex) (σ' : St E.A) (h : (rd35_0 σ).get = some (e, σ')) : LoopOK E (lb Go.Proofs.Tryd.f35 0) σ e σ' := by
  refine LoopOK.of_clean hL (L35_0 .normal) ?_
  unfold rd35_0 at h
  simp only at h
  split at h
  · rename_i hlen
    split at h
    · rename_i p0 x4 x5 h0 h1 h2
      refine LoopOK.lens 0 (fun g0 => ?_)
      rw [h0] at g0
      refine LoopOK.lens 4 (fun g1 => ?_)
      rw [h1] at g1
      obtain ⟨fuel, hi, ho⟩ := m35_0 g0 g1 h
      have hl := loop_at (Γ := G35) (Λ := fun _ _ => .fail) (n := 1) (body := lb Go.Proofs.Tryd.f35 0) hL (hG35 hL) (S := S35_0 p0) (t := t35_0 p0) (Lv := L35_0) (LamOK.none (by kernel_rfl)) (h35_0 p0) hi ho
      refine LoopOK.fit hlen ?_ ?_ rfl rfl hl
      · exact ⟨h0, h1, h2, trivial⟩
      · exact trivial
    · cases h
  · cases h
noncomputable def Lam35 : Lam E
  | 0, σ => rd35_0 σ
  | _, _ => .fail
noncomputable def w35 (a0 : List UInt8) : Tree (RV E.A × List (Obj E.A)) :=
 .ite (decide (a0.length ≤ (1000000000 : Nat)) && leI (0 : Int) ((0 : Int) + (↑(Px.skipN false (List.drop (Int.toNat (0 : Int)) a0)) : Int)) && leI ((0 : Int) + (↑(Px.skipN false (List.drop (Int.toNat (0 : Int)) a0)) : Int)) (↑a0.length : Int) && ([] : List UInt8).length.beq (0 : Nat))
 (.ite (eqI (Px.toksRun (a0.length + (1 : Nat)) [] (List.drop ((0 : Int) + (↑(Px.skipN false (List.drop (Int.toNat (0 : Int)) a0)) : Int)).toNat a0)).fst (0 : Int))
  (.leaf (.tup [(false, [.sl .tok ((Px.toksRun (a0.length + (1 : Nat)) [] (List.drop ((0 : Int) + (↑(Px.skipN false (List.drop (Int.toNat (0 : Int)) a0)) : Int)).toNat a0)).snd)]), (false, [.int .i64 ((0 : Int))])], []))
  (.leaf (.tup [(false, [.sl .tok []]), (false, [.int .i64 ((Px.toksRun (a0.length + (1 : Nat)) [] (List.drop ((0 : Int) + (↑(Px.skipN false (List.drop (Int.toNat (0 : Int)) a0)) : Int)).toNat a0)).fst)])], [])))
 (.fail)
theorem e35 (a0 : List UInt8) : execFun E G35 ((Lam35)) false Go.Proofs.Tryd.f35 [.lf (.sl .u8 a0)] [] some = (w35 a0).get := by kernel_rfl
noncomputable def raw35 : Spec E := fun args os => match args, os with
  | [.lf (.sl .u8 a0)], [] => w35 a0
  | _, _ => .fail
theorem validraw35 (hL : Laws E) : Valid E 35 raw35 :=
  valid_of_body hL (hG35 hL) (Λ := (Lam35)) (fn := Go.Proofs.Tryd.f35) (keep := false) (by kernel_rfl) (by kernel_rfl) (by kernel_rfl) ((LamOK.of (m := 1) (by kernel_rfl) (fun j hj σ e σ' hg => by
      match j, hj with
      | 0, _ => exact ll35_0 hL σ e σ' hg
      ))) (fun args os r os' h => by
    unfold raw35 at h
    split at h
    · exact (e35 _).trans h
    · cases h)
theorem toksRun_no : ∀ (n : Nat) (acc : List (List UInt8 × List UInt8 × Bool)) (l : List UInt8), eqI (Px.toksRun n acc l).1 0 = false → (Px.toksRun n acc l).2 = []
  | 0, acc, l, h => by cases h
  | n + 1, acc, l, h => by
    unfold Px.toksRun at h ⊢
    cases q1 : l.isEmpty with
    | true => rw [q1] at h; cases h
    | false =>
      rw [q1] at h
      simp only [cond_false] at h ⊢
      cases q2 : Px.tokOk l with
      | false => rfl
      | true =>
        rw [q2] at h
        simp only [cond_true] at h ⊢
        cases q3 : decide (Px.tokW l = [40]) with
        | true => rfl
        | false =>
          rw [q3] at h
          simp only [cond_false] at h ⊢
          cases q4 : decide (Px.tokW l = Px.wRange) with
          | true => rfl
          | false =>
            rw [q4] at h
            exact toksRun_no n _ _ h
theorem eq35 (p : List UInt8) (h1 : p.length ≤ 1000000000) : (w35 p).get = some (.tup [(false, [.sl .tok (Px.toks p).2]), (false, [.int .i64 (Px.toks p).1])], []) := by
  unfold w35
  have hs := Px.skipN_le p false
  have e1 : (0 : Int) + ((Px.skipN false (p.drop (Int.toNat 0)) : Nat) : Int) = ((Px.skipN false p : Nat) : Int) := by
    show (0 : Int) + ((Px.skipN false p : Nat) : Int) = _
    omega
  rw [e1, Tree.get_ite]
  have c : (decide (p.length ≤ (1000000000 : Nat)) && leI (0 : Int) ((Px.skipN false p : Nat) : Int) && leI ((Px.skipN false p : Nat) : Int) (p.length : Int) && ([] : List UInt8).length.beq (0 : Nat)) = true := by
    simp only [leI_eq, Bool.and_eq_true, decide_eq_true_eq]
    exact ⟨⟨⟨h1, by omega⟩, by omega⟩, rfl⟩
  rw [c, cond_true, Tree.get_ite, Int.toNat_natCast]
  unfold Px.toks
  cases q : eqI (Px.toksRun (p.length + 1) [] (p.drop (Px.skipN false p))).1 0 with
  | true =>
    have : (Px.toksRun (p.length + 1) [] (p.drop (Px.skipN false p))).1 = 0 := by rw [eqI_eq] at q; exact of_decide_eq_true q
    rw [this]; rfl
  | false =>
    rw [toksRun_no _ _ _ q]; rfl
noncomputable def spec35 : Spec E := fun args os => match args, os with
  | [.lf (.sl .u8 p)], [] => .ite (decide (p.length ≤ 1000000000)) (.leaf (.tup [(false, [.sl .tok (Px.toks p).2]), (false, [.int .i64 (Px.toks p).1])], [])) .fail
  | _, _ => .fail
theorem valid35 (hL : Laws E) : Valid E 35 spec35 := (validraw35 hL).less (fun args os x g1 g2 h => by
  unfold spec35 at h
  split at h
  · rcases Tree.get_ite_some h with ⟨h1, h⟩ | ⟨_, h⟩
    · simp only [decide_eq_true_eq] at h1
      exact (eq35 _ h1).trans h
    · cases h
  · cases h)
end Go.Vx
namespace Go.Vx
open Go
noncomputable def G42 : FuncId → Option (Spec E)
  | 50 => some spec50
  | _ => none
theorem hG42 (hL : Laws E) : ∀ f spec, G42 f = some spec → Valid E f spec := by
  intro f spec h
  unfold G42 at h
  split at h
  · injection h with h; subst h; exact valid50 hL
  · cases h
noncomputable def w42 (a0 : List UInt8) : Tree (RV E.A × List (Obj E.A)) :=
 .ite (decide (a0.length ≤ (140737488355328 : Nat)))
 (.leaf (.lf (.ptr 0 0 0), [.cells 119 [.sl .u8 a0, .int .i64 ((0 : Int)), .bool false]]))
 (.fail)
theorem e42 (a0 : List UInt8) : execFun E G42 (fun _ _ => .fail) false Go.Proofs.Tryd.f42 [.lf (.sl .u8 a0)] [] some = (w42 a0).get := by kernel_rfl
noncomputable def spec42 : Spec E := fun args os => match args, os with
  | [.lf (.sl .u8 a0)], [] => w42 a0
  | _, _ => .fail
theorem valid42 (hL : Laws E) : Valid E 42 spec42 :=
  valid_of_body hL (hG42 hL) (Λ := fun _ _ => .fail) (fn := Go.Proofs.Tryd.f42) (keep := false) (by kernel_rfl) (by kernel_rfl) (by kernel_rfl) (LamOK.none (by kernel_rfl)) (fun args os r os' h => by
    unfold spec42 at h
    split at h
    · exact (e42 _).trans h
    · cases h)
end Go.Vx
namespace Go.Vx
open Go
noncomputable def G66 : FuncId → Option (Spec E) := fun _ => none
theorem hG66 (hL : Laws E) : ∀ f spec, G66 f = some spec → Valid E f spec := by
  intro f spec h
  cases h
noncomputable def w66 (p : List UInt8) (at_ : Int) (bad : Bool) (n : Int) : Tree (RV E.A × List (Obj E.A)) :=
 .ite bad
 (.leaf (.tup [(false, [.sl .u8 []]), (false, [.bool false])], [.cells 119 [.sl .u8 p, .int .i64 at_, .bool bad]]))
 (.ite (ltI n (0 : Int))
  (.leaf (.tup [(false, [.sl .u8 []]), (false, [.bool false])], [.cells 119 [.sl .u8 p, .int .i64 at_, .bool true]]))
  (.ite (ltI (IntKind.i64.wrap ((↑p.length : Int) - at_)) n)
   (.leaf (.tup [(false, [.sl .u8 []]), (false, [.bool false])], [.cells 119 [.sl .u8 p, .int .i64 at_, .bool true]]))
   (.ite (leI (0 : Int) at_ && leI at_ (IntKind.i64.wrap (at_ + n)) && leI (IntKind.i64.wrap (at_ + n)) (IntKind.i64.wrap (at_ + n)) && leI (IntKind.i64.wrap (at_ + n)) (↑p.length : Int))
    (.leaf (.tup [(false, [.sl .u8 (List.drop at_.toNat (List.take (IntKind.i64.wrap (at_ + n)).toNat p))]), (false, [.bool true])], [.cells 119 [.sl .u8 p, .int .i64 (IntKind.i64.wrap (at_ + n)), .bool bad]]))
    (.fail))))
theorem e66 (p : List UInt8) (at_ : Int) (bad : Bool) (n : Int) : execFun E G66 (fun _ _ => .fail) false Go.Proofs.Tryd.f66 [.lf (.ptr 0 0 0), .lf (.int .i64 n)] [.cells 119 [.sl .u8 p, .int .i64 at_, .bool bad]] some = (w66 p at_ bad n).get := by kernel_rfl
noncomputable def spec66 : Spec E := fun args os => match args, os with
  | [.lf (.ptr 0 0 0), .lf (.int .i64 n)], [.cells 119 [.sl .u8 p, .int .i64 at_, .bool bad]] => w66 p at_ bad n
  | _, _ => .fail
theorem valid66 (hL : Laws E) : Valid E 66 spec66 :=
  valid_of_body hL (hG66 hL) (Λ := fun _ _ => .fail) (fn := Go.Proofs.Tryd.f66) (keep := false) (by kernel_rfl) (by kernel_rfl) (by kernel_rfl) (LamOK.none (by kernel_rfl)) (fun args os r os' h => by
    unfold spec66 at h
    split at h
    · exact (e66 _ _ _ _).trans h
    · cases h)
end Go.Vx
namespace Go.Vx
open Go
noncomputable def G56 : FuncId → Option (Spec E)
  | 66 => some spec66
  | _ => none
theorem hG56 (hL : Laws E) : ∀ f spec, G56 f = some spec → Valid E f spec := by
  intro f spec h
  unfold G56 at h
  split at h
  · injection h with h; subst h; exact valid66 hL
  · cases h
def L56_0 : Ex → Live
  | .normal => ⟨[7, 18, 19, 20], [0]⟩
  | .exit 0 => ⟨[7], [0]⟩
  | .ret => ⟨[4], [0]⟩
  | _ => ⟨[], []⟩
noncomputable def S56_0 (p18 : List UInt8) (p19 : Int) (x : Int × Int × (List UInt8) × Int × Bool) : St E.A := at' E 31 [(7, .lf (.int .u32 x.1)), (18, .lf (.sl .u8 p18)), (19, .lf (.int .i64 p19)), (20, .lf (.int .i64 x.2.1))] [(0, some (.cells 119 [.sl .u8 x.2.2.1, .int .i64 x.2.2.2.1, .bool x.2.2.2.2]))]
noncomputable def t56_0 (p18 : List UInt8) (p19 : Int) (x : Int × Int × (List UInt8) × Int × Bool) : Tree (Int × Int × (List UInt8) × Int × Bool ⊕ Out' E) :=
 .ite (ltI x.snd.fst p19)
 (.ite (inB x.snd.fst p18.length)
  (.leaf (.inl ((vbits Go.BinOp.or IntKind.u32 (vshl IntKind.u32 x.fst (8 : Int)) (IntKind.u32.wrap (↑(p18.getD x.snd.fst.toNat (0 : UInt8)).toNat : Int))), (IntKind.i64.wrap (x.snd.fst + (1 : Int))), x.snd.snd.fst, x.snd.snd.snd.fst, x.snd.snd.snd.snd)))
  (.fail))
 (.leaf (.inr (.exit 0, at' E 31 [(7, .lf (.int .u32 x.fst))] [(0, some (.cells 119 [.sl .u8 x.snd.snd.fst, .int .i64 x.snd.snd.snd.fst, .bool x.snd.snd.snd.snd]))])))
theorem h56_0 (p18 : List UInt8) (p19 : Int) (x : Int × Int × (List UInt8) × Int × Bool) (k : Ex → St E.A → Option Unit) :
    exec E G56 (fun _ _ => .fail) 1 (lb Go.Proofs.Tryd.f56 0) (S56_0 p18 p19 x) (fun e σ1 => k e (clean E (L56_0 e) σ1)) = (t56_0 p18 p19 x).run (Sum.elim (fun x' => k .normal (S56_0 p18 p19 x')) (fun o => k o.1 o.2)) := by kernel_rfl
end Go.Vx
namespace Px
/-- a number of bytes, the highest first, in 32 bits, as the program counts -/
def num (a : Int) (b : UInt8) : Int := Go.Vx.vbits Go.BinOp.or Go.IntKind.u32 (Go.Vx.vshl Go.IntKind.u32 a 8) (Go.IntKind.u32.wrap (b.toNat : Int))
end Px
namespace Go.Vx
open Go
noncomputable def lam56_0 (p18 : List UInt8) (p19 : Int) (x : Int × Int × (List UInt8) × Int × Bool) : Tree (Out' E) :=
  .ite (eqI p19 p18.length && leI 0 x.2.1 && leI x.2.1 p19)
   (.leaf (.exit 0, at' E 31 [(7, .lf (.int .u32 ((p18.drop x.2.1.toNat).foldl Px.num x.1)))] [(0, some (.cells 119 [.sl .u8 x.2.2.1, .int .i64 x.2.2.2.1, .bool x.2.2.2.2]))])) .fail
theorem m56_0 {p18 : List UInt8} {p19 : Int} {x : Int × Int × (List UInt8) × Int × Bool} {e : Ex} {σ : St E.A} (g : okLenR (E := E) (.lf (.sl .u8 p18)) = true) (_ : okLenO (E := E) (.cells 119 [.sl .u8 x.2.2.1, .int .i64 x.2.2.2.1, .bool x.2.2.2.2]) = true)
    (h : (lam56_0 p18 p19 x).get = some (e, σ)) : ∃ fuel, iter (t56_0 p18 p19) fuel x = some (e, σ) ∧ e ≠ .normal := by
  have hb : p18.length ≤ big := of_decide_eq_true g
  obtain ⟨a, i, o⟩ := x
  unfold lam56_0 at h
  have h' := Tree.get_ite_some h
  clear h
  rcases h' with ⟨h1, h⟩ | ⟨_, h⟩
  · simp only [eqI_eq, leI_eq, Bool.and_eq_true, decide_eq_true_eq] at h1
    obtain ⟨⟨rfl, h3⟩, h4⟩ := h1
    obtain ⟨i, rfl⟩ : ∃ j : Nat, i = (j : Int) := ⟨i.toNat, by omega⟩
    have hi : i ≤ p18.length := by omega
    have key := range_iter (t := t56_0 p18 p18.length) (l := p18) (0 : UInt8) (fun (a : Int) i => (a, i, o)) (fun _ a b => .inl (Px.num a b))
      (fun a => (Ex.exit 0, at' E 31 [(7, .lf (.int .u32 a))] [(0, some (.cells 119 [.sl .u8 o.1, .int .i64 o.2.1, .bool o.2.2]))])) (fun _ _ => True)
      (fun i a hi _ => ⟨by simp only [t56_0, Tree.get_ite, Tree.get_leaf, ltI_nat hi, inB_nat hi, cond_true, i64_succ hi hb, Int.toNat_natCast, Px.num], fun _ _ => trivial⟩)
      (fun a _ => by simp only [t56_0, Tree.get_ite, Tree.get_leaf, ltI_self, cond_false])
      (p18.length - i) i a (by omega) trivial
    have run : ∀ (l : List UInt8) (i : Nat) (a : Int), rangeRun (fun _ a b => (.inl (Px.num a b) : Int ⊕ Out' E)) (fun a => (Ex.exit 0, at' E 31 [(7, .lf (.int .u32 a))] [(0, some (.cells 119 [.sl .u8 o.1, .int .i64 o.2.1, .bool o.2.2]))])) i a l = (Ex.exit 0, at' E 31 [(7, .lf (.int .u32 (l.foldl Px.num a)))] [(0, some (.cells 119 [.sl .u8 o.1, .int .i64 o.2.1, .bool o.2.2]))]) := by
      intro l
      induction l with
      | nil => intro i a; rfl
      | cons b l ih => intro i a; exact ih (i + 1) (Px.num a b)
    rw [run] at key
    refine ⟨_, key.trans h, ?_⟩
    injection h with h; injection h with h1 _; rw [← h1]; intro hh; cases hh
  · cases h
noncomputable def rd56_0 (σ : St E.A) : Tree (Out' E) :=
  let c := clean E (L56_0 .normal) σ
  if c.sl.length = 31 then
  match c.sl.getD 7 .undef, c.sl.getD 18 .undef, c.sl.getD 19 .undef, c.sl.getD 20 .undef, c.ob 0 with
  | .lf (.int .u32 x7), .lf (.sl .u8 p18), .lf (.int .i64 p19), .lf (.int .i64 x20), some (.cells 119 [.sl .u8 o0a, .int .i64 o0b, .bool o0c]) => lam56_0 p18 p19 (x7, x20, o0a, o0b, o0c)
  | _, _, _, _, _ => .fail
  else .fail
theorem ll56_0 (hL : Laws E) (σ : St E.A) (e : Ex) (σ' : St E.A) (h : (rd56_0 σ).get = some (e, σ')) : LoopOK E (lb Go.Proofs.Tryd.f56 0) σ e σ' := by
  refine LoopOK.of_clean hL (L56_0 .normal) ?_
  unfold rd56_0 at h
  simp only at h
  split at h
  · rename_i hlen
    split at h
    · rename_i x7 p18 p19 x20 o0a o0b o0c h0 h1 h2 h3 h4
      refine LoopOK.lens 18 (fun g0 => ?_)
      rw [h1] at g0
      refine LoopOK.lensO 0 (fun gg => ?_)
      have g1 := gg _ h4
      obtain ⟨fuel, hi, ho⟩ := m56_0 g0 g1 h
      have hl := loop_at (Γ := G56) (Λ := fun _ _ => .fail) (n := 1) (body := lb Go.Proofs.Tryd.f56 0) hL (hG56 hL) (S := S56_0 p18 p19) (t := t56_0 p18 p19) (Lv := L56_0) (LamOK.none (by kernel_rfl)) (h56_0 p18 p19) hi ho
      refine LoopOK.fit hlen ?_ ?_ rfl rfl hl
      · exact ⟨h0, h1, h2, h3, trivial⟩
      · exact ⟨h4, trivial⟩
    · cases h
  · cases h
noncomputable def Lam56 : Lam E
  | 0, σ => rd56_0 σ
  | _, _ => .fail
noncomputable def w56 (p : List UInt8) (at_ : Int) (bad : Bool) (n : Int) : Tree (RV E.A × List (Obj E.A)) :=
 .ite bad
 (.leaf (.lf (.int .u32 ((0 : Int))), [.cells 119 [.sl .u8 p, .int .i64 at_, .bool bad]]))
 (.ite (ltI n (0 : Int))
  (.leaf (.lf (.int .u32 ((0 : Int))), [.cells 119 [.sl .u8 p, .int .i64 at_, .bool true]]))
  (.ite (ltI (IntKind.i64.wrap ((↑p.length : Int) - at_)) n)
   (.leaf (.lf (.int .u32 ((0 : Int))), [.cells 119 [.sl .u8 p, .int .i64 at_, .bool true]]))
   (.ite (leI (0 : Int) at_ && leI at_ (IntKind.i64.wrap (at_ + n)) && leI (IntKind.i64.wrap (at_ + n)) (IntKind.i64.wrap (at_ + n)) && leI (IntKind.i64.wrap (at_ + n)) (↑p.length : Int))
    (.ite (eqI (↑(List.drop at_.toNat (List.take (IntKind.i64.wrap (at_ + n)).toNat p)).length : Int) (↑(List.drop at_.toNat (List.take (IntKind.i64.wrap (at_ + n)).toNat p)).length : Int) && leI (0 : Int) (0 : Int) && leI (0 : Int) (↑(List.drop at_.toNat (List.take (IntKind.i64.wrap (at_ + n)).toNat p)).length : Int))
     (.leaf (.lf (.int .u32 (List.foldl Px.num (0 : Int) (List.drop (Int.toNat (0 : Int)) (List.drop at_.toNat (List.take (IntKind.i64.wrap (at_ + n)).toNat p))))), [.cells 119 [.sl .u8 p, .int .i64 (IntKind.i64.wrap (at_ + n)), .bool bad]]))
     (.fail))
    (.fail))))
theorem e56 (p : List UInt8) (at_ : Int) (bad : Bool) (n : Int) : execFun E G56 ((Lam56)) false Go.Proofs.Tryd.f56 [.lf (.ptr 0 0 0), .lf (.int .i64 n)] [.cells 119 [.sl .u8 p, .int .i64 at_, .bool bad]] some = (w56 p at_ bad n).get := by kernel_rfl
noncomputable def spec56 : Spec E := fun args os => match args, os with
  | [.lf (.ptr 0 0 0), .lf (.int .i64 n)], [.cells 119 [.sl .u8 p, .int .i64 at_, .bool bad]] => w56 p at_ bad n
  | _, _ => .fail
theorem valid56 (hL : Laws E) : Valid E 56 spec56 :=
  valid_of_body hL (hG56 hL) (Λ := (Lam56)) (fn := Go.Proofs.Tryd.f56) (keep := false) (by kernel_rfl) (by kernel_rfl) (by kernel_rfl) ((LamOK.of (m := 1) (by kernel_rfl) (fun j hj σ e σ' hg => by
      match j, hj with
      | 0, _ => exact ll56_0 hL σ e σ' hg
      ))) (fun args os r os' h => by
    unfold spec56 at h
    split at h
    · exact (e56 _ _ _ _).trans h
    · cases h)
end Go.Vx
namespace Go.Vx
open Go
noncomputable def G43 : FuncId → Option (Spec E)
  | 56 => some spec56
  | _ => none
theorem hG43 (hL : Laws E) : ∀ f spec, G43 f = some spec → Valid E f spec := by
  intro f spec h
  unfold G43 at h
  split at h
  · injection h with h; subst h; exact valid56 hL
  · cases h
noncomputable def w43 (p : List UInt8) (at_ : Int) (bad : Bool) : Tree (RV E.A × List (Obj E.A)) :=
 .ite bad
 (.leaf (.lf (.int .u16 (IntKind.u16.wrap (0 : Int))), [.cells 119 [.sl .u8 p, .int .i64 at_, .bool bad]]))
 (.ite (ltI (IntKind.i64.wrap ((↑p.length : Int) - at_)) (2 : Int))
  (.leaf (.lf (.int .u16 (IntKind.u16.wrap (0 : Int))), [.cells 119 [.sl .u8 p, .int .i64 at_, .bool true]]))
  (.ite (leI (0 : Int) at_ && leI at_ (IntKind.i64.wrap (at_ + (2 : Int))) && leI (IntKind.i64.wrap (at_ + (2 : Int))) (IntKind.i64.wrap (at_ + (2 : Int))) && leI (IntKind.i64.wrap (at_ + (2 : Int))) (↑p.length : Int))
   (.ite (eqI (↑(List.drop at_.toNat (List.take (IntKind.i64.wrap (at_ + (2 : Int))).toNat p)).length : Int) (↑(List.drop at_.toNat (List.take (IntKind.i64.wrap (at_ + (2 : Int))).toNat p)).length : Int) && leI (0 : Int) (0 : Int) && leI (0 : Int) (↑(List.drop at_.toNat (List.take (IntKind.i64.wrap (at_ + (2 : Int))).toNat p)).length : Int))
    (.leaf (.lf (.int .u16 (IntKind.u16.wrap (List.foldl Px.num (0 : Int) (List.drop (Int.toNat (0 : Int)) (List.drop at_.toNat (List.take (IntKind.i64.wrap (at_ + (2 : Int))).toNat p)))))), [.cells 119 [.sl .u8 p, .int .i64 (IntKind.i64.wrap (at_ + (2 : Int))), .bool bad]]))
    (.fail))
   (.fail)))
theorem e43 (p : List UInt8) (at_ : Int) (bad : Bool) : execFun E G43 (fun _ _ => .fail) false Go.Proofs.Tryd.f43 [.lf (.ptr 0 0 0)] [.cells 119 [.sl .u8 p, .int .i64 at_, .bool bad]] some = (w43 p at_ bad).get := by kernel_rfl
noncomputable def raw43 : Spec E := fun args os => match args, os with
  | [.lf (.ptr 0 0 0)], [.cells 119 [.sl .u8 p, .int .i64 at_, .bool bad]] => w43 p at_ bad
  | _, _ => .fail
theorem validraw43 (hL : Laws E) : Valid E 43 raw43 :=
  valid_of_body hL (hG43 hL) (Λ := fun _ _ => .fail) (fn := Go.Proofs.Tryd.f43) (keep := false) (by kernel_rfl) (by kernel_rfl) (by kernel_rfl) (LamOK.none (by kernel_rfl)) (fun args os r os' h => by
    unfold raw43 at h
    split at h
    · exact (e43 _ _ _).trans h
    · cases h)
theorem num2 (a b : UInt8) : IntKind.u16.wrap (Px.num (Px.num 0 a) b) = 256 * (a.toNat : Int) + (b.toNat : Int) := by
  have ha := a.toNat_lt
  have hb := b.toNat_lt
  have e1 : Px.num 0 a = ((a.toNat : Nat) : Int) := by
    unfold Px.num
    have h0 : vshl IntKind.u32 0 8 = ((0 : Nat) : Int) := by decide +kernel
    rw [h0, wu32 _ (by omega) (by omega), vbits_or _ _ _ (by decide) (by show _ < 2 ^ 32; omega), Nat.zero_or, wu32] <;> omega
  have e2 : vshl IntKind.u32 ((a.toNat : Nat) : Int) 8 = ((a.toNat * 2 ^ 8 : Nat) : Int) := by
    unfold vshl
    have : min (Int.toNat 8) (IntKind.u32.bits) = 8 := by decide
    rw [this, wu32] <;> omega
  have e3 : Px.num (a.toNat : Int) b = ((a.toNat * 2 ^ 8 + b.toNat : Nat) : Int) := by
    unfold Px.num
    rw [e2, wu32 _ (by omega) (by omega), vbits_or _ _ _ (by show _ < 2 ^ 32; omega) (by show _ < 2 ^ 32; omega), or_low _ _ _ (by omega), wu32] <;> omega
  rw [e1, e3, wu16] <;> omega
/-- word.Reader.U16 -/
noncomputable def spec43 : Spec E := fun args os => match args, os with
  | [.lf (.ptr 0 0 0)], [.cells 119 [.sl .u8 p, .int .i64 i, .bool bad]] =>
    .ite (leI 0 i && leI i (p.length : Int))
     (.ite (bad || ltI (p.length : Int) (i + 2))
      (.leaf (.lf (.int .u16 0), [.cells 119 [.sl .u8 p, .int .i64 i, .bool true]]))
      (.leaf (.lf (.int .u16 (Px.n2 p i.toNat)), [.cells 119 [.sl .u8 p, .int .i64 (i + 2), .bool false]]))) .fail
  | _, _ => .fail
theorem eq43 (p : List UInt8) (i : Int) (bad : Bool) (hb : p.length ≤ big) (h : (leI 0 i && leI i (p.length : Int)) = true) : (w43 p i bad).get =
    cond (bad || ltI (p.length : Int) (i + 2)) (some ((.lf (.int .u16 0) : RV E.A), [.cells 119 [.sl .u8 p, .int .i64 i, .bool true]])) (some (.lf (.int .u16 (Px.n2 p i.toNat)), [.cells 119 [.sl .u8 p, .int .i64 (i + 2), .bool false]])) := by
  simp only [leI_eq, Bool.and_eq_true, decide_eq_true_eq] at h
  obtain ⟨i, rfl⟩ : ∃ j : Nat, i = (j : Int) := ⟨i.toNat, by omega⟩
  unfold big at hb
  unfold w43
  have e0 : IntKind.u16.wrap 0 = 0 := by decide
  cases bad with
  | true => simp only [Tree.get_ite, Tree.get_leaf, cond_true, Bool.true_or, e0]
  | false =>
    have e1 : IntKind.i64.wrap ((p.length : Int) - (i : Int)) = (p.length : Int) - (i : Int) := by rw [wi64] <;> omega
    simp only [Tree.get_ite, Tree.get_leaf, cond_false, Bool.false_or, e0, e1, ltI_eq]
    by_cases h2 : (p.length : Int) < (i : Int) + 2
    · have h3 : (p.length : Int) - (i : Int) < 2 := by omega
      simp only [h2, h3, decide_true, cond_true]
    · have h3 : ¬ (p.length : Int) - (i : Int) < 2 := by omega
      have e2 : IntKind.i64.wrap ((i : Int) + 2) = ((i + 2 : Nat) : Int) := by rw [wi64] <;> omega
      have e3 : List.drop i (List.take (i + 2) p) = [p.getD i 0, p.getD (i + 1) 0] := by
        have hi : i < p.length := by omega
        have hi1 : i + 1 < p.length := by omega
        rw [List.drop_take, show i + 2 - i = 2 by omega, drop_cons p 0 i hi, drop_cons p 0 (i + 1) hi1]
        rfl
      have c1 : (leI 0 (i : Int) && leI (i : Int) ((i + 2 : Nat) : Int) && leI ((i + 2 : Nat) : Int) ((i + 2 : Nat) : Int) && leI ((i + 2 : Nat) : Int) (p.length : Int)) = true := by
        simp only [leI_eq, Bool.and_eq_true, decide_eq_true_eq]; omega
      rw [e2, c1]
      simp only [h2, h3, decide_false, cond_false, cond_true, Int.toNat_natCast, e3, List.length_cons, List.length_nil]
      have c2 : (eqI ((0 + 1 + 1 : Nat) : Int) ((0 + 1 + 1 : Nat) : Int) && leI 0 0 && leI 0 ((0 + 1 + 1 : Nat) : Int)) = true := by decide
      rw [c2]
      simp only [cond_true]
      show some ((.lf (.int .u16 (IntKind.u16.wrap (Px.num (Px.num 0 (p.getD i 0)) (p.getD (i + 1) 0)))) : RV E.A), _) = _
      rw [num2]
      rfl
theorem valid43 (hL : Laws E) : Valid E 43 spec43 := (validraw43 hL).less (fun args os x g0 g h => by
  unfold spec43 at h
  split at h
  · rename_i p i bad
    have hb : p.length ≤ big := by
      simp only [List.all_cons, Bool.and_eq_true] at g
      have := g.1
      simp only [okLenO, List.all_cons, Bool.and_eq_true] at this
      exact of_decide_eq_true this.1
    rcases Tree.get_ite_some h with ⟨h1, h⟩ | ⟨_, h⟩
    · exact (eq43 p i bad hb h1).trans h
    · cases h
  · cases h)
end Go.Vx
namespace Go.Vx
open Go
noncomputable def G20 : FuncId → Option (Spec E)
  | 19 => some spec19
  | 42 => some spec42
  | 43 => some spec43
  | 44 => some spec44
  | _ => none
theorem hG20 (hL : Laws E) : ∀ f spec, G20 f = some spec → Valid E f spec := by
  intro f spec h
  unfold G20 at h
  split at h
  · injection h with h; subst h; exact valid19 hL
  · injection h with h; subst h; exact valid42 hL
  · injection h with h; subst h; exact valid43 hL
  · injection h with h; subst h; exact valid44 hL
  · cases h
noncomputable def w20 (a0 : List UInt8) : Tree (RV E.A × List (Obj E.A)) :=
 .ite (decide (a0.length ≤ (140737488355328 : Nat)))
 (.ite (false || ltI (↑a0.length : Int) ((0 : Int) + (2 : Int)))
  (.ite (eqI (↑a0.length : Int) (0 : Int))
   (.leaf (.tup [(false, [.int .i32 ((0 : Int))]), (false, [.bool false])], []))
   (.ite (!decide (Px.utf16s (IntKind.i32.wrap (0 : Int)) = a0))
    (.leaf (.tup [(false, [.int .i32 ((0 : Int))]), (false, [.bool false])], []))
    (.leaf (.tup [(false, [.int .i32 (IntKind.i32.wrap (0 : Int))]), (false, [.bool true])], []))))
  (.ite (leI (55296 : Int) (IntKind.i32.wrap (Px.n2 a0 (Int.toNat (0 : Int)))))
   (.ite (ltI (IntKind.i32.wrap (Px.n2 a0 (Int.toNat (0 : Int)))) (56320 : Int))
    (.ite (ltI (2 : Int) (↑a0.length : Int))
     (.ite (leI (0 : Int) ((0 : Int) + (2 : Int)) && leI ((0 : Int) + (2 : Int)) (↑a0.length : Int))
      (.ite (false || ltI (↑a0.length : Int) ((0 : Int) + (2 : Int) + (2 : Int)))
       (.ite (eqI (↑a0.length : Int) (0 : Int))
        (.leaf (.tup [(false, [.int .i32 ((0 : Int))]), (false, [.bool false])], []))
        (.ite (!decide (Px.utf16s (vbits Go.BinOp.or IntKind.i32 (IntKind.i32.wrap ((65536 : Int) + vshl IntKind.i32 (IntKind.i32.wrap (IntKind.i32.wrap (Px.n2 a0 (Int.toNat (0 : Int))) - (55296 : Int))) (10 : Int))) (IntKind.i32.wrap (vbits Go.BinOp.and IntKind.u16 (0 : Int) (1023 : Int)))) = a0))
         (.leaf (.tup [(false, [.int .i32 ((0 : Int))]), (false, [.bool false])], []))
         (.leaf (.tup [(false, [.int .i32 (vbits Go.BinOp.or IntKind.i32 (IntKind.i32.wrap ((65536 : Int) + vshl IntKind.i32 (IntKind.i32.wrap (IntKind.i32.wrap (Px.n2 a0 (Int.toNat (0 : Int))) - (55296 : Int))) (10 : Int))) (IntKind.i32.wrap (vbits Go.BinOp.and IntKind.u16 (0 : Int) (1023 : Int))))]), (false, [.bool true])], []))))
       (.ite (eqI (↑a0.length : Int) (0 : Int))
        (.leaf (.tup [(false, [.int .i32 ((0 : Int))]), (false, [.bool false])], []))
        (.ite (!decide (Px.utf16s (vbits Go.BinOp.or IntKind.i32 (IntKind.i32.wrap ((65536 : Int) + vshl IntKind.i32 (IntKind.i32.wrap (IntKind.i32.wrap (Px.n2 a0 (Int.toNat (0 : Int))) - (55296 : Int))) (10 : Int))) (IntKind.i32.wrap (vbits Go.BinOp.and IntKind.u16 (Px.n2 a0 ((0 : Int) + (2 : Int)).toNat) (1023 : Int)))) = a0))
         (.leaf (.tup [(false, [.int .i32 ((0 : Int))]), (false, [.bool false])], []))
         (.leaf (.tup [(false, [.int .i32 (vbits Go.BinOp.or IntKind.i32 (IntKind.i32.wrap ((65536 : Int) + vshl IntKind.i32 (IntKind.i32.wrap (IntKind.i32.wrap (Px.n2 a0 (Int.toNat (0 : Int))) - (55296 : Int))) (10 : Int))) (IntKind.i32.wrap (vbits Go.BinOp.and IntKind.u16 (Px.n2 a0 ((0 : Int) + (2 : Int)).toNat) (1023 : Int))))]), (false, [.bool true])], [])))))
      (.fail))
     (.ite (eqI (↑a0.length : Int) (0 : Int))
      (.leaf (.tup [(false, [.int .i32 ((0 : Int))]), (false, [.bool false])], []))
      (.ite (!decide (Px.utf16s (IntKind.i32.wrap (Px.n2 a0 (Int.toNat (0 : Int)))) = a0))
       (.leaf (.tup [(false, [.int .i32 ((0 : Int))]), (false, [.bool false])], []))
       (.leaf (.tup [(false, [.int .i32 (IntKind.i32.wrap (Px.n2 a0 (Int.toNat (0 : Int))))]), (false, [.bool true])], [])))))
    (.ite (eqI (↑a0.length : Int) (0 : Int))
     (.leaf (.tup [(false, [.int .i32 ((0 : Int))]), (false, [.bool false])], []))
     (.ite (!decide (Px.utf16s (IntKind.i32.wrap (Px.n2 a0 (Int.toNat (0 : Int)))) = a0))
      (.leaf (.tup [(false, [.int .i32 ((0 : Int))]), (false, [.bool false])], []))
      (.leaf (.tup [(false, [.int .i32 (IntKind.i32.wrap (Px.n2 a0 (Int.toNat (0 : Int))))]), (false, [.bool true])], [])))))
   (.ite (eqI (↑a0.length : Int) (0 : Int))
    (.leaf (.tup [(false, [.int .i32 ((0 : Int))]), (false, [.bool false])], []))
    (.ite (!decide (Px.utf16s (IntKind.i32.wrap (Px.n2 a0 (Int.toNat (0 : Int)))) = a0))
     (.leaf (.tup [(false, [.int .i32 ((0 : Int))]), (false, [.bool false])], []))
     (.leaf (.tup [(false, [.int .i32 (IntKind.i32.wrap (Px.n2 a0 (Int.toNat (0 : Int))))]), (false, [.bool true])], []))))))
 (.fail)
theorem e20 (a0 : List UInt8) : execFun E G20 (fun _ _ => .fail) false Go.Proofs.Tryd.f20 [.lf (.sl .u8 a0)] [] some = (w20 a0).get := by kernel_rfl
noncomputable def raw20 : Spec E := fun args os => match args, os with
  | [.lf (.sl .u8 a0)], [] => w20 a0
  | _, _ => .fail
theorem validraw20 (hL : Laws E) : Valid E 20 raw20 :=
  valid_of_body hL (hG20 hL) (Λ := fun _ _ => .fail) (fn := Go.Proofs.Tryd.f20) (keep := false) (by kernel_rfl) (by kernel_rfl) (by kernel_rfl) (LamOK.none (by kernel_rfl)) (fun args os r os' h => by
    unfold raw20 at h
    split at h
    · exact (e20 _).trans h
    · cases h)
/-- what comes back: the scalar, or none -/
def out20 (r : Int) : RV E.A := .tup [(false, [.int .i32 (cond (leI 0 r) r 0)]), (false, [.bool (leI 0 r)])]
theorem and1023' (n : Nat) (h : n < 65536) : vbits .and IntKind.u16 (n : Int) 1023 = ((n % 1024 : Nat) : Int) := by
  have := vbits_and IntKind.u16 n 1023 h (by decide)
  rw [show ((1023 : Nat) : Int) = 1023 from rfl] at this
  rw [this, show (1023 : Nat) = 2 ^ 10 - 1 from rfl, Nat.and_two_pow_sub_one_eq_mod, wu16] <;> omega
/-- two halves' scalar -/
theorem pair20 (a b : Nat) (h1 : 55296 ≤ a) (h2 : a < 56320) (hb : b < 65536) :
    vbits Go.BinOp.or IntKind.i32 (IntKind.i32.wrap ((65536 : Int) + vshl IntKind.i32 (IntKind.i32.wrap (IntKind.i32.wrap (a : Int) - (55296 : Int))) (10 : Int))) (IntKind.i32.wrap (vbits Go.BinOp.and IntKind.u16 (b : Int) (1023 : Int))) = (((a - 55296) * 1024 + b % 1024 : Nat) : Int) + 65536 := by
  obtain ⟨k, rfl⟩ : ∃ k, a = k + 55296 := ⟨a - 55296, by omega⟩
  rw [Nat.add_sub_cancel]
  have e1 : IntKind.i32.wrap (((k + 55296 : Nat) : Int)) = ((k + 55296 : Nat) : Int) := by rw [wi32] <;> omega
  have e2 : IntKind.i32.wrap (((k + 55296 : Nat) : Int) - 55296) = (k : Int) := by rw [wi32] <;> omega
  have e3 : vshl IntKind.i32 (k : Int) 10 = ((k * 1024 : Nat) : Int) := by
    unfold vshl
    have : min (Int.toNat 10) (IntKind.i32.bits) = 10 := by decide
    rw [this, wi32] <;> omega
  have e4 : IntKind.i32.wrap ((65536 : Int) + ((k * 1024 : Nat) : Int)) = (((k + 64) * 1024 : Nat) : Int) := by rw [wi32] <;> omega
  have e5 : IntKind.i32.wrap ((b % 1024 : Nat) : Int) = ((b % 1024 : Nat) : Int) := by rw [wi32] <;> omega
  rw [e1, e2, e3, e4, and1023' b hb, e5, vbits_or IntKind.i32 _ _ (by show _ < 4294967296; omega) (by show _ < 4294967296; omega), show ((k + 64) * 1024) ||| (b % 1024) = (k + 64) * 1024 + b % 1024 from or_low _ _ 10 (by omega), wi32] <;> omega
theorem utf16_pair (k m : Nat) (hk : k < 1024) (hm : m < 1024) : Px.utf16s (((k * 1024 + m : Nat) : Int) + 65536) = Px.b2 (55296 + k) ++ Px.b2 (56320 + m) := by
  have hs : Px.scalar (((k * 1024 + m : Nat) : Int) + 65536) = true := (Px.scalar_iff _).2 ⟨by omega, by omega, by omega⟩
  rw [Px.utf16s_high hs, show (k * 1024 + m) / 1024 = k by omega, show (k * 1024 + m) % 1024 = m by omega]
theorem utf16_one (a : Nat) (h : a < 65536) : Px.utf16s (a : Int) = cond (Px.scalar (a : Int)) (Px.b2 a) [] := by
  cases hs : Px.scalar (a : Int) with
  | true => exact Px.utf16s_low hs h
  | false => exact Px.utf16s_no hs
/-- the test behind: do the bytes come back? -/
theorem test20 (p : List UInt8) (c r : Int) (hr : r = cond (!eqI (p.length : Int) 0 && decide (Px.utf16s c = p)) c (-1)) (hc : 0 ≤ c) {t : Tree (RV E.A × List (Obj E.A))}
    (ht : t = .ite (eqI (p.length : Int) (0 : Int)) (.leaf (.tup [(false, [.int .i32 ((0 : Int))]), (false, [.bool false])], []))
     (.ite (!decide (Px.utf16s c = p)) (.leaf (.tup [(false, [.int .i32 ((0 : Int))]), (false, [.bool false])], [])) (.leaf (.tup [(false, [.int .i32 c]), (false, [.bool true])], [])))) : t.get = some (out20 r, []) := by
  subst ht
  subst hr
  simp only [Tree.get_ite, Tree.get_leaf]
  have e : leI 0 c = true := by rw [leI_eq]; exact decide_eq_true hc
  cases eqI (p.length : Int) 0 <;> cases decide (Px.utf16s c = p) <;> simp only [cond_true, cond_false, Bool.not_true, Bool.not_false, Bool.and_true, Bool.and_false, Bool.true_and, Bool.false_and, out20, e] <;> rfl
theorem eq20 (p : List UInt8) (hp : p.length ≤ 140737488355328) : (w20 p).get = some (out20 (Px.rune p), []) := by
  unfold w20
  rw [Tree.get_ite, decide_eq_true hp, cond_true, Tree.get_ite]
  have e0 : IntKind.i32.wrap 0 = 0 := by decide
  rw [e0]
  match p, hp with
  | [], _ => exact test20 [] 0 _ (by kernel_rfl) (by decide) rfl
  | [x], _ =>
    refine test20 [x] 0 _ ?_ (by decide) rfl
    have h : ¬ Px.utf16s 0 = [x] := fun e => by
      have := congrArg List.length e
      rw [show Px.utf16s 0 = [0, 0] by kernel_rfl] at this
      cases this
    rw [decide_eq_false h, Bool.and_false]
    rfl
  | x :: y :: r, _ =>
    have hx := x.toNat_lt
    have hy := y.toNat_lt
    have c0 : (false || ltI ((x :: y :: r).length : Int) ((0 : Int) + 2)) = false := by
      rw [Bool.false_or, ltI_eq]; exact decide_eq_false (by simp; omega)
    rw [c0, cond_false, show Int.toNat 0 = 0 from rfl, show ((0 : Int) + 2).toNat = 2 from rfl]
    have hn := Px.n2_two x y r
    obtain ⟨a, ha⟩ : ∃ a : Nat, a = 256 * x.toNat + y.toNat := ⟨_, rfl⟩
    have hb2 : Px.b2 a = [x, y] := by rw [ha]; exact Px.b2_two x y
    have hal : a < 65536 := by omega
    rw [← ha] at hn
    have ew : IntKind.i32.wrap (a : Int) = (a : Int) := by rw [wi32] <;> omega
    have lz : eqI ((x :: y :: r).length : Int) 0 = false := by rw [eqI_eq]; exact decide_eq_false (by simp; omega)
    have hone := utf16_one a hal
    -- where it is one half alone
    have one : (¬ (55296 ≤ a ∧ a < 56320) ∨ r = []) → Px.rune (x :: y :: r) = cond (!eqI ((x :: y :: r).length : Int) 0 && decide (Px.utf16s (a : Int) = x :: y :: r)) (a : Int) (-1) := by
      intro hh
      unfold Px.rune
      rw [hn, lz, hone, hb2]
      have c4 : (eqI ((x :: y :: r).length : Int) 4 && leI 55296 (a : Int) && ltI (a : Int) 56320 && leI 56320 (Px.n2 (x :: y :: r) 2) && ltI (Px.n2 (x :: y :: r) 2) 57344) = false := by
        rcases hh with hh | rfl
        · have : (leI 55296 (a : Int) && ltI (a : Int) 56320) = false := by
            rw [leI_eq, ltI_eq, ← Bool.decide_and]; exact decide_eq_false (by omega)
          simp only [Bool.and_assoc] at this ⊢
          rw [← Bool.and_assoc (leI 55296 (a : Int)), this]; simp
        · rfl
      rw [c4]
      cases r with
      | nil => cases Px.scalar (a : Int) <;> simp [eqI]
      | cons z r =>
        have l2 : eqI ((x :: y :: z :: r).length : Int) 2 = false := by rw [eqI_eq]; exact decide_eq_false (by simp; omega)
        rw [l2]
        cases Px.scalar (a : Int) <;> simp
    rw [hn, ew, Tree.get_ite, leI_eq]
    by_cases h1 : (55296 : Int) ≤ (a : Int)
    · rw [decide_eq_true h1, cond_true, Tree.get_ite, ltI_eq]
      by_cases h2 : (a : Int) < 56320
      · rw [decide_eq_true h2, cond_true, Tree.get_ite]
        match r with
        | [] =>
          exact test20 [x, y] a _ (one (.inr rfl)) (by omega) rfl
        | z :: r =>
          have l2 : ltI 2 ((x :: y :: z :: r).length : Int) = true := by rw [ltI_eq]; exact decide_eq_true (by simp; omega)
          have l3 : (leI (0 : Int) ((0 : Int) + 2) && leI ((0 : Int) + 2) ((x :: y :: z :: r).length : Int)) = true := by
            rw [leI_eq ((0 : Int) + 2), decide_eq_true (by simp; omega)]; rfl
          rw [l2, cond_true, Tree.get_ite, l3, cond_true, Tree.get_ite, Bool.false_or]
          have len2 : eqI ((x :: y :: z :: r).length : Int) 2 = false := by rw [eqI_eq]; exact decide_eq_false (by simp; omega)
          match r with
          | [] =>
            have l4 : ltI (([x, y, z] : List UInt8).length : Int) ((0 : Int) + 2 + 2) = true := by rfl
            rw [l4, cond_true]
            have hc := pair20 a 0 (by omega) (by omega) (by omega)
            rw [show ((0 : Nat) : Int) = 0 from rfl, ew] at hc
            refine test20 [x, y, z] _ _ ?_ ?_ rfl
            · rw [hc, utf16_pair _ _ (by omega) (by omega)]
              have : ¬ (Px.b2 (55296 + (a - 55296)) ++ Px.b2 (56320 + 0 % 1024) = [x, y, z]) := fun e => by
                have := congrArg List.length e
                simp [Px.b2] at this
              rw [decide_eq_false this, Bool.and_false]
              have len4 : eqI (([x, y, z] : List UInt8).length : Int) 4 = false := by rw [eqI_eq]; exact decide_eq_false (by simp)
              unfold Px.rune
              rw [len2, len4]
              simp only [Bool.false_and, cond_false]
            · rw [hc]; omega
          | u :: r =>
            have hz := z.toNat_lt
            have hu := u.toNat_lt
            have hn2 := Px.n2_four x y z u r
            obtain ⟨b, hb⟩ : ∃ b : Nat, b = 256 * z.toNat + u.toNat := ⟨_, rfl⟩
            have hbb : Px.b2 b = [z, u] := by rw [hb]; exact Px.b2_two z u
            have hbl : b < 65536 := by omega
            rw [← hb] at hn2
            have l4 : ltI ((x :: y :: z :: u :: r).length : Int) ((0 : Int) + 2 + 2) = false := by rw [ltI_eq]; exact decide_eq_false (by simp; omega)
            rw [l4, cond_false, hn2]
            have hc := pair20 a b (by omega) (by omega) hbl
            rw [ew] at hc
            refine test20 (x :: y :: z :: u :: r) _ _ ?_ ?_ rfl
            · rw [hc, utf16_pair _ _ (by omega) (by omega), show 55296 + (a - 55296) = a by omega, hb2]
              unfold Px.rune
              rw [hn, hn2, len2, lz]
              have hA : leI 55296 (a : Int) = true := by rw [leI_eq]; exact decide_eq_true h1
              have hB : ltI (a : Int) 56320 = true := by rw [ltI_eq]; exact decide_eq_true h2
              rw [hA, hB]
              have key : decide ([x, y] ++ Px.b2 (56320 + b % 1024) = x :: y :: z :: u :: r) = (eqI ((x :: y :: z :: u :: r).length : Int) 4 && true && true && leI 56320 (b : Int) && ltI (b : Int) 57344) := by
                rw [eqI_eq, leI_eq, ltI_eq, Bool.and_true, Bool.and_true, ← Bool.decide_and, ← Bool.decide_and]
                refine decide_eq_decide.2 ⟨fun e => ?_, fun e => ?_⟩
                · have e1 : Px.b2 (56320 + b % 1024) = z :: u :: r := by simpa using e
                  have hr : r = [] := by
                    have h9 := congrArg List.length e1
                    cases r with
                    | nil => rfl
                    | cons v r => simp [Px.b2] at h9
                  subst hr
                  rw [← hbb] at e1
                  have := Px.b2_inj (by omega) hbl e1
                  exact ⟨⟨rfl, by omega⟩, by omega⟩
                · have hr : r = [] := by
                    have h9 := e.1.1
                    cases r with
                    | nil => rfl
                    | cons v r => simp only [List.length_cons] at h9; omega
                  subst hr
                  have : 56320 + b % 1024 = b := by omega
                  rw [this, hbb]; rfl
              rw [key]
              simp only [Bool.false_and, cond_false, Bool.not_false, Bool.true_and]
              cases hk : (eqI ((x :: y :: z :: u :: r).length : Int) 4 && true && true && leI 56320 (b : Int) && ltI (b : Int) 57344) with
              | false => rfl
              | true =>
                simp only [Bool.and_true, Bool.and_eq_true, leI_eq, ltI_eq, decide_eq_true_eq] at hk
                simp only [cond_true]
                omega
            · rw [hc]; omega
      · rw [decide_eq_false h2, cond_false]
        exact test20 (x :: y :: r) a _ (one (.inl (by omega))) (by omega) rfl
    · rw [decide_eq_false h1, cond_false]
      exact test20 (x :: y :: r) a _ (one (.inl (by omega))) (by omega) rfl
/-- touni.Rune -/
noncomputable def spec20 : Spec E := fun args os => match args, os with
  | [.lf (.sl .u8 p)], [] => .ite (decide (p.length ≤ 140737488355328)) (.leaf (out20 (Px.rune p), [])) .fail
  | _, _ => .fail
theorem valid20 (hL : Laws E) : Valid E 20 spec20 := (validraw20 hL).less (fun args os x g1 g2 h => by
  unfold spec20 at h
  split at h
  · rcases Tree.get_ite_some h with ⟨h1, h⟩ | ⟨_, h⟩
    · exact (eq20 _ (of_decide_eq_true h1)).trans h
    · cases h
  · cases h)
end Go.Vx
namespace Go.Vx
open Go
noncomputable def G36 : FuncId → Option (Spec E)
  | 20 => some spec20
  | 42 => some spec42
  | 43 => some spec43
  | _ => none
theorem hG36 (hL : Laws E) : ∀ f spec, G36 f = some spec → Valid E f spec := by
  intro f spec h
  unfold G36 at h
  split at h
  · injection h with h; subst h; exact valid20 hL
  · injection h with h; subst h; exact valid42 hL
  · injection h with h; subst h; exact valid43 hL
  · cases h
def L36_0 : Ex → Live
  | .normal => ⟨[1, 2, 6], [0, 192]⟩
  | .exit 0 => ⟨[], [0, 192]⟩
  | .ret => ⟨[4, 5], [0, 192]⟩
  | _ => ⟨[], []⟩
noncomputable def S36_0 (p1 : List (List UInt8 × List UInt8 × Bool)) (x : Int × (List (Int × Int))) : St E.A := at' E 90 [(1, .lf (.sl .tok p1)), (2, .lf (.ptr 192 0 0)), (6, .lf (.int .i64 x.1))] [(0, some (.map .u16 .i32 x.2)), (192, some (.cells 34 [.mp 0 0]))]
noncomputable def t36_0 (p1 : List (List UInt8 × List UInt8 × Bool)) (x : Int × (List (Int × Int))) : Tree (Int × (List (Int × Int)) ⊕ Out' E) :=
 .ite (ltI x.fst (↑p1.length : Int))
 (.ite (inB x.fst p1.length)
  (.ite (decide ((p1.getD x.fst.toNat ([], [], false)).fst = [(101 : UInt8), (110 : UInt8), (100 : UInt8), (98 : UInt8), (102 : UInt8), (99 : UInt8), (104 : UInt8), (97 : UInt8), (114 : UInt8)]))
   (.leaf (.inr (.ret, at' E 90 [(4, .lf (.int .i64 (IntKind.i64.wrap (x.fst + (1 : Int))))), (5, .lf (.bool true))] [(0, some (.map .u16 .i32 x.snd)), (192, some (.cells 34 [.mp 0 0]))])))
   (.ite (leI (↑p1.length : Int) (IntKind.i64.wrap (x.fst + (1 : Int))))
    (.leaf (.inr (.ret, at' E 90 [(4, .lf (.int .i64 ((0 : Int)))), (5, .lf (.bool false))] [(0, some (.map .u16 .i32 x.snd)), (192, some (.cells 34 [.mp 0 0]))])))
    (.ite (inB x.fst p1.length)
     (.ite (!(p1.getD x.fst.toNat ([], [], false)).snd.snd)
      (.leaf (.inr (.ret, at' E 90 [(4, .lf (.int .i64 ((0 : Int)))), (5, .lf (.bool false))] [(0, some (.map .u16 .i32 x.snd)), (192, some (.cells 34 [.mp 0 0]))])))
      (.ite (inB (IntKind.i64.wrap (x.fst + (1 : Int))) p1.length)
       (.ite (!(p1.getD (IntKind.i64.wrap (x.fst + (1 : Int))).toNat ([], [], false)).snd.snd)
        (.leaf (.inr (.ret, at' E 90 [(4, .lf (.int .i64 ((0 : Int)))), (5, .lf (.bool false))] [(0, some (.map .u16 .i32 x.snd)), (192, some (.cells 34 [.mp 0 0]))])))
        (.ite (inB x.fst p1.length)
         (.ite (!eqI (↑(p1.getD x.fst.toNat ([], [], false)).snd.fst.length : Int) (2 : Int))
          (.leaf (.inr (.ret, at' E 90 [(4, .lf (.int .i64 ((0 : Int)))), (5, .lf (.bool false))] [(0, some (.map .u16 .i32 x.snd)), (192, some (.cells 34 [.mp 0 0]))])))
          (.ite (inB x.fst p1.length)
           (.ite (decide ((p1.getD x.fst.toNat ([], [], false)).snd.fst.length ≤ (140737488355328 : Nat)))
            (.ite (false || ltI (↑(p1.getD x.fst.toNat ([], [], false)).snd.fst.length : Int) ((0 : Int) + (2 : Int)))
             (.ite (inB (IntKind.i64.wrap (x.fst + (1 : Int))) p1.length)
              (.ite (decide ((p1.getD (IntKind.i64.wrap (x.fst + (1 : Int))).toNat ([], [], false)).snd.fst.length ≤ (140737488355328 : Nat)))
               (.ite (!leI (0 : Int) (Px.rune (p1.getD (IntKind.i64.wrap (x.fst + (1 : Int))).toNat ([], [], false)).snd.fst))
                (.leaf (.inr (.ret, at' E 90 [(4, .lf (.int .i64 ((0 : Int)))), (5, .lf (.bool false))] [(0, some (.map .u16 .i32 x.snd)), (192, some (.cells 34 [.mp 0 0]))])))
                (.ite ((@mget K E K.u16 K.i32 x.snd (0 : Int)).isSome)
                 (.leaf (.inr (.ret, at' E 90 [(4, .lf (.int .i64 ((0 : Int)))), (5, .lf (.bool false))] [(0, some (.map .u16 .i32 x.snd)), (192, some (.cells 34 [.mp 0 0]))])))
                 (.leaf (.inl ((IntKind.i64.wrap (x.fst + (2 : Int))), (@mset K E K.u16 K.i32 x.snd (0 : Int) (bif leI (0 : Int) (Px.rune (p1.getD (IntKind.i64.wrap (x.fst + (1 : Int))).toNat ([], [], false)).snd.fst) then Px.rune (p1.getD (IntKind.i64.wrap (x.fst + (1 : Int))).toNat ([], [], false)).snd.fst else (0 : Int))))))))
               (.fail))
              (.fail))
             (.ite (inB (IntKind.i64.wrap (x.fst + (1 : Int))) p1.length)
              (.ite (decide ((p1.getD (IntKind.i64.wrap (x.fst + (1 : Int))).toNat ([], [], false)).snd.fst.length ≤ (140737488355328 : Nat)))
               (.ite (!leI (0 : Int) (Px.rune (p1.getD (IntKind.i64.wrap (x.fst + (1 : Int))).toNat ([], [], false)).snd.fst))
                (.leaf (.inr (.ret, at' E 90 [(4, .lf (.int .i64 ((0 : Int)))), (5, .lf (.bool false))] [(0, some (.map .u16 .i32 x.snd)), (192, some (.cells 34 [.mp 0 0]))])))
                (.ite ((@mget K E K.u16 K.i32 x.snd (Px.n2 (p1.getD x.fst.toNat ([], [], false)).snd.fst (Int.toNat (0 : Int)))).isSome)
                 (.leaf (.inr (.ret, at' E 90 [(4, .lf (.int .i64 ((0 : Int)))), (5, .lf (.bool false))] [(0, some (.map .u16 .i32 x.snd)), (192, some (.cells 34 [.mp 0 0]))])))
                 (.leaf (.inl ((IntKind.i64.wrap (x.fst + (2 : Int))), (@mset K E K.u16 K.i32 x.snd (Px.n2 (p1.getD x.fst.toNat ([], [], false)).snd.fst (Int.toNat (0 : Int))) (bif leI (0 : Int) (Px.rune (p1.getD (IntKind.i64.wrap (x.fst + (1 : Int))).toNat ([], [], false)).snd.fst) then Px.rune (p1.getD (IntKind.i64.wrap (x.fst + (1 : Int))).toNat ([], [], false)).snd.fst else (0 : Int))))))))
               (.fail))
              (.fail)))
            (.fail))
           (.fail)))
         (.fail)))
       (.fail)))
     (.fail))))
  (.fail))
 (.leaf (.inr (.exit 0, at' E 90 [] [(0, some (.map .u16 .i32 x.snd)), (192, some (.cells 34 [.mp 0 0]))])))
theorem h36_0 (p1 : List (List UInt8 × List UInt8 × Bool)) (x : Int × (List (Int × Int))) (k : Ex → St E.A → Option Unit) :
    exec E G36 (fun _ _ => .fail) 1 (lb Go.Proofs.Tryd.f36 0) (S36_0 p1 x) (fun e σ1 => k e (clean E (L36_0 e) σ1)) = (t36_0 p1 x).run (Sum.elim (fun x' => k .normal (S36_0 p1 x')) (fun o => k o.1 o.2)) := by kernel_rfl
def ob36 (m : List (Int × Int)) : List (Nat × Option (Obj E.A)) := [(0, some (.map .u16 .i32 m)), (192, some (.cells 34 [.mp 0 0]))]
noncomputable def out36 (r : Int × List (Int × Int)) : Tree (Out' E) :=
  .ite (leI 1 r.1) (.leaf (.ret, at' E 90 [(4, .lf (.int .i64 r.1)), (5, .lf (.bool true))] (ob36 r.2)))
   (.ite (eqI r.1 0) (.leaf (.ret, at' E 90 [(4, .lf (.int .i64 0)), (5, .lf (.bool false))] (ob36 r.2))) (.leaf (.exit 0, at' E 90 [] (ob36 r.2))))
noncomputable def lam36_0 (p1 : List (List UInt8 × List UInt8 × Bool)) (x : Int × (List (Int × Int))) : Tree (Out' E) :=
  .ite (eqI x.1 0 && decide (p1.length ≤ 1000000000) && Px.shortToks p1) (out36 (Px.pairsRun p1 0 x.2)) .fail
theorem it36 (p : List (List UInt8 × List UInt8 × Bool)) (hp : p.length ≤ 1000000000) (hs : Px.shortToks p = true) : ∀ (n i : Nat) (m : List (Int × Int)), p.length < n + i → i ≤ p.length →
    iter (t36_0 p) n ((i : Int), m) = (out36 (Px.pairsRun (p.drop i) i m)).get
  | 0, i, m, h, h2 => by omega
  | n + 1, i, m, h, h2 => by
    rw [iter]
    unfold t36_0
    simp only
    have w1 : IntKind.i64.wrap ((i : Int) + 1) = ((i + 1 : Nat) : Int) := by rw [wi64] <;> omega
    have w2 : IntKind.i64.wrap ((i : Int) + 2) = ((i + 2 : Nat) : Int) := by rw [wi64] <;> omega
    rw [Tree.get_ite, Int.toNat_natCast, w1, w2]
    rcases Nat.lt_or_ge i p.length with hl | hl
    · have hin : inB (i : Int) p.length = true := inB_nat hl
      have hsh : (p.getD i ([], [], false)).2.1.length ≤ 1000000000 := by
        have : p.getD i ([], [], false) = p[i] := by simp [List.getD, hl]
        rw [this]
        exact Nat.le_of_ble_eq_true (List.all_eq_true.1 hs _ (List.getElem_mem hl))
      have hlt : ltI (i : Int) (p.length : Int) = true := ltI_nat hl
      rw [hlt, cond_true, Tree.get_ite, hin, cond_true, Tree.get_ite]
      rw [drop_cons p ([], [], false) i hl]
      generalize hT : p.getD i ([], [], false) = T
      rw [hT] at hsh
      have hend : ∀ x, (decide (T.1 = Px.wEnd)) = x → (decide (T.1 = [(101 : UInt8), 110, 100, 98, 102, 99, 104, 97, 114])) = x := fun x hx => hx
      cases q1 : decide (T.1 = Px.wEnd) with
      | true =>
        rw [hend _ q1, cond_true, Tree.get_leaf]
        have : Px.pairsRun (T :: p.drop (i + 1)) i m = (((i + 1 : Nat) : Int), m) := by
          cases hd : p.drop (i + 1) with
          | nil => unfold Px.pairsRun; rw [q1]; rfl
          | cons => unfold Px.pairsRun; rw [q1]; rfl
        rw [this]
        unfold out36
        have c : leI 1 ((i + 1 : Nat) : Int) = true := by rw [leI_eq]; exact decide_eq_true (by omega)
        rw [Tree.get_ite, c]; rfl
      | false =>
        rw [hend _ q1, cond_false, Tree.get_ite]
        rcases Nat.lt_or_ge (i + 1) p.length with hl2 | hl2
        · have c1 : leI (p.length : Int) ((i + 1 : Nat) : Int) = false := by rw [leI_eq]; exact decide_eq_false (by omega)
          have hin2 : inB ((i + 1 : Nat) : Int) p.length = true := inB_nat hl2
          have hsh2 : (p.getD (i + 1) ([], [], false)).2.1.length ≤ 1000000000 := by
            have : p.getD (i + 1) ([], [], false) = p[i + 1] := by simp [List.getD, hl2]
            rw [this]
            exact Nat.le_of_ble_eq_true (List.all_eq_true.1 hs _ (List.getElem_mem hl2))
          rw [c1, cond_false, Tree.get_ite, cond_true, Int.toNat_natCast, drop_cons p ([], [], false) (i + 1) hl2, hin2]
          generalize p.getD (i + 1) ([], [], false) = U at *
          have ih := it36 p hp hs n (i + 2) (Px.ms m (Px.n2 T.2.1 0) (Px.rune U.2.1)) (by omega) (by omega)
          have hno : Px.pairOk m T U = false → Px.pairsRun (T :: U :: p.drop (i + 2)) i m = (0, m) := fun hh => by unfold Px.pairsRun; rw [q1, hh]; rfl
          have hyes : Px.pairOk m T U = true → Px.pairsRun (T :: U :: p.drop (i + 2)) i m = Px.pairsRun (p.drop (i + 2)) (i + 2) (Px.ms m (Px.n2 T.2.1 0) (Px.rune U.2.1)) := fun hh => by
            rw [Px.pairsRun]; rw [q1, hh]; rfl
          unfold Px.pairOk at hno hyes
          rw [Tree.get_ite]
          cases q2 : T.2.2 with
          | false =>
            rw [q2] at hno
            rw [hno rfl]; rfl
          | true =>
            rw [q2] at hno hyes
            rw [Bool.not_true, cond_false, Tree.get_ite, cond_true, Tree.get_ite]
            cases q3 : U.2.2 with
            | false =>
              rw [q3] at hno
              rw [hno rfl]; rfl
            | true =>
              rw [q3] at hno hyes
              rw [Bool.not_true, cond_false, Tree.get_ite, cond_true, Tree.get_ite]
              cases q4 : eqI (T.2.1.length : Int) 2 with
              | false =>
                rw [q4] at hno
                rw [hno rfl]; rfl
              | true =>
                rw [q4] at hno hyes
                have l2 : (T.2.1.length : Int) = 2 := by rw [eqI_eq] at q4; exact of_decide_eq_true q4
                have c2 : (false || ltI (T.2.1.length : Int) (0 + 2)) = false := by rw [l2]; rfl
                rw [Bool.not_true, cond_false, Tree.get_ite, cond_true, Tree.get_ite, decide_eq_true (by omega), cond_true, Tree.get_ite, c2, cond_false, Tree.get_ite, cond_true, Tree.get_ite, decide_eq_true (by omega), cond_true, Tree.get_ite]
                cases q5 : leI 0 (Px.rune U.2.1) with
                | false =>
                  rw [q5] at hno
                  rw [hno rfl]; rfl
                | true =>
                  rw [q5] at hno hyes
                  rw [Bool.not_true, cond_false, Tree.get_ite]
                  have hm := Px.ms_eq (Px.n2 T.2.1 0) (Px.rune U.2.1) m
                  have hg : (@mget K E K.u16 K.i32 m (Px.n2 T.2.1 (Int.toNat 0))).isSome = (Px.mg m (Px.n2 T.2.1 0)).isSome := rfl
                  rw [hg]
                  cases q6 : (Px.mg m (Px.n2 T.2.1 0)).isSome with
                  | true =>
                    rw [q6] at hno
                    rw [hno rfl]; rfl
                  | false =>
                    rw [q6] at hyes
                    rw [hyes rfl]
                    exact (congrArg (fun mm => iter (t36_0 p) n (((i + 2 : Nat) : Int), mm)) hm).trans ih
        · have c1 : leI (p.length : Int) ((i + 1 : Nat) : Int) = true := by rw [leI_eq]; exact decide_eq_true (by omega)
          have hd : p.drop (i + 1) = [] := List.drop_of_length_le hl2
          rw [c1, cond_true, Tree.get_leaf, hd]
          unfold Px.pairsRun
          rw [q1]
          rfl
    · have e : i = p.length := by omega
      subst e
      rw [ltI_self, cond_false, List.drop_length]
      rfl
theorem m36_0 {p1 : List (List UInt8 × List UInt8 × Bool)} {x : Int × (List (Int × Int))} {e : Ex} {σ : St E.A} (_ : okLenR (E := E) (.lf (.sl .tok p1)) = true)
    (h : (lam36_0 p1 x).get = some (e, σ)) : ∃ fuel, iter (t36_0 p1) fuel x = some (e, σ) ∧ e ≠ .normal := by
  obtain ⟨i, m⟩ := x
  unfold lam36_0 at h
  have h' := Tree.get_ite_some h
  clear h
  rcases h' with ⟨h1, h⟩ | ⟨_, h⟩
  · simp only [eqI_eq, Bool.and_eq_true, decide_eq_true_eq] at h1
    obtain ⟨⟨rfl, k2⟩, k3⟩ := h1
    refine ⟨p1.length + 1, (it36 p1 k2 k3 (p1.length + 1) 0 m (by omega) (by omega)).trans h, ?_⟩
    unfold out36 at h
    rcases Tree.get_ite_some h with ⟨_, h⟩ | ⟨_, h⟩
    · injection h with h; injection h with h1 _; rw [← h1]; intro hh; cases hh
    · rcases Tree.get_ite_some h with ⟨_, h⟩ | ⟨_, h⟩ <;> (injection h with h; injection h with h1 _; rw [← h1]; intro hh; cases hh)
  · cases h
noncomputable def rd36_0 (σ : St E.A) : Tree (Out' E) :=
  let c := clean E (L36_0 .normal) σ
  if c.sl.length = 90 then
  match c.sl.getD 1 .undef, c.sl.getD 2 .undef, c.sl.getD 6 .undef, c.ob 0, c.ob 192 with
  | .lf (.sl .tok p1), .lf (.ptr 192 0 0), .lf (.int .i64 x6), some (.map .u16 .i32 o0a), some (.cells 34 [.mp 0 0]) => lam36_0 p1 (x6, o0a)
  | _, _, _, _, _ => .fail
  else .fail
theorem ll36_0 (hL : Laws E) (σ : St E.A) (e : Ex) (σ' : St E.A) (h : (rd36_0 σ).get = some (e, σ')) : LoopOK E (lb Go.Proofs.Tryd.f36 0) σ e σ' := by
  refine LoopOK.of_clean hL (L36_0 .normal) ?_
  unfold rd36_0 at h
  simp only at h
  split at h
  · rename_i hlen
    split at h
    · rename_i p1 x6 o0a h0 h1 h2 h3 h4
      refine LoopOK.lens 1 (fun g0 => ?_)
      rw [h0] at g0
      obtain ⟨fuel, hi, ho⟩ := m36_0 g0 h
      have hl := loop_at (Γ := G36) (Λ := fun _ _ => .fail) (n := 1) (body := lb Go.Proofs.Tryd.f36 0) hL (hG36 hL) (S := S36_0 p1) (t := t36_0 p1) (Lv := L36_0) (LamOK.none (by kernel_rfl)) (h36_0 p1) hi ho
      refine LoopOK.fit hlen ?_ ?_ rfl rfl hl
      · exact ⟨h0, h1, h2, trivial⟩
      · exact ⟨h3, h4, trivial⟩
    · cases h
  · cases h
noncomputable def Lam36 : Lam E
  | 0, σ => rd36_0 σ
  | _, _ => .fail
noncomputable def w36 (m : List (Int × Int)) (l : List (List UInt8 × List UInt8 × Bool)) : Tree (RV E.A × List (Obj E.A)) :=
 .ite (eqI (0 : Int) (0 : Int) && decide (l.length ≤ (1000000000 : Nat)) && Px.shortToks l)
 (.ite (leI (1 : Int) (Px.pairsRun l (0 : Nat) m).fst)
  (.leaf (.tup [(false, [.int .i64 ((Px.pairsRun l (0 : Nat) m).fst)]), (false, [.bool true])], [.map .u16 .i32 ((Px.pairsRun l (0 : Nat) m).snd)]))
  (.ite (eqI (Px.pairsRun l (0 : Nat) m).fst (0 : Int))
   (.leaf (.tup [(false, [.int .i64 ((0 : Int))]), (false, [.bool false])], [.map .u16 .i32 ((Px.pairsRun l (0 : Nat) m).snd)]))
   (.leaf (.tup [(false, [.int .i64 ((0 : Int))]), (false, [.bool false])], [.map .u16 .i32 ((Px.pairsRun l (0 : Nat) m).snd)]))))
 (.fail)
theorem e36 (m : List (Int × Int)) (l : List (List UInt8 × List UInt8 × Bool)) : execFun E G36 ((Lam36)) false Go.Proofs.Tryd.f36 [.agg [.mp 0 0], .lf (.sl .tok l)] [.map .u16 .i32 m] some = (w36 m l).get := by kernel_rfl
noncomputable def raw36 : Spec E := fun args os => match args, os with
  | [.agg [.mp 0 0], .lf (.sl .tok l)], [.map .u16 .i32 m] => w36 m l
  | _, _ => .fail
theorem validraw36 (hL : Laws E) : Valid E 36 raw36 :=
  valid_of_body hL (hG36 hL) (Λ := (Lam36)) (fn := Go.Proofs.Tryd.f36) (keep := false) (by kernel_rfl) (by kernel_rfl) (by kernel_rfl) ((LamOK.of (m := 1) (by kernel_rfl) (fun j hj σ e σ' hg => by
      match j, hj with
      | 0, _ => exact ll36_0 hL σ e σ' hg
      ))) (fun args os r os' h => by
    unfold raw36 at h
    split at h
    · exact (e36 _ _).trans h
    · cases h)
theorem eq36 (m : List (Int × Int)) (l : List (List UInt8 × List UInt8 × Bool)) (h1 : l.length ≤ 1000000000) (h2 : Px.shortToks l = true) : (w36 m l).get = some (.tup [(false, [.int .i64 (cond (leI 1 (Px.pairsRun l 0 m).1) (Px.pairsRun l 0 m).1 0)]), (false, [.bool (leI 1 (Px.pairsRun l 0 m).1)])], [.map .u16 .i32 (Px.pairsRun l 0 m).2]) := by
  unfold w36
  rw [Tree.get_ite, h2, decide_eq_true h1]
  show Tree.get (.ite _ _ _) = _
  rw [Tree.get_ite, Tree.get_ite]
  cases leI 1 (Px.pairsRun l 0 m).1 with
  | true => rfl
  | false => cases eqI (Px.pairsRun l 0 m).1 0 <;> rfl
noncomputable def spec36 : Spec E := fun args os => match args, os with
  | [.agg [.mp 0 0], .lf (.sl .tok l)], [.map .u16 .i32 m] => .ite (decide (l.length ≤ 1000000000) && Px.shortToks l) (.leaf (.tup [(false, [.int .i64 (cond (leI 1 (Px.pairsRun l 0 m).1) (Px.pairsRun l 0 m).1 0)]), (false, [.bool (leI 1 (Px.pairsRun l 0 m).1)])], [.map .u16 .i32 (Px.pairsRun l 0 m).2])) .fail
  | _, _ => .fail
theorem valid36 (hL : Laws E) : Valid E 36 spec36 := (validraw36 hL).less (fun args os x g1 g2 h => by
  unfold spec36 at h
  split at h
  · rename_i l m
    rcases Tree.get_ite_some h with ⟨h1, h⟩ | ⟨_, h⟩
    · simp only [Bool.and_eq_true, decide_eq_true_eq] at h1
      exact (eq36 m l h1.1 h1.2).trans h
    · cases h
  · cases h)
end Go.Vx
namespace Go.Vx
open Go
noncomputable def G12 : FuncId → Option (Spec E)
  | 35 => some spec35
  | 36 => some spec36
  | _ => none
theorem hG12 (hL : Laws E) : ∀ f spec, G12 f = some spec → Valid E f spec := by
  intro f spec h
  unfold G12 at h
  split at h
  · injection h with h; subst h; exact valid35 hL
  · injection h with h; subst h; exact valid36 hL
  · cases h
def L12_0 : Ex → Live
  | .normal => ⟨[2, 4, 6], [192, 448, 1280]⟩
  | .exit 0 => ⟨[2, 6], [192, 448, 1280]⟩
  | .ret => ⟨[2, 3], [192]⟩
  | _ => ⟨[], []⟩
noncomputable def S12_0  (x : (List (List UInt8 × List UInt8 × Bool)) × (List (Int × Int))) : St E.A := at' E 46 [(2, .lf (.ptr 192 0 0)), (4, .lf (.sl .tok x.1)), (6, .lf (.ptr 448 0 0))] [(192, some (.cells 34 [.lit (Go.Value.map Option.none)])), (448, some (.cells 34 [.mp 1280 0])), (1280, some (.map .u16 .i32 x.2))]
noncomputable def t12_0  (x : (List (List UInt8 × List UInt8 × Bool)) × (List (Int × Int))) : Tree ((List (List UInt8 × List UInt8 × Bool)) × (List (Int × Int)) ⊕ Out' E) :=
 .ite (ltI (0 : Int) (↑x.fst.length : Int))
 (.ite (inB (0 : Int) x.fst.length)
  (.ite (inB (1 : Int) (x.fst.length + (1 : Nat)))
   (.ite (!decide ((x.fst.getD (Int.toNat (0 : Int)) ([], [], false)).fst = [(98 : UInt8), (101 : UInt8), (103 : UInt8), (105 : UInt8), (110 : UInt8), (98 : UInt8), (102 : UInt8), (99 : UInt8), (104 : UInt8), (97 : UInt8), (114 : UInt8)]))
    (.leaf (.inl ((List.drop (Int.toNat (1 : Int)) x.fst), x.snd)))
    (.ite (decide ((List.drop (Int.toNat (1 : Int)) x.fst).length ≤ (1000000000 : Nat)) && Px.shortToks (List.drop (Int.toNat (1 : Int)) x.fst))
     (.ite (!leI (1 : Int) (Px.pairsRun (List.drop (Int.toNat (1 : Int)) x.fst) (0 : Nat) x.snd).fst)
      (.leaf (.inr (.ret, at' E 46 [(2, .lf (.ptr 192 0 0)), (3, .lf (.int .i64 ((2 : Int))))] [(192, some (.cells 34 [.lit (Go.Value.map Option.none)]))])))
      (.ite (inB (bif leI (1 : Int) (Px.pairsRun (List.drop (Int.toNat (1 : Int)) x.fst) (0 : Nat) x.snd).fst then (Px.pairsRun (List.drop (Int.toNat (1 : Int)) x.fst) (0 : Nat) x.snd).fst else (0 : Int)) ((List.drop (Int.toNat (1 : Int)) x.fst).length + (1 : Nat)))
       (.leaf (.inl ((List.drop (bif leI (1 : Int) (Px.pairsRun (List.drop (Int.toNat (1 : Int)) x.fst) (0 : Nat) x.snd).fst then (Px.pairsRun (List.drop (Int.toNat (1 : Int)) x.fst) (0 : Nat) x.snd).fst else (0 : Int)).toNat (List.drop (Int.toNat (1 : Int)) x.fst)), ((Px.pairsRun (List.drop (Int.toNat (1 : Int)) x.fst) (0 : Nat) x.snd).snd))))
       (.fail)))
     (.fail)))
   (.fail))
  (.fail))
 (.leaf (.inr (.exit 0, at' E 46 [(2, .lf (.ptr 192 0 0)), (6, .lf (.ptr 448 0 0))] [(192, some (.cells 34 [.lit (Go.Value.map Option.none)])), (448, some (.cells 34 [.mp 1280 0])), (1280, some (.map .u16 .i32 x.snd))])))
theorem h12_0  (x : (List (List UInt8 × List UInt8 × Bool)) × (List (Int × Int))) (k : Ex → St E.A → Option Unit) :
    exec E G12 (fun _ _ => .fail) 1 (lb Go.Proofs.Tryd.f12 0) (S12_0  x) (fun e σ1 => k e (clean E (L12_0 e) σ1)) = (t12_0  x).run (Sum.elim (fun x' => k .normal (S12_0  x')) (fun o => k o.1 o.2)) := by kernel_rfl
def ob12 (m : List (Int × Int)) : List (Nat × Option (Obj E.A)) := [(192, some (.cells 34 [.lit (Go.Value.map Option.none)])), (448, some (.cells 34 [.mp 1280 0])), (1280, some (.map .u16 .i32 m))]
noncomputable def out12 (r : Bool × List (Int × Int)) : Tree (Out' E) :=
  .ite r.1 (.leaf (.exit 0, at' E 46 [(2, .lf (.ptr 192 0 0)), (6, .lf (.ptr 448 0 0))] (ob12 r.2))) (.leaf (.ret, at' E 46 [(2, .lf (.ptr 192 0 0)), (3, .lf (.int .i64 2))] [(192, some (.cells 34 [.lit (Go.Value.map Option.none)]))]))
noncomputable def lam12_0 (x : (List (List UInt8 × List UInt8 × Bool)) × (List (Int × Int))) : Tree (Out' E) :=
  .ite (decide (x.1.length ≤ 1000000000) && Px.shortToks x.1) (out12 (Px.parseRun (x.1.length + 1) x.1 x.2)) .fail
theorem it12 : ∀ (n : Nat) (l : List (List UInt8 × List UInt8 × Bool)) (m : List (Int × Int)), l.length < n → l.length ≤ 1000000000 → Px.shortToks l = true →
    iter t12_0 n (l, m) = (out12 (Px.parseRun n l m)).get
  | 0, l, m, h, _, _ => by omega
  | n + 1, [], m, h, h2, h3 => rfl
  | n + 1, t :: r, m, h, h2, h3 => by
    rw [List.length_cons] at h h2
    have hsr : Px.shortToks r = true := by
      have := Px.shortToks_drop h3 1
      exact this
    rw [iter]
    unfold t12_0
    simp only
    have c0 : ltI (0 : Int) ((t :: r).length : Int) = true := by rw [ltI_eq, List.length_cons]; exact decide_eq_true (by omega)
    have c1 : inB (0 : Int) (t :: r).length = true := inB_true.2 ⟨by omega, by rw [List.length_cons]; omega⟩
    have c2 : inB (1 : Int) ((t :: r).length + 1) = true := inB_true.2 ⟨by omega, by rw [List.length_cons]; omega⟩
    have e1 : List.drop (Int.toNat 1) (t :: r) = r := rfl
    rw [Tree.get_ite, c0, cond_true, Tree.get_ite, c1, cond_true, Tree.get_ite, c2, cond_true, Tree.get_ite, e1]
    unfold Px.parseRun
    have hbeg : ∀ x, (decide (t.1 = Px.wBegin)) = x → (decide (((t :: r).getD (Int.toNat 0) ([], [], false)).1 = [(98 : UInt8), 101, 103, 105, 110, 98, 102, 99, 104, 97, 114])) = x := fun x hx => hx
    cases q1 : decide (t.1 = Px.wBegin) with
    | false =>
      rw [hbeg _ q1, Bool.not_false, cond_true, Tree.get_leaf, cond_false]
      exact it12 n r m (by omega) (by omega) hsr
    | true =>
      rw [hbeg _ q1, Bool.not_true, cond_false, cond_true, Tree.get_ite, hsr, decide_eq_true (by omega)]
      have hle := Px.pairsRun_le r 0 m
      cases q2 : leI 1 (Px.pairsRun r 0 m).1 with
      | false => rfl
      | true =>
        rw [leI_eq, decide_eq_true_eq] at q2
        have c3 : inB (Px.pairsRun r 0 m).1 (r.length + 1) = true := inB_true.2 ⟨by omega, by omega⟩
        simp only [Bool.and_true, Bool.not_true, cond_true, cond_false, Tree.get_ite, Tree.get_leaf, c3]
        exact it12 n (r.drop (Px.pairsRun r 0 m).1.toNat) (Px.pairsRun r 0 m).2 (by rw [List.length_drop]; omega) (by rw [List.length_drop]; omega) (Px.shortToks_drop hsr _)
theorem m12_0 {x : (List (List UInt8 × List UInt8 × Bool)) × (List (Int × Int))} {e : Ex} {σ : St E.A} (_ : okLenR (E := E) (.lf (.sl .tok x.1)) = true)
    (h : (lam12_0 x).get = some (e, σ)) : ∃ fuel, iter t12_0 fuel x = some (e, σ) ∧ e ≠ .normal := by
  obtain ⟨l, m⟩ := x
  unfold lam12_0 at h
  have h' := Tree.get_ite_some h
  clear h
  rcases h' with ⟨h1, h⟩ | ⟨_, h⟩
  · simp only [Bool.and_eq_true, decide_eq_true_eq] at h1
    refine ⟨l.length + 1, (it12 (l.length + 1) l m (by omega) h1.1 h1.2).trans h, ?_⟩
    unfold out12 at h
    rcases Tree.get_ite_some h with ⟨_, h⟩ | ⟨_, h⟩ <;> (injection h with h; injection h with h1 _; rw [← h1]; intro hh; cases hh)
  · cases h
noncomputable def rd12_0 (σ : St E.A) : Tree (Out' E) :=
  let c := clean E (L12_0 .normal) σ
  if c.sl.length = 46 then
  match c.sl.getD 2 .undef, c.sl.getD 4 .undef, c.sl.getD 6 .undef, c.ob 192, c.ob 448, c.ob 1280 with
  | .lf (.ptr 192 0 0), .lf (.sl .tok x4), .lf (.ptr 448 0 0), some (.cells 34 [.lit (Go.Value.map Option.none)]), some (.cells 34 [.mp 1280 0]), some (.map .u16 .i32 o1280a) => lam12_0  (x4, o1280a)
  | _, _, _, _, _, _ => .fail
  else .fail
theorem ll12_0 (hL : Laws E) (σ : St E.A) (e : Ex) (σ' : St E.A) (h : (rd12_0 σ).get = some (e, σ')) : LoopOK E (lb Go.Proofs.Tryd.f12 0) σ e σ' := by
  refine LoopOK.of_clean hL (L12_0 .normal) ?_
  unfold rd12_0 at h
  simp only at h
  split at h
  · rename_i hlen
    split at h
    · rename_i x4 o1280a h0 h1 h2 h3 h4 h5
      refine LoopOK.lens 4 (fun g0 => ?_)
      rw [h1] at g0
      obtain ⟨fuel, hi, ho⟩ := m12_0 g0 h
      have hl := loop_at (Γ := G12) (Λ := fun _ _ => .fail) (n := 1) (body := lb Go.Proofs.Tryd.f12 0) hL (hG12 hL) (S := S12_0 ) (t := t12_0 ) (Lv := L12_0) (LamOK.none (by kernel_rfl)) (h12_0 ) hi ho
      refine LoopOK.fit hlen ?_ ?_ rfl rfl hl
      · exact ⟨h0, h1, h2, trivial⟩
      · exact ⟨h3, h4, h5, trivial⟩
    · cases h
  · cases h
noncomputable def Lam12 : Lam E
  | 0, σ => rd12_0 σ
  | _, _ => .fail
noncomputable def w12 (a0 : List UInt8) : Tree (RV E.A × List (Obj E.A)) :=
 .ite (decide (a0.length ≤ (1000000000 : Nat)))
 (.ite (!eqI (Px.toks a0).fst (0 : Int))
  (.leaf (.tup [(true, [.lit (Go.Value.map Option.none)]), (false, [.int .i64 ((Px.toks a0).fst)])], []))
  (.ite (decide ((Px.toks a0).snd.length ≤ (1000000000 : Nat)) && Px.shortToks (Px.toks a0).snd)
   (.ite ((Px.parseRun ((Px.toks a0).snd.length + (1 : Nat)) (Px.toks a0).snd []).fst)
    (.leaf (.tup [(true, [.mp 0 0]), (false, [.int .i64 ((0 : Int))])], [.map .u16 .i32 ((Px.parseRun ((Px.toks a0).snd.length + (1 : Nat)) (Px.toks a0).snd []).snd)]))
    (.leaf (.tup [(true, [.lit (Go.Value.map Option.none)]), (false, [.int .i64 ((2 : Int))])], [])))
   (.fail)))
 (.fail)
theorem e12 (a0 : List UInt8) : execFun E G12 ((Lam12)) false Go.Proofs.Tryd.f12 [.lf (.sl .u8 a0)] [] some = (w12 a0).get := by kernel_rfl
noncomputable def raw12 : Spec E := fun args os => match args, os with
  | [.lf (.sl .u8 a0)], [] => w12 a0
  | _, _ => .fail
theorem validraw12 (hL : Laws E) : Valid E 12 raw12 :=
  valid_of_body hL (hG12 hL) (Λ := (Lam12)) (fn := Go.Proofs.Tryd.f12) (keep := false) (by kernel_rfl) (by kernel_rfl) (by kernel_rfl) ((LamOK.of (m := 1) (by kernel_rfl) (fun j hj σ e σ' hg => by
      match j, hj with
      | 0, _ => exact ll12_0 hL σ e σ' hg
      ))) (fun args os r os' h => by
    unfold raw12 at h
    split at h
    · exact (e12 _).trans h
    · cases h)
noncomputable def ans12 (r : Int × List (Int × Int)) : Tree (RV E.A × List (Obj E.A)) :=
  .ite (eqI r.1 0) (.leaf (.tup [(true, [.mp 0 0]), (false, [.int .i64 0])], [.map .u16 .i32 r.2])) (.leaf (.tup [(true, [.lit (Go.Value.map Option.none)]), (false, [.int .i64 r.1])], []))
theorem eq12 (p : List UInt8) (h1 : p.length ≤ 1000000000) : (w12 p).get = (ans12 (Px.parse p)).get := by
  unfold w12
  obtain ⟨s1, s2⟩ := Px.toks_short h1
  rw [Tree.get_ite, decide_eq_true h1]
  show Tree.get (.ite _ _ _) = _
  rw [Tree.get_ite]
  unfold Px.parse ans12
  cases q : eqI (Px.toks p).1 0 with
  | false =>
    rw [Tree.get_ite]
    show _ = cond (eqI (Px.toks p).1 0) _ _
    rw [q]; rfl
  | true =>
    rw [Bool.not_true, cond_false, Tree.get_ite, s1, decide_eq_true s2]
    show Tree.get (.ite _ _ _) = _
    rw [Tree.get_ite]
    cases (Px.parseRun ((Px.toks p).2.length + 1) (Px.toks p).2 []).1 <;> rfl
noncomputable def spec12 : Spec E := fun args os => match args, os with
  | [.lf (.sl .u8 p)], [] => .ite (decide (p.length ≤ 1000000000)) (ans12 (Px.parse' p)) .fail
  | _, _ => .fail
theorem valid12 (hL : Laws E) : Valid E 12 spec12 := (validraw12 hL).less (fun args os x g1 g2 h => by
  unfold spec12 at h
  split at h
  · rcases Tree.get_ite_some h with ⟨h1, h⟩ | ⟨_, h⟩
    · rw [Px.parse'_eq] at h
      simp only [decide_eq_true_eq] at h1
      exact (eq12 _ h1).trans h
    · cases h
  · cases h)
end Go.Vx
namespace Go.Vx
open Go
noncomputable def G14 : FuncId → Option (Spec E) := fun _ => none
theorem hG14 (hL : Laws E) : ∀ f spec, G14 f = some spec → Valid E f spec := by
  intro f spec h
  cases h
noncomputable def w14 (m : List (Int × Int)) : Tree (RV E.A × List (Obj E.A)) :=
 .ite (decide (m.length ≤ (2 : Nat) ^ (62 : Nat)))
 (.leaf (.lf (.int .i64 ((↑m.length : Int))), [.map .u16 .i32 m]))
 (.fail)
theorem e14 (m : List (Int × Int)) : execFun E G14 (fun _ _ => .fail) false Go.Proofs.Tryd.f14 [.agg [.mp 0 0]] [.map .u16 .i32 m] some = (w14 m).get := by kernel_rfl
noncomputable def w14_1  : Tree (RV E.A × List (Obj E.A)) :=
 .leaf (.lf (.int .i64 ((0 : Int))), [])
theorem e14_1  : execFun E G14 (fun _ _ => .fail) false Go.Proofs.Tryd.f14 [.agg [.lit (.map none)]] [] some = (w14_1 ).get := by kernel_rfl
noncomputable def spec14 : Spec E := fun args os => match args, os with
  | [.agg [.mp 0 0]], [.map .u16 .i32 m] => w14 m
  | [.agg [.lit (.map none)]], [] => w14_1
  | _, _ => .fail
theorem valid14 (hL : Laws E) : Valid E 14 spec14 :=
  valid_of_body hL (hG14 hL) (Λ := fun _ _ => .fail) (fn := Go.Proofs.Tryd.f14) (keep := false) (by kernel_rfl) (by kernel_rfl) (by kernel_rfl) (LamOK.none (by kernel_rfl)) (fun args os r os' h => by
    unfold spec14 at h
    split at h
    · exact (e14 _).trans h
    · exact (e14_1 ).trans h
    · cases h)
end Go.Vx
namespace Go.Vx
open Go
noncomputable def G15 : FuncId → Option (Spec E) := fun _ => none
theorem hG15 (hL : Laws E) : ∀ f spec, G15 f = some spec → Valid E f spec := by
  intro f spec h
  cases h
noncomputable def w15 (m : List (Int × Int)) (c : Int) : Tree (RV E.A × List (Obj E.A)) :=
 .leaf (.tup [(false, [.int .i32 ((@mget K E K.u16 K.i32 m c).getD (Int.ofNat (0 : Nat)))]), (false, [.bool ((@mget K E K.u16 K.i32 m c).isSome)])], [.map .u16 .i32 m])
theorem e15 (m : List (Int × Int)) (c : Int) : execFun E G15 (fun _ _ => .fail) false Go.Proofs.Tryd.f15 [.agg [.mp 0 0], .lf (.int .u16 c)] [.map .u16 .i32 m] some = (w15 m c).get := by kernel_rfl
noncomputable def w15_1 (c : Int) : Tree (RV E.A × List (Obj E.A)) :=
 .leaf (.tup [(false, [.int .i32 (Int.ofNat (0 : Nat))]), (false, [.bool false])], [])
theorem e15_1 (c : Int) : execFun E G15 (fun _ _ => .fail) false Go.Proofs.Tryd.f15 [.agg [.lit (.map none)], .lf (.int .u16 c)] [] some = (w15_1 c).get := by kernel_rfl
noncomputable def spec15 : Spec E := fun args os => match args, os with
  | [.agg [.mp 0 0], .lf (.int .u16 c)], [.map .u16 .i32 m] => w15 m c
  | [.agg [.lit (.map none)], .lf (.int .u16 c)], [] => w15_1 c
  | _, _ => .fail
theorem valid15 (hL : Laws E) : Valid E 15 spec15 :=
  valid_of_body hL (hG15 hL) (Λ := fun _ _ => .fail) (fn := Go.Proofs.Tryd.f15) (keep := false) (by kernel_rfl) (by kernel_rfl) (by kernel_rfl) (LamOK.none (by kernel_rfl)) (fun args os r os' h => by
    unfold spec15 at h
    split at h
    · exact (e15 _ _).trans h
    · exact (e15_1 _).trans h
    · cases h)
end Go.Vx
namespace Go.Vx
open Go
noncomputable def G9 : FuncId → Option (Spec E)
  | 11 => some spec11
  | 12 => some spec12
  | 14 => some spec14
  | 15 => some spec15
  | _ => none
theorem hG9 (hL : Laws E) : ∀ f spec, G9 f = some spec → Valid E f spec := by
  intro f spec h
  unfold G9 at h
  split at h
  · injection h with h; subst h; exact valid11 hL
  · injection h with h; subst h; exact valid12 hL
  · injection h with h; subst h; exact valid14 hL
  · injection h with h; subst h; exact valid15 hL
  · cases h
noncomputable def w9  : Tree (RV E.A × List (Obj E.A)) :=
 .ite (decide ((Px.build' [((65 : Int), (3 : Int))]).length ≤ (1000000000 : Nat)))
 (.ite (eqI (Px.parse' (Px.build' [((65 : Int), (3 : Int))])).fst (0 : Int))
  (.ite ((mget_u16_i32 (Px.parse' (Px.build' [((65 : Int), (3 : Int))])).snd (3 : Int)).isSome)
   (.ite (eqI ((mget_u16_i32 (Px.parse' (Px.build' [((65 : Int), (3 : Int))])).snd (3 : Int)).getD (Int.ofNat (0 : Nat))) (65 : Int))
    (.ite (decide ((Px.parse' (Px.build' [((65 : Int), (3 : Int))])).snd.length ≤ (2 : Nat) ^ (62 : Nat)))
     (.leaf (.lf (.bool (eqI (↑(Px.parse' (Px.build' [((65 : Int), (3 : Int))])).snd.length : Int) (1 : Int))), []))
     (.fail))
    (.leaf (.lf (.bool false), [])))
   (.leaf (.lf (.bool false), [])))
  (.ite (eqI (Px.parse' (Px.build' [((65 : Int), (3 : Int))])).fst (0 : Int))
   (.leaf (.lf (.bool false), []))
   (.leaf (.lf (.bool false), []))))
 (.fail)
theorem e9  : execFun E G9 (fun _ _ => .fail) false Go.Proofs.Tryd.f9 [] [] some = (w9 ).get := by kernel_rfl
noncomputable def raw9 : Spec E := fun args os => match args, os with
  | [], [] => w9
  | _, _ => .fail
theorem validraw9 (hL : Laws E) : Valid E 9 raw9 :=
  valid_of_body hL (hG9 hL) (Λ := fun _ _ => .fail) (fn := Go.Proofs.Tryd.f9) (keep := false) (by kernel_rfl) (by kernel_rfl) (by kernel_rfl) (LamOK.none (by kernel_rfl)) (fun args os r os' h => by
    unfold raw9 at h
    split at h
    · exact (e9 ).trans h
    · cases h)
theorem eq9 : w9.get = some (.lf (.bool true), []) := by
  unfold w9
  rw [Px.parse'_eq, Px.build'_eq]
  kernel_rfl
noncomputable def spec9 : Spec E := fun args os => match args, os with
  | [], [] => .leaf (.lf (.bool true), [])
  | _, _ => .fail
theorem valid9 (hL : Laws E) : Valid E 9 spec9 := (validraw9 hL).less (fun args os x _ _ h => by
  unfold spec9 at h
  split at h
  · exact eq9.trans h
  · cases h)
end Go.Vx
