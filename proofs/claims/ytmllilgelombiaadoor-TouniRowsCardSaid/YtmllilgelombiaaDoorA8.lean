/-
  Part 8 of the proof: the second reading of the model, its laws, and the functions' contracts. Lemmas alone.
-/
import Derived.Test.YtmllilgelombiaaDoorA2
import Derived.Test.YtmllilgelombiaaDoorA7
set_option linter.unusedSectionVars false
set_option linter.unusedVariables false
set_option linter.unusedSimpArgs false
namespace Go.Vx
open Go
noncomputable def G20 : FuncId → Option (Spec E)
  | 19 => some spec19
  | 42 => some spec42
  | 43 => some spec43
  | 44 => some spec44
  | _ => none
theorem hG20 (hL : Laws E) : ∀ f spec, G20 f = some spec → Valid E f spec := by
  intro f spec h
  unfold G20 at h
  split at h
  · injection h with h; subst h; exact valid19 hL
  · injection h with h; subst h; exact valid42 hL
  · injection h with h; subst h; exact valid43 hL
  · injection h with h; subst h; exact valid44 hL
  · cases h
noncomputable def w20 (a0 : List UInt8) : Tree (RV E.A × List (Obj E.A)) :=
 .ite (decide (a0.length ≤ (140737488355328 : Nat)))
 (.ite (false || ltI (↑a0.length : Int) ((0 : Int) + (2 : Int)))
  (.ite (eqI (↑a0.length : Int) (0 : Int))
   (.leaf (.tup [(false, [.int .i32 ((0 : Int))]), (false, [.bool false])], []))
   (.ite (!decide (Px.utf16s (IntKind.i32.wrap (0 : Int)) = a0))
    (.leaf (.tup [(false, [.int .i32 ((0 : Int))]), (false, [.bool false])], []))
    (.leaf (.tup [(false, [.int .i32 (IntKind.i32.wrap (0 : Int))]), (false, [.bool true])], []))))
  (.ite (leI (55296 : Int) (IntKind.i32.wrap (Px.n2 a0 (Int.toNat (0 : Int)))))
   (.ite (ltI (IntKind.i32.wrap (Px.n2 a0 (Int.toNat (0 : Int)))) (56320 : Int))
    (.ite (ltI (2 : Int) (↑a0.length : Int))
     (.ite (leI (0 : Int) ((0 : Int) + (2 : Int)) && leI ((0 : Int) + (2 : Int)) (↑a0.length : Int))
      (.ite (false || ltI (↑a0.length : Int) ((0 : Int) + (2 : Int) + (2 : Int)))
       (.ite (eqI (↑a0.length : Int) (0 : Int))
        (.leaf (.tup [(false, [.int .i32 ((0 : Int))]), (false, [.bool false])], []))
        (.ite (!decide (Px.utf16s (vbits Go.BinOp.or IntKind.i32 (IntKind.i32.wrap ((65536 : Int) + vshl IntKind.i32 (IntKind.i32.wrap (IntKind.i32.wrap (Px.n2 a0 (Int.toNat (0 : Int))) - (55296 : Int))) (10 : Int))) (IntKind.i32.wrap (vbits Go.BinOp.and IntKind.u16 (0 : Int) (1023 : Int)))) = a0))
         (.leaf (.tup [(false, [.int .i32 ((0 : Int))]), (false, [.bool false])], []))
         (.leaf (.tup [(false, [.int .i32 (vbits Go.BinOp.or IntKind.i32 (IntKind.i32.wrap ((65536 : Int) + vshl IntKind.i32 (IntKind.i32.wrap (IntKind.i32.wrap (Px.n2 a0 (Int.toNat (0 : Int))) - (55296 : Int))) (10 : Int))) (IntKind.i32.wrap (vbits Go.BinOp.and IntKind.u16 (0 : Int) (1023 : Int))))]), (false, [.bool true])], []))))
       (.ite (eqI (↑a0.length : Int) (0 : Int))
        (.leaf (.tup [(false, [.int .i32 ((0 : Int))]), (false, [.bool false])], []))
        (.ite (!decide (Px.utf16s (vbits Go.BinOp.or IntKind.i32 (IntKind.i32.wrap ((65536 : Int) + vshl IntKind.i32 (IntKind.i32.wrap (IntKind.i32.wrap (Px.n2 a0 (Int.toNat (0 : Int))) - (55296 : Int))) (10 : Int))) (IntKind.i32.wrap (vbits Go.BinOp.and IntKind.u16 (Px.n2 a0 ((0 : Int) + (2 : Int)).toNat) (1023 : Int)))) = a0))
         (.leaf (.tup [(false, [.int .i32 ((0 : Int))]), (false, [.bool false])], []))
         (.leaf (.tup [(false, [.int .i32 (vbits Go.BinOp.or IntKind.i32 (IntKind.i32.wrap ((65536 : Int) + vshl IntKind.i32 (IntKind.i32.wrap (IntKind.i32.wrap (Px.n2 a0 (Int.toNat (0 : Int))) - (55296 : Int))) (10 : Int))) (IntKind.i32.wrap (vbits Go.BinOp.and IntKind.u16 (Px.n2 a0 ((0 : Int) + (2 : Int)).toNat) (1023 : Int))))]), (false, [.bool true])], [])))))
      (.fail))
     (.ite (eqI (↑a0.length : Int) (0 : Int))
      (.leaf (.tup [(false, [.int .i32 ((0 : Int))]), (false, [.bool false])], []))
      (.ite (!decide (Px.utf16s (IntKind.i32.wrap (Px.n2 a0 (Int.toNat (0 : Int)))) = a0))
       (.leaf (.tup [(false, [.int .i32 ((0 : Int))]), (false, [.bool false])], []))
       (.leaf (.tup [(false, [.int .i32 (IntKind.i32.wrap (Px.n2 a0 (Int.toNat (0 : Int))))]), (false, [.bool true])], [])))))
    (.ite (eqI (↑a0.length : Int) (0 : Int))
     (.leaf (.tup [(false, [.int .i32 ((0 : Int))]), (false, [.bool false])], []))
     (.ite (!decide (Px.utf16s (IntKind.i32.wrap (Px.n2 a0 (Int.toNat (0 : Int)))) = a0))
      (.leaf (.tup [(false, [.int .i32 ((0 : Int))]), (false, [.bool false])], []))
      (.leaf (.tup [(false, [.int .i32 (IntKind.i32.wrap (Px.n2 a0 (Int.toNat (0 : Int))))]), (false, [.bool true])], [])))))
   (.ite (eqI (↑a0.length : Int) (0 : Int))
    (.leaf (.tup [(false, [.int .i32 ((0 : Int))]), (false, [.bool false])], []))
    (.ite (!decide (Px.utf16s (IntKind.i32.wrap (Px.n2 a0 (Int.toNat (0 : Int)))) = a0))
     (.leaf (.tup [(false, [.int .i32 ((0 : Int))]), (false, [.bool false])], []))
     (.leaf (.tup [(false, [.int .i32 (IntKind.i32.wrap (Px.n2 a0 (Int.toNat (0 : Int))))]), (false, [.bool true])], []))))))
 (.fail)
theorem e20 (a0 : List UInt8) : execFun E G20 (fun _ _ => .fail) false Go.Proofs.Tryd.f20 [.lf (.sl .u8 a0)] [] some = (w20 a0).get := by kernel_rfl
noncomputable def raw20 : Spec E := fun args os => match args, os with
  | [.lf (.sl .u8 a0)], [] => w20 a0
  | _, _ => .fail
theorem validraw20 (hL : Laws E) : Valid E 20 raw20 :=
  valid_of_body hL (hG20 hL) (Λ := fun _ _ => .fail) (fn := Go.Proofs.Tryd.f20) (keep := false) (by kernel_rfl) (by kernel_rfl) (by kernel_rfl) (LamOK.none (by kernel_rfl)) (fun args os r os' h => by
    unfold raw20 at h
    split at h
    · exact (e20 _).trans h
    · cases h)
/-- what comes back: the scalar, or none -/
def out20 (r : Int) : RV E.A := .tup [(false, [.int .i32 (cond (leI 0 r) r 0)]), (false, [.bool (leI 0 r)])]
theorem and1023' (n : Nat) (h : n < 65536) : vbits .and IntKind.u16 (n : Int) 1023 = ((n % 1024 : Nat) : Int) := by
  have := vbits_and IntKind.u16 n 1023 h (by decide)
  rw [show ((1023 : Nat) : Int) = 1023 from rfl] at this
  rw [this, show (1023 : Nat) = 2 ^ 10 - 1 from rfl, Nat.and_two_pow_sub_one_eq_mod, wu16] <;> omega
/-- two halves' scalar -/
theorem pair20 (a b : Nat) (h1 : 55296 ≤ a) (h2 : a < 56320) (hb : b < 65536) :
    vbits Go.BinOp.or IntKind.i32 (IntKind.i32.wrap ((65536 : Int) + vshl IntKind.i32 (IntKind.i32.wrap (IntKind.i32.wrap (a : Int) - (55296 : Int))) (10 : Int))) (IntKind.i32.wrap (vbits Go.BinOp.and IntKind.u16 (b : Int) (1023 : Int))) = (((a - 55296) * 1024 + b % 1024 : Nat) : Int) + 65536 := by
  obtain ⟨k, rfl⟩ : ∃ k, a = k + 55296 := ⟨a - 55296, by omega⟩
  rw [Nat.add_sub_cancel]
  have e1 : IntKind.i32.wrap (((k + 55296 : Nat) : Int)) = ((k + 55296 : Nat) : Int) := by rw [wi32] <;> omega
  have e2 : IntKind.i32.wrap (((k + 55296 : Nat) : Int) - 55296) = (k : Int) := by rw [wi32] <;> omega
  have e3 : vshl IntKind.i32 (k : Int) 10 = ((k * 1024 : Nat) : Int) := by
    unfold vshl
    have : min (Int.toNat 10) (IntKind.i32.bits) = 10 := by decide
    rw [this, wi32] <;> omega
  have e4 : IntKind.i32.wrap ((65536 : Int) + ((k * 1024 : Nat) : Int)) = (((k + 64) * 1024 : Nat) : Int) := by rw [wi32] <;> omega
  have e5 : IntKind.i32.wrap ((b % 1024 : Nat) : Int) = ((b % 1024 : Nat) : Int) := by rw [wi32] <;> omega
  rw [e1, e2, e3, e4, and1023' b hb, e5, vbits_or IntKind.i32 _ _ (by show _ < 4294967296; omega) (by show _ < 4294967296; omega), show ((k + 64) * 1024) ||| (b % 1024) = (k + 64) * 1024 + b % 1024 from or_low _ _ 10 (by omega), wi32] <;> omega
theorem utf16_pair (k m : Nat) (hk : k < 1024) (hm : m < 1024) : Px.utf16s (((k * 1024 + m : Nat) : Int) + 65536) = Px.b2 (55296 + k) ++ Px.b2 (56320 + m) := by
  have hs : Px.scalar (((k * 1024 + m : Nat) : Int) + 65536) = true := (Px.scalar_iff _).2 ⟨by omega, by omega, by omega⟩
  rw [Px.utf16s_high hs, show (k * 1024 + m) / 1024 = k by omega, show (k * 1024 + m) % 1024 = m by omega]
theorem utf16_one (a : Nat) (h : a < 65536) : Px.utf16s (a : Int) = cond (Px.scalar (a : Int)) (Px.b2 a) [] := by
  cases hs : Px.scalar (a : Int) with
  | true => exact Px.utf16s_low hs h
  | false => exact Px.utf16s_no hs
/-- the test behind: do the bytes come back? -/
theorem test20 (p : List UInt8) (c r : Int) (hr : r = cond (!eqI (p.length : Int) 0 && decide (Px.utf16s c = p)) c (-1)) (hc : 0 ≤ c) {t : Tree (RV E.A × List (Obj E.A))}
    (ht : t = .ite (eqI (p.length : Int) (0 : Int)) (.leaf (.tup [(false, [.int .i32 ((0 : Int))]), (false, [.bool false])], []))
     (.ite (!decide (Px.utf16s c = p)) (.leaf (.tup [(false, [.int .i32 ((0 : Int))]), (false, [.bool false])], [])) (.leaf (.tup [(false, [.int .i32 c]), (false, [.bool true])], [])))) : t.get = some (out20 r, []) := by
  subst ht
  subst hr
  simp only [Tree.get_ite, Tree.get_leaf]
  have e : leI 0 c = true := by rw [leI_eq]; exact decide_eq_true hc
  cases eqI (p.length : Int) 0 <;> cases decide (Px.utf16s c = p) <;> simp only [cond_true, cond_false, Bool.not_true, Bool.not_false, Bool.and_true, Bool.and_false, Bool.true_and, Bool.false_and, out20, e] <;> rfl
theorem eq20 (p : List UInt8) (hp : p.length ≤ 140737488355328) : (w20 p).get = some (out20 (Px.rune p), []) := by
  unfold w20
  rw [Tree.get_ite, decide_eq_true hp, cond_true, Tree.get_ite]
  have e0 : IntKind.i32.wrap 0 = 0 := by decide
  rw [e0]
  match p, hp with
  | [], _ => exact test20 [] 0 _ (by kernel_rfl) (by decide) rfl
  | [x], _ =>
    refine test20 [x] 0 _ ?_ (by decide) rfl
    have h : ¬ Px.utf16s 0 = [x] := fun e => by
      have := congrArg List.length e
      rw [show Px.utf16s 0 = [0, 0] by kernel_rfl] at this
      cases this
    rw [decide_eq_false h, Bool.and_false]
    rfl
  | x :: y :: r, _ =>
    have hx := x.toNat_lt
    have hy := y.toNat_lt
    have c0 : (false || ltI ((x :: y :: r).length : Int) ((0 : Int) + 2)) = false := by
      rw [Bool.false_or, ltI_eq]; exact decide_eq_false (by simp; omega)
    rw [c0, cond_false, show Int.toNat 0 = 0 from rfl, show ((0 : Int) + 2).toNat = 2 from rfl]
    have hn := Px.n2_two x y r
    obtain ⟨a, ha⟩ : ∃ a : Nat, a = 256 * x.toNat + y.toNat := ⟨_, rfl⟩
    have hb2 : Px.b2 a = [x, y] := by rw [ha]; exact Px.b2_two x y
    have hal : a < 65536 := by omega
    rw [← ha] at hn
    have ew : IntKind.i32.wrap (a : Int) = (a : Int) := by rw [wi32] <;> omega
    have lz : eqI ((x :: y :: r).length : Int) 0 = false := by rw [eqI_eq]; exact decide_eq_false (by simp; omega)
    have hone := utf16_one a hal
    -- where it is one half alone
    have one : (¬ (55296 ≤ a ∧ a < 56320) ∨ r = []) → Px.rune (x :: y :: r) = cond (!eqI ((x :: y :: r).length : Int) 0 && decide (Px.utf16s (a : Int) = x :: y :: r)) (a : Int) (-1) := by
      intro hh
      unfold Px.rune
      rw [hn, lz, hone, hb2]
      have c4 : (eqI ((x :: y :: r).length : Int) 4 && leI 55296 (a : Int) && ltI (a : Int) 56320 && leI 56320 (Px.n2 (x :: y :: r) 2) && ltI (Px.n2 (x :: y :: r) 2) 57344) = false := by
        rcases hh with hh | rfl
        · have : (leI 55296 (a : Int) && ltI (a : Int) 56320) = false := by
            rw [leI_eq, ltI_eq, ← Bool.decide_and]; exact decide_eq_false (by omega)
          simp only [Bool.and_assoc] at this ⊢
          rw [← Bool.and_assoc (leI 55296 (a : Int)), this]; simp
        · rfl
      rw [c4]
      cases r with
      | nil => cases Px.scalar (a : Int) <;> simp [eqI]
      | cons z r =>
        have l2 : eqI ((x :: y :: z :: r).length : Int) 2 = false := by rw [eqI_eq]; exact decide_eq_false (by simp; omega)
        rw [l2]
        cases Px.scalar (a : Int) <;> simp
    rw [hn, ew, Tree.get_ite, leI_eq]
    by_cases h1 : (55296 : Int) ≤ (a : Int)
    · rw [decide_eq_true h1, cond_true, Tree.get_ite, ltI_eq]
      by_cases h2 : (a : Int) < 56320
      · rw [decide_eq_true h2, cond_true, Tree.get_ite]
        match r with
        | [] =>
          exact test20 [x, y] a _ (one (.inr rfl)) (by omega) rfl
        | z :: r =>
          have l2 : ltI 2 ((x :: y :: z :: r).length : Int) = true := by rw [ltI_eq]; exact decide_eq_true (by simp; omega)
          have l3 : (leI (0 : Int) ((0 : Int) + 2) && leI ((0 : Int) + 2) ((x :: y :: z :: r).length : Int)) = true := by
            rw [leI_eq ((0 : Int) + 2), decide_eq_true (by simp; omega)]; rfl
          rw [l2, cond_true, Tree.get_ite, l3, cond_true, Tree.get_ite, Bool.false_or]
          have len2 : eqI ((x :: y :: z :: r).length : Int) 2 = false := by rw [eqI_eq]; exact decide_eq_false (by simp; omega)
          match r with
          | [] =>
            have l4 : ltI (([x, y, z] : List UInt8).length : Int) ((0 : Int) + 2 + 2) = true := by rfl
            rw [l4, cond_true]
            have hc := pair20 a 0 (by omega) (by omega) (by omega)
            rw [show ((0 : Nat) : Int) = 0 from rfl, ew] at hc
            refine test20 [x, y, z] _ _ ?_ ?_ rfl
            · rw [hc, utf16_pair _ _ (by omega) (by omega)]
              have : ¬ (Px.b2 (55296 + (a - 55296)) ++ Px.b2 (56320 + 0 % 1024) = [x, y, z]) := fun e => by
                have := congrArg List.length e
                simp [Px.b2] at this
              rw [decide_eq_false this, Bool.and_false]
              have len4 : eqI (([x, y, z] : List UInt8).length : Int) 4 = false := by rw [eqI_eq]; exact decide_eq_false (by simp)
              unfold Px.rune
              rw [len2, len4]
              simp only [Bool.false_and, cond_false]
            · rw [hc]; omega
          | u :: r =>
            have hz := z.toNat_lt
            have hu := u.toNat_lt
            have hn2 := Px.n2_four x y z u r
            obtain ⟨b, hb⟩ : ∃ b : Nat, b = 256 * z.toNat + u.toNat := ⟨_, rfl⟩
            have hbb : Px.b2 b = [z, u] := by rw [hb]; exact Px.b2_two z u
            have hbl : b < 65536 := by omega
            rw [← hb] at hn2
            have l4 : ltI ((x :: y :: z :: u :: r).length : Int) ((0 : Int) + 2 + 2) = false := by rw [ltI_eq]; exact decide_eq_false (by simp; omega)
            rw [l4, cond_false, hn2]
            have hc := pair20 a b (by omega) (by omega) hbl
            rw [ew] at hc
            refine test20 (x :: y :: z :: u :: r) _ _ ?_ ?_ rfl
            · rw [hc, utf16_pair _ _ (by omega) (by omega), show 55296 + (a - 55296) = a by omega, hb2]
              unfold Px.rune
              rw [hn, hn2, len2, lz]
              have hA : leI 55296 (a : Int) = true := by rw [leI_eq]; exact decide_eq_true h1
              have hB : ltI (a : Int) 56320 = true := by rw [ltI_eq]; exact decide_eq_true h2
              rw [hA, hB]
              have key : decide ([x, y] ++ Px.b2 (56320 + b % 1024) = x :: y :: z :: u :: r) = (eqI ((x :: y :: z :: u :: r).length : Int) 4 && true && true && leI 56320 (b : Int) && ltI (b : Int) 57344) := by
                rw [eqI_eq, leI_eq, ltI_eq, Bool.and_true, Bool.and_true, ← Bool.decide_and, ← Bool.decide_and]
                refine decide_eq_decide.2 ⟨fun e => ?_, fun e => ?_⟩
                · have e1 : Px.b2 (56320 + b % 1024) = z :: u :: r := by simpa using e
                  have hr : r = [] := by
                    have h9 := congrArg List.length e1
                    cases r with
                    | nil => rfl
                    | cons v r => simp [Px.b2] at h9
                  subst hr
                  rw [← hbb] at e1
                  have := Px.b2_inj (by omega) hbl e1
                  exact ⟨⟨rfl, by omega⟩, by omega⟩
                · have hr : r = [] := by
                    have h9 := e.1.1
                    cases r with
                    | nil => rfl
                    | cons v r => simp only [List.length_cons] at h9; omega
                  subst hr
                  have : 56320 + b % 1024 = b := by omega
                  rw [this, hbb]; rfl
              rw [key]
              simp only [Bool.false_and, cond_false, Bool.not_false, Bool.true_and]
              cases hk : (eqI ((x :: y :: z :: u :: r).length : Int) 4 && true && true && leI 56320 (b : Int) && ltI (b : Int) 57344) with
              | false => rfl
              | true =>
                simp only [Bool.and_true, Bool.and_eq_true, leI_eq, ltI_eq, decide_eq_true_eq] at hk
                simp only [cond_true]
                omega
            · rw [hc]; omega
      · rw [decide_eq_false h2, cond_false]
        exact test20 (x :: y :: r) a _ (one (.inl (by omega))) (by omega) rfl
    · rw [decide_eq_false h1, cond_false]
      exact test20 (x :: y :: r) a _ (one (.inl (by omega))) (by omega) rfl
/-- touni.Rune -/
noncomputable def spec20 : Spec E := fun args os => match args, os with
  | [.lf (.sl .u8 p)], [] => .ite (decide (p.length ≤ 140737488355328)) (.leaf (out20 (Px.rune p), [])) .fail
  | _, _ => .fail
theorem valid20 (hL : Laws E) : Valid E 20 spec20 := (validraw20 hL).less (fun args os x g1 g2 h => by
  unfold spec20 at h
  split at h
  · rcases Tree.get_ite_some h with ⟨h1, h⟩ | ⟨_, h⟩
    · exact (eq20 _ (of_decide_eq_true h1)).trans h
    · cases h
  · cases h)
end Go.Vx
namespace Go.Vx
open Go
noncomputable def G36 : FuncId → Option (Spec E)
  | 20 => some spec20
  | 42 => some spec42
  | 43 => some spec43
  | _ => none
theorem hG36 (hL : Laws E) : ∀ f spec, G36 f = some spec → Valid E f spec := by
  intro f spec h
  unfold G36 at h
  split at h
  · injection h with h; subst h; exact valid20 hL
  · injection h with h; subst h; exact valid42 hL
  · injection h with h; subst h; exact valid43 hL
  · cases h
def L36_0 : Ex → Live
  | .normal => ⟨[1, 2, 6], [0, 192]⟩
  | .exit 0 => ⟨[], [0, 192]⟩
  | .ret => ⟨[4, 5], [0, 192]⟩
  | _ => ⟨[], []⟩
noncomputable def S36_0 (p1 : List (List UInt8 × List UInt8 × Bool)) (x : Int × (List (Int × Int))) : St E.A := at' E 90 [(1, .lf (.sl .tok p1)), (2, .lf (.ptr 192 0 0)), (6, .lf (.int .i64 x.1))] [(0, some (.map .u16 .i32 x.2)), (192, some (.cells 34 [.mp 0 0]))]
noncomputable def t36_0 (p1 : List (List UInt8 × List UInt8 × Bool)) (x : Int × (List (Int × Int))) : Tree (Int × (List (Int × Int)) ⊕ Out' E) :=
 .ite (ltI x.fst (↑p1.length : Int))
 (.ite (inB x.fst p1.length)
  (.ite (decide ((p1.getD x.fst.toNat ([], [], false)).fst = [(101 : UInt8), (110 : UInt8), (100 : UInt8), (98 : UInt8), (102 : UInt8), (99 : UInt8), (104 : UInt8), (97 : UInt8), (114 : UInt8)]))
   (.leaf (.inr (.ret, at' E 90 [(4, .lf (.int .i64 (IntKind.i64.wrap (x.fst + (1 : Int))))), (5, .lf (.bool true))] [(0, some (.map .u16 .i32 x.snd)), (192, some (.cells 34 [.mp 0 0]))])))
   (.ite (leI (↑p1.length : Int) (IntKind.i64.wrap (x.fst + (1 : Int))))
    (.leaf (.inr (.ret, at' E 90 [(4, .lf (.int .i64 ((0 : Int)))), (5, .lf (.bool false))] [(0, some (.map .u16 .i32 x.snd)), (192, some (.cells 34 [.mp 0 0]))])))
    (.ite (inB x.fst p1.length)
     (.ite (!(p1.getD x.fst.toNat ([], [], false)).snd.snd)
      (.leaf (.inr (.ret, at' E 90 [(4, .lf (.int .i64 ((0 : Int)))), (5, .lf (.bool false))] [(0, some (.map .u16 .i32 x.snd)), (192, some (.cells 34 [.mp 0 0]))])))
      (.ite (inB (IntKind.i64.wrap (x.fst + (1 : Int))) p1.length)
       (.ite (!(p1.getD (IntKind.i64.wrap (x.fst + (1 : Int))).toNat ([], [], false)).snd.snd)
        (.leaf (.inr (.ret, at' E 90 [(4, .lf (.int .i64 ((0 : Int)))), (5, .lf (.bool false))] [(0, some (.map .u16 .i32 x.snd)), (192, some (.cells 34 [.mp 0 0]))])))
        (.ite (inB x.fst p1.length)
         (.ite (!eqI (↑(p1.getD x.fst.toNat ([], [], false)).snd.fst.length : Int) (2 : Int))
          (.leaf (.inr (.ret, at' E 90 [(4, .lf (.int .i64 ((0 : Int)))), (5, .lf (.bool false))] [(0, some (.map .u16 .i32 x.snd)), (192, some (.cells 34 [.mp 0 0]))])))
          (.ite (inB x.fst p1.length)
           (.ite (decide ((p1.getD x.fst.toNat ([], [], false)).snd.fst.length ≤ (140737488355328 : Nat)))
            (.ite (false || ltI (↑(p1.getD x.fst.toNat ([], [], false)).snd.fst.length : Int) ((0 : Int) + (2 : Int)))
             (.ite (inB (IntKind.i64.wrap (x.fst + (1 : Int))) p1.length)
              (.ite (decide ((p1.getD (IntKind.i64.wrap (x.fst + (1 : Int))).toNat ([], [], false)).snd.fst.length ≤ (140737488355328 : Nat)))
               (.ite (!leI (0 : Int) (Px.rune (p1.getD (IntKind.i64.wrap (x.fst + (1 : Int))).toNat ([], [], false)).snd.fst))
                (.leaf (.inr (.ret, at' E 90 [(4, .lf (.int .i64 ((0 : Int)))), (5, .lf (.bool false))] [(0, some (.map .u16 .i32 x.snd)), (192, some (.cells 34 [.mp 0 0]))])))
                (.ite ((@mget K E K.u16 K.i32 x.snd (0 : Int)).isSome)
                 (.leaf (.inr (.ret, at' E 90 [(4, .lf (.int .i64 ((0 : Int)))), (5, .lf (.bool false))] [(0, some (.map .u16 .i32 x.snd)), (192, some (.cells 34 [.mp 0 0]))])))
                 (.leaf (.inl ((IntKind.i64.wrap (x.fst + (2 : Int))), (@mset K E K.u16 K.i32 x.snd (0 : Int) (bif leI (0 : Int) (Px.rune (p1.getD (IntKind.i64.wrap (x.fst + (1 : Int))).toNat ([], [], false)).snd.fst) then Px.rune (p1.getD (IntKind.i64.wrap (x.fst + (1 : Int))).toNat ([], [], false)).snd.fst else (0 : Int))))))))
               (.fail))
              (.fail))
             (.ite (inB (IntKind.i64.wrap (x.fst + (1 : Int))) p1.length)
              (.ite (decide ((p1.getD (IntKind.i64.wrap (x.fst + (1 : Int))).toNat ([], [], false)).snd.fst.length ≤ (140737488355328 : Nat)))
               (.ite (!leI (0 : Int) (Px.rune (p1.getD (IntKind.i64.wrap (x.fst + (1 : Int))).toNat ([], [], false)).snd.fst))
                (.leaf (.inr (.ret, at' E 90 [(4, .lf (.int .i64 ((0 : Int)))), (5, .lf (.bool false))] [(0, some (.map .u16 .i32 x.snd)), (192, some (.cells 34 [.mp 0 0]))])))
                (.ite ((@mget K E K.u16 K.i32 x.snd (Px.n2 (p1.getD x.fst.toNat ([], [], false)).snd.fst (Int.toNat (0 : Int)))).isSome)
                 (.leaf (.inr (.ret, at' E 90 [(4, .lf (.int .i64 ((0 : Int)))), (5, .lf (.bool false))] [(0, some (.map .u16 .i32 x.snd)), (192, some (.cells 34 [.mp 0 0]))])))
                 (.leaf (.inl ((IntKind.i64.wrap (x.fst + (2 : Int))), (@mset K E K.u16 K.i32 x.snd (Px.n2 (p1.getD x.fst.toNat ([], [], false)).snd.fst (Int.toNat (0 : Int))) (bif leI (0 : Int) (Px.rune (p1.getD (IntKind.i64.wrap (x.fst + (1 : Int))).toNat ([], [], false)).snd.fst) then Px.rune (p1.getD (IntKind.i64.wrap (x.fst + (1 : Int))).toNat ([], [], false)).snd.fst else (0 : Int))))))))
               (.fail))
              (.fail)))
            (.fail))
           (.fail)))
         (.fail)))
       (.fail)))
     (.fail))))
  (.fail))
 (.leaf (.inr (.exit 0, at' E 90 [] [(0, some (.map .u16 .i32 x.snd)), (192, some (.cells 34 [.mp 0 0]))])))
theorem h36_0 (p1 : List (List UInt8 × List UInt8 × Bool)) (x : Int × (List (Int × Int))) (k : Ex → St E.A → Option Unit) :
    exec E G36 (fun _ _ => .fail) 1 (lb Go.Proofs.Tryd.f36 0) (S36_0 p1 x) (fun e σ1 => k e (clean E (L36_0 e) σ1)) = (t36_0 p1 x).run (Sum.elim (fun x' => k .normal (S36_0 p1 x')) (fun o => k o.1 o.2)) := by kernel_rfl
def ob36 (m : List (Int × Int)) : List (Nat × Option (Obj E.A)) := [(0, some (.map .u16 .i32 m)), (192, some (.cells 34 [.mp 0 0]))]
noncomputable def out36 (r : Int × List (Int × Int)) : Tree (Out' E) :=
  .ite (leI 1 r.1) (.leaf (.ret, at' E 90 [(4, .lf (.int .i64 r.1)), (5, .lf (.bool true))] (ob36 r.2)))
   (.ite (eqI r.1 0) (.leaf (.ret, at' E 90 [(4, .lf (.int .i64 0)), (5, .lf (.bool false))] (ob36 r.2))) (.leaf (.exit 0, at' E 90 [] (ob36 r.2))))
noncomputable def lam36_0 (p1 : List (List UInt8 × List UInt8 × Bool)) (x : Int × (List (Int × Int))) : Tree (Out' E) :=
  .ite (eqI x.1 0 && decide (p1.length ≤ 1000000000) && Px.shortToks p1) (out36 (Px.pairsRun p1 0 x.2)) .fail
theorem it36 (p : List (List UInt8 × List UInt8 × Bool)) (hp : p.length ≤ 1000000000) (hs : Px.shortToks p = true) : ∀ (n i : Nat) (m : List (Int × Int)), p.length < n + i → i ≤ p.length →
    iter (t36_0 p) n ((i : Int), m) = (out36 (Px.pairsRun (p.drop i) i m)).get
  | 0, i, m, h, h2 => by omega
  | n + 1, i, m, h, h2 => by
    rw [iter]
    unfold t36_0
    simp only
    have w1 : IntKind.i64.wrap ((i : Int) + 1) = ((i + 1 : Nat) : Int) := by rw [wi64] <;> omega
    have w2 : IntKind.i64.wrap ((i : Int) + 2) = ((i + 2 : Nat) : Int) := by rw [wi64] <;> omega
    rw [Tree.get_ite, Int.toNat_natCast, w1, w2]
    rcases Nat.lt_or_ge i p.length with hl | hl
    · have hin : inB (i : Int) p.length = true := inB_nat hl
      have hsh : (p.getD i ([], [], false)).2.1.length ≤ 1000000000 := by
        have : p.getD i ([], [], false) = p[i] := by simp [List.getD, hl]
        rw [this]
        exact Nat.le_of_ble_eq_true (List.all_eq_true.1 hs _ (List.getElem_mem hl))
      have hlt : ltI (i : Int) (p.length : Int) = true := ltI_nat hl
      rw [hlt, cond_true, Tree.get_ite, hin, cond_true, Tree.get_ite]
      rw [drop_cons p ([], [], false) i hl]
      generalize hT : p.getD i ([], [], false) = T
      rw [hT] at hsh
      have hend : ∀ x, (decide (T.1 = Px.wEnd)) = x → (decide (T.1 = [(101 : UInt8), 110, 100, 98, 102, 99, 104, 97, 114])) = x := fun x hx => hx
      cases q1 : decide (T.1 = Px.wEnd) with
      | true =>
        rw [hend _ q1, cond_true, Tree.get_leaf]
        have : Px.pairsRun (T :: p.drop (i + 1)) i m = (((i + 1 : Nat) : Int), m) := by
          cases hd : p.drop (i + 1) with
          | nil => unfold Px.pairsRun; rw [q1]; rfl
          | cons => unfold Px.pairsRun; rw [q1]; rfl
        rw [this]
        unfold out36
        have c : leI 1 ((i + 1 : Nat) : Int) = true := by rw [leI_eq]; exact decide_eq_true (by omega)
        rw [Tree.get_ite, c]; rfl
      | false =>
        rw [hend _ q1, cond_false, Tree.get_ite]
        rcases Nat.lt_or_ge (i + 1) p.length with hl2 | hl2
        · have c1 : leI (p.length : Int) ((i + 1 : Nat) : Int) = false := by rw [leI_eq]; exact decide_eq_false (by omega)
          have hin2 : inB ((i + 1 : Nat) : Int) p.length = true := inB_nat hl2
          have hsh2 : (p.getD (i + 1) ([], [], false)).2.1.length ≤ 1000000000 := by
            have : p.getD (i + 1) ([], [], false) = p[i + 1] := by simp [List.getD, hl2]
            rw [this]
            exact Nat.le_of_ble_eq_true (List.all_eq_true.1 hs _ (List.getElem_mem hl2))
          rw [c1, cond_false, Tree.get_ite, cond_true, Int.toNat_natCast, drop_cons p ([], [], false) (i + 1) hl2, hin2]
          generalize p.getD (i + 1) ([], [], false) = U at *
          have ih := it36 p hp hs n (i + 2) (Px.ms m (Px.n2 T.2.1 0) (Px.rune U.2.1)) (by omega) (by omega)
          have hno : Px.pairOk m T U = false → Px.pairsRun (T :: U :: p.drop (i + 2)) i m = (0, m) := fun hh => by unfold Px.pairsRun; rw [q1, hh]; rfl
          have hyes : Px.pairOk m T U = true → Px.pairsRun (T :: U :: p.drop (i + 2)) i m = Px.pairsRun (p.drop (i + 2)) (i + 2) (Px.ms m (Px.n2 T.2.1 0) (Px.rune U.2.1)) := fun hh => by
            rw [Px.pairsRun]; rw [q1, hh]; rfl
          unfold Px.pairOk at hno hyes
          rw [Tree.get_ite]
          cases q2 : T.2.2 with
          | false =>
            rw [q2] at hno
            rw [hno rfl]; rfl
          | true =>
            rw [q2] at hno hyes
            rw [Bool.not_true, cond_false, Tree.get_ite, cond_true, Tree.get_ite]
            cases q3 : U.2.2 with
            | false =>
              rw [q3] at hno
              rw [hno rfl]; rfl
            | true =>
              rw [q3] at hno hyes
              rw [Bool.not_true, cond_false, Tree.get_ite, cond_true, Tree.get_ite]
              cases q4 : eqI (T.2.1.length : Int) 2 with
              | false =>
                rw [q4] at hno
                rw [hno rfl]; rfl
              | true =>
                rw [q4] at hno hyes
                have l2 : (T.2.1.length : Int) = 2 := by rw [eqI_eq] at q4; exact of_decide_eq_true q4
                have c2 : (false || ltI (T.2.1.length : Int) (0 + 2)) = false := by rw [l2]; rfl
                rw [Bool.not_true, cond_false, Tree.get_ite, cond_true, Tree.get_ite, decide_eq_true (by omega), cond_true, Tree.get_ite, c2, cond_false, Tree.get_ite, cond_true, Tree.get_ite, decide_eq_true (by omega), cond_true, Tree.get_ite]
                cases q5 : leI 0 (Px.rune U.2.1) with
                | false =>
                  rw [q5] at hno
                  rw [hno rfl]; rfl
                | true =>
                  rw [q5] at hno hyes
                  rw [Bool.not_true, cond_false, Tree.get_ite]
                  have hm := Px.ms_eq (Px.n2 T.2.1 0) (Px.rune U.2.1) m
                  have hg : (@mget K E K.u16 K.i32 m (Px.n2 T.2.1 (Int.toNat 0))).isSome = (Px.mg m (Px.n2 T.2.1 0)).isSome := rfl
                  rw [hg]
                  cases q6 : (Px.mg m (Px.n2 T.2.1 0)).isSome with
                  | true =>
                    rw [q6] at hno
                    rw [hno rfl]; rfl
                  | false =>
                    rw [q6] at hyes
                    rw [hyes rfl]
                    exact (congrArg (fun mm => iter (t36_0 p) n (((i + 2 : Nat) : Int), mm)) hm).trans ih
        · have c1 : leI (p.length : Int) ((i + 1 : Nat) : Int) = true := by rw [leI_eq]; exact decide_eq_true (by omega)
          have hd : p.drop (i + 1) = [] := List.drop_of_length_le hl2
          rw [c1, cond_true, Tree.get_leaf, hd]
          unfold Px.pairsRun
          rw [q1]
          rfl
    · have e : i = p.length := by omega
      subst e
      rw [ltI_self, cond_false, List.drop_length]
      rfl
theorem m36_0 {p1 : List (List UInt8 × List UInt8 × Bool)} {x : Int × (List (Int × Int))} {e : Ex} {σ : St E.A} (_ : okLenR (E := E) (.lf (.sl .tok p1)) = true)
    (h : (lam36_0 p1 x).get = some (e, σ)) : ∃ fuel, iter (t36_0 p1) fuel x = some (e, σ) ∧ e ≠ .normal := by
  obtain ⟨i, m⟩ := x
  unfold lam36_0 at h
  have h' := Tree.get_ite_some h
  clear h
  rcases h' with ⟨h1, h⟩ | ⟨_, h⟩
  · simp only [eqI_eq, Bool.and_eq_true, decide_eq_true_eq] at h1
    obtain ⟨⟨rfl, k2⟩, k3⟩ := h1
    refine ⟨p1.length + 1, (it36 p1 k2 k3 (p1.length + 1) 0 m (by omega) (by omega)).trans h, ?_⟩
    unfold out36 at h
    rcases Tree.get_ite_some h with ⟨_, h⟩ | ⟨_, h⟩
    · injection h with h; injection h with h1 _; rw [← h1]; intro hh; cases hh
    · rcases Tree.get_ite_some h with ⟨_, h⟩ | ⟨_, h⟩ <;> (injection h with h; injection h with h1 _; rw [← h1]; intro hh; cases hh)
  · cases h
noncomputable def rd36_0 (σ : St E.A) : Tree (Out' E) :=
  let c := clean E (L36_0 .normal) σ
  if c.sl.length = 90 then
  match c.sl.getD 1 .undef, c.sl.getD 2 .undef, c.sl.getD 6 .undef, c.ob 0, c.ob 192 with
  | .lf (.sl .tok p1), .lf (.ptr 192 0 0), .lf (.int .i64 x6), some (.map .u16 .i32 o0a), some (.cells 34 [.mp 0 0]) => lam36_0 p1 (x6, o0a)
  | _, _, _, _, _ => .fail
  else .fail
theorem ll36_0 (hL : Laws E) (σ : St E.A) (e : Ex) (σ' : St E.A) (h : (rd36_0 σ).get = some (e, σ')) : LoopOK E (lb Go.Proofs.Tryd.f36 0) σ e σ' := by
  refine LoopOK.of_clean hL (L36_0 .normal) ?_
  unfold rd36_0 at h
  simp only at h
  split at h
  · rename_i hlen
    split at h
    · rename_i p1 x6 o0a h0 h1 h2 h3 h4
      refine LoopOK.lens 1 (fun g0 => ?_)
      rw [h0] at g0
      obtain ⟨fuel, hi, ho⟩ := m36_0 g0 h
      have hl := loop_at (Γ := G36) (Λ := fun _ _ => .fail) (n := 1) (body := lb Go.Proofs.Tryd.f36 0) hL (hG36 hL) (S := S36_0 p1) (t := t36_0 p1) (Lv := L36_0) (LamOK.none (by kernel_rfl)) (h36_0 p1) hi ho
      refine LoopOK.fit hlen ?_ ?_ rfl rfl hl
      · exact ⟨h0, h1, h2, trivial⟩
      · exact ⟨h3, h4, trivial⟩
    · cases h
  · cases h
noncomputable def Lam36 : Lam E
  | 0, σ => rd36_0 σ
  | _, _ => .fail
noncomputable def w36 (m : List (Int × Int)) (l : List (List UInt8 × List UInt8 × Bool)) : Tree (RV E.A × List (Obj E.A)) :=
 .ite (eqI (0 : Int) (0 : Int) && decide (l.length ≤ (1000000000 : Nat)) && Px.shortToks l)
 (.ite (leI (1 : Int) (Px.pairsRun l (0 : Nat) m).fst)
  (.leaf (.tup [(false, [.int .i64 ((Px.pairsRun l (0 : Nat) m).fst)]), (false, [.bool true])], [.map .u16 .i32 ((Px.pairsRun l (0 : Nat) m).snd)]))
  (.ite (eqI (Px.pairsRun l (0 : Nat) m).fst (0 : Int))
   (.leaf (.tup [(false, [.int .i64 ((0 : Int))]), (false, [.bool false])], [.map .u16 .i32 ((Px.pairsRun l (0 : Nat) m).snd)]))
   (.leaf (.tup [(false, [.int .i64 ((0 : Int))]), (false, [.bool false])], [.map .u16 .i32 ((Px.pairsRun l (0 : Nat) m).snd)]))))
 (.fail)
theorem e36 (m : List (Int × Int)) (l : List (List UInt8 × List UInt8 × Bool)) : execFun E G36 ((Lam36)) false Go.Proofs.Tryd.f36 [.agg [.mp 0 0], .lf (.sl .tok l)] [.map .u16 .i32 m] some = (w36 m l).get := by kernel_rfl
noncomputable def raw36 : Spec E := fun args os => match args, os with
  | [.agg [.mp 0 0], .lf (.sl .tok l)], [.map .u16 .i32 m] => w36 m l
  | _, _ => .fail
theorem validraw36 (hL : Laws E) : Valid E 36 raw36 :=
  valid_of_body hL (hG36 hL) (Λ := (Lam36)) (fn := Go.Proofs.Tryd.f36) (keep := false) (by kernel_rfl) (by kernel_rfl) (by kernel_rfl) ((LamOK.of (m := 1) (by kernel_rfl) (fun j hj σ e σ' hg => by
      match j, hj with
      | 0, _ => exact ll36_0 hL σ e σ' hg
      ))) (fun args os r os' h => by
    unfold raw36 at h
    split at h
    · exact (e36 _ _).trans h
    · cases h)
theorem eq36 (m : List (Int × Int)) (l : List (List UInt8 × List UInt8 × Bool)) (h1 : l.length ≤ 1000000000) (h2 : Px.shortToks l = true) : (w36 m l).get = some (.tup [(false, [.int .i64 (cond (leI 1 (Px.pairsRun l 0 m).1) (Px.pairsRun l 0 m).1 0)]), (false, [.bool (leI 1 (Px.pairsRun l 0 m).1)])], [.map .u16 .i32 (Px.pairsRun l 0 m).2]) := by
  unfold w36
  rw [Tree.get_ite, h2, decide_eq_true h1]
  show Tree.get (.ite _ _ _) = _
  rw [Tree.get_ite, Tree.get_ite]
  cases leI 1 (Px.pairsRun l 0 m).1 with
  | true => rfl
  | false => cases eqI (Px.pairsRun l 0 m).1 0 <;> rfl
noncomputable def spec36 : Spec E := fun args os => match args, os with
  | [.agg [.mp 0 0], .lf (.sl .tok l)], [.map .u16 .i32 m] => .ite (decide (l.length ≤ 1000000000) && Px.shortToks l) (.leaf (.tup [(false, [.int .i64 (cond (leI 1 (Px.pairsRun l 0 m).1) (Px.pairsRun l 0 m).1 0)]), (false, [.bool (leI 1 (Px.pairsRun l 0 m).1)])], [.map .u16 .i32 (Px.pairsRun l 0 m).2])) .fail
  | _, _ => .fail
theorem valid36 (hL : Laws E) : Valid E 36 spec36 := (validraw36 hL).less (fun args os x g1 g2 h => by
  unfold spec36 at h
  split at h
  · rename_i l m
    rcases Tree.get_ite_some h with ⟨h1, h⟩ | ⟨_, h⟩
    · simp only [Bool.and_eq_true, decide_eq_true_eq] at h1
      exact (eq36 m l h1.1 h1.2).trans h
    · cases h
  · cases h)
end Go.Vx
namespace Go.Vx
open Go
noncomputable def G12 : FuncId → Option (Spec E)
  | 35 => some spec35
  | 36 => some spec36
  | _ => none
theorem hG12 (hL : Laws E) : ∀ f spec, G12 f = some spec → Valid E f spec := by
  intro f spec h
  unfold G12 at h
  split at h
  · injection h with h; subst h; exact valid35 hL
  · injection h with h; subst h; exact valid36 hL
  · cases h
def L12_0 : Ex → Live
  | .normal => ⟨[2, 4, 6], [192, 448, 1280]⟩
  | .exit 0 => ⟨[2, 6], [192, 448, 1280]⟩
  | .ret => ⟨[2, 3], [192]⟩
  | _ => ⟨[], []⟩
noncomputable def S12_0  (x : (List (List UInt8 × List UInt8 × Bool)) × (List (Int × Int))) : St E.A := at' E 46 [(2, .lf (.ptr 192 0 0)), (4, .lf (.sl .tok x.1)), (6, .lf (.ptr 448 0 0))] [(192, some (.cells 34 [.lit (Go.Value.map Option.none)])), (448, some (.cells 34 [.mp 1280 0])), (1280, some (.map .u16 .i32 x.2))]
noncomputable def t12_0  (x : (List (List UInt8 × List UInt8 × Bool)) × (List (Int × Int))) : Tree ((List (List UInt8 × List UInt8 × Bool)) × (List (Int × Int)) ⊕ Out' E) :=
 .ite (ltI (0 : Int) (↑x.fst.length : Int))
 (.ite (inB (0 : Int) x.fst.length)
  (.ite (inB (1 : Int) (x.fst.length + (1 : Nat)))
   (.ite (!decide ((x.fst.getD (Int.toNat (0 : Int)) ([], [], false)).fst = [(98 : UInt8), (101 : UInt8), (103 : UInt8), (105 : UInt8), (110 : UInt8), (98 : UInt8), (102 : UInt8), (99 : UInt8), (104 : UInt8), (97 : UInt8), (114 : UInt8)]))
    (.leaf (.inl ((List.drop (Int.toNat (1 : Int)) x.fst), x.snd)))
    (.ite (decide ((List.drop (Int.toNat (1 : Int)) x.fst).length ≤ (1000000000 : Nat)) && Px.shortToks (List.drop (Int.toNat (1 : Int)) x.fst))
     (.ite (!leI (1 : Int) (Px.pairsRun (List.drop (Int.toNat (1 : Int)) x.fst) (0 : Nat) x.snd).fst)
      (.leaf (.inr (.ret, at' E 46 [(2, .lf (.ptr 192 0 0)), (3, .lf (.int .i64 ((2 : Int))))] [(192, some (.cells 34 [.lit (Go.Value.map Option.none)]))])))
      (.ite (inB (bif leI (1 : Int) (Px.pairsRun (List.drop (Int.toNat (1 : Int)) x.fst) (0 : Nat) x.snd).fst then (Px.pairsRun (List.drop (Int.toNat (1 : Int)) x.fst) (0 : Nat) x.snd).fst else (0 : Int)) ((List.drop (Int.toNat (1 : Int)) x.fst).length + (1 : Nat)))
       (.leaf (.inl ((List.drop (bif leI (1 : Int) (Px.pairsRun (List.drop (Int.toNat (1 : Int)) x.fst) (0 : Nat) x.snd).fst then (Px.pairsRun (List.drop (Int.toNat (1 : Int)) x.fst) (0 : Nat) x.snd).fst else (0 : Int)).toNat (List.drop (Int.toNat (1 : Int)) x.fst)), ((Px.pairsRun (List.drop (Int.toNat (1 : Int)) x.fst) (0 : Nat) x.snd).snd))))
       (.fail)))
     (.fail)))
   (.fail))
  (.fail))
 (.leaf (.inr (.exit 0, at' E 46 [(2, .lf (.ptr 192 0 0)), (6, .lf (.ptr 448 0 0))] [(192, some (.cells 34 [.lit (Go.Value.map Option.none)])), (448, some (.cells 34 [.mp 1280 0])), (1280, some (.map .u16 .i32 x.snd))])))
theorem h12_0  (x : (List (List UInt8 × List UInt8 × Bool)) × (List (Int × Int))) (k : Ex → St E.A → Option Unit) :
    exec E G12 (fun _ _ => .fail) 1 (lb Go.Proofs.Tryd.f12 0) (S12_0  x) (fun e σ1 => k e (clean E (L12_0 e) σ1)) = (t12_0  x).run (Sum.elim (fun x' => k .normal (S12_0  x')) (fun o => k o.1 o.2)) := by kernel_rfl
def ob12 (m : List (Int × Int)) : List (Nat × Option (Obj E.A)) := [(192, some (.cells 34 [.lit (Go.Value.map Option.none)])), (448, some (.cells 34 [.mp 1280 0])), (1280, some (.map .u16 .i32 m))]
noncomputable def out12 (r : Bool × List (Int × Int)) : Tree (Out' E) :=
  .ite r.1 (.leaf (.exit 0, at' E 46 [(2, .lf (.ptr 192 0 0)), (6, .lf (.ptr 448 0 0))] (ob12 r.2))) (.leaf (.ret, at' E 46 [(2, .lf (.ptr 192 0 0)), (3, .lf (.int .i64 2))] [(192, some (.cells 34 [.lit (Go.Value.map Option.none)]))]))
noncomputable def lam12_0 (x : (List (List UInt8 × List UInt8 × Bool)) × (List (Int × Int))) : Tree (Out' E) :=
  .ite (decide (x.1.length ≤ 1000000000) && Px.shortToks x.1) (out12 (Px.parseRun (x.1.length + 1) x.1 x.2)) .fail
theorem it12 : ∀ (n : Nat) (l : List (List UInt8 × List UInt8 × Bool)) (m : List (Int × Int)), l.length < n → l.length ≤ 1000000000 → Px.shortToks l = true →
    iter t12_0 n (l, m) = (out12 (Px.parseRun n l m)).get
  | 0, l, m, h, _, _ => by omega
  | n + 1, [], m, h, h2, h3 => rfl
  | n + 1, t :: r, m, h, h2, h3 => by
    rw [List.length_cons] at h h2
    have hsr : Px.shortToks r = true := by
      have := Px.shortToks_drop h3 1
      exact this
    rw [iter]
    unfold t12_0
    simp only
    have c0 : ltI (0 : Int) ((t :: r).length : Int) = true := by rw [ltI_eq, List.length_cons]; exact decide_eq_true (by omega)
    have c1 : inB (0 : Int) (t :: r).length = true := inB_true.2 ⟨by omega, by rw [List.length_cons]; omega⟩
    have c2 : inB (1 : Int) ((t :: r).length + 1) = true := inB_true.2 ⟨by omega, by rw [List.length_cons]; omega⟩
    have e1 : List.drop (Int.toNat 1) (t :: r) = r := rfl
    rw [Tree.get_ite, c0, cond_true, Tree.get_ite, c1, cond_true, Tree.get_ite, c2, cond_true, Tree.get_ite, e1]
    unfold Px.parseRun
    have hbeg : ∀ x, (decide (t.1 = Px.wBegin)) = x → (decide (((t :: r).getD (Int.toNat 0) ([], [], false)).1 = [(98 : UInt8), 101, 103, 105, 110, 98, 102, 99, 104, 97, 114])) = x := fun x hx => hx
    cases q1 : decide (t.1 = Px.wBegin) with
    | false =>
      rw [hbeg _ q1, Bool.not_false, cond_true, Tree.get_leaf, cond_false]
      exact it12 n r m (by omega) (by omega) hsr
    | true =>
      rw [hbeg _ q1, Bool.not_true, cond_false, cond_true, Tree.get_ite, hsr, decide_eq_true (by omega)]
      have hle := Px.pairsRun_le r 0 m
      cases q2 : leI 1 (Px.pairsRun r 0 m).1 with
      | false => rfl
      | true =>
        rw [leI_eq, decide_eq_true_eq] at q2
        have c3 : inB (Px.pairsRun r 0 m).1 (r.length + 1) = true := inB_true.2 ⟨by omega, by omega⟩
        simp only [Bool.and_true, Bool.not_true, cond_true, cond_false, Tree.get_ite, Tree.get_leaf, c3]
        exact it12 n (r.drop (Px.pairsRun r 0 m).1.toNat) (Px.pairsRun r 0 m).2 (by rw [List.length_drop]; omega) (by rw [List.length_drop]; omega) (Px.shortToks_drop hsr _)
theorem m12_0 {x : (List (List UInt8 × List UInt8 × Bool)) × (List (Int × Int))} {e : Ex} {σ : St E.A} (_ : okLenR (E := E) (.lf (.sl .tok x.1)) = true)
    (h : (lam12_0 x).get = some (e, σ)) : ∃ fuel, iter t12_0 fuel x = some (e, σ) ∧ e ≠ .normal := by
  obtain ⟨l, m⟩ := x
  unfold lam12_0 at h
  have h' := Tree.get_ite_some h
  clear h
  rcases h' with ⟨h1, h⟩ | ⟨_, h⟩
  · simp only [Bool.and_eq_true, decide_eq_true_eq] at h1
    refine ⟨l.length + 1, (it12 (l.length + 1) l m (by omega) h1.1 h1.2).trans h, ?_⟩
    unfold out12 at h
    rcases Tree.get_ite_some h with ⟨_, h⟩ | ⟨_, h⟩ <;> (injection h with h; injection h with h1 _; rw [← h1]; intro hh; cases hh)
  · cases h
noncomputable def rd12_0 (σ : St E.A) : Tree (Out' E) :=
  let c := clean E (L12_0 .normal) σ
  if c.sl.length = 46 then
  match c.sl.getD 2 .undef, c.sl.getD 4 .undef, c.sl.getD 6 .undef, c.ob 192, c.ob 448, c.ob 1280 with
  | .lf (.ptr 192 0 0), .lf (.sl .tok x4), .lf (.ptr 448 0 0), some (.cells 34 [.lit (Go.Value.map Option.none)]), some (.cells 34 [.mp 1280 0]), some (.map .u16 .i32 o1280a) => lam12_0  (x4, o1280a)
  | _, _, _, _, _, _ => .fail
  else .fail
theorem ll12_0 (hL : Laws E) (σ : St E.A) (e : Ex) (σ' : St E.A) (h : (rd12_0 σ).get = some (e, σ')) : LoopOK E (lb Go.Proofs.Tryd.f12 0) σ e σ' := by
  refine LoopOK.of_clean hL (L12_0 .normal) ?_
  unfold rd12_0 at h
  simp only at h
  split at h
  · rename_i hlen
    split at h
    · rename_i x4 o1280a h0 h1 h2 h3 h4 h5
      refine LoopOK.lens 4 (fun g0 => ?_)
      rw [h1] at g0
      obtain ⟨fuel, hi, ho⟩ := m12_0 g0 h
      have hl := loop_at (Γ := G12) (Λ := fun _ _ => .fail) (n := 1) (body := lb Go.Proofs.Tryd.f12 0) hL (hG12 hL) (S := S12_0 ) (t := t12_0 ) (Lv := L12_0) (LamOK.none (by kernel_rfl)) (h12_0 ) hi ho
      refine LoopOK.fit hlen ?_ ?_ rfl rfl hl
      · exact ⟨h0, h1, h2, trivial⟩
      · exact ⟨h3, h4, h5, trivial⟩
    · cases h
  · cases h
noncomputable def Lam12 : Lam E
  | 0, σ => rd12_0 σ
  | _, _ => .fail
noncomputable def w12 (a0 : List UInt8) : Tree (RV E.A × List (Obj E.A)) :=
 .ite (decide (a0.length ≤ (1000000000 : Nat)) && Px.ascii a0)
 (.ite (!eqI (Px.toks a0).fst (0 : Int))
  (.leaf (.tup [(true, [.lit (Go.Value.map Option.none)]), (false, [.int .i64 ((Px.toks a0).fst)])], []))
  (.ite (decide ((Px.toks a0).snd.length ≤ (1000000000 : Nat)) && Px.shortToks (Px.toks a0).snd)
   (.ite ((Px.parseRun ((Px.toks a0).snd.length + (1 : Nat)) (Px.toks a0).snd []).fst)
    (.leaf (.tup [(true, [.mp 0 0]), (false, [.int .i64 ((0 : Int))])], [.map .u16 .i32 ((Px.parseRun ((Px.toks a0).snd.length + (1 : Nat)) (Px.toks a0).snd []).snd)]))
    (.leaf (.tup [(true, [.lit (Go.Value.map Option.none)]), (false, [.int .i64 ((2 : Int))])], [])))
   (.fail)))
 (.fail)
theorem e12 (a0 : List UInt8) : execFun E G12 ((Lam12)) false Go.Proofs.Tryd.f12 [.lf (.sl .u8 a0)] [] some = (w12 a0).get := by kernel_rfl
noncomputable def raw12 : Spec E := fun args os => match args, os with
  | [.lf (.sl .u8 a0)], [] => w12 a0
  | _, _ => .fail
theorem validraw12 (hL : Laws E) : Valid E 12 raw12 :=
  valid_of_body hL (hG12 hL) (Λ := (Lam12)) (fn := Go.Proofs.Tryd.f12) (keep := false) (by kernel_rfl) (by kernel_rfl) (by kernel_rfl) ((LamOK.of (m := 1) (by kernel_rfl) (fun j hj σ e σ' hg => by
      match j, hj with
      | 0, _ => exact ll12_0 hL σ e σ' hg
      ))) (fun args os r os' h => by
    unfold raw12 at h
    split at h
    · exact (e12 _).trans h
    · cases h)
noncomputable def ans12 (r : Int × List (Int × Int)) : Tree (RV E.A × List (Obj E.A)) :=
  .ite (eqI r.1 0) (.leaf (.tup [(true, [.mp 0 0]), (false, [.int .i64 0])], [.map .u16 .i32 r.2])) (.leaf (.tup [(true, [.lit (Go.Value.map Option.none)]), (false, [.int .i64 r.1])], []))
theorem eq12 (p : List UInt8) (h1 : p.length ≤ 1000000000) (h2 : Px.ascii p = true) : (w12 p).get = (ans12 (Px.parse p)).get := by
  unfold w12
  obtain ⟨s1, s2⟩ := Px.toks_short h1
  rw [Tree.get_ite, h2, decide_eq_true h1]
  show Tree.get (.ite _ _ _) = _
  rw [Tree.get_ite]
  unfold Px.parse ans12
  cases q : eqI (Px.toks p).1 0 with
  | false =>
    rw [Tree.get_ite]
    show _ = cond (eqI (Px.toks p).1 0) _ _
    rw [q]; rfl
  | true =>
    rw [Bool.not_true, cond_false, Tree.get_ite, s1, decide_eq_true s2]
    show Tree.get (.ite _ _ _) = _
    rw [Tree.get_ite]
    cases (Px.parseRun ((Px.toks p).2.length + 1) (Px.toks p).2 []).1 <;> rfl
noncomputable def spec12 : Spec E := fun args os => match args, os with
  | [.lf (.sl .u8 p)], [] => .ite (decide (p.length ≤ 1000000000) && Px.ascii' p) (ans12 (Px.parse' p)) .fail
  | _, _ => .fail
theorem valid12 (hL : Laws E) : Valid E 12 spec12 := (validraw12 hL).less (fun args os x g1 g2 h => by
  unfold spec12 at h
  split at h
  · rcases Tree.get_ite_some h with ⟨h1, h⟩ | ⟨_, h⟩
    · rw [Px.ascii'_eq] at h1
      rw [Px.parse'_eq] at h
      simp only [Bool.and_eq_true, decide_eq_true_eq] at h1
      exact (eq12 _ h1.1 h1.2).trans h
    · cases h
  · cases h)
end Go.Vx
namespace Px
open Go.Vx Go
theorem text_app : ∀ a b : Text, text (a ++ b) = text a ++ text b
  | [], b => rfl
  | x :: a, b => by simp only [List.cons_append, text, text_app a b, List.append_assoc]
def sepB (s : List UInt8) : Bool := match s with | [] => false | b :: _ => isBrk b
def PiecesOk (l : Text) : Prop := ∀ x ∈ l, pOk x.1 = true ∧ sepB x.2 = true ∧ SepOk x.2
theorem PiecesOk.text : ∀ {l : Text}, PiecesOk l → TextOk l
  | [], _ => trivial
  | x :: r, h => by
    obtain ⟨h1, h2, h3⟩ := h x (List.mem_cons_self ..)
    refine ⟨h1, ?_, h3, PiecesOk.text (fun y hy => h y (List.mem_cons_of_mem _ hy))⟩
    unfold after
    split
    · cases hs : x.2 with
      | nil => rw [hs] at h2; cases h2
      | cons b s => rw [hs] at h2; exact h2
    · rfl
theorem PiecesOk.app {a b : Text} (ha : PiecesOk a) (hb : PiecesOk b) : PiecesOk (a ++ b) := fun x hx => (List.mem_append.1 hx).elim (ha x) (hb x)
theorem sep10 : SepOk [10] := fun r => by show skipN false (10 :: r) = _; simp only [skipN]; show skipN false r + 1 = _; simp; omega
theorem sep32 : SepOk [32] := fun r => by show skipN false (32 :: r) = _; simp only [skipN]; show skipN false r + 1 = _; simp; omega
abbrev Seg := List (Int × Int)
def pLine (x : Int × Int) : Text := [(.str (hexs (b2 x.2.toNat)), [32]), (.str (hexs (utf16s x.1)), [10])]
def pRow (row : Seg) : Text := [(.word (Lib.decDigits row.length), [32]), (.word wBegin, [10])] ++ row.flatMap pLine ++ [(.word wEnd, [10])]
def pFront : Text := [(.word [98, 101, 103, 105, 110, 99, 109, 97, 112], [10]), (.word [49], [32]), (.word [98, 101, 103, 105, 110, 99, 111, 100, 101, 115, 112, 97, 99, 101, 114, 97, 110, 103, 101], [10]), (.str [48, 48, 48, 48], [32]), (.str [102, 102, 102, 102], [10]),
  (.word [101, 110, 100, 99, 111, 100, 101, 115, 112, 97, 99, 101, 114, 97, 110, 103, 101], [10])]
def pBack : Text := [(.word [101, 110, 100, 99, 109, 97, 112], [10])]
def pTable (l : Seg) : Text := pFront ++ (chunks 100 l).flatMap pRow ++ pBack
theorem text_line {x : Int × Int} (h0 : 0 ≤ x.2) (h1 : x.2 ≤ 65535) : text (pLine x) = line x := by
  rw [← line_eq h0 h1]
  simp [pLine, text, ptext]
theorem text_lines : ∀ l : Seg, u16s l = true → text (l.flatMap pLine) = lines l
  | [], _ => rfl
  | x :: l, h => by
    simp only [u16s, List.all_cons, Bool.and_eq_true, leI_eq, decide_eq_true_eq] at h
    have ih := text_lines l (by simpa [u16s, leI_eq] using h.2)
    rw [List.flatMap_cons, text_app, text_line h.1.1 h.1.2, ih]
    simp [lines]
theorem text_row (l : Seg) (h : u16s l = true) : text (pRow l) = rowText l := by
  unfold pRow rowText
  rw [text_app, text_app, text_lines l h]
  simp [text, ptext, wRow, wEndRow, wBegin, wEnd]
theorem u16s_sub {l r : Seg} (h : u16s l = true) (hs : ∀ x ∈ r, x ∈ l) : u16s r = true := List.all_eq_true.2 fun x hx => List.all_eq_true.1 h x (hs x hx)
theorem chunks_mem {α : Type} {n : Nat} {l r : List α} (h : r ∈ chunks n l) : ∀ x ∈ r, x ∈ l := by
  obtain ⟨k, _, rfl⟩ := List.mem_map.1 h
  exact fun x hx => List.mem_of_mem_drop (List.mem_of_mem_take hx)
theorem text_rows : ∀ ls : List Seg, (∀ r ∈ ls, u16s r = true) → text (ls.flatMap pRow) = ls.flatMap rowText
  | [], _ => rfl
  | r :: ls, h => by rw [List.flatMap_cons, text_app, text_row r (h r (List.mem_cons_self ..)), text_rows ls (fun r hr => h r (List.mem_cons_of_mem _ hr)), List.flatMap_cons]
theorem text_table (l : Seg) (h : u16s l = true) : text (pTable l) = refBuild l := by
  unfold pTable refBuild addRows
  rw [text_app, text_app, text_rows _ (fun r hr => u16s_sub h (chunks_mem hr))]
  rfl
theorem digits_ok : ∀ n : Nat, Lib.decDigits n ≠ [] ∧ (Lib.decDigits n).all (fun b => Nat.ble 48 b.toNat && Nat.ble b.toNat 57) = true := by
  intro n
  induction n using Nat.strongRecOn with
  | ind n ih =>
    have d : ∀ m : Nat, m < 10 → (Nat.ble 48 (UInt8.ofNat (48 + m)).toNat && Nat.ble (UInt8.ofNat (48 + m)).toNat 57) = true := fun m hm => all_nat (m := 10) (q := fun m => Nat.ble 48 (UInt8.ofNat (48 + m)).toNat && Nat.ble (UInt8.ofNat (48 + m)).toNat 57) (by kernel_rfl) hm
    unfold Lib.decDigits
    split
    · rename_i h
      refine ⟨by simp, ?_⟩
      rw [List.all_cons, d n h]; rfl
    · obtain ⟨_, h2⟩ := ih (n / 10) (by omega)
      refine ⟨by simp, ?_⟩
      rw [List.all_append, h2, List.all_cons, d (n % 10) (by omega)]; rfl
theorem digits_word (n : Nat) : pOk (.word (Lib.decDigits n)) = true ∧ Lib.decDigits n ≠ wBegin := by
  obtain ⟨h1, h2⟩ := digits_ok n
  have nb : ∀ b : UInt8, (Nat.ble 48 b.toNat && Nat.ble b.toNat 57) = true → isBrk b = false := by
    intro b hb
    have := all_u8 (q := fun b => !(Nat.ble 48 b.toNat && Nat.ble b.toNat 57) || !isBrk b) (by kernel_rfl) b
    rw [hb] at this
    simpa using this
  have h3 : ∀ w : List UInt8, (w.all (fun b => Nat.ble 48 b.toNat && Nat.ble b.toNat 57)) = false → Lib.decDigits n ≠ w := by
    intro w hw he; rw [← he, h2] at hw; cases hw
  refine ⟨?_, h3 _ rfl⟩
  simp only [pOk, Bool.and_eq_true, Bool.not_eq_true', decide_eq_false_iff_not]
  refine ⟨⟨by cases hd : Lib.decDigits n with | nil => exact absurd hd h1 | cons => rfl, List.all_eq_true.2 fun b hb => by rw [nb b (List.all_eq_true.1 h2 b hb)]; rfl⟩, h3 _ rfl⟩
theorem row_ok (l : Seg) : PiecesOk (pRow l) := by
  intro x hx
  simp only [pRow, List.mem_append, List.mem_cons, List.not_mem_nil, or_false, List.mem_flatMap] at hx
  rcases hx with ((rfl | rfl) | ⟨y, _, hy⟩) | rfl
  · exact ⟨(digits_word _).1, rfl, sep32⟩
  · exact ⟨by kernel_rfl, rfl, sep10⟩
  · simp only [pLine, List.mem_cons, List.not_mem_nil, or_false] at hy
    rcases hy with rfl | rfl
    · exact ⟨hexs_ok _, rfl, sep32⟩
    · exact ⟨hexs_ok _, rfl, sep10⟩
  · exact ⟨by kernel_rfl, rfl, sep10⟩
theorem front_ok : PiecesOk pFront := by
  intro x hx
  simp only [pFront, List.mem_cons, List.not_mem_nil, or_false] at hx
  rcases hx with rfl | rfl | rfl | rfl | rfl | rfl
  · exact ⟨by kernel_rfl, rfl, sep10⟩
  · exact ⟨by kernel_rfl, rfl, sep32⟩
  · exact ⟨by kernel_rfl, rfl, sep10⟩
  · exact ⟨by kernel_rfl, rfl, sep32⟩
  · exact ⟨by kernel_rfl, rfl, sep10⟩
  · exact ⟨by kernel_rfl, rfl, sep10⟩
theorem back_ok : PiecesOk pBack := by
  intro x hx
  simp only [pBack, List.mem_cons, List.not_mem_nil, or_false] at hx
  subst hx
  exact ⟨by kernel_rfl, rfl, sep10⟩
theorem table_ok (l : Seg) : PiecesOk (pTable l) := by
  refine (front_ok.app fun x hx => ?_).app back_ok
  obtain ⟨r, _, hr⟩ := List.mem_flatMap.1 hx
  exact row_ok r x hr
/-! ### its tokens, read -/
def kOf (l : Text) : List Tok := l.map fun x => ptok x.1
theorem kOf_app (a b : Text) : kOf (a ++ b) = kOf a ++ kOf b := List.map_append
def swap (x : Int × Int) : Int × Int := (x.2, x.1)
theorem mg_none {m : Map} {a : Int} (h : a ∉ m.map (·.1)) : mg m a = none := by
  unfold mg
  rw [List.find?_eq_none.2]; rfl
  intro x hx hh
  have := of_decide_eq_true hh
  exact h (List.mem_map.2 ⟨x, hx, this.symm⟩)
theorem ms_new : ∀ {m : Map} {a : Int} (b : Int), a ∉ m.map (·.1) → ms m a b = m ++ [(a, b)]
  | [], _, _, _ => rfl
  | x :: m, a, b, h => by
    simp only [List.map_cons, List.mem_cons, not_or] at h
    have : decide (a = x.1) = false := decide_eq_false h.1
    simp only [ms, this, Bool.false_eq_true, if_false, ms_new b h.2, List.cons_append]
def rt (x : Int × Int) : List Tok := [([], b2 x.2.toNat, true), ([], utf16s x.1, true)]
theorem kOf_lines : ∀ l : Seg, kOf (l.flatMap pLine) = l.flatMap rt
  | [] => rfl
  | x :: l => by
    rw [List.flatMap_cons, kOf_app, kOf_lines l, List.flatMap_cons]
    have : kOf (pLine x) = rt x := by
      show [ptok (.str (hexs (b2 x.2.toNat))), ptok (.str (hexs (utf16s x.1)))] = _
      simp only [ptok, (text_hexs _).1]; rfl
    rw [this]
theorem n2_b2 {a : Nat} (h : a < 65536) : n2 (b2 a) 0 = (a : Int) := by
  obtain ⟨x, y, hb, hxy⟩ := b2_n2 h
  rw [hb, n2_two, hxy]
theorem pairsRun_row : ∀ (row : Seg) (i : Nat) (m : Map) (rest : List Tok), u16s row = true → scalars row = true → (row.map (·.2)).Nodup → (∀ x ∈ row, x.2 ∉ m.map (·.1)) →
    pairsRun (row.flatMap rt ++ (wEnd, [], false) :: rest) i m = (((i + 2 * row.length + 1 : Nat) : Int), m ++ row.map swap)
  | [], i, m, rest, _, _, _, _ => by
    cases rest with
    | nil => simp [pairsRun]
    | cons t r => simp [pairsRun]
  | x :: row, i, m, rest, hu, hs, hn, hm => by
    simp only [u16s, List.all_cons, Bool.and_eq_true, leI_eq, decide_eq_true_eq] at hu
    have hu' : u16s row = true := by simpa [u16s, leI_eq] using hu.2
    simp only [scalars, List.all_cons, Bool.and_eq_true] at hs
    simp only [List.map_cons, List.nodup_cons] at hn
    obtain ⟨⟨g0, g1⟩, _⟩ := hu
    have hg : n2 (b2 x.2.toNat) 0 = x.2 := by rw [n2_b2 (by omega)]; omega
    have hc := rune_utf16s hs.1
    have hc0 := (scalar_iff x.1).1 hs.1
    have hnot := hm x (List.mem_cons_self ..)
    show pairsRun (([], b2 x.2.toNat, true) :: ([], utf16s x.1, true) :: (row.flatMap rt ++ (wEnd, [], false) :: rest)) i m = _
    unfold pairsRun
    have c1 : decide ((([] : List UInt8), b2 x.2.toNat, true).1 = wEnd) = false := decide_eq_false (by intro h; cases h)
    have c2 : pairOk m (([] : List UInt8), b2 x.2.toNat, true) (([] : List UInt8), utf16s x.1, true) = true := by
      unfold pairOk
      simp only [hg, hc, mg_none hnot]
      have e1 : eqI (((b2 x.2.toNat).length : Nat) : Int) 2 = true := rfl
      have e2 : leI 0 x.1 = true := by rw [leI_eq]; exact decide_eq_true hc0.1
      rw [e1, e2]; rfl
    rw [c1, c2]
    simp only [cond_false, cond_true, hg, hc, ms_new x.1 hnot]
    rw [pairsRun_row row (i + 2) (m ++ [(x.2, x.1)]) rest hu' hs.2 hn.2 (fun y hy => ?_)]
    · simp only [List.length_cons, List.map_cons, swap, List.append_assoc, List.singleton_append]
      congr 1; omega
    · simp only [List.map_append, List.mem_append, List.map_cons, List.map_nil, List.mem_singleton, not_or]
      exact ⟨hm y (List.mem_cons_of_mem _ hy), fun e => hn.1 (List.mem_map.2 ⟨y, hy, e⟩)⟩
theorem parseRun_skip {t : Tok} (h : t.1 ≠ wBegin) (n : Nat) (r : List Tok) (m : Map) : parseRun (n + 1) (t :: r) m = parseRun n r m := by
  have e : parseRun (n + 1) (t :: r) m = cond (decide (t.1 = wBegin)) (cond (leI 1 (pairsRun r 0 m).1) (parseRun n (r.drop (pairsRun r 0 m).1.toNat) (pairsRun r 0 m).2) (false, (pairsRun r 0 m).2)) (parseRun n r m) := rfl
  rw [e, decide_eq_false h]; rfl
theorem parseRun_skips : ∀ (ts : List Tok), (∀ t ∈ ts, t.1 ≠ wBegin) → ∀ (n : Nat) (r : List Tok) (m : Map), parseRun (ts.length + n) (ts ++ r) m = parseRun n r m
  | [], _, n, r, m => by simp
  | t :: ts, h, n, r, m => by
    rw [List.length_cons, show ts.length + 1 + n = (ts.length + n) + 1 by omega, List.cons_append, parseRun_skip (h t (List.mem_cons_self ..))]
    exact parseRun_skips ts (fun t ht => h t (List.mem_cons_of_mem _ ht)) n r m
theorem parseRun_end : ∀ (ts : List Tok), (∀ t ∈ ts, t.1 ≠ wBegin) → ∀ (n : Nat) (m : Map), parseRun n ts m = (true, m)
  | _, _, 0, _ => rfl
  | [], _, n + 1, m => rfl
  | t :: ts, h, n + 1, m => by
    rw [parseRun_skip (h t (List.mem_cons_self ..))]
    exact parseRun_end ts (fun t ht => h t (List.mem_cons_of_mem _ ht)) n m
theorem rt_len : ∀ row : Seg, (row.flatMap rt).length = 2 * row.length
  | [] => rfl
  | x :: row => by
    have := rt_len row
    rw [List.flatMap_cons, List.length_append, this, List.length_cons]; show 2 + _ = _; omega
theorem kOf_row (l : Seg) : kOf (pRow l) = (Lib.decDigits l.length, [], false) :: (wBegin, [], false) :: (l.flatMap rt ++ [(wEnd, [], false)]) := by
  unfold pRow
  rw [kOf_app, kOf_app, kOf_lines]; rfl
theorem parseRun_rows : ∀ (rows : List Seg) (m : Map) (n : Nat) (rest : List Tok), u16s rows.flatten = true → scalars rows.flatten = true → (rows.flatten.map (·.2)).Nodup → (∀ x ∈ rows.flatten, x.2 ∉ m.map (·.1)) →
    parseRun (2 * rows.length + n) (kOf (rows.flatMap pRow) ++ rest) m = parseRun n rest (m ++ rows.flatten.map swap)
  | [], m, n, rest, _, _, _, _ => by simp [kOf]
  | row :: rows, m, n, rest, hu, hs, hn, hm => by
    rw [List.flatten_cons] at hu hs hn hm
    have hu1 : u16s row = true := u16s_sub hu (fun x hx => List.mem_append_left _ hx)
    have hu2 : u16s rows.flatten = true := u16s_sub hu (fun x hx => List.mem_append_right _ hx)
    simp only [scalars, List.all_append, Bool.and_eq_true] at hs
    rw [List.map_append, List.nodup_append] at hn
    rw [List.flatMap_cons, kOf_app, kOf_row, List.length_cons, show 2 * (rows.length + 1) + n = (2 * rows.length + n) + 1 + 1 by omega]
    simp only [List.cons_append, List.append_assoc, List.nil_append]
    rw [parseRun_skip (digits_word _).2]
    rw [parseRun, decide_eq_true rfl, cond_true, pairsRun_row row 0 m _ hu1 hs.1 hn.1 (fun x hx => hm x (List.mem_append_left _ hx))]
    have e1 : leI 1 (((0 + 2 * row.length + 1 : Nat) : Int)) = true := by rw [leI_eq]; exact decide_eq_true (by omega)
    rw [e1, cond_true]
    have e2 : (row.flatMap rt ++ (wEnd, [], false) :: (kOf (rows.flatMap pRow) ++ rest)).drop (((0 + 2 * row.length + 1 : Nat) : Int)).toNat = kOf (rows.flatMap pRow) ++ rest := by
      rw [Int.toNat_natCast, show 0 + 2 * row.length + 1 = (row.flatMap rt).length + 1 by rw [rt_len]; omega, ← List.drop_drop, List.drop_left]; rfl
    rw [e2, parseRun_rows rows (m ++ row.map swap) n rest hu2 hs.2 hn.2.1 (fun x hx => ?_)]
    · rw [List.flatten_cons, List.map_append, List.append_assoc]
    · simp only [List.map_append, List.mem_append, not_or]
      refine ⟨hm x (List.mem_append_right _ hx), fun hh => ?_⟩
      simp only [List.map_map, List.mem_map, Function.comp, swap] at hh
      obtain ⟨y, hy, e⟩ := hh
      exact hn.2.2 y.2 (List.mem_map.2 ⟨y, hy, rfl⟩) x.2 (List.mem_map.2 ⟨x, hx, rfl⟩) e
theorem chunks_flat {α : Type} (n : Nat) (hn : 1 ≤ n) : ∀ l : List α, (chunks n l).flatten = l := by
  intro l
  induction hk : l.length using Nat.strongRecOn generalizing l with
  | ind k ih =>
    by_cases hl : l = []
    · subst hl; rw [chunks_nil n hn]; rfl
    · rw [chunks_cons n hn l hl, List.flatten_cons, ih (l.drop n).length (by rw [← hk, List.length_drop]; have := List.length_pos_iff.2 hl; omega) (l.drop n) rfl, List.take_append_drop]
/-- **a table's tokens, whatever stands ahead of them and behind: its codes are its pairs** -/
theorem parse_tokens {p : List UInt8} {l : Seg} {a b : List Tok} (ht : toks p = (0, a ++ kOf ((chunks 100 l).flatMap pRow) ++ b)) (ha : ∀ t ∈ a, t.1 ≠ wBegin) (hb : ∀ t ∈ b, t.1 ≠ wBegin)
    (hu : u16s l = true) (hs : scalars l = true) (hn : (l.map (·.2)).Nodup) : parse p = (0, l.map swap) := by
  have hfl := chunks_flat 100 (by omega) l
  have hrun : parseRun ((toks p).2.length + 1) (toks p).2 [] = (true, l.map swap) := by
    rw [ht]
    simp only [List.append_assoc]
    have hle : 2 * (chunks 100 l).length ≤ (kOf ((chunks 100 l).flatMap pRow)).length := by
      generalize chunks 100 l = rows
      induction rows with
      | nil => exact Nat.le_refl _
      | cons r rows ih =>
        rw [List.flatMap_cons, kOf_app, List.length_append, kOf_row, List.length_cons]
        simp only [List.length_cons]
        omega
    obtain ⟨k, hk⟩ : ∃ k, (a ++ (kOf ((chunks 100 l).flatMap pRow) ++ b)).length + 1 = a.length + (2 * (chunks 100 l).length + k) := ⟨(a ++ (kOf ((chunks 100 l).flatMap pRow) ++ b)).length + 1 - a.length - 2 * (chunks 100 l).length, by simp only [List.length_append]; omega⟩
    rw [hk, parseRun_skips a ha, parseRun_rows _ [] k b (by rw [hfl]; exact hu) (by rw [hfl]; exact hs) (by rw [hfl]; exact hn) (fun x _ => by simp), hfl, parseRun_end b hb]
    rfl
  unfold parse
  rw [hrun, ht]
  rfl
theorem parse_table {l : Seg} (hu : u16s l = true) (hs : scalars l = true) (hn : (l.map (·.2)).Nodup) : parse (refBuild l) = (0, l.map swap) := by
  rw [← text_table l hu]
  refine parse_tokens (a := kOf pFront) (b := kOf pBack) ?_ ?_ ?_ hu hs hn
  · rw [toks_text _ (table_ok l).text]
    show (0, kOf (pTable l)) = _
    unfold pTable
    rw [kOf_app, kOf_app]
  · intro t ht
    have : (kOf pFront).all (fun t => !decide (t.1 = wBegin)) = true := by kernel_rfl
    have := List.all_eq_true.1 this t ht
    simpa using this
  · intro t ht
    have : (kOf pBack).all (fun t => !decide (t.1 = wBegin)) = true := by kernel_rfl
    have := List.all_eq_true.1 this t ht
    simpa using this
end Px
namespace Go.Vx
open Go
noncomputable def G10 : FuncId → Option (Spec E)
  | 22 => some spec22
  | _ => none
theorem hG10 (hL : Laws E) : ∀ f spec, G10 f = some spec → Valid E f spec := by
  intro f spec h
  unfold G10 at h
  split at h
  · injection h with h; subst h; exact valid22 hL
  · cases h
def L10_0 : Ex → Live
  | .normal => ⟨[0, 1, 2, 9, 10, 11, 12, 13, 19, 20], [1088]⟩
  | .exit 0 => ⟨[9, 10, 12, 13], [1088]⟩
  | .ret => ⟨[6, 7, 8], [1088]⟩
  | _ => ⟨[], []⟩
noncomputable def S10_0 (p0 : List Int) (p1 : List Int) (p2 : Int) (p19 : Int) (x : (List (Int × Int)) × (List (Int × Int)) × Int × Bool × Int × (List (Int × Int))) : St E.A := at' E 81 [(0, .lf (.sl .u32 p0)), (1, .lf (.sl .u16 p1)), (2, .lf (.int .u8 p2)), (9, .lf (.own 0 0 .pair x.1)), (10, .lf (.own 1 0 .two x.2.1)), (11, .lf (.int .i64 x.2.2.1)), (12, .lf (.mp 1088 0)), (13, .lf (.bool x.2.2.2.1)), (19, .lf (.int .i64 p19)), (20, .lf (.int .i64 x.2.2.2.2.1))] [(1088, some (.map .u16 .i64 x.2.2.2.2.2))]
noncomputable def t10_0 (p0 : List Int) (p1 : List Int) (p2 : Int) (p19 : Int) (x : (List (Int × Int)) × (List (Int × Int)) × Int × Bool × Int × (List (Int × Int))) : Tree ((List (Int × Int)) × (List (Int × Int)) × Int × Bool × Int × (List (Int × Int)) ⊕ Out' E) :=
 .ite (ltI x.snd.snd.snd.snd.fst p19)
 (.ite (ltI x.snd.snd.snd.snd.fst (↑p1.length : Int))
  (.ite (inB x.snd.snd.snd.snd.fst p1.length)
   (.ite (inB x.snd.snd.snd.snd.fst p0.length)
    (.ite (ltI (1114111 : Int) (IntKind.i64.wrap (x.snd.snd.fst + IntKind.i64.wrap ((1 : Int) + IntKind.i64.wrap ((p0.getD x.snd.snd.snd.snd.fst.toNat (Int.ofNat (0 : Nat))).tmod (5000 : Int))))))
     (.leaf (.inr (.exit 0, at' E 81 [(9, .lf (.own 0 0 .pair x.fst)), (10, .lf (.own 1 0 .two x.snd.fst)), (12, .lf (.mp 1088 0)), (13, .lf (.bool x.snd.snd.snd.fst))] [(1088, some (.map .u16 .i64 x.snd.snd.snd.snd.snd))])))
     (.ite x.snd.snd.snd.fst
      (.ite (decide ((x.fst.length + [(IntKind.i32.wrap (IntKind.i64.wrap (x.snd.snd.fst + IntKind.i64.wrap ((1 : Int) + IntKind.i64.wrap ((p0.getD x.snd.snd.snd.snd.fst.toNat (Int.ofNat (0 : Nat))).tmod (5000 : Int))))), IntKind.u16.wrap (p1.getD x.snd.snd.snd.snd.fst.toNat (Int.ofNat (0 : Nat)) + IntKind.u16.wrap p2))].length) * (8 : Nat) ≤ (140737488355328 : Nat)))
       (.ite (decide ((x.snd.fst.length + [(IntKind.i64.wrap (x.snd.snd.fst + IntKind.i64.wrap ((1 : Int) + IntKind.i64.wrap ((p0.getD x.snd.snd.snd.snd.fst.toNat (Int.ofNat (0 : Nat))).tmod (5000 : Int)))), IntKind.i64.wrap (IntKind.u16.wrap (p1.getD x.snd.snd.snd.snd.fst.toNat (Int.ofNat (0 : Nat)) + IntKind.u16.wrap p2)))].length) * (16 : Nat) ≤ (140737488355328 : Nat)))
        (.leaf (.inl ((x.fst ++ [(IntKind.i32.wrap (IntKind.i64.wrap (x.snd.snd.fst + IntKind.i64.wrap ((1 : Int) + IntKind.i64.wrap ((p0.getD x.snd.snd.snd.snd.fst.toNat (Int.ofNat (0 : Nat))).tmod (5000 : Int))))), IntKind.u16.wrap (p1.getD x.snd.snd.snd.snd.fst.toNat (Int.ofNat (0 : Nat)) + IntKind.u16.wrap p2))]), (x.snd.fst ++ [(IntKind.i64.wrap (x.snd.snd.fst + IntKind.i64.wrap ((1 : Int) + IntKind.i64.wrap ((p0.getD x.snd.snd.snd.snd.fst.toNat (Int.ofNat (0 : Nat))).tmod (5000 : Int)))), IntKind.i64.wrap (IntKind.u16.wrap (p1.getD x.snd.snd.snd.snd.fst.toNat (Int.ofNat (0 : Nat)) + IntKind.u16.wrap p2)))]), (IntKind.i64.wrap (x.snd.snd.fst + IntKind.i64.wrap ((1 : Int) + IntKind.i64.wrap ((p0.getD x.snd.snd.snd.snd.fst.toNat (Int.ofNat (0 : Nat))).tmod (5000 : Int))))), (Px.scalar (IntKind.i64.wrap (x.snd.snd.fst + IntKind.i64.wrap ((1 : Int) + IntKind.i64.wrap ((p0.getD x.snd.snd.snd.snd.fst.toNat (Int.ofNat (0 : Nat))).tmod (5000 : Int)))))), (IntKind.i64.wrap (x.snd.snd.snd.snd.fst + (1 : Int))), (mset_u16_i64 x.snd.snd.snd.snd.snd (IntKind.u16.wrap (p1.getD x.snd.snd.snd.snd.fst.toNat (Int.ofNat (0 : Nat)) + IntKind.u16.wrap p2)) (IntKind.i64.wrap ((mget_u16_i64 x.snd.snd.snd.snd.snd (IntKind.u16.wrap (p1.getD x.snd.snd.snd.snd.fst.toNat (Int.ofNat (0 : Nat)) + IntKind.u16.wrap p2))).getD (Int.ofNat (0 : Nat)) + (1 : Int)))))))
        (.fail))
       (.fail))
      (.ite (decide ((x.fst.length + [(IntKind.i32.wrap (IntKind.i64.wrap (x.snd.snd.fst + IntKind.i64.wrap ((1 : Int) + IntKind.i64.wrap ((p0.getD x.snd.snd.snd.snd.fst.toNat (Int.ofNat (0 : Nat))).tmod (5000 : Int))))), IntKind.u16.wrap (p1.getD x.snd.snd.snd.snd.fst.toNat (Int.ofNat (0 : Nat)) + IntKind.u16.wrap p2))].length) * (8 : Nat) ≤ (140737488355328 : Nat)))
       (.ite (decide ((x.snd.fst.length + [(IntKind.i64.wrap (x.snd.snd.fst + IntKind.i64.wrap ((1 : Int) + IntKind.i64.wrap ((p0.getD x.snd.snd.snd.snd.fst.toNat (Int.ofNat (0 : Nat))).tmod (5000 : Int)))), IntKind.i64.wrap (IntKind.u16.wrap (p1.getD x.snd.snd.snd.snd.fst.toNat (Int.ofNat (0 : Nat)) + IntKind.u16.wrap p2)))].length) * (16 : Nat) ≤ (140737488355328 : Nat)))
        (.leaf (.inl ((x.fst ++ [(IntKind.i32.wrap (IntKind.i64.wrap (x.snd.snd.fst + IntKind.i64.wrap ((1 : Int) + IntKind.i64.wrap ((p0.getD x.snd.snd.snd.snd.fst.toNat (Int.ofNat (0 : Nat))).tmod (5000 : Int))))), IntKind.u16.wrap (p1.getD x.snd.snd.snd.snd.fst.toNat (Int.ofNat (0 : Nat)) + IntKind.u16.wrap p2))]), (x.snd.fst ++ [(IntKind.i64.wrap (x.snd.snd.fst + IntKind.i64.wrap ((1 : Int) + IntKind.i64.wrap ((p0.getD x.snd.snd.snd.snd.fst.toNat (Int.ofNat (0 : Nat))).tmod (5000 : Int)))), IntKind.i64.wrap (IntKind.u16.wrap (p1.getD x.snd.snd.snd.snd.fst.toNat (Int.ofNat (0 : Nat)) + IntKind.u16.wrap p2)))]), (IntKind.i64.wrap (x.snd.snd.fst + IntKind.i64.wrap ((1 : Int) + IntKind.i64.wrap ((p0.getD x.snd.snd.snd.snd.fst.toNat (Int.ofNat (0 : Nat))).tmod (5000 : Int))))), false, (IntKind.i64.wrap (x.snd.snd.snd.snd.fst + (1 : Int))), (mset_u16_i64 x.snd.snd.snd.snd.snd (IntKind.u16.wrap (p1.getD x.snd.snd.snd.snd.fst.toNat (Int.ofNat (0 : Nat)) + IntKind.u16.wrap p2)) (IntKind.i64.wrap ((mget_u16_i64 x.snd.snd.snd.snd.snd (IntKind.u16.wrap (p1.getD x.snd.snd.snd.snd.fst.toNat (Int.ofNat (0 : Nat)) + IntKind.u16.wrap p2))).getD (Int.ofNat (0 : Nat)) + (1 : Int)))))))
        (.fail))
       (.fail))))
    (.fail))
   (.fail))
  (.ite (inB x.snd.snd.snd.snd.fst p0.length)
   (.ite (ltI (1114111 : Int) (IntKind.i64.wrap (x.snd.snd.fst + IntKind.i64.wrap ((1 : Int) + IntKind.i64.wrap ((p0.getD x.snd.snd.snd.snd.fst.toNat (Int.ofNat (0 : Nat))).tmod (5000 : Int))))))
    (.leaf (.inr (.exit 0, at' E 81 [(9, .lf (.own 0 0 .pair x.fst)), (10, .lf (.own 1 0 .two x.snd.fst)), (12, .lf (.mp 1088 0)), (13, .lf (.bool x.snd.snd.snd.fst))] [(1088, some (.map .u16 .i64 x.snd.snd.snd.snd.snd))])))
    (.ite x.snd.snd.snd.fst
     (.ite (decide ((x.fst.length + [(IntKind.i32.wrap (IntKind.i64.wrap (x.snd.snd.fst + IntKind.i64.wrap ((1 : Int) + IntKind.i64.wrap ((p0.getD x.snd.snd.snd.snd.fst.toNat (Int.ofNat (0 : Nat))).tmod (5000 : Int))))), IntKind.u16.wrap x.snd.snd.snd.snd.fst)].length) * (8 : Nat) ≤ (140737488355328 : Nat)))
      (.ite (decide ((x.snd.fst.length + [(IntKind.i64.wrap (x.snd.snd.fst + IntKind.i64.wrap ((1 : Int) + IntKind.i64.wrap ((p0.getD x.snd.snd.snd.snd.fst.toNat (Int.ofNat (0 : Nat))).tmod (5000 : Int)))), IntKind.i64.wrap (IntKind.u16.wrap x.snd.snd.snd.snd.fst))].length) * (16 : Nat) ≤ (140737488355328 : Nat)))
       (.leaf (.inl ((x.fst ++ [(IntKind.i32.wrap (IntKind.i64.wrap (x.snd.snd.fst + IntKind.i64.wrap ((1 : Int) + IntKind.i64.wrap ((p0.getD x.snd.snd.snd.snd.fst.toNat (Int.ofNat (0 : Nat))).tmod (5000 : Int))))), IntKind.u16.wrap x.snd.snd.snd.snd.fst)]), (x.snd.fst ++ [(IntKind.i64.wrap (x.snd.snd.fst + IntKind.i64.wrap ((1 : Int) + IntKind.i64.wrap ((p0.getD x.snd.snd.snd.snd.fst.toNat (Int.ofNat (0 : Nat))).tmod (5000 : Int)))), IntKind.i64.wrap (IntKind.u16.wrap x.snd.snd.snd.snd.fst))]), (IntKind.i64.wrap (x.snd.snd.fst + IntKind.i64.wrap ((1 : Int) + IntKind.i64.wrap ((p0.getD x.snd.snd.snd.snd.fst.toNat (Int.ofNat (0 : Nat))).tmod (5000 : Int))))), (Px.scalar (IntKind.i64.wrap (x.snd.snd.fst + IntKind.i64.wrap ((1 : Int) + IntKind.i64.wrap ((p0.getD x.snd.snd.snd.snd.fst.toNat (Int.ofNat (0 : Nat))).tmod (5000 : Int)))))), (IntKind.i64.wrap (x.snd.snd.snd.snd.fst + (1 : Int))), (mset_u16_i64 x.snd.snd.snd.snd.snd (IntKind.u16.wrap x.snd.snd.snd.snd.fst) (IntKind.i64.wrap ((mget_u16_i64 x.snd.snd.snd.snd.snd (IntKind.u16.wrap x.snd.snd.snd.snd.fst)).getD (Int.ofNat (0 : Nat)) + (1 : Int)))))))
       (.fail))
      (.fail))
     (.ite (decide ((x.fst.length + [(IntKind.i32.wrap (IntKind.i64.wrap (x.snd.snd.fst + IntKind.i64.wrap ((1 : Int) + IntKind.i64.wrap ((p0.getD x.snd.snd.snd.snd.fst.toNat (Int.ofNat (0 : Nat))).tmod (5000 : Int))))), IntKind.u16.wrap x.snd.snd.snd.snd.fst)].length) * (8 : Nat) ≤ (140737488355328 : Nat)))
      (.ite (decide ((x.snd.fst.length + [(IntKind.i64.wrap (x.snd.snd.fst + IntKind.i64.wrap ((1 : Int) + IntKind.i64.wrap ((p0.getD x.snd.snd.snd.snd.fst.toNat (Int.ofNat (0 : Nat))).tmod (5000 : Int)))), IntKind.i64.wrap (IntKind.u16.wrap x.snd.snd.snd.snd.fst))].length) * (16 : Nat) ≤ (140737488355328 : Nat)))
       (.leaf (.inl ((x.fst ++ [(IntKind.i32.wrap (IntKind.i64.wrap (x.snd.snd.fst + IntKind.i64.wrap ((1 : Int) + IntKind.i64.wrap ((p0.getD x.snd.snd.snd.snd.fst.toNat (Int.ofNat (0 : Nat))).tmod (5000 : Int))))), IntKind.u16.wrap x.snd.snd.snd.snd.fst)]), (x.snd.fst ++ [(IntKind.i64.wrap (x.snd.snd.fst + IntKind.i64.wrap ((1 : Int) + IntKind.i64.wrap ((p0.getD x.snd.snd.snd.snd.fst.toNat (Int.ofNat (0 : Nat))).tmod (5000 : Int)))), IntKind.i64.wrap (IntKind.u16.wrap x.snd.snd.snd.snd.fst))]), (IntKind.i64.wrap (x.snd.snd.fst + IntKind.i64.wrap ((1 : Int) + IntKind.i64.wrap ((p0.getD x.snd.snd.snd.snd.fst.toNat (Int.ofNat (0 : Nat))).tmod (5000 : Int))))), false, (IntKind.i64.wrap (x.snd.snd.snd.snd.fst + (1 : Int))), (mset_u16_i64 x.snd.snd.snd.snd.snd (IntKind.u16.wrap x.snd.snd.snd.snd.fst) (IntKind.i64.wrap ((mget_u16_i64 x.snd.snd.snd.snd.snd (IntKind.u16.wrap x.snd.snd.snd.snd.fst)).getD (Int.ofNat (0 : Nat)) + (1 : Int)))))))
       (.fail))
      (.fail))))
   (.fail)))
 (.leaf (.inr (.exit 0, at' E 81 [(9, .lf (.own 0 0 .pair x.fst)), (10, .lf (.own 1 0 .two x.snd.fst)), (12, .lf (.mp 1088 0)), (13, .lf (.bool x.snd.snd.snd.fst))] [(1088, some (.map .u16 .i64 x.snd.snd.snd.snd.snd))])))
theorem h10_0 (p0 : List Int) (p1 : List Int) (p2 : Int) (p19 : Int) (x : (List (Int × Int)) × (List (Int × Int)) × Int × Bool × Int × (List (Int × Int))) (k : Ex → St E.A → Option Unit) :
    exec E G10 (fun _ _ => .fail) 1 (lb Go.Proofs.Tryd.f10 0) (S10_0 p0 p1 p2 p19 x) (fun e σ1 => k e (clean E (L10_0 e) σ1)) = (t10_0 p0 p1 p2 p19 x).run (Sum.elim (fun x' => k .normal (S10_0 p0 p1 p2 p19 x')) (fun o => k o.1 o.2)) := by kernel_rfl
end Go.Vx
namespace Px
/-- the i-th glyph of a drawn row -/
def gl (p1 : List Int) (p2 : Int) (i : Nat) : Int := cond (Nat.blt i p1.length) (Go.IntKind.u16.wrap (p1.getD i 0 + Go.IntKind.u16.wrap p2)) (Go.IntKind.u16.wrap (i : Int))
/-- codes that rise by gaps, each with its glyph -/
def rise (p0 p1 : List Int) (p2 : Int) : List Nat → Int → List (Int × Int)
  | [], _ => []
  | i :: r, a => cond (Go.Vx.ltI 1114111 (a + (1 + (p0.getD i 0).tmod 5000))) [] ((a + (1 + (p0.getD i 0).tmod 5000), gl p1 p2 i) :: rise p0 p1 p2 r (a + (1 + (p0.getD i 0).tmod 5000)))
def allIn (k : Go.IntKind) (l : List Int) : Bool := l.all fun z => Go.Vx.inRb k z
end Px
namespace Go.Vx
open Go
noncomputable def out10 (l x : List (Int × Int)) (ok : Bool) (m : List (Int × Int)) : Out' E := (.exit 0, at' E 81 [(9, .lf (.own 0 0 .pair l)), (10, .lf (.own 1 0 .two x)), (12, .lf (.mp 1088 0)), (13, .lf (.bool ok))] [(1088, some (.map .u16 .i64 m))])
noncomputable def lam10_0 (p0 : List Int) (p1 : List Int) (p2 : Int) (p19 : Int) (x : (List (Int × Int)) × (List (Int × Int)) × Int × Bool × Int × (List (Int × Int))) : Tree (Out' E) :=
  .ite (Px.allIn .u32 p0 && leI 0 p19 && leI p19 250 && leI p19 p0.length && decide (p1.length ≤ 140737488355328) && leI 0 x.2.2.2.2.1 && leI x.2.2.2.2.1 p19 && leI (-1) x.2.2.1 && leI x.2.2.1 1114111 && leI (x.1.length : Int) x.2.2.2.2.1 && leI (x.2.1.length : Int) x.2.2.2.2.1)
   (.leaf (out10 (x.1 ++ Px.rise p0 p1 p2 ((List.range p19.toNat).drop x.2.2.2.2.1.toNat) x.2.2.1) (x.2.1 ++ Px.rise p0 p1 p2 ((List.range p19.toNat).drop x.2.2.2.2.1.toNat) x.2.2.1)
     (x.2.2.2.1 && Px.scalars (Px.rise p0 p1 p2 ((List.range p19.toNat).drop x.2.2.2.2.1.toNat) x.2.2.1)) (Px.seen (Px.rise p0 p1 p2 ((List.range p19.toNat).drop x.2.2.2.2.1.toNat) x.2.2.1) x.2.2.2.2.2))) .fail
abbrev St10 := List (Int × Int) × List (Int × Int) × Int × Bool × List (Int × Int)
noncomputable def f10 (p0 p1 : List Int) (p2 : Int) (s : St10) (i : Nat) : Option (St10 ⊕ Out' E) :=
  if s.1.length ≤ i ∧ s.2.1.length ≤ i ∧ -1 ≤ s.2.2.1 ∧ s.2.2.1 ≤ 1114111 then
    some (if ltI 1114111 (s.2.2.1 + (1 + (p0.getD i 0).tmod 5000)) = true then .inr (out10 s.1 s.2.1 s.2.2.2.1 s.2.2.2.2)
      else .inl (s.1 ++ [(s.2.2.1 + (1 + (p0.getD i 0).tmod 5000), Px.gl p1 p2 i)], s.2.1 ++ [(s.2.2.1 + (1 + (p0.getD i 0).tmod 5000), Px.gl p1 p2 i)], s.2.2.1 + (1 + (p0.getD i 0).tmod 5000), s.2.2.2.1 && Px.scalar (s.2.2.1 + (1 + (p0.getD i 0).tmod 5000)), Px.more s.2.2.2.2 (Px.gl p1 p2 i)))
  else none
theorem gap10 {p0 : List Int} (h : Px.allIn .u32 p0 = true) (i : Nat) : 0 ≤ (p0.getD i 0).tmod 5000 ∧ (p0.getD i 0).tmod 5000 < 5000 := by
  have h0 : 0 ≤ p0.getD i 0 := by
    rw [List.getD]
    cases hg : p0[i]? with
    | none => exact Int.le_refl _
    | some z =>
      have := List.all_eq_true.1 h z (List.mem_of_getElem? hg)
      simp only [inRb, Bool.and_eq_true, decide_eq_true_eq] at this
      exact this.1
  rw [Int.tmod_eq_emod_of_nonneg h0]
  exact ⟨Int.emod_nonneg _ (by decide), Int.emod_lt_of_pos _ (by decide)⟩
theorem lo10 (p0 p1 : List Int) (p2 : Int) (h0 : Px.allIn .u32 p0 = true) : ∀ (l : List Nat) (k : Nat) (s : St10), (∀ q, q < l.length → l[q]? = some (k + q)) → s.1.length ≤ k → s.2.1.length ≤ k → -1 ≤ s.2.2.1 → s.2.2.1 ≤ 1114111 →
    loopO (f10 p0 p1 p2) (fun s => out10 s.1 s.2.1 s.2.2.2.1 s.2.2.2.2) l s = some (out10 (s.1 ++ Px.rise p0 p1 p2 l s.2.2.1) (s.2.1 ++ Px.rise p0 p1 p2 l s.2.2.1) (s.2.2.2.1 && Px.scalars (Px.rise p0 p1 p2 l s.2.2.1)) (Px.seen (Px.rise p0 p1 p2 l s.2.2.1) s.2.2.2.2))
  | [], k, s, _, _, _, _, _ => by simp [loopO, Px.rise, Px.scalars, Px.seen]
  | i :: l, k, s, hl, h1, h2, h3, h4 => by
    have hik : i = k := by have := hl 0 (by simp); simpa using this
    subst hik
    have hg := gap10 h0 i
    unfold loopO f10
    rw [if_pos ⟨h1, h2, h3, h4⟩]
    unfold Px.rise
    cases hb : ltI 1114111 (s.2.2.1 + (1 + (p0.getD i 0).tmod 5000)) with
    | true => simp [Px.scalars, Px.seen]
    | false =>
      rw [ltI_eq, decide_eq_false_iff_not] at hb
      simp only [Bool.false_eq_true, if_false]
      have ih := lo10 p0 p1 p2 h0 l (i + 1) (s.1 ++ [(s.2.2.1 + (1 + (p0.getD i 0).tmod 5000), Px.gl p1 p2 i)], s.2.1 ++ [(s.2.2.1 + (1 + (p0.getD i 0).tmod 5000), Px.gl p1 p2 i)], s.2.2.1 + (1 + (p0.getD i 0).tmod 5000), s.2.2.2.1 && Px.scalar (s.2.2.1 + (1 + (p0.getD i 0).tmod 5000)), Px.more s.2.2.2.2 (Px.gl p1 p2 i))
        (fun q hq => by have := hl (q + 1) (by simp; omega); simp only [List.getElem?_cons_succ] at this; rw [this]; congr 1; omega) (by simp; omega) (by simp; omega) (by simp only; omega) (by simp only; omega)
      have ih' := ih
      unfold f10 at ih'
      rw [ih']
      simp only [cond_false, List.append_assoc, List.singleton_append, Px.scalars, List.all_cons, Bool.and_assoc, Px.seen, List.foldl_cons]
theorem u16w (n : Int) : 0 ≤ IntKind.u16.wrap n ∧ IntKind.u16.wrap n ≤ 65535 := by
  simp only [IntKind.wrap, IntKind.bits, IntKind.signed]; simp; omega
theorem m10_0 {p0 : List Int} {p1 : List Int} {p2 : Int} {p19 : Int} {x : (List (Int × Int)) × (List (Int × Int)) × Int × Bool × Int × (List (Int × Int))} {e : Ex} {σ : St E.A} (_ : okLenR (E := E) (.lf (.sl .u32 p0)) = true) (_ : okLenR (E := E) (.lf (.sl .u16 p1)) = true) (_ : okLenR (E := E) (.lf (.own 0 0 .pair x.1)) = true) (_ : okLenR (E := E) (.lf (.own 1 0 .two x.2.1)) = true)
    (h : (lam10_0 p0 p1 p2 p19 x).get = some (e, σ)) : ∃ fuel, iter (t10_0 p0 p1 p2 p19) fuel x = some (e, σ) ∧ e ≠ .normal := by
  obtain ⟨l, y, a, ok, i, m⟩ := x
  unfold lam10_0 at h
  have h' := Tree.get_ite_some h
  clear h
  rcases h' with ⟨h1, h⟩ | ⟨_, h⟩
  · simp only [leI_eq, Bool.and_eq_true, decide_eq_true_eq] at h1
    obtain ⟨⟨⟨⟨⟨⟨⟨⟨⟨⟨g0, g1⟩, g2⟩, g3⟩, g4⟩, g5⟩, g6⟩, g7⟩, g8⟩, g9⟩, g10⟩ := h1
    obtain ⟨i, rfl⟩ : ∃ j : Nat, i = (j : Int) := ⟨i.toNat, by omega⟩
    obtain ⟨n, rfl⟩ : ∃ j : Nat, p19 = (j : Int) := ⟨p19.toNat, by omega⟩
    simp only [Int.toNat_natCast] at h
    refine ⟨_, iter_idx (S := St10) (t := t10_0 p0 p1 p2 n) (fun i s => (s.1, s.2.1, s.2.2.1, s.2.2.2.1, i, s.2.2.2.2)) (List.range n) 0 (f10 p0 p1 p2) (fun s => out10 s.1 s.2.1 s.2.2.2.1 s.2.2.2.2) (fun i s z hi hz => ?_) (fun s => ?_) _ i (l, y, a, ok, m) _ ?_ (Nat.lt_succ_self _) (by simp; omega), ?_⟩
    · rw [List.length_range] at hi
      have hgi : (List.range n).getD i 0 = i := by simp [List.getD, hi]
      rw [hgi] at hz
      obtain ⟨l, y, a, ok, m⟩ := s
      unfold f10 at hz
      simp only at hz
      split at hz
      · rename_i hc
        obtain ⟨c1, c2, c3, c4⟩ := hc
        injection hz with hz; subst hz
        unfold t10_0
        have hg := gap10 g0 i
        generalize hgap : (p0.getD i 0).tmod 5000 = q at hg
        have hgap' : (p0.getD i (Int.ofNat 0)).tmod 5000 = q := hgap
        have e1 : IntKind.i64.wrap ((i : Int) + 1) = ((i + 1 : Nat) : Int) := by rw [wi64] <;> omega
        have e0 : IntKind.i64.wrap q = q := wi64 _ (by omega) (by omega)
        have e2 : IntKind.i64.wrap (1 + q) = 1 + q := wi64 _ (by omega) (by omega)
        have e3 : IntKind.i64.wrap (a + (1 + q)) = a + (1 + q) := wi64 _ (by omega) (by omega)
        have hlt : ltI (i : Int) (n : Int) = true := by rw [ltI_eq]; exact decide_eq_true (by omega)
        have hin : inB (i : Int) p0.length = true := inB_true.2 ⟨by omega, by omega⟩
        have hgl : ∀ g : Int, IntKind.i64.wrap (IntKind.u16.wrap g) = IntKind.u16.wrap g := fun g => by have := u16w g; exact wi64 _ (by omega) (by omega)
        simp only [Tree.get_ite, hlt, hin, cond_true, Int.toNat_natCast, hgap, hgap', e0, e1, e2, e3, hgl]
        have d1 : ∀ g : Int × Int, decide ((l.length + [g].length) * 8 ≤ 140737488355328) = true := fun g => decide_eq_true (by simp; omega)
        have d2 : ∀ g : Int × Int, decide ((y.length + [g].length) * 16 ≤ 140737488355328) = true := fun g => decide_eq_true (by simp; omega)
        cases hb : ltI 1114111 (a + (1 + q)) with
        | true =>
          have : ∀ b1 b2 : Bool, b2 = (cond b1 b2 b2) := fun b1 b2 => by cases b1 <;> rfl
          by_cases hp : i < p1.length
          · have hp1 : ltI (i : Int) (p1.length : Int) = true := by rw [ltI_eq]; exact decide_eq_true (by omega)
            have hp2 : inB (i : Int) p1.length = true := inB_true.2 ⟨by omega, by omega⟩
            simp only [hp1, hp2, cond_true, if_true, Tree.get_leaf]; rfl
          · have hp1 : ltI (i : Int) (p1.length : Int) = false := by rw [ltI_eq]; exact decide_eq_false (by omega)
            simp only [hp1, cond_true, cond_false, if_true, Tree.get_leaf]; rfl
        | false =>
          rw [ltI_eq, decide_eq_false_iff_not] at hb
          have e4 : IntKind.i32.wrap (a + (1 + q)) = a + (1 + q) := wi32 _ (by omega) (by omega)
          simp only [e4, d1, d2, cond_true, cond_false, Bool.false_eq_true, if_false]
          by_cases hp : i < p1.length
          · have hp1 : ltI (i : Int) (p1.length : Int) = true := by rw [ltI_eq]; exact decide_eq_true (by omega)
            have hp2 : inB (i : Int) p1.length = true := inB_true.2 ⟨by omega, by omega⟩
            have hp3 : Px.gl p1 p2 i = IntKind.u16.wrap (p1.getD i 0 + IntKind.u16.wrap p2) := by
              unfold Px.gl
              rw [show Nat.blt i p1.length = true from by rw [Nat.blt_eq]; exact hp]; rfl
            have hp4 : p1.getD i (Int.ofNat 0) = p1.getD i 0 := rfl
            simp only [hp1, hp2, cond_true, Tree.get_leaf, hp3, hp4]
            cases ok <;> rfl
          · have hp1 : ltI (i : Int) (p1.length : Int) = false := by rw [ltI_eq]; exact decide_eq_false (by omega)
            have hp3 : Px.gl p1 p2 i = IntKind.u16.wrap (i : Int) := by
              unfold Px.gl
              rw [show Nat.blt i p1.length = false from by rw [Bool.eq_false_iff]; intro h; exact hp (Nat.le_of_ble_eq_true h)]; rfl
            simp only [hp1, cond_true, cond_false, Tree.get_leaf, hp3]
            cases ok <;> rfl
      · cases hz
    · unfold t10_0
      have hlt : ltI ((List.range n).length : Int) (n : Int) = false := by rw [ltI_eq, List.length_range]; exact decide_eq_false (by omega)
      simp only [Tree.get_ite, hlt]; rfl
    · rw [lo10 p0 p1 p2 g0 _ i _ (fun q hq => by
        rw [List.length_drop, List.length_range] at hq
        rw [List.getElem?_drop, List.getElem?_range (by omega)]) (by simp only at *; omega) (by simp only at *; omega) g7 g8]
      exact h
    · injection h with h; injection h with h1 _; rw [← h1]; intro hh; cases hh
  · cases h
noncomputable def rd10_0 (σ : St E.A) : Tree (Out' E) :=
  let c := clean E (L10_0 .normal) σ
  if c.sl.length = 81 then
  match c.sl.getD 0 .undef, c.sl.getD 1 .undef, c.sl.getD 2 .undef, c.sl.getD 9 .undef, c.sl.getD 10 .undef, c.sl.getD 11 .undef, c.sl.getD 12 .undef, c.sl.getD 13 .undef, c.sl.getD 19 .undef, c.sl.getD 20 .undef, c.ob 1088 with
  | .lf (.sl .u32 p0), .lf (.sl .u16 p1), .lf (.int .u8 p2), .lf (.own 0 0 .pair x9), .lf (.own 1 0 .two x10), .lf (.int .i64 x11), .lf (.mp 1088 0), .lf (.bool x13), .lf (.int .i64 p19), .lf (.int .i64 x20), some (.map .u16 .i64 o1088a) => lam10_0 p0 p1 p2 p19 (x9, x10, x11, x13, x20, o1088a)
  | _, _, _, _, _, _, _, _, _, _, _ => .fail
  else .fail
theorem ll10_0 (hL : Laws E) (σ : St E.A) (e : Ex) (σ' : St E.A) (h : (rd10_0 σ).get = some (e, σ')) : LoopOK E (lb Go.Proofs.Tryd.f10 0) σ e σ' := by
  refine LoopOK.of_clean hL (L10_0 .normal) ?_
  unfold rd10_0 at h
  simp only at h
  split at h
  · rename_i hlen
    split at h
    · rename_i p0 p1 p2 x9 x10 x11 x13 p19 x20 o1088a h0 h1 h2 h3 h4 h5 h6 h7 h8 h9 h10
      refine LoopOK.lens 0 (fun g0 => ?_)
      rw [h0] at g0
      refine LoopOK.lens 1 (fun g1 => ?_)
      rw [h1] at g1
      refine LoopOK.lens 9 (fun g2 => ?_)
      rw [h3] at g2
      refine LoopOK.lens 10 (fun g3 => ?_)
      rw [h4] at g3
      obtain ⟨fuel, hi, ho⟩ := m10_0 g0 g1 g2 g3 h
      have hl := loop_at (Γ := G10) (Λ := fun _ _ => .fail) (n := 1) (body := lb Go.Proofs.Tryd.f10 0) hL (hG10 hL) (S := S10_0 p0 p1 p2 p19) (t := t10_0 p0 p1 p2 p19) (Lv := L10_0) (LamOK.none (by kernel_rfl)) (h10_0 p0 p1 p2 p19) hi ho
      refine LoopOK.fit hlen ?_ ?_ rfl rfl hl
      · exact ⟨h0, h1, h2, h3, h4, h5, h6, h7, h8, h9, trivial⟩
      · exact ⟨h10, trivial⟩
    · cases h
  · cases h
noncomputable def Lam10 : Lam E
  | 0, σ => rd10_0 σ
  | _, _ => .fail
noncomputable def w10 (a0 : List Int) (a1 : List Int) (a2 : Int) : Tree (RV E.A × List (Obj E.A)) :=
 .ite (Px.allIn IntKind.u32 a0 && leI (0 : Int) (if false = true then Max.max (↑a0.length : Int) (250 : Int) else Min.min (↑a0.length : Int) (250 : Int)) && leI (if false = true then Max.max (↑a0.length : Int) (250 : Int) else Min.min (↑a0.length : Int) (250 : Int)) (250 : Int) && leI (if false = true then Max.max (↑a0.length : Int) (250 : Int) else Min.min (↑a0.length : Int) (250 : Int)) (↑a0.length : Int) && decide (a1.length ≤ (140737488355328 : Nat)) && leI (0 : Int) (0 : Int) && leI (0 : Int) (if false = true then Max.max (↑a0.length : Int) (250 : Int) else Min.min (↑a0.length : Int) (250 : Int)) && leI (-1 : Int) (-1 : Int) && leI (-1 : Int) (1114111 : Int) && leI (↑([] : List UInt8).length : Int) (0 : Int) && leI (↑([] : List UInt8).length : Int) (0 : Int))
 (.ite (true && Px.scalars (Px.rise a0 a1 a2 (List.drop (Int.toNat (0 : Int)) (List.range (if false = true then Max.max (↑a0.length : Int) (250 : Int) else Min.min (↑a0.length : Int) (250 : Int)).toNat)) (-1 : Int)))
  (.ite (decide (List.length (Px.seen (Px.rise a0 a1 a2 (List.drop (Int.toNat (0 : Int)) (List.range (if false = true then Max.max (↑a0.length : Int) (250 : Int) else Min.min (↑a0.length : Int) (250 : Int)).toNat)) (-1 : Int)) []) ≤ (2 : Nat) ^ (62 : Nat)))
   (.leaf (.tup [(false, [.sl .pair ([] ++ Px.rise a0 a1 a2 (List.drop (Int.toNat (0 : Int)) (List.range (if false = true then Max.max (↑a0.length : Int) (250 : Int) else Min.min (↑a0.length : Int) (250 : Int)).toNat)) (-1 : Int))]), (false, [.sl .two ([] ++ Px.rise a0 a1 a2 (List.drop (Int.toNat (0 : Int)) (List.range (if false = true then Max.max (↑a0.length : Int) (250 : Int) else Min.min (↑a0.length : Int) (250 : Int)).toNat)) (-1 : Int))]), (false, [.bool (eqI (↑(List.length (Px.seen (Px.rise a0 a1 a2 (List.drop (Int.toNat (0 : Int)) (List.range (if false = true then Max.max (↑a0.length : Int) (250 : Int) else Min.min (↑a0.length : Int) (250 : Int)).toNat)) (-1 : Int)) [])) : Int) (↑([] ++ Px.rise a0 a1 a2 (List.drop (Int.toNat (0 : Int)) (List.range (if false = true then Max.max (↑a0.length : Int) (250 : Int) else Min.min (↑a0.length : Int) (250 : Int)).toNat)) (-1 : Int)).length : Int))])], []))
   (.fail))
  (.leaf (.tup [(false, [.sl .pair ([] ++ Px.rise a0 a1 a2 (List.drop (Int.toNat (0 : Int)) (List.range (if false = true then Max.max (↑a0.length : Int) (250 : Int) else Min.min (↑a0.length : Int) (250 : Int)).toNat)) (-1 : Int))]), (false, [.sl .two ([] ++ Px.rise a0 a1 a2 (List.drop (Int.toNat (0 : Int)) (List.range (if false = true then Max.max (↑a0.length : Int) (250 : Int) else Min.min (↑a0.length : Int) (250 : Int)).toNat)) (-1 : Int))]), (false, [.bool false])], [])))
 (.fail)
theorem e10 (a0 : List Int) (a1 : List Int) (a2 : Int) : execFun E G10 ((Lam10)) false Go.Proofs.Tryd.f10 [.lf (.sl .u32 a0), .lf (.sl .u16 a1), .lf (.int .u8 a2)] [] some = (w10 a0 a1 a2).get := by kernel_rfl
noncomputable def raw10 : Spec E := fun args os => match args, os with
  | [.lf (.sl .u32 a0), .lf (.sl .u16 a1), .lf (.int .u8 a2)], [] => w10 a0 a1 a2
  | _, _ => .fail
theorem validraw10 (hL : Laws E) : Valid E 10 raw10 :=
  valid_of_body hL (hG10 hL) (Λ := (Lam10)) (fn := Go.Proofs.Tryd.f10) (keep := false) (by kernel_rfl) (by kernel_rfl) (by kernel_rfl) ((LamOK.of (m := 1) (by kernel_rfl) (fun j hj σ e σ' hg => by
      match j, hj with
      | 0, _ => exact ll10_0 hL σ e σ' hg
      ))) (fun args os r os' h => by
    unfold raw10 at h
    split at h
    · exact (e10 _ _ _).trans h
    · cases h)
end Go.Vx
namespace Px
def risen (p0 p1 : List Int) (p2 : Int) : List (Int × Int) := rise p0 p1 p2 (List.range (min p0.length 250)) (-1)
noncomputable def own1 (l : List (Int × Int)) : Bool := scalars l && Go.Vx.eqI (seen l []).length l.length
end Px
namespace Go.Vx
open Go
theorem rise_len (p0 p1 : List Int) (p2 : Int) : ∀ (l : List Nat) (a : Int), (Px.rise p0 p1 p2 l a).length ≤ l.length
  | [], _ => Nat.le_refl _
  | i :: l, a => by
    unfold Px.rise
    have := rise_len p0 p1 p2 l (a + (1 + (p0.getD i 0).tmod 5000))
    cases ltI 1114111 (a + (1 + (p0.getD i 0).tmod 5000)) <;> simp only [cond_true, cond_false, List.length_cons, List.length_nil] <;> omega
theorem eq10 (p0 p1 : List Int) (p2 : Int) (h0 : Px.allIn .u32 p0 = true) (h1 : p1.length ≤ 140737488355328) : (w10 p0 p1 p2).get = some (.tup [(false, [.sl .pair (Px.risen p0 p1 p2)]), (false, [.sl .two (Px.risen p0 p1 p2)]), (false, [.bool (Px.own1 (Px.risen p0 p1 p2))])], []) := by
  unfold w10
  have hm : (if false = true then max ((p0.length : Nat) : Int) 250 else min ((p0.length : Nat) : Int) 250) = ((min p0.length 250 : Nat) : Int) := by
    simp only [Bool.false_eq_true, if_false]; omega
  simp only [hm, Int.toNat_natCast]
  have e0 : (List.range (min p0.length 250)).drop (Int.toNat 0) = List.range (min p0.length 250) := rfl
  have c1 : ∀ b1 b2 : Bool, b1 = true → b2 = true → (Px.allIn .u32 p0 && leI 0 ((min p0.length 250 : Nat) : Int) && leI ((min p0.length 250 : Nat) : Int) 250 && leI ((min p0.length 250 : Nat) : Int) p0.length && decide (p1.length ≤ 140737488355328) && b1 && b2) = true := by
    intro b1 b2 e1 e2; subst e1; subst e2
    simp only [h0, leI_eq, Bool.and_eq_true, decide_eq_true_eq]
    refine ⟨⟨⟨⟨⟨⟨trivial, ?_⟩, ?_⟩, ?_⟩, ?_⟩, trivial⟩, trivial⟩ <;> omega
  have hl := rise_len p0 p1 p2 (List.range (min p0.length 250)) (-1)
  have hs := seen_len (Px.rise p0 p1 p2 (List.range (min p0.length 250)) (-1)) []
  simp only [List.length_range, List.length_nil] at hl hs
  have d1 : decide ((Px.seen (Px.rise p0 p1 p2 (List.range (min p0.length 250)) (-1)) []).length ≤ 2 ^ 62) = true := decide_eq_true (by omega)
  have t1 : (leI (0 : Int) ((min p0.length 250 : Nat) : Int)) = true := by rw [leI_eq]; exact decide_eq_true (by omega)
  have c2 : (Px.allIn .u32 p0 && leI 0 ((min p0.length 250 : Nat) : Int) && leI ((min p0.length 250 : Nat) : Int) 250 && leI ((min p0.length 250 : Nat) : Int) p0.length && decide (p1.length ≤ 140737488355328) && leI (0 : Int) (0 : Int) && leI (0 : Int) ((min p0.length 250 : Nat) : Int) && leI (-1 : Int) (-1 : Int) && leI (-1 : Int) (1114111 : Int) && leI ((([] : List UInt8).length : Nat) : Int) (0 : Int) && leI ((([] : List UInt8).length : Nat) : Int) (0 : Int)) = true := by
    have := c1 true true rfl rfl
    simp only [Bool.and_true] at this
    rw [this, t1]; rfl
  simp only [Tree.get_ite, e0, d1, List.nil_append, Bool.true_and]
  rw [c2]
  simp only [cond_true, Px.own1, Px.risen]
  cases Px.scalars (Px.rise p0 p1 p2 (List.range (min p0.length 250)) (-1)) <;> rfl
noncomputable def spec10 : Spec E := fun args os => match args, os with
  | [.lf (.sl .u32 p0), .lf (.sl .u16 p1), .lf (.int .u8 p2)], [] => .ite (Px.allIn .u32 p0 && decide (p1.length ≤ 140737488355328)) (.leaf (.tup [(false, [.sl .pair (Px.risen p0 p1 p2)]), (false, [.sl .two (Px.risen p0 p1 p2)]), (false, [.bool (Px.own1 (Px.risen p0 p1 p2))])], [])) .fail
  | _, _ => .fail
theorem valid10 (hL : Laws E) : Valid E 10 spec10 := (validraw10 hL).less (fun args os x _ _ h => by
  unfold spec10 at h
  split at h
  · rcases Tree.get_ite_some h with ⟨h1, h⟩ | ⟨_, h⟩
    · simp only [Bool.and_eq_true, decide_eq_true_eq] at h1
      exact (eq10 _ _ _ h1.1 h1.2).trans h
    · cases h
  · cases h)
end Go.Vx
namespace Px
open Go.Vx Go
theorem risesFrom_rise {p0 p1 : List Int} {p2 : Int} (h0 : allIn .u32 p0 = true) : ∀ (l : List Nat) (a : Int), -1 ≤ a → (a = -1 → risesFrom 1114111 none (rise p0 p1 p2 l a) = true) ∧ (0 ≤ a → risesFrom 1114111 (some a) (rise p0 p1 p2 l a) = true)
  | [], a, _ => ⟨fun _ => rfl, fun _ => rfl⟩
  | i :: l, a, ha => by
    have hg := gap10 h0 i
    unfold rise
    cases hb : ltI 1114111 (a + (1 + (p0.getD i 0).tmod 5000)) with
    | true => exact ⟨fun _ => rfl, fun _ => rfl⟩
    | false =>
      rw [ltI_eq, decide_eq_false_iff_not] at hb
      have ih := (risesFrom_rise (p1 := p1) (p2 := p2) h0 l (a + (1 + (p0.getD i 0).tmod 5000)) (by omega)).2 (by omega)
      simp only [cond_false, risesFrom, ih, Bool.and_true]
      refine ⟨fun _ => ?_, fun _ => ?_⟩
      · rw [decide_eq_true (by omega), decide_eq_true (by omega)]; rfl
      · rw [decide_eq_true (by omega), decide_eq_true (by omega), decide_eq_true (by omega)]; rfl
theorem rises_risen {p0 p1 : List Int} {p2 : Int} (h0 : allIn .u32 p0 = true) : rises 1114111 (risen p0 p1 p2) = true :=
  (risesFrom_rise h0 _ (-1) (by omega)).1 rfl
theorem gl_range (p1 : List Int) (p2 : Int) (i : Nat) : 0 ≤ gl p1 p2 i ∧ gl p1 p2 i ≤ 65535 := by
  unfold gl
  cases Nat.blt i p1.length
  · exact u16w _
  · exact u16w _
theorem u16s_rise (p0 p1 : List Int) (p2 : Int) : ∀ (l : List Nat) (a : Int), u16s (rise p0 p1 p2 l a) = true
  | [], _ => rfl
  | i :: l, a => by
    have ih := u16s_rise p0 p1 p2 l (a + (1 + (p0.getD i 0).tmod 5000))
    have hg := gl_range p1 p2 i
    unfold rise
    cases ltI 1114111 (a + (1 + (p0.getD i 0).tmod 5000)) with
    | true => rfl
    | false =>
      unfold u16s at ih ⊢
      rw [cond_false, List.all_cons, ih, Bool.and_true]
      simp only [leI_eq, Bool.and_eq_true, decide_eq_true_eq]
      exact hg
theorem u16s_risen (p0 p1 : List Int) (p2 : Int) : u16s (risen p0 p1 p2) = true := u16s_rise _ _ _ _ _
theorem risen_len (p0 p1 : List Int) (p2 : Int) : (risen p0 p1 p2).length ≤ 250 := by
  have := rise_len p0 p1 p2 (List.range (min p0.length 250)) (-1)
  rw [List.length_range] at this
  exact Nat.le_trans this (Nat.min_le_right _ _)
/-! ### glyphs of one's own -/
theorem msq_eq (a b : Int) : ∀ m : Cnt, mset_u16_i64 m a b = ms m a b
  | [] => rfl
  | x :: r => by
    have ih := msq_eq a b r
    show (if decide (a = x.1) = true then (a, b) :: r else x :: mset_u16_i64 r a b) = _
    rw [ih]; rfl
theorem ms_keys (g : Int) (b : Int) : ∀ m : Map, ((ms m g b).map (·.1) = m.map (·.1) ∧ g ∈ m.map (·.1)) ∨ ((ms m g b).map (·.1) = m.map (·.1) ++ [g] ∧ g ∉ m.map (·.1))
  | [] => .inr ⟨rfl, by simp⟩
  | x :: m => by
    have ih := ms_keys g b m
    unfold ms
    by_cases h : g = x.1
    · subst h
      simp
    · rw [decide_eq_false h]
      simp only [Bool.false_eq_true, if_false, List.map_cons, List.mem_cons, List.cons_append]
      rcases ih with ⟨h1, h2⟩ | ⟨h1, h2⟩
      · exact .inl ⟨by rw [h1], .inr h2⟩
      · exact .inr ⟨by rw [h1], fun hh => hh.elim h h2⟩
theorem more_keys (m : Cnt) (g : Int) : (((more m g).map (·.1) = m.map (·.1) ∧ (more m g).length = m.length) ∧ g ∈ m.map (·.1)) ∨ (((more m g).map (·.1) = m.map (·.1) ++ [g] ∧ (more m g).length = m.length + 1) ∧ g ∉ m.map (·.1)) := by
  have e : more m g = ms m g (Go.IntKind.i64.wrap ((Go.Vx.mget_u16_i64 m g).getD 0 + 1)) := msq_eq _ _ m
  rw [e]
  rcases ms_keys g (Go.IntKind.i64.wrap ((Go.Vx.mget_u16_i64 m g).getD 0 + 1)) m with ⟨h1, h2⟩ | ⟨h1, h2⟩
  · exact .inl ⟨⟨h1, by have := congrArg List.length h1; simpa only [List.length_map] using this⟩, h2⟩
  · exact .inr ⟨⟨h1, by have := congrArg List.length h1; simpa only [List.length_map, List.length_append, List.length_cons, List.length_nil] using this⟩, h2⟩
theorem seen_keys : ∀ (l : Seg) (m : Cnt), (seen l m).length ≤ m.length + l.length ∧ ((seen l m).length = m.length + l.length → (l.map (·.2)).Nodup ∧ ∀ x ∈ l, x.2 ∉ m.map (·.1))
  | [], m => ⟨Nat.le_refl _, fun _ => ⟨List.nodup_nil, fun x hx => by cases hx⟩⟩
  | x :: l, m => by
    have e : seen (x :: l) m = seen l (more m x.2) := rfl
    rw [e]
    obtain ⟨h1, h2⟩ := seen_keys l (more m x.2)
    rcases more_keys m x.2 with ⟨⟨_, hl⟩, k2⟩ | ⟨⟨k1, hl⟩, k2⟩
    · rw [List.length_cons]
      exact ⟨by omega, fun h => by omega⟩
    · rw [List.length_cons]
      refine ⟨by omega, fun h => ?_⟩
      obtain ⟨n1, n2⟩ := h2 (by omega)
      rw [k1] at n2
      refine ⟨List.nodup_cons.2 ⟨fun hh => ?_, n1⟩, fun y hy => ?_⟩
      · obtain ⟨y, hy, e⟩ := List.mem_map.1 hh
        exact n2 y hy (by rw [e]; exact List.mem_append_right _ (List.mem_singleton.2 rfl))
      · rcases List.mem_cons.1 hy with rfl | hy
        · exact k2
        · exact fun hh => n2 y hy (List.mem_append_left _ hh)
theorem own1_iff {l : Seg} (h : own1 l = true) : scalars l = true ∧ (l.map (·.2)).Nodup := by
  unfold own1 at h
  simp only [Bool.and_eq_true, eqI_eq, decide_eq_true_eq] at h
  exact ⟨h.1, ((seen_keys l []).2 (by simp; omega)).1⟩
theorem right_risen {p0 p1 : List Int} {p2 : Int} (h0 : allIn .u32 p0 = true) : right (risen p0 p1 p2) = own1 (risen p0 p1 p2) := by
  unfold right own1
  rw [rises_risen h0, Bool.and_true]
/-! ### looking up -/
theorem mg_swap : ∀ (l : Seg), (l.map (·.2)).Nodup → ∀ y ∈ l, mg (l.map swap) y.2 = some y.1
  | [], _, y, hy => by cases hy
  | x :: l, hn, y, hy => by
    simp only [List.map_cons, List.nodup_cons] at hn
    have ih := mg_swap l hn.2
    unfold mg at ih ⊢
    simp only [List.map_cons, List.find?_cons]
    rcases List.mem_cons.1 hy with rfl | hy
    · rw [show decide (y.2 = (swap y).1) = true from decide_eq_true rfl]; rfl
    · have hne : y.2 ≠ x.2 := fun e => hn.1 (List.mem_map.2 ⟨y, hy, e⟩)
      rw [show decide (y.2 = (swap x).1) = false from decide_eq_false hne]
      exact ih y hy
def has (l : Seg) (c : Int) : Bool := l.any fun y => eqI y.2 c
theorem mg_has (l : Seg) (c : Int) : (mg (l.map swap) c).isSome = has l c := by
  unfold mg has
  induction l with
  | nil => rfl
  | cons x l ih =>
    simp only [List.map_cons, List.find?_cons, List.any_cons, eqI_eq]
    by_cases h : c = x.2
    · rw [show decide (c = (swap x).1) = true from decide_eq_true h, decide_eq_true h.symm]; rfl
    · rw [show decide (c = (swap x).1) = false from decide_eq_false h, decide_eq_false (fun e => h e.symm), Bool.false_or]
      simp only [eqI_eq] at ih
      exact ih
/-! ### ASCII -/
theorem ascii_app (a b : List UInt8) : ascii (a ++ b) = (ascii a && ascii b) := List.all_append
theorem ascii_hexs (p : List UInt8) : ascii (hexs p) = true := by
  induction p with
  | nil => rfl
  | cons b p ih =>
    have hb := b.toNat_lt
    have h1 := (hd_fact (d := b.toNat / 16) (by omega)).2.2.2.2
    have h2 := (hd_fact (d := b.toNat % 16) (by omega)).2.2.2.2
    unfold ascii at ih ⊢
    simp only [hexs, List.all_cons, h1, h2, ih]; rfl
theorem ascii_line (x : Int × Int) : ascii (line x) = true := by
  have h := fun p => ascii_hexs p
  unfold ascii at h ⊢
  unfold line
  simp only [List.cons_append, List.all_cons, List.all_append, h, List.all_nil, Bool.and_true]
  rfl
theorem ascii_lines (l : Seg) : ascii (lines l) = true := by
  unfold lines ascii
  rw [List.all_flatMap]
  exact List.all_eq_true.2 fun x _ => ascii_line x
theorem ascii_digits (n : Nat) : ascii (Lib.decDigits n) = true := by
  obtain ⟨_, h⟩ := digits_ok n
  exact List.all_eq_true.2 fun b hb => by
    have := List.all_eq_true.1 h b hb
    simp only [Bool.and_eq_true] at this
    have h2 := Nat.le_of_ble_eq_true this.2
    rw [Nat.ble_eq]; omega
theorem ascii_row (l : Seg) : ascii (rowText l) = true := by
  unfold rowText
  rw [ascii_app, ascii_app, ascii_app, ascii_digits, ascii_lines]; rfl
theorem ascii_ref (l : Seg) : ascii (refBuild l) = true := by
  unfold refBuild addRows
  rw [ascii_app, ascii_app]
  have : ascii ((chunks 100 l).flatMap rowText) = true := by
    unfold ascii
    rw [List.all_flatMap]
    exact List.all_eq_true.2 fun x _ => ascii_row x
  rw [this]; rfl
theorem ref_len (l : Seg) : (refBuild l).length ≤ 72 + 2000 * ((l.length + 99) / 100) := by
  have := addRows_len wFront l
  have e1 : wFront.length = 64 := rfl
  have e2 : wBack.length = 8 := rfl
  unfold refBuild
  rw [List.length_append]; omega
end Px
namespace Go.Vx
open Go
noncomputable def G14 : FuncId → Option (Spec E) := fun _ => none
theorem hG14 (hL : Laws E) : ∀ f spec, G14 f = some spec → Valid E f spec := by
  intro f spec h
  cases h
noncomputable def w14 (m : List (Int × Int)) : Tree (RV E.A × List (Obj E.A)) :=
 .ite (decide (m.length ≤ (2 : Nat) ^ (62 : Nat)))
 (.leaf (.lf (.int .i64 ((↑m.length : Int))), [.map .u16 .i32 m]))
 (.fail)
theorem e14 (m : List (Int × Int)) : execFun E G14 (fun _ _ => .fail) false Go.Proofs.Tryd.f14 [.agg [.mp 0 0]] [.map .u16 .i32 m] some = (w14 m).get := by kernel_rfl
noncomputable def w14_1  : Tree (RV E.A × List (Obj E.A)) :=
 .leaf (.lf (.int .i64 ((0 : Int))), [])
theorem e14_1  : execFun E G14 (fun _ _ => .fail) false Go.Proofs.Tryd.f14 [.agg [.lit (.map none)]] [] some = (w14_1 ).get := by kernel_rfl
noncomputable def spec14 : Spec E := fun args os => match args, os with
  | [.agg [.mp 0 0]], [.map .u16 .i32 m] => w14 m
  | [.agg [.lit (.map none)]], [] => w14_1
  | _, _ => .fail
theorem valid14 (hL : Laws E) : Valid E 14 spec14 :=
  valid_of_body hL (hG14 hL) (Λ := fun _ _ => .fail) (fn := Go.Proofs.Tryd.f14) (keep := false) (by kernel_rfl) (by kernel_rfl) (by kernel_rfl) (LamOK.none (by kernel_rfl)) (fun args os r os' h => by
    unfold spec14 at h
    split at h
    · exact (e14 _).trans h
    · exact (e14_1 ).trans h
    · cases h)
end Go.Vx
namespace Go.Vx
open Go
noncomputable def G15 : FuncId → Option (Spec E) := fun _ => none
theorem hG15 (hL : Laws E) : ∀ f spec, G15 f = some spec → Valid E f spec := by
  intro f spec h
  cases h
noncomputable def w15 (m : List (Int × Int)) (c : Int) : Tree (RV E.A × List (Obj E.A)) :=
 .leaf (.tup [(false, [.int .i32 ((@mget K E K.u16 K.i32 m c).getD (Int.ofNat (0 : Nat)))]), (false, [.bool ((@mget K E K.u16 K.i32 m c).isSome)])], [.map .u16 .i32 m])
theorem e15 (m : List (Int × Int)) (c : Int) : execFun E G15 (fun _ _ => .fail) false Go.Proofs.Tryd.f15 [.agg [.mp 0 0], .lf (.int .u16 c)] [.map .u16 .i32 m] some = (w15 m c).get := by kernel_rfl
noncomputable def w15_1 (c : Int) : Tree (RV E.A × List (Obj E.A)) :=
 .leaf (.tup [(false, [.int .i32 (Int.ofNat (0 : Nat))]), (false, [.bool false])], [])
theorem e15_1 (c : Int) : execFun E G15 (fun _ _ => .fail) false Go.Proofs.Tryd.f15 [.agg [.lit (.map none)], .lf (.int .u16 c)] [] some = (w15_1 c).get := by kernel_rfl
noncomputable def spec15 : Spec E := fun args os => match args, os with
  | [.agg [.mp 0 0], .lf (.int .u16 c)], [.map .u16 .i32 m] => w15 m c
  | [.agg [.lit (.map none)], .lf (.int .u16 c)], [] => w15_1 c
  | _, _ => .fail
theorem valid15 (hL : Laws E) : Valid E 15 spec15 :=
  valid_of_body hL (hG15 hL) (Λ := fun _ _ => .fail) (fn := Go.Proofs.Tryd.f15) (keep := false) (by kernel_rfl) (by kernel_rfl) (by kernel_rfl) (LamOK.none (by kernel_rfl)) (fun args os r os' h => by
    unfold spec15 at h
    split at h
    · exact (e15 _ _).trans h
    · exact (e15_1 _).trans h
    · cases h)
end Go.Vx
namespace Go.Vx
open Go
noncomputable def G9 : FuncId → Option (Spec E)
  | 11 => some spec11
  | 12 => some spec12
  | 14 => some spec14
  | 15 => some spec15
  | _ => none
theorem hG9 (hL : Laws E) : ∀ f spec, G9 f = some spec → Valid E f spec := by
  intro f spec h
  unfold G9 at h
  split at h
  · injection h with h; subst h; exact valid11 hL
  · injection h with h; subst h; exact valid12 hL
  · injection h with h; subst h; exact valid14 hL
  · injection h with h; subst h; exact valid15 hL
  · cases h
noncomputable def w9  : Tree (RV E.A × List (Obj E.A)) :=
 .ite (decide ((Px.build' [((65 : Int), (3 : Int))]).length ≤ (1000000000 : Nat)) && Px.ascii' (Px.build' [((65 : Int), (3 : Int))]))
 (.ite (eqI (Px.parse' (Px.build' [((65 : Int), (3 : Int))])).fst (0 : Int))
  (.ite ((mget_u16_i32 (Px.parse' (Px.build' [((65 : Int), (3 : Int))])).snd (3 : Int)).isSome)
   (.ite (eqI ((mget_u16_i32 (Px.parse' (Px.build' [((65 : Int), (3 : Int))])).snd (3 : Int)).getD (Int.ofNat (0 : Nat))) (65 : Int))
    (.ite (decide ((Px.parse' (Px.build' [((65 : Int), (3 : Int))])).snd.length ≤ (2 : Nat) ^ (62 : Nat)))
     (.leaf (.lf (.bool (eqI (↑(Px.parse' (Px.build' [((65 : Int), (3 : Int))])).snd.length : Int) (1 : Int))), []))
     (.fail))
    (.leaf (.lf (.bool false), [])))
   (.leaf (.lf (.bool false), [])))
  (.ite (eqI (Px.parse' (Px.build' [((65 : Int), (3 : Int))])).fst (0 : Int))
   (.leaf (.lf (.bool false), []))
   (.leaf (.lf (.bool false), []))))
 (.fail)
theorem e9  : execFun E G9 (fun _ _ => .fail) false Go.Proofs.Tryd.f9 [] [] some = (w9 ).get := by kernel_rfl
noncomputable def raw9 : Spec E := fun args os => match args, os with
  | [], [] => w9
  | _, _ => .fail
theorem validraw9 (hL : Laws E) : Valid E 9 raw9 :=
  valid_of_body hL (hG9 hL) (Λ := fun _ _ => .fail) (fn := Go.Proofs.Tryd.f9) (keep := false) (by kernel_rfl) (by kernel_rfl) (by kernel_rfl) (LamOK.none (by kernel_rfl)) (fun args os r os' h => by
    unfold raw9 at h
    split at h
    · exact (e9 ).trans h
    · cases h)
theorem eq9 : w9.get = some (.lf (.bool true), []) := by
  unfold w9
  rw [Px.ascii'_eq, Px.parse'_eq, Px.build'_eq]
  kernel_rfl
noncomputable def spec9 : Spec E := fun args os => match args, os with
  | [], [] => .leaf (.lf (.bool true), [])
  | _, _ => .fail
theorem valid9 (hL : Laws E) : Valid E 9 spec9 := (validraw9 hL).less (fun args os x _ _ h => by
  unfold spec9 at h
  split at h
  · exact eq9.trans h
  · cases h)
end Go.Vx
namespace Go.Vx
open Go
noncomputable def G3 : FuncId → Option (Spec E)
  | 9 => some spec9
  | 10 => some spec10
  | 11 => some spec11
  | 12 => some spec12
  | 13 => some spec13
  | 14 => some spec14
  | 15 => some spec15
  | _ => none
theorem hG3 (hL : Laws E) : ∀ f spec, G3 f = some spec → Valid E f spec := by
  intro f spec h
  unfold G3 at h
  split at h
  · injection h with h; subst h; exact valid9 hL
  · injection h with h; subst h; exact valid10 hL
  · injection h with h; subst h; exact valid11 hL
  · injection h with h; subst h; exact valid12 hL
  · injection h with h; subst h; exact valid13 hL
  · injection h with h; subst h; exact valid14 hL
  · injection h with h; subst h; exact valid15 hL
  · cases h
def L3_0 : Ex → Live
  | .normal => ⟨[3, 13, 15, 60, 61, 62], [896, 2688]⟩
  | .exit 0 => ⟨[3, 13, 15], [896, 2688]⟩
  | .ret => ⟨[8], []⟩
  | _ => ⟨[], []⟩
noncomputable def S3_0 (p3 : Int) (p60 : List (Int × Int)) (p61 : Int) (x : Bool × Int × (List (Int × Int))) : St E.A := at' E 98 [(3, .lf (.int .u16 p3)), (13, .lf (.ptr 896 0 0)), (15, .lf (.bool x.1)), (60, .lf (.sl .pair p60)), (61, .lf (.int .i64 p61)), (62, .lf (.int .i64 x.2.1))] [(896, some (.cells 34 [.mp 2688 0])), (2688, some (.map .u16 .i32 x.2.2))]
noncomputable def t3_0 (p3 : Int) (p60 : List (Int × Int)) (p61 : Int) (x : Bool × Int × (List (Int × Int))) : Tree (Bool × Int × (List (Int × Int)) ⊕ Out' E) :=
 .ite (ltI x.snd.fst p61)
 (.ite (inB x.snd.fst p60.length)
  (.ite (!(mget_u16_i32 x.snd.snd (p60.getD x.snd.fst.toNat ((0 : Int), (0 : Int))).snd).isSome)
   (.leaf (.inr (.ret, at' E 98 [(8, .lf (.bool false))] [])))
   (.ite (!eqI ((mget_u16_i32 x.snd.snd (p60.getD x.snd.fst.toNat ((0 : Int), (0 : Int))).snd).getD (Int.ofNat (0 : Nat))) (p60.getD x.snd.fst.toNat ((0 : Int), (0 : Int))).fst)
    (.leaf (.inr (.ret, at' E 98 [(8, .lf (.bool false))] [])))
    (.ite x.fst
     (.leaf (.inl (true, (IntKind.i64.wrap (x.snd.fst + (1 : Int))), x.snd.snd)))
     (.leaf (.inl ((eqI (p60.getD x.snd.fst.toNat ((0 : Int), (0 : Int))).snd p3), (IntKind.i64.wrap (x.snd.fst + (1 : Int))), x.snd.snd))))))
  (.fail))
 (.leaf (.inr (.exit 0, at' E 98 [(3, .lf (.int .u16 p3)), (13, .lf (.ptr 896 0 0)), (15, .lf (.bool x.fst))] [(896, some (.cells 34 [.mp 2688 0])), (2688, some (.map .u16 .i32 x.snd.snd))])))
theorem h3_0 (p3 : Int) (p60 : List (Int × Int)) (p61 : Int) (x : Bool × Int × (List (Int × Int))) (k : Ex → St E.A → Option Unit) :
    exec E G3 (fun _ _ => .fail) 1 (lb Go.Proofs.Tryd.f3 0) (S3_0 p3 p60 p61 x) (fun e σ1 => k e (clean E (L3_0 e) σ1)) = (t3_0 p3 p60 p61 x).run (Sum.elim (fun x' => k .normal (S3_0 p3 p60 p61 x')) (fun o => k o.1 o.2)) := by kernel_rfl
end Go.Vx
namespace Px
def looks (m : Map) (l : List (Int × Int)) : Bool := l.all fun y => (mg m y.2).isSome && Go.Vx.eqI ((mg m y.2).getD 0) y.1
end Px
namespace Go.Vx
open Go
noncomputable def lam3_0 (p3 : Int) (p60 : List (Int × Int)) (p61 : Int) (x : Bool × Int × (List (Int × Int))) : Tree (Out' E) :=
  .ite (eqI p61 p60.length && leI 0 x.2.1 && leI x.2.1 p61)
   (.ite (Px.looks x.2.2 (p60.drop x.2.1.toNat)) (.leaf (.exit 0, at' E 98 [(3, .lf (.int .u16 p3)), (13, .lf (.ptr 896 0 0)), (15, .lf (.bool (x.1 || Px.has (p60.drop x.2.1.toNat) p3)))] [(896, some (.cells 34 [.mp 2688 0])), (2688, some (.map .u16 .i32 x.2.2))]))
     (.leaf (.ret, at' E 98 [(8, .lf (.bool false))] []))) .fail
theorem lo3 {O : Type} (m : Px.Map) (c : Int) (o1 : O) (done : Bool → O) : ∀ (l : List (Int × Int)) (b : Bool), loopO (fun b y => some (if ((Px.mg m y.2).isSome && eqI ((Px.mg m y.2).getD 0) y.1) = true then .inl (b || eqI y.2 c) else .inr o1)) done l b = some (if Px.looks m l = true then done (b || Px.has l c) else o1)
  | [], b => by simp [loopO, Px.looks, Px.has]
  | y :: l, b => by
    unfold loopO
    have ih := lo3 m c o1 done l (b || eqI y.2 c)
    cases h : ((Px.mg m y.2).isSome && eqI ((Px.mg m y.2).getD 0) y.1) with
    | true => simp only [if_true, ih, Px.looks, List.all_cons, h, Bool.true_and, Px.has, List.any_cons, Bool.or_assoc]
    | false => simp [Px.looks, h]
theorem m3_0 {p3 : Int} {p60 : List (Int × Int)} {p61 : Int} {x : Bool × Int × (List (Int × Int))} {e : Ex} {σ : St E.A} (g : okLenR (E := E) (.lf (.sl .pair p60)) = true)
    (h : (lam3_0 p3 p60 p61 x).get = some (e, σ)) : ∃ fuel, iter (t3_0 p3 p60 p61) fuel x = some (e, σ) ∧ e ≠ .normal := by
  have hb : (p60.length : Int) ≤ 9223372036854775807 := len64 (k := .pair) (of_decide_eq_true g)
  obtain ⟨b, i, m⟩ := x
  unfold lam3_0 at h
  have h' := Tree.get_ite_some h
  clear h
  rcases h' with ⟨h1, h⟩ | ⟨_, h⟩
  · simp only [eqI_eq, leI_eq, Bool.and_eq_true, decide_eq_true_eq] at h1
    obtain ⟨⟨rfl, h3⟩, h4⟩ := h1
    obtain ⟨i, rfl⟩ : ∃ j : Nat, i = (j : Int) := ⟨i.toNat, by omega⟩
    simp only [Int.toNat_natCast] at h
    refine ⟨_, iter_idx (t := t3_0 p3 p60 p60.length) (fun i b => (b, i, m)) p60 (0, 0) (fun b y => some (if ((Px.mg m y.2).isSome && eqI ((Px.mg m y.2).getD 0) y.1) = true then .inl (b || eqI y.2 p3) else .inr (.ret, at' E 98 [(8, .lf (.bool false))] [])))
      (fun b => (.exit 0, at' E 98 [(3, .lf (.int .u16 p3)), (13, .lf (.ptr 896 0 0)), (15, .lf (.bool b))] [(896, some (.cells 34 [.mp 2688 0])), (2688, some (.map .u16 .i32 m))])) (fun i b y hi hy => ?_) (fun b => ?_) _ i b _ ?_ (Nat.lt_succ_self _) (by omega), ?_⟩
    · injection hy with hy; subst hy
      unfold t3_0
      have e1 : IntKind.i64.wrap ((i : Int) + 1) = ((i + 1 : Nat) : Int) := by rw [wi64] <;> omega
      have hin : inB (i : Int) p60.length = true := inB_true.2 ⟨by omega, by omega⟩
      have hlt : ltI (i : Int) p60.length = true := by rw [ltI_eq]; exact decide_eq_true (by omega)
      have e2 : ∀ a : Int, mget_u16_i32 m a = Px.mg m a := fun a => rfl
      have e3 : (Int.ofNat 0 : Int) = 0 := rfl
      simp only [Tree.get_ite, hin, hlt, cond_true, e1, Int.toNat_natCast, e2, e3]
      cases (Px.mg m (p60.getD i (0, 0)).2).isSome <;> cases eqI ((Px.mg m (p60.getD i (0, 0)).2).getD 0) (p60.getD i (0, 0)).1 <;> cases b <;> rfl
    · unfold t3_0
      have hlt : ltI (p60.length : Int) p60.length = false := by rw [ltI_eq]; exact decide_eq_false (by omega)
      simp only [Tree.get_ite, hlt]; rfl
    · rw [lo3]
      rcases Tree.get_ite_some h with ⟨h1, h⟩ | ⟨h1, h⟩ <;> rw [h1] <;> exact h
    · rcases Tree.get_ite_some h with ⟨_, h⟩ | ⟨_, h⟩ <;> (injection h with h; injection h with h1 _; rw [← h1]; intro hh; cases hh)
  · cases h
noncomputable def rd3_0 (σ : St E.A) : Tree (Out' E) :=
  let c := clean E (L3_0 .normal) σ
  if c.sl.length = 98 then
  match c.sl.getD 3 .undef, c.sl.getD 13 .undef, c.sl.getD 15 .undef, c.sl.getD 60 .undef, c.sl.getD 61 .undef, c.sl.getD 62 .undef, c.ob 896, c.ob 2688 with
  | .lf (.int .u16 p3), .lf (.ptr 896 0 0), .lf (.bool x15), .lf (.sl .pair p60), .lf (.int .i64 p61), .lf (.int .i64 x62), some (.cells 34 [.mp 2688 0]), some (.map .u16 .i32 o2688a) => lam3_0 p3 p60 p61 (x15, x62, o2688a)
  | _, _, _, _, _, _, _, _ => .fail
  else .fail
theorem ll3_0 (hL : Laws E) (σ : St E.A) (e : Ex) (σ' : St E.A) (h : (rd3_0 σ).get = some (e, σ')) : LoopOK E (lb Go.Proofs.Tryd.f3 0) σ e σ' := by
  refine LoopOK.of_clean hL (L3_0 .normal) ?_
  unfold rd3_0 at h
  simp only at h
  split at h
  · rename_i hlen
    split at h
    · rename_i p3 x15 p60 p61 x62 o2688a h0 h1 h2 h3 h4 h5 h6 h7
      refine LoopOK.lens 60 (fun g0 => ?_)
      rw [h3] at g0
      obtain ⟨fuel, hi, ho⟩ := m3_0 g0 h
      have hl := loop_at (Γ := G3) (Λ := fun _ _ => .fail) (n := 1) (body := lb Go.Proofs.Tryd.f3 0) hL (hG3 hL) (S := S3_0 p3 p60 p61) (t := t3_0 p3 p60 p61) (Lv := L3_0) (LamOK.none (by kernel_rfl)) (h3_0 p3 p60 p61) hi ho
      refine LoopOK.fit hlen ?_ ?_ rfl rfl hl
      · exact ⟨h0, h1, h2, h3, h4, h5, trivial⟩
      · exact ⟨h6, h7, trivial⟩
    · cases h
  · cases h
noncomputable def Lam3 : Lam E
  | 0, σ => rd3_0 σ
  | _, _ => .fail
noncomputable def w3 (a0 : List Int) (a1 : List Int) (a2 : Int) (a3 : Int) : Tree (RV E.A × List (Obj E.A)) :=
 .ite (Px.allIn IntKind.u32 a0 && decide (a1.length ≤ (140737488355328 : Nat)))
 (.ite (decide ((Px.risen a0 a1 a2).length ≤ (1000000 : Nat)))
  (.ite (!Px.own1 (Px.risen a0 a1 a2))
   (.leaf (.lf (.bool (eqI (↑(Px.build' (Px.risen a0 a1 a2)).length : Int) (0 : Int))), []))
   (.ite (decide ((Px.build' (Px.risen a0 a1 a2)).length ≤ (1000000000 : Nat)) && Px.ascii' (Px.build' (Px.risen a0 a1 a2)))
    (.ite (eqI (Px.parse' (Px.build' (Px.risen a0 a1 a2))).fst (0 : Int))
     (.ite (decide ((Px.risen a0 a1 a2).length ≤ (1000000 : Nat)) && Px.u16s (Px.risen a0 a1 a2))
      (.ite (!decide (Px.build' (Px.risen a0 a1 a2) = Px.refBuild' (Px.risen a0 a1 a2)))
       (.leaf (.lf (.bool false), []))
       (.ite (decide ((Px.parse' (Px.build' (Px.risen a0 a1 a2))).snd.length ≤ (2 : Nat) ^ (62 : Nat)))
        (.ite (!eqI (↑(Px.parse' (Px.build' (Px.risen a0 a1 a2))).snd.length : Int) (↑(Px.risen a0 a1 a2).length : Int))
         (.leaf (.lf (.bool false), []))
         (.ite (eqI (↑(Px.risen a0 a1 a2).length : Int) (↑(Px.risen a0 a1 a2).length : Int) && leI (0 : Int) (0 : Int) && leI (0 : Int) (↑(Px.risen a0 a1 a2).length : Int))
          (.ite (Px.looks (Px.parse' (Px.build' (Px.risen a0 a1 a2))).snd (List.drop (Int.toNat (0 : Int)) (Px.risen a0 a1 a2)))
           (.leaf (.lf (.bool ((mget_u16_i32 (Px.parse' (Px.build' (Px.risen a0 a1 a2))).snd a3).isSome == (false || Px.has (List.drop (Int.toNat (0 : Int)) (Px.risen a0 a1 a2)) a3))), []))
           (.leaf (.lf (.bool false), [])))
          (.fail)))
        (.fail)))
      (.fail))
     (.ite (decide ((Px.risen a0 a1 a2).length ≤ (1000000 : Nat)) && Px.u16s (Px.risen a0 a1 a2))
      (.ite (!decide (Px.build' (Px.risen a0 a1 a2) = Px.refBuild' (Px.risen a0 a1 a2)))
       (.leaf (.lf (.bool false), []))
       (.ite (!eqI (Px.parse' (Px.build' (Px.risen a0 a1 a2))).fst (0 : Int))
        (.leaf (.lf (.bool false), []))
        (.ite (!eqI (0 : Int) (↑(Px.risen a0 a1 a2).length : Int))
         (.leaf (.lf (.bool false), []))
         (.fail))))
      (.fail)))
    (.fail)))
  (.fail))
 (.fail)
theorem e3 (a0 : List Int) (a1 : List Int) (a2 : Int) (a3 : Int) : execFun E G3 ((Lam3)) false Go.Proofs.Tryd.f3 [.lf (.sl .u32 a0), .lf (.sl .u16 a1), .lf (.int .u8 a2), .lf (.int .u16 a3)] [] some = (w3 a0 a1 a2 a3).get := by kernel_rfl
noncomputable def raw3 : Spec E := fun args os => match args, os with
  | [.lf (.sl .u32 a0), .lf (.sl .u16 a1), .lf (.int .u8 a2), .lf (.int .u16 a3)], [] => w3 a0 a1 a2 a3
  | _, _ => .fail
theorem validraw3 (hL : Laws E) : Valid E 3 raw3 :=
  valid_of_body hL (hG3 hL) (Λ := (Lam3)) (fn := Go.Proofs.Tryd.f3) (keep := false) (by kernel_rfl) (by kernel_rfl) (by kernel_rfl) ((LamOK.of (m := 1) (by kernel_rfl) (fun j hj σ e σ' hg => by
      match j, hj with
      | 0, _ => exact ll3_0 hL σ e σ' hg
      ))) (fun args os r os' h => by
    unfold raw3 at h
    split at h
    · exact (e3 _ _ _ _).trans h
    · cases h)
theorem table_facts {p0 p1 : List Int} {p2 : Int} (h0 : Px.allIn .u32 p0 = true) (ho : Px.own1 (Px.risen p0 p1 p2) = true) :
    Px.build (Px.risen p0 p1 p2) = Px.refBuild (Px.risen p0 p1 p2) ∧ (Px.refBuild (Px.risen p0 p1 p2)).length ≤ 10000 ∧ Px.ascii (Px.refBuild (Px.risen p0 p1 p2)) = true ∧ Px.parse (Px.refBuild (Px.risen p0 p1 p2)) = (0, (Px.risen p0 p1 p2).map Px.swap) ∧ Px.looks ((Px.risen p0 p1 p2).map Px.swap) (Px.risen p0 p1 p2) = true := by
  obtain ⟨hs, hn⟩ := Px.own1_iff ho
  have hu := Px.u16s_risen p0 p1 p2
  refine ⟨?_, ?_, Px.ascii_ref _, Px.parse_table hu hs hn, List.all_eq_true.2 fun y hy => ?_⟩
  · unfold Px.build
    rw [Px.right_risen h0, ho]; rfl
  · have h1 := Px.ref_len (Px.risen p0 p1 p2)
    have h2 := Px.risen_len p0 p1 p2
    omega
  · rw [Px.mg_swap _ hn y hy]
    simp [eqI_eq]
theorem eq3 (p0 p1 : List Int) (p2 c : Int) (h0 : Px.allIn .u32 p0 = true) (h1 : p1.length ≤ 140737488355328) : (w3 p0 p1 p2 c).get = some (.lf (.bool true), []) := by
  have hl := Px.risen_len p0 p1 p2
  have d1 : (Px.allIn .u32 p0 && decide (p1.length ≤ 140737488355328)) = true := by rw [h0, decide_eq_true h1]; rfl
  have d2 : decide ((Px.risen p0 p1 p2).length ≤ 1000000) = true := decide_eq_true (by omega)
  have e0 : (Px.risen p0 p1 p2).drop (Int.toNat 0) = Px.risen p0 p1 p2 := rfl
  unfold w3
  rw [Tree.get_ite, d1, cond_true, Tree.get_ite, d2, cond_true, Px.build'_eq, Px.parse'_eq, Px.ascii'_eq, Px.refBuild'_eq]
  cases ho : Px.own1 (Px.risen p0 p1 p2) with
  | false =>
    have hb : Px.build (Px.risen p0 p1 p2) = [] := by unfold Px.build; rw [Px.right_risen h0, ho]; rfl
    rw [hb]; rfl
  | true =>
    obtain ⟨hb, hlen, has, hp, hlk⟩ := table_facts h0 ho
    rw [hb, hp]
    have hu := Px.u16s_risen p0 p1 p2
    generalize Px.risen p0 p1 p2 = R at *
    have d3 : (decide ((Px.refBuild R).length ≤ 1000000000) && Px.ascii (Px.refBuild R)) = true := by rw [has, decide_eq_true (by omega)]; rfl
    have d4 : (decide (R.length ≤ 1000000) && Px.u16s R) = true := by rw [hu, decide_eq_true (by omega)]; rfl
    have d5 : decide (Px.refBuild R = Px.refBuild R) = true := decide_eq_true rfl
    have d6 : decide ((R.map Px.swap).length ≤ 2 ^ 62) = true := decide_eq_true (by rw [List.length_map]; omega)
    have d7 : eqI (((R.map Px.swap).length : Nat) : Int) (R.length : Int) = true := by rw [eqI_eq, List.length_map]; exact decide_eq_true rfl
    have d8 : (eqI (R.length : Int) (R.length : Int) && leI (0 : Int) (0 : Int) && leI (0 : Int) (R.length : Int)) = true := by simp [eqI_eq, leI_eq]
    have d9 : eqI (0 : Int) 0 = true := rfl
    have d10 : (mget_u16_i32 (R.map Px.swap) c).isSome = Px.has R c := Px.mg_has R c
    simp only [Tree.get_ite, Bool.not_true, cond_true, cond_false, d2, d3, d6, d7, d8, d9, e0, hlk, d10, hu, Bool.and_self, decide_true, Bool.false_or, Tree.get_leaf, beq_self_eq_true]
noncomputable def spec3 : Spec E := fun args os => match args, os with
  | [.lf (.sl .u32 p0), .lf (.sl .u16 p1), .lf (.int .u8 p2), .lf (.int .u16 c)], [] => .ite (Px.allIn .u32 p0 && decide (p1.length ≤ 140737488355328)) (.leaf (.lf (.bool true), [])) .fail
  | _, _ => .fail
theorem valid3 (hL : Laws E) : Valid E 3 spec3 := (validraw3 hL).less (fun args os x _ _ h => by
  unfold spec3 at h
  split at h
  · rcases Tree.get_ite_some h with ⟨h1, h⟩ | ⟨_, h⟩
    · simp only [Bool.and_eq_true, decide_eq_true_eq] at h1
      exact (eq3 _ _ _ _ h1.1 h1.2).trans h
    · cases h
  · cases h)
theorem sp3 (p0 p1 : List Int) (p2 c : Int) (h0 : ∀ z ∈ p0, inRb .u32 z = true) (h1 : p1.length * 2 ≤ 140737488355328) : (spec3 [.lf (.sl .u32 p0), .lf (.sl .u16 p1), .lf (.int .u8 p2), .lf (.int .u16 c)] []).get = some (.lf (.bool true), []) := by
  have d1 : (Px.allIn .u32 p0 && decide (p1.length ≤ 140737488355328)) = true := by
    rw [show Px.allIn .u32 p0 = true from List.all_eq_true.2 h0, decide_eq_true (by omega)]; rfl
  show cond (Px.allIn .u32 p0 && decide (p1.length ≤ 140737488355328)) _ _ = _
  rw [d1]; rfl
end Go.Vx
namespace Go.Vx
open Go
noncomputable def G6 : FuncId → Option (Spec E)
  | 9 => some spec9
  | 10 => some spec10
  | 11 => some spec11
  | 12 => some spec12
  | 14 => some spec14
  | 15 => some spec15
  | 25 => some spec25
  | _ => none
theorem hG6 (hL : Laws E) : ∀ f spec, G6 f = some spec → Valid E f spec := by
  intro f spec h
  unfold G6 at h
  split at h
  · injection h with h; subst h; exact valid9 hL
  · injection h with h; subst h; exact valid10 hL
  · injection h with h; subst h; exact valid11 hL
  · injection h with h; subst h; exact valid12 hL
  · injection h with h; subst h; exact valid14 hL
  · injection h with h; subst h; exact valid15 hL
  · injection h with h; subst h; exact valid25 hL
  · cases h
def L6_0 : Ex → Live
  | .normal => ⟨[2, 7, 10, 11, 32, 33, 34], []⟩
  | .exit 0 => ⟨[7, 10], []⟩
  | .ret => ⟨[6], []⟩
  | _ => ⟨[], []⟩
noncomputable def S6_0 (p2 : List UInt8) (p7 : List (Int × Int)) (p32 : List UInt8) (p33 : Int) (x : (List UInt8) × Int × Int) : St E.A := at' E 109 [(2, .lf (.sl .u8 p2)), (7, .lf (.sl .pair p7)), (10, .lf (.own 0 0 .u8 x.1)), (11, .lf (.int .i64 x.2.1)), (32, .lf (.sl .u8 p32)), (33, .lf (.int .i64 p33)), (34, .lf (.int .i64 x.2.2))] []
noncomputable def t6_0 (p2 : List UInt8) (p7 : List (Int × Int)) (p32 : List UInt8) (p33 : Int) (x : (List UInt8) × Int × Int) : Tree ((List UInt8) × Int × Int ⊕ Out' E) :=
 .ite (ltI x.snd.snd p33)
 (.ite (inB x.snd.snd p32.length)
  (.ite (eqI (↑(p32.getD x.snd.snd.toNat (0 : UInt8)).toNat : Int) (10 : Int))
   (.ite (ltI x.snd.fst (↑p2.length : Int))
    (.ite (inB x.snd.fst p2.length)
     (.ite (inB ((↑(p2.getD x.snd.fst.toNat (0 : UInt8)).toNat : Int).tmod (4 : Int)) [[(10 : UInt8)], [(32 : UInt8), (37 : UInt8), (32 : UInt8), (60 : UInt8), (97 : UInt8), (98 : UInt8), (10 : UInt8)], [(9 : UInt8), (13 : UInt8)], [(32 : UInt8)]].length)
      (.ite (decide ((x.fst.length + ([[(10 : UInt8)], [(32 : UInt8), (37 : UInt8), (32 : UInt8), (60 : UInt8), (97 : UInt8), (98 : UInt8), (10 : UInt8)], [(9 : UInt8), (13 : UInt8)], [(32 : UInt8)]].getD ((↑(p2.getD x.snd.fst.toNat (0 : UInt8)).toNat : Int).tmod (4 : Int)).toNat []).length) * (1 : Nat) ≤ (140737488355328 : Nat)))
       (.leaf (.inl ((x.fst ++ [[(10 : UInt8)], [(32 : UInt8), (37 : UInt8), (32 : UInt8), (60 : UInt8), (97 : UInt8), (98 : UInt8), (10 : UInt8)], [(9 : UInt8), (13 : UInt8)], [(32 : UInt8)]].getD ((↑(p2.getD x.snd.fst.toNat (0 : UInt8)).toNat : Int).tmod (4 : Int)).toNat []), (IntKind.i64.wrap (x.snd.fst + (1 : Int))), (IntKind.i64.wrap (x.snd.snd + (1 : Int))))))
       (.fail))
      (.fail))
     (.fail))
    (.ite (decide ((x.fst.length + [UInt8.ofNat (↑(p32.getD x.snd.snd.toNat (0 : UInt8)).toNat : Int).toNat].length) * (1 : Nat) ≤ (140737488355328 : Nat)))
     (.leaf (.inl ((x.fst ++ [UInt8.ofNat (↑(p32.getD x.snd.snd.toNat (0 : UInt8)).toNat : Int).toNat]), x.snd.fst, (IntKind.i64.wrap (x.snd.snd + (1 : Int))))))
     (.fail)))
   (.ite (eqI (↑(p32.getD x.snd.snd.toNat (0 : UInt8)).toNat : Int) (32 : Int))
    (.ite (ltI x.snd.fst (↑p2.length : Int))
     (.ite (inB x.snd.fst p2.length)
      (.ite (inB ((↑(p2.getD x.snd.fst.toNat (0 : UInt8)).toNat : Int).tmod (4 : Int)) [[(10 : UInt8)], [(32 : UInt8), (37 : UInt8), (32 : UInt8), (60 : UInt8), (97 : UInt8), (98 : UInt8), (10 : UInt8)], [(9 : UInt8), (13 : UInt8)], [(32 : UInt8)]].length)
       (.ite (decide ((x.fst.length + ([[(10 : UInt8)], [(32 : UInt8), (37 : UInt8), (32 : UInt8), (60 : UInt8), (97 : UInt8), (98 : UInt8), (10 : UInt8)], [(9 : UInt8), (13 : UInt8)], [(32 : UInt8)]].getD ((↑(p2.getD x.snd.fst.toNat (0 : UInt8)).toNat : Int).tmod (4 : Int)).toNat []).length) * (1 : Nat) ≤ (140737488355328 : Nat)))
        (.leaf (.inl ((x.fst ++ [[(10 : UInt8)], [(32 : UInt8), (37 : UInt8), (32 : UInt8), (60 : UInt8), (97 : UInt8), (98 : UInt8), (10 : UInt8)], [(9 : UInt8), (13 : UInt8)], [(32 : UInt8)]].getD ((↑(p2.getD x.snd.fst.toNat (0 : UInt8)).toNat : Int).tmod (4 : Int)).toNat []), (IntKind.i64.wrap (x.snd.fst + (1 : Int))), (IntKind.i64.wrap (x.snd.snd + (1 : Int))))))
        (.fail))
       (.fail))
      (.fail))
     (.ite (decide ((x.fst.length + [UInt8.ofNat (↑(p32.getD x.snd.snd.toNat (0 : UInt8)).toNat : Int).toNat].length) * (1 : Nat) ≤ (140737488355328 : Nat)))
      (.leaf (.inl ((x.fst ++ [UInt8.ofNat (↑(p32.getD x.snd.snd.toNat (0 : UInt8)).toNat : Int).toNat]), x.snd.fst, (IntKind.i64.wrap (x.snd.snd + (1 : Int))))))
      (.fail)))
    (.ite (decide ((x.fst.length + [UInt8.ofNat (↑(p32.getD x.snd.snd.toNat (0 : UInt8)).toNat : Int).toNat].length) * (1 : Nat) ≤ (140737488355328 : Nat)))
     (.leaf (.inl ((x.fst ++ [UInt8.ofNat (↑(p32.getD x.snd.snd.toNat (0 : UInt8)).toNat : Int).toNat]), x.snd.fst, (IntKind.i64.wrap (x.snd.snd + (1 : Int))))))
     (.fail))))
  (.fail))
 (.leaf (.inr (.exit 0, at' E 109 [(7, .lf (.sl .pair p7)), (10, .lf (.own 0 0 .u8 x.fst))] [])))
theorem h6_0 (p2 : List UInt8) (p7 : List (Int × Int)) (p32 : List UInt8) (p33 : Int) (x : (List UInt8) × Int × Int) (k : Ex → St E.A → Option Unit) :
    exec E G6 (fun _ _ => .fail) 1 (lb Go.Proofs.Tryd.f6 0) (S6_0 p2 p7 p32 p33 x) (fun e σ1 => k e (clean E (L6_0 e) σ1)) = (t6_0 p2 p7 p32 p33 x).run (Sum.elim (fun x' => k .normal (S6_0 p2 p7 p32 p33 x')) (fun o => k o.1 o.2)) := by kernel_rfl
end Go.Vx
namespace Px
/-- what a blank may be turned into -/
def sepOf (b : UInt8) : List UInt8 := ([[10], [32, 37, 32, 60, 97, 98, 10], [9, 13], [32]] : List (List UInt8)).getD (b.toNat % 4) []
def isBl (c : UInt8) : Bool := decide (c = 10) || decide (c = 32)
/-- blanks turned, as long as there are any to turn them into -/
def spaced (s : List UInt8) : Nat → List UInt8 → List UInt8
  | _, [] => []
  | k, c :: r => cond (isBl c && Nat.blt k s.length) (sepOf (s.getD k 0) ++ spaced s (k + 1) r) (c :: spaced s k r)
theorem sepOf_len (b : UInt8) : (sepOf b).length ≤ 7 := by
  have := all_u8 (q := fun b => Nat.ble (sepOf b).length 7) (by kernel_rfl) b
  exact Nat.le_of_ble_eq_true this
end Px
namespace Go.Vx
open Go
noncomputable def lam6_0 (p2 : List UInt8) (p7 : List (Int × Int)) (p32 : List UInt8) (p33 : Int) (x : (List UInt8) × Int × Int) : Tree (Out' E) :=
  .ite (eqI p33 p32.length && leI 0 x.2.2 && leI x.2.2 p33 && leI 0 x.2.1 && leI x.2.1 x.2.2 && decide (p32.length ≤ 1000000) && decide ((x.1.length : Int) ≤ 7 * x.2.2))
   (.leaf (.exit 0, at' E 109 [(7, .lf (.sl .pair p7)), (10, .lf (.own 0 0 .u8 (x.1 ++ Px.spaced p2 x.2.1.toNat (p32.drop x.2.2.toNat))))] [])) .fail
abbrev St6 := List UInt8 × Nat
def f6 (p2 : List UInt8) (s : St6) (c : UInt8) : St6 := if (Px.isBl c && Nat.blt s.2 p2.length) = true then (s.1 ++ Px.sepOf (p2.getD s.2 0), s.2 + 1) else (s.1 ++ [c], s.2)
theorem lo6 {O : Type} (p2 : List UInt8) (done : St6 → O) : ∀ (l : List UInt8) (j : Nat) (s : St6), j + l.length ≤ 1000000 → s.2 ≤ j → s.1.length ≤ 7 * j → ∃ k, loopO (fun s c => if s.2 ≤ 1000000 ∧ s.1.length ≤ 7 * 1000000 then some (.inl (f6 p2 s c)) else none) done l s = some (done (s.1 ++ Px.spaced p2 s.2 l, k))
  | [], _, s, _, _, _ => ⟨s.2, by simp [loopO, Px.spaced]⟩
  | c :: l, j, s, h1, h2, h3 => by
    rw [List.length_cons] at h1
    have hs := Px.sepOf_len (p2.getD s.2 0)
    have hf : (f6 p2 s c).1.length ≤ s.1.length + 7 ∧ (f6 p2 s c).2 ≤ s.2 + 1 := by
      unfold f6
      split
      · simp only [List.length_append]; omega
      · simp only [List.length_append, List.length_cons, List.length_nil]; omega
    obtain ⟨k, ih⟩ := lo6 p2 done l (j + 1) (f6 p2 s c) (by omega) (by omega) (by omega)
    refine ⟨k, ?_⟩
    unfold loopO
    rw [if_pos (by omega)]
    simp only [ih]
    have e : (f6 p2 s c).1 ++ Px.spaced p2 (f6 p2 s c).2 l = s.1 ++ Px.spaced p2 s.2 (c :: l) := by
      have e0 : Px.spaced p2 s.2 (c :: l) = cond (Px.isBl c && Nat.blt s.2 p2.length) (Px.sepOf (p2.getD s.2 0) ++ Px.spaced p2 (s.2 + 1) l) (c :: Px.spaced p2 s.2 l) := rfl
      rw [e0]
      unfold f6
      cases hb : (Px.isBl c && Nat.blt s.2 p2.length) with
      | true => simp only [if_true, cond_true, List.append_assoc]
      | false => simp only [Bool.false_eq_true, if_false, cond_false, List.append_assoc, List.singleton_append]
    rw [e]
theorem m6_0 {p2 : List UInt8} {p7 : List (Int × Int)} {p32 : List UInt8} {p33 : Int} {x : (List UInt8) × Int × Int} {e : Ex} {σ : St E.A} (g2 : okLenR (E := E) (.lf (.sl .u8 p2)) = true) (_ : okLenR (E := E) (.lf (.sl .pair p7)) = true) (_ : okLenR (E := E) (.lf (.own 0 0 .u8 x.1)) = true) (_ : okLenR (E := E) (.lf (.sl .u8 p32)) = true)
    (h : (lam6_0 p2 p7 p32 p33 x).get = some (e, σ)) : ∃ fuel, iter (t6_0 p2 p7 p32 p33) fuel x = some (e, σ) ∧ e ≠ .normal := by
  have hb2 : (p2.length : Int) ≤ 9223372036854775807 := len64 (k := .u8) (of_decide_eq_true g2)
  obtain ⟨s, k, i⟩ := x
  unfold lam6_0 at h
  have h' := Tree.get_ite_some h
  clear h
  rcases h' with ⟨h1, h⟩ | ⟨_, h⟩
  · simp only [eqI_eq, leI_eq, Bool.and_eq_true, decide_eq_true_eq] at h1
    obtain ⟨⟨⟨⟨⟨⟨rfl, h3⟩, h4⟩, h5⟩, h6⟩, h7⟩, h8⟩ := h1
    obtain ⟨i, rfl⟩ : ∃ j : Nat, i = (j : Int) := ⟨i.toNat, by omega⟩
    obtain ⟨k, rfl⟩ : ∃ j : Nat, k = (j : Int) := ⟨k.toNat, by omega⟩
    simp only [Int.toNat_natCast] at h
    obtain ⟨k', hlo⟩ := lo6 p2 (fun s => ((.exit 0, at' E 109 [(7, .lf (.sl .pair p7)), (10, .lf (.own 0 0 .u8 s.1))] []) : Out' E)) (p32.drop i) i (s, k) (by rw [List.length_drop]; omega) (by simp only; omega) (by simp only; omega)
    refine ⟨_, iter_idx (S := St6) (t := t6_0 p2 p7 p32 p32.length) (fun i s => (s.1, (s.2 : Int), i)) p32 0 (fun s c => if s.2 ≤ 1000000 ∧ s.1.length ≤ 7 * 1000000 then some (.inl (f6 p2 s c)) else none) (fun s => (.exit 0, at' E 109 [(7, .lf (.sl .pair p7)), (10, .lf (.own 0 0 .u8 s.1))] [])) (fun i s y hi hy => ?_) (fun s => ?_) _ i (s, k) _ ?_ (Nat.lt_succ_self _) (by omega), ?_⟩
    · split at hy
      · rename_i hs
        injection hy with hy; subst hy
        obtain ⟨s, k⟩ := s
        simp only at hs
        unfold t6_0
        have e1 : IntKind.i64.wrap ((i : Int) + 1) = ((i + 1 : Nat) : Int) := by rw [wi64] <;> omega
        have e2 : IntKind.i64.wrap ((k : Int) + 1) = ((k + 1 : Nat) : Int) := by rw [wi64] <;> omega
        have hin : inB (i : Int) p32.length = true := inB_true.2 ⟨by omega, by omega⟩
        have hlt : ltI (i : Int) p32.length = true := by rw [ltI_eq]; exact decide_eq_true (by omega)
        generalize hc : p32.getD i 0 = c
        have q1 : eqI ((c.toNat : Int)) 10 = decide (c = 10) := eqI_lit c 10 10 rfl
        have q2 : eqI ((c.toNat : Int)) 32 = decide (c = 32) := eqI_lit c 32 32 rfl
        have q3 : ∀ b : UInt8, ((b.toNat : Int).tmod 4) = ((b.toNat % 4 : Nat) : Int) := fun b => by rw [Int.tmod_eq_emod_of_nonneg (by omega)]; omega
        have q4 : ∀ b : UInt8, inB ((b.toNat % 4 : Nat) : Int) ([[(10 : UInt8)], [(32 : UInt8), (37 : UInt8), (32 : UInt8), (60 : UInt8), (97 : UInt8), (98 : UInt8), (10 : UInt8)], [(9 : UInt8), (13 : UInt8)], [(32 : UInt8)]] : List (List UInt8)).length = true := fun b => inB_true.2 ⟨by omega, by simp only [List.length_cons, List.length_nil]; omega⟩
        have hsep := Px.sepOf_len (p2.getD k 0)
        have q6 : ([[(10 : UInt8)], [(32 : UInt8), (37 : UInt8), (32 : UInt8), (60 : UInt8), (97 : UInt8), (98 : UInt8), (10 : UInt8)], [(9 : UInt8), (13 : UInt8)], [(32 : UInt8)]] : List (List UInt8)).getD ((p2.getD k 0).toNat % 4) [] = Px.sepOf (p2.getD k 0) := rfl
        have d1 : decide ((s.length + (Px.sepOf (p2.getD k 0)).length) * 1 ≤ 140737488355328) = true := decide_eq_true (by omega)
        have d2 : decide ((s.length + ([c] : List UInt8).length) * 1 ≤ 140737488355328) = true := decide_eq_true (by simp only [List.length_cons, List.length_nil]; omega)
        simp only [Tree.get_ite, hin, hlt, cond_true, e1, e2, Int.toNat_natCast, hc, q1, q2, q3, q4, UInt8.ofNat_toNat, q6, d1, d2]
        unfold f6
        by_cases hk : k < p2.length
        · have w1 : ltI (k : Int) (p2.length : Int) = true := by rw [ltI_eq]; exact decide_eq_true (by omega)
          have w2 : inB (k : Int) p2.length = true := inB_true.2 ⟨by omega, by omega⟩
          have w3 : Nat.blt k p2.length = true := by rw [Nat.blt_eq]; exact hk
          simp only [w1, w2, w3, Bool.and_true, Px.isBl]
          cases decide (c = 10) <;> cases decide (c = 32) <;> rfl
        · have w1 : ltI (k : Int) (p2.length : Int) = false := by rw [ltI_eq]; exact decide_eq_false (by omega)
          have w3 : Nat.blt k p2.length = false := by rw [Bool.eq_false_iff]; intro h; rw [Nat.blt_eq] at h; exact hk h
          simp only [w1, w3, Bool.and_false, Bool.false_eq_true, if_false]
          cases decide (c = 10) <;> cases decide (c = 32) <;> rfl
      · cases hy
    · unfold t6_0
      have hlt : ltI (p32.length : Int) p32.length = false := by rw [ltI_eq]; exact decide_eq_false (by omega)
      simp only [Tree.get_ite, hlt]; rfl
    · rw [hlo]; exact h
    · injection h with h; injection h with h1 _; rw [← h1]; intro hh; cases hh
  · cases h
noncomputable def rd6_0 (σ : St E.A) : Tree (Out' E) :=
  let c := clean E (L6_0 .normal) σ
  if c.sl.length = 109 then
  match c.sl.getD 2 .undef, c.sl.getD 7 .undef, c.sl.getD 10 .undef, c.sl.getD 11 .undef, c.sl.getD 32 .undef, c.sl.getD 33 .undef, c.sl.getD 34 .undef with
  | .lf (.sl .u8 p2), .lf (.sl .pair p7), .lf (.own 0 0 .u8 x10), .lf (.int .i64 x11), .lf (.sl .u8 p32), .lf (.int .i64 p33), .lf (.int .i64 x34) => lam6_0 p2 p7 p32 p33 (x10, x11, x34)
  | _, _, _, _, _, _, _ => .fail
  else .fail
theorem ll6_0 (hL : Laws E) (σ : St E.A) (e : Ex) (σ' : St E.A) (h : (rd6_0 σ).get = some (e, σ')) : LoopOK E (lb Go.Proofs.Tryd.f6 0) σ e σ' := by
  refine LoopOK.of_clean hL (L6_0 .normal) ?_
  unfold rd6_0 at h
  simp only at h
  split at h
  · rename_i hlen
    split at h
    · rename_i p2 p7 x10 x11 p32 p33 x34 h0 h1 h2 h3 h4 h5 h6
      refine LoopOK.lens 2 (fun g0 => ?_)
      rw [h0] at g0
      refine LoopOK.lens 7 (fun g1 => ?_)
      rw [h1] at g1
      refine LoopOK.lens 10 (fun g2 => ?_)
      rw [h2] at g2
      refine LoopOK.lens 32 (fun g3 => ?_)
      rw [h4] at g3
      obtain ⟨fuel, hi, ho⟩ := m6_0 g0 g1 g2 g3 h
      have hl := loop_at (Γ := G6) (Λ := fun _ _ => .fail) (n := 1) (body := lb Go.Proofs.Tryd.f6 0) hL (hG6 hL) (S := S6_0 p2 p7 p32 p33) (t := t6_0 p2 p7 p32 p33) (Lv := L6_0) (LamOK.none (by kernel_rfl)) (h6_0 p2 p7 p32 p33) hi ho
      refine LoopOK.fit hlen ?_ ?_ rfl rfl hl
      · exact ⟨h0, h1, h2, h3, h4, h5, h6, trivial⟩
      · exact trivial
    · cases h
  · cases h
def L6_1 : Ex → Live
  | .normal => ⟨[14, 87, 88, 89], [960, 4864]⟩
  | .exit 2 => ⟨[], []⟩
  | .ret => ⟨[6], []⟩
  | _ => ⟨[], []⟩
noncomputable def S6_1 (p87 : List (Int × Int)) (p88 : Int) (x : Int × (List (Int × Int))) : St E.A := at' E 109 [(14, .lf (.ptr 960 0 0)), (87, .lf (.sl .pair p87)), (88, .lf (.int .i64 p88)), (89, .lf (.int .i64 x.1))] [(960, some (.cells 34 [.mp 4864 0])), (4864, some (.map .u16 .i32 x.2))]
noncomputable def t6_1 (p87 : List (Int × Int)) (p88 : Int) (x : Int × (List (Int × Int))) : Tree (Int × (List (Int × Int)) ⊕ Out' E) :=
 .ite (ltI x.fst p88)
 (.ite (inB x.fst p87.length)
  (.ite (!(mget_u16_i32 x.snd (p87.getD x.fst.toNat ((0 : Int), (0 : Int))).snd).isSome)
   (.leaf (.inr (.ret, at' E 109 [(6, .lf (.bool false))] [])))
   (.ite (!eqI ((mget_u16_i32 x.snd (p87.getD x.fst.toNat ((0 : Int), (0 : Int))).snd).getD (Int.ofNat (0 : Nat))) (p87.getD x.fst.toNat ((0 : Int), (0 : Int))).fst)
    (.leaf (.inr (.ret, at' E 109 [(6, .lf (.bool false))] [])))
    (.leaf (.inl ((IntKind.i64.wrap (x.fst + (1 : Int))), x.snd)))))
  (.fail))
 (.leaf (.inr (.exit 2, at' E 109 [] [])))
theorem h6_1 (p87 : List (Int × Int)) (p88 : Int) (x : Int × (List (Int × Int))) (k : Ex → St E.A → Option Unit) :
    exec E G6 (fun _ _ => .fail) 2 (lb Go.Proofs.Tryd.f6 1) (S6_1 p87 p88 x) (fun e σ1 => k e (clean E (L6_1 e) σ1)) = (t6_1 p87 p88 x).run (Sum.elim (fun x' => k .normal (S6_1 p87 p88 x')) (fun o => k o.1 o.2)) := by kernel_rfl
noncomputable def lam6_1 (p87 : List (Int × Int)) (p88 : Int) (x : Int × (List (Int × Int))) : Tree (Out' E) :=
  .ite (eqI p88 p87.length && leI 0 x.1 && leI x.1 p88)
   (.ite (Px.looks x.2 (p87.drop x.1.toNat)) (.leaf (.exit 2, at' E 109 [] [])) (.leaf (.ret, at' E 109 [(6, .lf (.bool false))] []))) .fail
theorem lo6' {O : Type} (m : Px.Map) (o1 o2 : O) : ∀ (l : List (Int × Int)), loopO (fun (_ : Unit) y => some (if ((Px.mg m y.2).isSome && eqI ((Px.mg m y.2).getD 0) y.1) = true then .inl () else .inr o1)) (fun _ => o2) l () = some (if Px.looks m l = true then o2 else o1)
  | [] => by simp [loopO, Px.looks]
  | y :: l => by
    unfold loopO
    have ih := lo6' m o1 o2 l
    cases h : ((Px.mg m y.2).isSome && eqI ((Px.mg m y.2).getD 0) y.1) with
    | true =>
      have e : Px.looks m (y :: l) = Px.looks m l := by simp only [Px.looks, List.all_cons, h, Bool.true_and]
      rw [e]
      exact ih
    | false => simp [Px.looks, h]
theorem m6_1 {p87 : List (Int × Int)} {p88 : Int} {x : Int × (List (Int × Int))} {e : Ex} {σ : St E.A} (g : okLenR (E := E) (.lf (.sl .pair p87)) = true)
    (h : (lam6_1 p87 p88 x).get = some (e, σ)) : ∃ fuel, iter (t6_1 p87 p88) fuel x = some (e, σ) ∧ e ≠ .normal := by
  have hb : (p87.length : Int) ≤ 9223372036854775807 := len64 (k := .pair) (of_decide_eq_true g)
  obtain ⟨i, m⟩ := x
  unfold lam6_1 at h
  have h' := Tree.get_ite_some h
  clear h
  rcases h' with ⟨h1, h⟩ | ⟨_, h⟩
  · simp only [eqI_eq, leI_eq, Bool.and_eq_true, decide_eq_true_eq] at h1
    obtain ⟨⟨rfl, h3⟩, h4⟩ := h1
    obtain ⟨i, rfl⟩ : ∃ j : Nat, i = (j : Int) := ⟨i.toNat, by omega⟩
    simp only [Int.toNat_natCast] at h
    refine ⟨_, iter_idx (t := t6_1 p87 p87.length) (fun i (_ : Unit) => (i, m)) p87 (0, 0) (fun _ y => some (if ((Px.mg m y.2).isSome && eqI ((Px.mg m y.2).getD 0) y.1) = true then .inl () else .inr (.ret, at' E 109 [(6, .lf (.bool false))] [])))
      (fun _ => (.exit 2, at' E 109 [] [])) (fun i b y hi hy => ?_) (fun b => ?_) _ i () _ ?_ (Nat.lt_succ_self _) (by omega), ?_⟩
    · injection hy with hy; subst hy
      unfold t6_1
      have e1 : IntKind.i64.wrap ((i : Int) + 1) = ((i + 1 : Nat) : Int) := by rw [wi64] <;> omega
      have hin : inB (i : Int) p87.length = true := inB_true.2 ⟨by omega, by omega⟩
      have hlt : ltI (i : Int) p87.length = true := by rw [ltI_eq]; exact decide_eq_true (by omega)
      have e2 : ∀ a : Int, mget_u16_i32 m a = Px.mg m a := fun a => rfl
      have e3 : (Int.ofNat 0 : Int) = 0 := rfl
      simp only [Tree.get_ite, hin, hlt, cond_true, e1, Int.toNat_natCast, e2, e3]
      cases (Px.mg m (p87.getD i (0, 0)).2).isSome <;> cases eqI ((Px.mg m (p87.getD i (0, 0)).2).getD 0) (p87.getD i (0, 0)).1 <;> rfl
    · unfold t6_1
      have hlt : ltI (p87.length : Int) p87.length = false := by rw [ltI_eq]; exact decide_eq_false (by omega)
      simp only [Tree.get_ite, hlt]; rfl
    · rw [lo6']
      rcases Tree.get_ite_some h with ⟨h1, h⟩ | ⟨h1, h⟩ <;> rw [h1] <;> exact h
    · rcases Tree.get_ite_some h with ⟨_, h⟩ | ⟨_, h⟩ <;> (injection h with h; injection h with h1 _; rw [← h1]; intro hh; cases hh)
  · cases h
noncomputable def rd6_1 (σ : St E.A) : Tree (Out' E) :=
  let c := clean E (L6_1 .normal) σ
  if c.sl.length = 109 then
  match c.sl.getD 14 .undef, c.sl.getD 87 .undef, c.sl.getD 88 .undef, c.sl.getD 89 .undef, c.ob 960, c.ob 4864 with
  | .lf (.ptr 960 0 0), .lf (.sl .pair p87), .lf (.int .i64 p88), .lf (.int .i64 x89), some (.cells 34 [.mp 4864 0]), some (.map .u16 .i32 o4864a) => lam6_1 p87 p88 (x89, o4864a)
  | _, _, _, _, _, _ => .fail
  else .fail
theorem ll6_1 (hL : Laws E) (σ : St E.A) (e : Ex) (σ' : St E.A) (h : (rd6_1 σ).get = some (e, σ')) : LoopOK E (lb Go.Proofs.Tryd.f6 1) σ e σ' := by
  refine LoopOK.of_clean hL (L6_1 .normal) ?_
  unfold rd6_1 at h
  simp only at h
  split at h
  · rename_i hlen
    split at h
    · rename_i p87 p88 x89 o4864a h0 h1 h2 h3 h4 h5
      refine LoopOK.lens 87 (fun g0 => ?_)
      rw [h1] at g0
      obtain ⟨fuel, hi, ho⟩ := m6_1 g0 h
      have hl := loop_at (Γ := G6) (Λ := fun _ _ => .fail) (n := 2) (body := lb Go.Proofs.Tryd.f6 1) hL (hG6 hL) (S := S6_1 p87 p88) (t := t6_1 p87 p88) (Lv := L6_1) (LamOK.none (by kernel_rfl)) (h6_1 p87 p88) hi ho
      refine LoopOK.fit hlen ?_ ?_ rfl rfl hl
      · exact ⟨h0, h1, h2, h3, trivial⟩
      · exact ⟨h4, h5, trivial⟩
    · cases h
  · cases h
noncomputable def Lam6 : Lam E
  | 0, σ => rd6_0 σ
  | 1, σ => rd6_1 σ
  | _, _ => .fail
noncomputable def w6 (a0 : List Int) (a1 : List Int) (a2 : List UInt8) : Tree (RV E.A × List (Obj E.A)) :=
 .ite (Px.allIn IntKind.u32 a0 && decide (a1.length ≤ (140737488355328 : Nat)))
 (.ite (!Px.own1 (Px.risen a0 a1 (0 : Int)))
  (.leaf (.lf (.bool true), []))
  (.ite (decide ((Px.risen a0 a1 (0 : Int)).length ≤ (1000000 : Nat)))
   (.ite (eqI (↑(Px.build' (Px.risen a0 a1 (0 : Int))).length : Int) (↑(Px.build' (Px.risen a0 a1 (0 : Int))).length : Int) && leI (0 : Int) (0 : Int) && leI (0 : Int) (↑(Px.build' (Px.risen a0 a1 (0 : Int))).length : Int) && leI (0 : Int) (0 : Int) && leI (0 : Int) (0 : Int) && decide ((Px.build' (Px.risen a0 a1 (0 : Int))).length ≤ (1000000 : Nat)) && decide ((↑([] : List UInt8).length : Int) ≤ (7 : Int) * (0 : Int)))
    (.ite (decide ([[(47 : UInt8), (65 : UInt8), (32 : UInt8), (60 : UInt8), (60 : UInt8), (47 : UInt8), (66 : UInt8), (32 : UInt8), (91 : UInt8), (49 : UInt8), (93 : UInt8), (62 : UInt8), (62 : UInt8), (32 : UInt8), (100 : UInt8), (101 : UInt8), (102 : UInt8), (32 : UInt8)], [] ++ Px.spaced a2 (Int.toNat (0 : Int)) (List.drop (Int.toNat (0 : Int)) (Px.build' (Px.risen a0 a1 (0 : Int)))), [(32 : UInt8), (101 : UInt8), (110 : UInt8), (100 : UInt8), (99 : UInt8), (109 : UInt8), (97 : UInt8), (112 : UInt8), (32 : UInt8), (123 : UInt8), (120 : UInt8), (125 : UInt8)]].flatten.length ≤ (140737488355328 : Nat)))
     (.ite (decide ([[(47 : UInt8), (65 : UInt8), (32 : UInt8), (60 : UInt8), (60 : UInt8), (47 : UInt8), (66 : UInt8), (32 : UInt8), (91 : UInt8), (49 : UInt8), (93 : UInt8), (62 : UInt8), (62 : UInt8), (32 : UInt8), (100 : UInt8), (101 : UInt8), (102 : UInt8), (32 : UInt8)], [] ++ Px.spaced a2 (Int.toNat (0 : Int)) (List.drop (Int.toNat (0 : Int)) (Px.build' (Px.risen a0 a1 (0 : Int)))), [(32 : UInt8), (101 : UInt8), (110 : UInt8), (100 : UInt8), (99 : UInt8), (109 : UInt8), (97 : UInt8), (112 : UInt8), (32 : UInt8), (123 : UInt8), (120 : UInt8), (125 : UInt8)]].flatten.length ≤ (1000000000 : Nat)) && Px.ascii' [[(47 : UInt8), (65 : UInt8), (32 : UInt8), (60 : UInt8), (60 : UInt8), (47 : UInt8), (66 : UInt8), (32 : UInt8), (91 : UInt8), (49 : UInt8), (93 : UInt8), (62 : UInt8), (62 : UInt8), (32 : UInt8), (100 : UInt8), (101 : UInt8), (102 : UInt8), (32 : UInt8)], [] ++ Px.spaced a2 (Int.toNat (0 : Int)) (List.drop (Int.toNat (0 : Int)) (Px.build' (Px.risen a0 a1 (0 : Int)))), [(32 : UInt8), (101 : UInt8), (110 : UInt8), (100 : UInt8), (99 : UInt8), (109 : UInt8), (97 : UInt8), (112 : UInt8), (32 : UInt8), (123 : UInt8), (120 : UInt8), (125 : UInt8)]].flatten)
      (.ite (eqI (Px.parse' [[(47 : UInt8), (65 : UInt8), (32 : UInt8), (60 : UInt8), (60 : UInt8), (47 : UInt8), (66 : UInt8), (32 : UInt8), (91 : UInt8), (49 : UInt8), (93 : UInt8), (62 : UInt8), (62 : UInt8), (32 : UInt8), (100 : UInt8), (101 : UInt8), (102 : UInt8), (32 : UInt8)], [] ++ Px.spaced a2 (Int.toNat (0 : Int)) (List.drop (Int.toNat (0 : Int)) (Px.build' (Px.risen a0 a1 (0 : Int)))), [(32 : UInt8), (101 : UInt8), (110 : UInt8), (100 : UInt8), (99 : UInt8), (109 : UInt8), (97 : UInt8), (112 : UInt8), (32 : UInt8), (123 : UInt8), (120 : UInt8), (125 : UInt8)]].flatten).fst (0 : Int))
       (.ite (decide ((Px.parse' [[(47 : UInt8), (65 : UInt8), (32 : UInt8), (60 : UInt8), (60 : UInt8), (47 : UInt8), (66 : UInt8), (32 : UInt8), (91 : UInt8), (49 : UInt8), (93 : UInt8), (62 : UInt8), (62 : UInt8), (32 : UInt8), (100 : UInt8), (101 : UInt8), (102 : UInt8), (32 : UInt8)], [] ++ Px.spaced a2 (Int.toNat (0 : Int)) (List.drop (Int.toNat (0 : Int)) (Px.build' (Px.risen a0 a1 (0 : Int)))), [(32 : UInt8), (101 : UInt8), (110 : UInt8), (100 : UInt8), (99 : UInt8), (109 : UInt8), (97 : UInt8), (112 : UInt8), (32 : UInt8), (123 : UInt8), (120 : UInt8), (125 : UInt8)]].flatten).snd.length ≤ (2 : Nat) ^ (62 : Nat)))
        (.ite (!eqI (↑(Px.parse' [[(47 : UInt8), (65 : UInt8), (32 : UInt8), (60 : UInt8), (60 : UInt8), (47 : UInt8), (66 : UInt8), (32 : UInt8), (91 : UInt8), (49 : UInt8), (93 : UInt8), (62 : UInt8), (62 : UInt8), (32 : UInt8), (100 : UInt8), (101 : UInt8), (102 : UInt8), (32 : UInt8)], [] ++ Px.spaced a2 (Int.toNat (0 : Int)) (List.drop (Int.toNat (0 : Int)) (Px.build' (Px.risen a0 a1 (0 : Int)))), [(32 : UInt8), (101 : UInt8), (110 : UInt8), (100 : UInt8), (99 : UInt8), (109 : UInt8), (97 : UInt8), (112 : UInt8), (32 : UInt8), (123 : UInt8), (120 : UInt8), (125 : UInt8)]].flatten).snd.length : Int) (↑(Px.risen a0 a1 (0 : Int)).length : Int))
         (.leaf (.lf (.bool false), []))
         (.ite (eqI (↑(Px.risen a0 a1 (0 : Int)).length : Int) (↑(Px.risen a0 a1 (0 : Int)).length : Int) && leI (0 : Int) (0 : Int) && leI (0 : Int) (↑(Px.risen a0 a1 (0 : Int)).length : Int))
          (.ite (Px.looks (Px.parse' [[(47 : UInt8), (65 : UInt8), (32 : UInt8), (60 : UInt8), (60 : UInt8), (47 : UInt8), (66 : UInt8), (32 : UInt8), (91 : UInt8), (49 : UInt8), (93 : UInt8), (62 : UInt8), (62 : UInt8), (32 : UInt8), (100 : UInt8), (101 : UInt8), (102 : UInt8), (32 : UInt8)], [] ++ Px.spaced a2 (Int.toNat (0 : Int)) (List.drop (Int.toNat (0 : Int)) (Px.build' (Px.risen a0 a1 (0 : Int)))), [(32 : UInt8), (101 : UInt8), (110 : UInt8), (100 : UInt8), (99 : UInt8), (109 : UInt8), (97 : UInt8), (112 : UInt8), (32 : UInt8), (123 : UInt8), (120 : UInt8), (125 : UInt8)]].flatten).snd (List.drop (Int.toNat (0 : Int)) (Px.risen a0 a1 (0 : Int))))
           (.leaf (.lf (.bool true), []))
           (.leaf (.lf (.bool false), [])))
          (.fail)))
        (.fail))
       (.ite (!eqI (Px.parse' [[(47 : UInt8), (65 : UInt8), (32 : UInt8), (60 : UInt8), (60 : UInt8), (47 : UInt8), (66 : UInt8), (32 : UInt8), (91 : UInt8), (49 : UInt8), (93 : UInt8), (62 : UInt8), (62 : UInt8), (32 : UInt8), (100 : UInt8), (101 : UInt8), (102 : UInt8), (32 : UInt8)], [] ++ Px.spaced a2 (Int.toNat (0 : Int)) (List.drop (Int.toNat (0 : Int)) (Px.build' (Px.risen a0 a1 (0 : Int)))), [(32 : UInt8), (101 : UInt8), (110 : UInt8), (100 : UInt8), (99 : UInt8), (109 : UInt8), (97 : UInt8), (112 : UInt8), (32 : UInt8), (123 : UInt8), (120 : UInt8), (125 : UInt8)]].flatten).fst (0 : Int))
        (.leaf (.lf (.bool false), []))
        (.ite (!eqI (0 : Int) (↑(Px.risen a0 a1 (0 : Int)).length : Int))
         (.leaf (.lf (.bool false), []))
         (.fail))))
      (.fail))
     (.fail))
    (.fail))
   (.fail)))
 (.fail)
theorem e6 (a0 : List Int) (a1 : List Int) (a2 : List UInt8) : execFun E G6 ((Lam6)) false Go.Proofs.Tryd.f6 [.lf (.sl .u32 a0), .lf (.sl .u16 a1), .lf (.sl .u8 a2)] [] some = (w6 a0 a1 a2).get := by kernel_rfl
noncomputable def raw6 : Spec E := fun args os => match args, os with
  | [.lf (.sl .u32 a0), .lf (.sl .u16 a1), .lf (.sl .u8 a2)], [] => w6 a0 a1 a2
  | _, _ => .fail
theorem validraw6 (hL : Laws E) : Valid E 6 raw6 :=
  valid_of_body hL (hG6 hL) (Λ := (Lam6)) (fn := Go.Proofs.Tryd.f6) (keep := false) (by kernel_rfl) (by kernel_rfl) (by kernel_rfl) ((LamOK.of (m := 2) (by kernel_rfl) (fun j hj σ e σ' hg => by
      match j, hj with
      | 0, _ => exact ll6_0 hL σ e σ' hg
      | 1, _ => exact ll6_1 hL σ e σ' hg
      ))) (fun args os r os' h => by
    unfold raw6 at h
    split at h
    · exact (e6 _ _ _).trans h
    · cases h)
end Go.Vx
namespace Px
open Go.Vx Go
theorem SepOk.app {a b : List UInt8} (ha : SepOk a) (hb : SepOk b) : SepOk (a ++ b) := fun r => by
  rw [List.append_assoc, ha, hb, List.length_append]; omega
theorem sepOf_ok (b : UInt8) : sepB (sepOf b) = true ∧ SepOk (sepOf b) ∧ ascii (sepOf b) = true := by
  have h4 : b.toNat % 4 = 0 ∨ b.toNat % 4 = 1 ∨ b.toNat % 4 = 2 ∨ b.toNat % 4 = 3 := by omega
  unfold sepOf
  rcases h4 with h | h | h | h <;> rw [h]
  · exact ⟨rfl, sep10, rfl⟩
  · refine ⟨rfl, fun r => ?_, rfl⟩
    show skipN false r + 1 + 1 + 1 + 1 + 1 + 1 + 1 = 7 + skipN false r
    omega
  · refine ⟨rfl, fun r => ?_, rfl⟩
    show skipN false r + 1 + 1 = 2 + skipN false r
    omega
  · exact ⟨rfl, sep32, rfl⟩
def resep (s : List UInt8) : Nat → Text → Text
  | _, [] => []
  | k, x :: r => cond (Nat.blt k s.length) ((x.1, sepOf (s.getD k 0)) :: resep s (k + 1) r) (x :: resep s k r)
/-- blanks alone between, none within -/
def Plain (l : Text) : Prop := ∀ x ∈ l, (ptext x.1).all (fun b => !isBl b) = true ∧ (x.2 = [10] ∨ x.2 = [32])
theorem spaced_app (s : List UInt8) : ∀ (w r : List UInt8) (k : Nat), w.all (fun b => !isBl b) = true → spaced s k (w ++ r) = w ++ spaced s k r
  | [], _, _, _ => rfl
  | b :: w, r, k, h => by
    simp only [List.all_cons, Bool.and_eq_true, Bool.not_eq_true'] at h
    have ih := spaced_app s w r k h.2
    show spaced s k (b :: (w ++ r)) = _
    have e0 : spaced s k (b :: (w ++ r)) = cond (isBl b && Nat.blt k s.length) (sepOf (s.getD k 0) ++ spaced s (k + 1) (w ++ r)) (b :: spaced s k (w ++ r)) := rfl
    rw [e0, h.1, Bool.false_and, cond_false, ih]; rfl
theorem spaced_text (s : List UInt8) : ∀ (l : Text) (k : Nat), Plain l → spaced s k (text l) = text (resep s k l)
  | [], _, _ => rfl
  | x :: r, k, h => by
    obtain ⟨h1, h2⟩ := h x (List.mem_cons_self ..)
    have hr : Plain r := fun y hy => h y (List.mem_cons_of_mem _ hy)
    have key : ∀ b : UInt8, isBl b = true → x.2 = [b] → spaced s k (text (x :: r)) = text (resep s k (x :: r)) := by
      intro b hb hx
      have e0 : spaced s k (b :: text r) = cond (isBl b && Nat.blt k s.length) (sepOf (s.getD k 0) ++ spaced s (k + 1) (text r)) (b :: spaced s k (text r)) := rfl
      simp only [text, resep, hx]
      rw [spaced_app s _ _ k h1, List.singleton_append, e0, hb, Bool.true_and]
      cases Nat.blt k s.length with
      | true => simp only [cond_true, text, spaced_text s r (k + 1) hr]
      | false => simp only [cond_false, text, hx, spaced_text s r k hr, List.singleton_append]
    rcases h2 with h2 | h2
    · exact key 10 rfl h2
    · exact key 32 rfl h2
theorem resep_k (s : List UInt8) : ∀ (l : Text) (k : Nat), kOf (resep s k l) = kOf l
  | [], _ => rfl
  | x :: r, k => by
    unfold resep
    cases Nat.blt k s.length
    · show ptok x.1 :: kOf (resep s k r) = _
      rw [resep_k s r k]; rfl
    · show ptok x.1 :: kOf (resep s (k + 1) r) = _
      rw [resep_k s r (k + 1)]; rfl
theorem resep_ok (s : List UInt8) : ∀ (l : Text) (k : Nat), PiecesOk l → PiecesOk (resep s k l)
  | [], _, _ => fun x hx => by cases hx
  | x :: r, k, h => by
    have hx := h x (List.mem_cons_self ..)
    have hr : PiecesOk r := fun y hy => h y (List.mem_cons_of_mem _ hy)
    unfold resep
    cases Nat.blt k s.length with
    | true =>
      intro y hy
      rcases List.mem_cons.1 hy with rfl | hy
      · exact ⟨hx.1, (sepOf_ok _).1, (sepOf_ok _).2.1⟩
      · exact resep_ok s r (k + 1) hr y hy
    | false =>
      intro y hy
      rcases List.mem_cons.1 hy with rfl | hy
      · exact hx
      · exact resep_ok s r k hr y hy
def addSep : Text → List UInt8 → Text
  | [], _ => []
  | [x], s => [(x.1, x.2 ++ s)]
  | x :: y :: r, s => x :: addSep (y :: r) s
theorem addSep_text (s : List UInt8) : ∀ l : Text, l ≠ [] → text (addSep l s) = text l ++ s
  | [], h => absurd rfl h
  | [x], _ => by simp [addSep, text]
  | x :: y :: r, _ => by
    have := addSep_text s (y :: r) (by simp)
    show ptext x.1 ++ (x.2 ++ text (addSep (y :: r) s)) = _
    rw [this]; simp [text]
theorem addSep_k (s : List UInt8) : ∀ l : Text, kOf (addSep l s) = kOf l
  | [] => rfl
  | [x] => rfl
  | x :: y :: r => by
    have := addSep_k s (y :: r)
    show ptok x.1 :: kOf (addSep (y :: r) s) = _
    rw [this]; rfl
theorem addSep_ok {s : List UInt8} (hs : SepOk s) : ∀ l : Text, PiecesOk l → PiecesOk (addSep l s)
  | [], h => h
  | [x], h => by
    obtain ⟨h1, h2, h3⟩ := h x (List.mem_cons_self ..)
    intro y hy
    obtain rfl := List.mem_singleton.1 hy
    refine ⟨h1, ?_, h3.app hs⟩
    cases hx : x.2 with
    | nil => rw [hx] at h2; cases h2
    | cons b r => rw [hx] at h2; exact h2
  | x :: y :: r, h => by
    have := addSep_ok hs (y :: r) (fun z hz => h z (List.mem_cons_of_mem _ hz))
    intro z hz
    rcases List.mem_cons.1 hz with rfl | hz
    · exact h _ (List.mem_cons_self ..)
    · exact this z hz
theorem PiecesOk.textApp : ∀ {a b : Text}, PiecesOk a → TextOk b → TextOk (a ++ b)
  | [], _, _, hb => hb
  | x :: r, b, h, hb => by
    obtain ⟨h1, h2, h3⟩ := h x (List.mem_cons_self ..)
    refine ⟨h1, ?_, h3, PiecesOk.textApp (fun y hy => h y (List.mem_cons_of_mem _ hy)) hb⟩
    unfold after
    split
    · cases hs : x.2 with
      | nil => rw [hs] at h2; cases h2
      | cons b s => rw [hs] at h2; exact h2
    · rfl
theorem hexs_plain (p : List UInt8) : (ptext (.str (hexs p))).all (fun b => !isBl b) = true := by
  have key : ∀ p : List UInt8, (hexs p).all (fun b => !isBl b) = true := by
    intro p
    induction p with
    | nil => rfl
    | cons b p ih =>
      have hb := b.toNat_lt
      have hd_nb : ∀ d, d < 16 → isBl (hd d) = false := fun d hd' => by
        have := all_nat (m := 16) (q := fun d => !isBl (hd d)) (by kernel_rfl) hd'
        simpa using this
      simp only [hexs, List.all_cons, ih, hd_nb _ (show b.toNat / 16 < 16 by omega), hd_nb _ (show b.toNat % 16 < 16 by omega)]; rfl
  show ((60 : UInt8) :: (hexs p ++ [62])).all _ = true
  rw [List.all_cons, List.all_append, key]; rfl
theorem digits_plain (n : Nat) : (ptext (.word (Lib.decDigits n))).all (fun b => !isBl b) = true := by
  obtain ⟨_, h⟩ := digits_ok n
  refine List.all_eq_true.2 fun b hb => ?_
  have h1 := List.all_eq_true.1 h b hb
  have := all_u8 (q := fun b => !(Nat.ble 48 b.toNat && Nat.ble b.toNat 57) || !isBl b) (by kernel_rfl) b
  rw [h1] at this
  simpa using this
theorem Plain.app {a b : Text} (ha : Plain a) (hb : Plain b) : Plain (a ++ b) := fun x hx => (List.mem_append.1 hx).elim (ha x) (hb x)
theorem row_plain (l : Seg) : Plain (pRow l) := by
  intro x hx
  simp only [pRow, List.mem_append, List.mem_cons, List.not_mem_nil, or_false, List.mem_flatMap] at hx
  rcases hx with ((rfl | rfl) | ⟨y, _, hy⟩) | rfl
  · exact ⟨digits_plain _, .inr rfl⟩
  · exact ⟨by kernel_rfl, .inl rfl⟩
  · simp only [pLine, List.mem_cons, List.not_mem_nil, or_false] at hy
    rcases hy with rfl | rfl
    · exact ⟨hexs_plain _, .inr rfl⟩
    · exact ⟨hexs_plain _, .inl rfl⟩
  · exact ⟨by kernel_rfl, .inl rfl⟩
theorem table_plain (l : Seg) : Plain (pTable l) := by
  refine Plain.app (Plain.app (fun x hx => ?_) (fun x hx => ?_)) (fun x hx => ?_)
  · simp only [pFront, List.mem_cons, List.not_mem_nil, or_false] at hx
    rcases hx with rfl | rfl | rfl | rfl | rfl | rfl
    · exact ⟨by kernel_rfl, .inl rfl⟩
    · exact ⟨by kernel_rfl, .inr rfl⟩
    · exact ⟨by kernel_rfl, .inl rfl⟩
    · exact ⟨by kernel_rfl, .inr rfl⟩
    · exact ⟨by kernel_rfl, .inl rfl⟩
    · exact ⟨by kernel_rfl, .inl rfl⟩
  · obtain ⟨r, _, hr⟩ := List.mem_flatMap.1 hx
    exact row_plain r x hr
  · simp only [pBack, List.mem_cons, List.not_mem_nil, or_false] at hx
    subst hx
    exact ⟨by kernel_rfl, .inl rfl⟩
def sPre : List UInt8 := [47, 65, 32, 60, 60, 47, 66, 32, 91, 49, 93, 62, 62, 32, 100, 101, 102, 32]
def sSuf : List UInt8 := [32, 101, 110, 100, 99, 109, 97, 112, 32, 123, 120, 125]
def pPre : Text := [(.mark 47, []), (.word [65], [32]), (.two 60, []), (.mark 47, []), (.word [66], [32]), (.mark 91, []), (.word [49], []), (.mark 93, []), (.two 62, [32]), (.word [100, 101, 102], [32])]
def pSuf : Text := [(.word [101, 110, 100, 99, 109, 97, 112], [32]), (.mark 123, []), (.word [120], []), (.mark 125, [])]
theorem sep0 : SepOk [] := fun r => by simp
theorem pre_ok (r : Text) (h : TextOk r) : TextOk (pPre ++ r) :=
  ⟨by kernel_rfl, rfl, sep0, by kernel_rfl, rfl, sep32, by kernel_rfl, rfl, sep0, by kernel_rfl, rfl, sep0, by kernel_rfl, rfl, sep32, by kernel_rfl, rfl, sep0, by kernel_rfl, rfl, sep0, by kernel_rfl, rfl, sep0, by kernel_rfl, rfl, sep32, by kernel_rfl, rfl, sep32, h⟩
theorem suf_ok : TextOk pSuf :=
  ⟨by kernel_rfl, rfl, sep32, by kernel_rfl, rfl, sep0, by kernel_rfl, rfl, sep0, by kernel_rfl, rfl, sep0, trivial⟩
theorem pTable_ne (s : List UInt8) (l : Seg) : resep s 0 (pTable l) ≠ [] := by
  intro h
  have := congrArg kOf h
  rw [resep_k] at this
  cases this
theorem spaces_text (s : List UInt8) (l : Seg) (hu : u16s l = true) : sPre ++ (spaced s 0 (refBuild l) ++ sSuf) = text (pPre ++ (addSep (resep s 0 (pTable l)) [32] ++ pSuf)) := by
  rw [text_app, text_app, addSep_text _ _ (pTable_ne s l), ← spaced_text s _ 0 (table_plain l), text_table l hu, List.append_assoc]
  rfl
theorem parse_spaces (s : List UInt8) (l : Seg) (hu : u16s l = true) (hs : scalars l = true) (hn : (l.map (·.2)).Nodup) : parse (sPre ++ (spaced s 0 (refBuild l) ++ sSuf)) = (0, l.map swap) := by
  refine parse_tokens (a := kOf pPre ++ kOf pFront) (b := kOf pBack ++ kOf pSuf) ?_ ?_ ?_ hu hs hn
  · rw [spaces_text s l hu, toks_text _ (pre_ok _ ((addSep_ok sep32 _ (resep_ok s _ 0 (table_ok l))).textApp suf_ok))]
    show (0, kOf (pPre ++ (addSep (resep s 0 (pTable l)) [32] ++ pSuf))) = _
    rw [kOf_app, kOf_app, addSep_k, resep_k]
    unfold pTable
    rw [kOf_app, kOf_app]
    simp only [List.append_assoc]
  · intro t ht
    have : (kOf pPre ++ kOf pFront).all (fun t => !decide (t.1 = wBegin)) = true := by kernel_rfl
    have := List.all_eq_true.1 this t ht
    simpa using this
  · intro t ht
    have : (kOf pBack ++ kOf pSuf).all (fun t => !decide (t.1 = wBegin)) = true := by kernel_rfl
    have := List.all_eq_true.1 this t ht
    simpa using this
theorem spaced_ascii (s : List UInt8) : ∀ (p : List UInt8) (k : Nat), ascii p = true → ascii (spaced s k p) = true ∧ (spaced s k p).length ≤ 7 * p.length
  | [], _, _ => ⟨rfl, Nat.le_refl _⟩
  | c :: p, k, h => by
    have hc : Nat.ble c.toNat 127 = true ∧ ascii p = true := by unfold ascii at h ⊢; simpa using h
    obtain ⟨a1, a2⟩ := spaced_ascii s p (k + 1) hc.2
    obtain ⟨b1, b2⟩ := spaced_ascii s p k hc.2
    have e0 : spaced s k (c :: p) = cond (isBl c && Nat.blt k s.length) (sepOf (s.getD k 0) ++ spaced s (k + 1) p) (c :: spaced s k p) := rfl
    rw [e0, List.length_cons]
    cases isBl c && Nat.blt k s.length with
    | true =>
      have := sepOf_len (s.getD k 0)
      rw [cond_true, ascii_app, (sepOf_ok _).2.2, a1, List.length_append]
      exact ⟨rfl, by omega⟩
    | false =>
      rw [cond_false, List.length_cons]
      refine ⟨?_, by omega⟩
      unfold ascii at b1 ⊢
      rw [List.all_cons, b1, hc.1]; rfl
end Px
namespace Go.Vx
open Go
theorem eq6 (p0 p1 : List Int) (s : List UInt8) (h0 : Px.allIn .u32 p0 = true) (h1 : p1.length ≤ 140737488355328) : (w6 p0 p1 s).get = some (.lf (.bool true), []) := by
  have hl := Px.risen_len p0 p1 0
  have d1 : (Px.allIn .u32 p0 && decide (p1.length ≤ 140737488355328)) = true := by rw [h0, decide_eq_true h1]; rfl
  unfold w6
  rw [Tree.get_ite, d1, cond_true, Tree.get_ite]
  cases ho : Px.own1 (Px.risen p0 p1 0) with
  | false => rfl
  | true =>
    obtain ⟨hb, hlen, has, _, hlk⟩ := table_facts h0 ho
    obtain ⟨hs, hn⟩ := Px.own1_iff ho
    have hu := Px.u16s_risen p0 p1 0
    rw [Px.build'_eq, Px.parse'_eq, Px.ascii'_eq, hb]
    generalize Px.risen p0 p1 0 = R at *
    have e0 : (Px.refBuild R).drop (Int.toNat 0) = Px.refBuild R := rfl
    have e1 : R.drop (Int.toNat 0) = R := rfl
    have e2 : ([Px.sPre, [] ++ Px.spaced s (Int.toNat 0) (Px.refBuild R), Px.sSuf] : List (List UInt8)).flatten = Px.sPre ++ (Px.spaced s 0 (Px.refBuild R) ++ Px.sSuf) := by
      simp only [List.flatten_cons, List.flatten_nil, List.append_nil, List.nil_append]; rfl
    obtain ⟨s1, s2⟩ := Px.spaced_ascii s (Px.refBuild R) 0 has
    have hT : (Px.sPre ++ (Px.spaced s 0 (Px.refBuild R) ++ Px.sSuf)).length ≤ 100000 := by
      simp only [List.length_append]
      have q1 : Px.sPre.length = 18 := rfl
      have q2 : Px.sSuf.length = 12 := rfl
      omega
    have hA : Px.ascii (Px.sPre ++ (Px.spaced s 0 (Px.refBuild R) ++ Px.sSuf)) = true := by
      rw [Px.ascii_app, Px.ascii_app, s1]; rfl
    have d2 : decide (R.length ≤ 1000000) = true := decide_eq_true (by omega)
    have d3 : (eqI ((Px.refBuild R).length : Int) ((Px.refBuild R).length : Int) && leI (0 : Int) (0 : Int) && leI (0 : Int) ((Px.refBuild R).length : Int) && leI (0 : Int) (0 : Int) && leI (0 : Int) (0 : Int) && decide ((Px.refBuild R).length ≤ 1000000) && decide (((([] : List UInt8).length : Nat) : Int) ≤ 7 * 0)) = true := by
      have q1 : eqI ((Px.refBuild R).length : Int) ((Px.refBuild R).length : Int) = true := by rw [eqI_eq]; exact decide_eq_true rfl
      have q2 : leI (0 : Int) ((Px.refBuild R).length : Int) = true := by rw [leI_eq]; exact decide_eq_true (by omega)
      rw [q1, q2, decide_eq_true (show (Px.refBuild R).length ≤ 1000000 by omega)]; rfl
    have d8 : (eqI (R.length : Int) (R.length : Int) && leI (0 : Int) (0 : Int) && leI (0 : Int) (R.length : Int)) = true := by simp [eqI_eq, leI_eq]
    rw [Bool.not_true, cond_false, Tree.get_ite, d2, cond_true, Tree.get_ite, d3, cond_true]
    generalize hTT : ([[(47 : UInt8), (65 : UInt8), (32 : UInt8), (60 : UInt8), (60 : UInt8), (47 : UInt8), (66 : UInt8), (32 : UInt8), (91 : UInt8), (49 : UInt8), (93 : UInt8), (62 : UInt8), (62 : UInt8), (32 : UInt8), (100 : UInt8), (101 : UInt8), (102 : UInt8), (32 : UInt8)], [] ++ Px.spaced s (Int.toNat (0 : Int)) (List.drop (Int.toNat (0 : Int)) (Px.refBuild R)), [(32 : UInt8), (101 : UInt8), (110 : UInt8), (100 : UInt8), (99 : UInt8), (109 : UInt8), (97 : UInt8), (112 : UInt8), (32 : UInt8), (123 : UInt8), (120 : UInt8), (125 : UInt8)]] : List (List UInt8)).flatten = T
    have hTe : T = Px.sPre ++ (Px.spaced s 0 (Px.refBuild R) ++ Px.sSuf) := hTT.symm.trans e2
    rw [← hTe] at hT hA
    have hp : Px.parse T = (0, R.map Px.swap) := by rw [hTe]; exact Px.parse_spaces s R hu hs hn
    have d4 : decide (T.length ≤ 140737488355328) = true := decide_eq_true (by omega)
    have d5 : (decide (T.length ≤ 1000000000) && Px.ascii T) = true := by rw [hA, decide_eq_true (by omega)]; rfl
    have d6 : decide ((R.map Px.swap).length ≤ 2 ^ 62) = true := decide_eq_true (by rw [List.length_map]; omega)
    have d7 : eqI (((R.map Px.swap).length : Nat) : Int) (R.length : Int) = true := by rw [eqI_eq, List.length_map]; exact decide_eq_true rfl
    have d9 : eqI (0 : Int) 0 = true := rfl
    rw [hp]
    simp only [Tree.get_ite, d4, d5, d6, d7, d8, d9, e1, hlk, Bool.not_true, cond_true, cond_false, Tree.get_leaf]
noncomputable def spec6 : Spec E := fun args os => match args, os with
  | [.lf (.sl .u32 p0), .lf (.sl .u16 p1), .lf (.sl .u8 s)], [] => .ite (Px.allIn .u32 p0 && decide (p1.length ≤ 140737488355328)) (.leaf (.lf (.bool true), [])) .fail
  | _, _ => .fail
theorem valid6 (hL : Laws E) : Valid E 6 spec6 := (validraw6 hL).less (fun args os x _ _ h => by
  unfold spec6 at h
  split at h
  · rcases Tree.get_ite_some h with ⟨h1, h⟩ | ⟨_, h⟩
    · simp only [Bool.and_eq_true, decide_eq_true_eq] at h1
      exact (eq6 _ _ _ h1.1 h1.2).trans h
    · cases h
  · cases h)
theorem sp6 (p0 p1 : List Int) (s : List UInt8) (h0 : ∀ z ∈ p0, inRb .u32 z = true) (h1 : p1.length * 2 ≤ 140737488355328) : (spec6 [.lf (.sl .u32 p0), .lf (.sl .u16 p1), .lf (.sl .u8 s)] []).get = some (.lf (.bool true), []) := by
  have d1 : (Px.allIn .u32 p0 && decide (p1.length ≤ 140737488355328)) = true := by
    rw [show Px.allIn .u32 p0 = true from List.all_eq_true.2 h0, decide_eq_true (by omega)]; rfl
  show cond (Px.allIn .u32 p0 && decide (p1.length ≤ 140737488355328)) _ _ = _
  rw [d1]; rfl
end Go.Vx
namespace Px
open Go.Vx Go
theorem toksRun_tail : ∀ (l : Text) (n : Nat) (acc : List Tok) (rest : List UInt8), PiecesOk l → skipN false rest = 0 → toksRun (l.length + n) acc (text l ++ rest) = toksRun n (acc ++ kOf l) rest
  | [], n, acc, rest, _, _ => by simp [text, kOf]
  | x :: r, n, acc, rest, h, hr => by
    obtain ⟨h1, h2, h3⟩ := h x (List.mem_cons_self ..)
    have hr' : PiecesOk r := fun y hy => h y (List.mem_cons_of_mem _ hy)
    have ha : after x.1 (x.2 ++ (text r ++ rest)) = true := by
      unfold after
      split
      · cases hs : x.2 with
        | nil => rw [hs] at h2; cases h2
        | cons b s => rw [hs] at h2; exact h2
      · rfl
    have e0 : text (x :: r) ++ rest = ptext x.1 ++ (x.2 ++ (text r ++ rest)) := by simp only [text, List.append_assoc]
    have ht := tokR_piece x.1 (x.2 ++ (text r ++ rest)) h1 ha
    have hsk : skipN false (text r ++ rest) = 0 := by
      cases r with
      | nil => simpa [text] using hr
      | cons y r =>
        have := skip_piece y.1 (y.2 ++ (text r ++ rest)) (hr' y (List.mem_cons_self ..)).1
        simpa only [text, List.append_assoc] using this
    have hpos := ptext_pos x.1 h1
    have hne : (ptext x.1 ++ (x.2 ++ (text r ++ rest))).isEmpty = false := by
      cases h : ptext x.1 with
      | nil => rw [h] at hpos; simp at hpos
      | cons => rfl
    have e5 : tokNext (ptext x.1 ++ (x.2 ++ (text r ++ rest))) = text r ++ rest := by
      unfold tokNext tokN
      rw [ht]
      simp only [List.drop_left]
      rw [h3, hsk, Nat.add_zero, List.drop_left]
    have w1 : decide ((ptok x.1).1 = [40]) = false ∧ decide ((ptok x.1).1 = wRange) = false := by
      have hx1 := h1
      constructor <;> refine decide_eq_false ?_ <;> cases hx : x.1 with
      | word w =>
        rw [hx] at hx1
        simp only [pOk, Bool.and_eq_true, Bool.not_eq_true', decide_eq_false_iff_not] at hx1
        first
          | exact hx1.2
          | (rintro rfl; exact absurd hx1.1.2 (by decide))
      | str h => intro hh; cases hh
      | mark b =>
        rw [hx] at hx1
        simp only [pOk, Bool.and_eq_true, Bool.not_eq_true', decide_eq_false_iff_not] at hx1
        first
          | (intro hh; injection hh with _ hh; cases hh; done)
          | (intro hh; injection hh with hh _; exact hx1.1.1.1.2 hh)
      | two b =>
        first
          | (intro hh; injection hh with _ hh; injection hh with _ hh; cases hh; done)
          | (intro hh; injection hh with _ hh; cases hh)
    rw [e0, List.length_cons, show r.length + 1 + n = (r.length + n) + 1 by omega]
    have e6 : toksRun (r.length + n + 1) acc (ptext x.1 ++ (x.2 ++ (text r ++ rest))) = toksRun (r.length + n) (acc ++ [ptok x.1]) (text r ++ rest) := by
      have eS : ∀ n acc l, toksRun (n + 1) acc l = cond l.isEmpty (0, acc) (cond (tokOk l) (cond (decide (tokW l = [40])) (14, []) (cond (decide (tokW l = wRange)) (14, []) (toksRun n (acc ++ [(tokW l, tokT l, tokI l)]) (tokNext l)))) (2, [])) := fun _ _ _ => rfl
      have q1 : tokOk (ptext x.1 ++ (x.2 ++ (text r ++ rest))) = true := by unfold tokOk; rw [ht]
      have q2 : tokW (ptext x.1 ++ (x.2 ++ (text r ++ rest))) = (ptok x.1).1 := by unfold tokW; rw [ht]
      have q3 : tokT (ptext x.1 ++ (x.2 ++ (text r ++ rest))) = (ptok x.1).2.1 := by unfold tokT; rw [ht]
      have q4 : tokI (ptext x.1 ++ (x.2 ++ (text r ++ rest))) = (ptok x.1).2.2 := by unfold tokI; rw [ht]
      rw [eS, hne, e5, q1, q2, q3, q4, w1.1, w1.2]
      rfl
    rw [e6, toksRun_tail r n _ rest hr' hr]
    simp [kOf, List.append_assoc]
theorem toks_tail {l : Text} {rest : List UInt8} (h : PiecesOk l) (hr : skipN false rest = 0) (hl : rest ≠ []) {r : Int × List Tok} (hrun : ∀ n acc, 1 ≤ n → toksRun n acc rest = r) : toks (text l ++ rest) = r := by
  have hs : skipN false (text l ++ rest) = 0 := by
    cases l with
    | nil => simpa [text] using hr
    | cons y l =>
      have := skip_piece y.1 (y.2 ++ (text l ++ rest)) (h y (List.mem_cons_self ..)).1
      simpa only [text, List.append_assoc] using this
  unfold toks
  rw [hs, List.drop_zero]
  have h1 := text_len l h.text
  obtain ⟨k, hk⟩ : ∃ k, (text l ++ rest).length + 1 = l.length + (k + 1) := ⟨(text l ++ rest).length - l.length, by rw [List.length_append]; omega⟩
  rw [hk, toksRun_tail l (k + 1) [] rest h hr]
  exact hrun (k + 1) _ (by omega)
def one (c a : Int) : Seg := [(c, a)]
theorem kOf_one (c a : Int) : kOf (pTable (one c a)) = kOf pFront ++ (kOf (([one c a] : List Seg).flatMap pRow) ++ kOf pBack) := by
  have hc : chunks 100 (one c a) = [one c a] := by
    rw [chunks_cons 100 (by omega) _ (by simp [one]), show (one c a).drop 100 = [] from rfl, chunks_nil 100 (by omega)]; rfl
  unfold pTable
  rw [hc, kOf_app, kOf_app, List.append_assoc]
theorem noBegin (l : Text) (h : (kOf l).all (fun t => !decide (t.1 = wBegin)) = true) : ∀ t ∈ kOf l, t.1 ≠ wBegin := fun t ht => by
  have := List.all_eq_true.1 h t ht
  simpa using this
theorem run_one {c a : Int} (hc : scalar c = true) (ha : 0 ≤ a) (ha2 : a ≤ 65535) (k : Nat) (ts : List Tok) (m : Map) (hm : a ∉ m.map (·.1)) : parseRun (9 + k) (kOf (pTable (one c a)) ++ ts) m = parseRun k ts (m ++ [(a, c)]) := by
  rw [kOf_one]
  simp only [List.append_assoc]
  rw [show 9 + k = (kOf pFront).length + (2 * ([one c a] : List Seg).length + ((kOf pBack).length + k)) by show 9 + k = 6 + (2 * 1 + (1 + k)); omega]
  rw [parseRun_skips _ (noBegin pFront (by kernel_rfl)), parseRun_rows [one c a] m _ _ ?_ ?_ ?_ ?_, parseRun_skips _ (noBegin pBack (by kernel_rfl))]
  · rfl
  · simp [one, u16s, leI_eq, ha, ha2]
  · simp [one, scalars, hc]
  · simp [one]
  · intro x hx
    simp [one] at hx
    subst hx
    exact hm
theorem kOf_one_len (c a : Int) : (kOf (pTable (one c a))).length = 12 := by
  rw [kOf_one, List.length_append, List.length_append]
  simp only [List.flatMap_cons, List.flatMap_nil, List.append_nil, kOf_row]
  rfl
/-- what is behind a table of one is no table -/
theorem parse_bad {p : List UInt8} {a : Int} {ts : List Tok} (ha : 0 ≤ a) (ha2 : a ≤ 65535) (ht : toks p = (0, kOf (pTable (one 65 a)) ++ (wBegin, [], false) :: ts)) (hb : leI 1 (pairsRun ts 0 [(a, 65)]).1 = false) : parse p = (2, []) := by
  have hr : (parseRun ((toks p).2.length + 1) (toks p).2 []).1 = false := by
    rw [ht]
    simp only [List.length_append, kOf_one_len, List.length_cons]
    rw [show 12 + (ts.length + 1) + 1 = 9 + ((ts.length + 4) + 1) by omega, run_one (c := 65) rfl ha ha2 _ _ [] (by simp), List.nil_append]
    rw [parseRun, decide_eq_true rfl, cond_true, hb]; rfl
  unfold parse
  rw [hr, ht]
  rfl
theorem parse_err {p : List UInt8} {e : Int} (h : toks p = (e, [])) (he : e ≠ 0) : parse p = (e, []) := by
  unfold parse
  rw [h]
  have : eqI e 0 = false := by rw [eqI_eq]; exact decide_eq_false he
  show cond (eqI e 0) _ _ = _
  rw [this]; rfl
theorem u16s_one {c a : Int} (ha : 0 ≤ a) (ha2 : a ≤ 65535) : u16s (one c a) = true := by simp [one, u16s, leI_eq, ha, ha2]
/-- two tables of one -/
theorem parse_two {a b : Int} (ha : 0 ≤ a) (ha2 : a ≤ 65535) (hb : 0 ≤ b) (hb2 : b ≤ 65535) : parse (refBuild (one 65 a) ++ refBuild (one 66 b)) = if a = b then (2, []) else (0, [(a, 65), (b, 66)]) := by
  have ht : toks (refBuild (one 65 a) ++ refBuild (one 66 b)) = (0, kOf (pTable (one 65 a)) ++ kOf (pTable (one 66 b))) := by
    rw [← text_table _ (u16s_one ha ha2), ← text_table _ (u16s_one hb hb2), ← text_app, toks_text _ ((table_ok _).app (table_ok _)).text]
    show (0, kOf _) = _
    rw [kOf_app]
  split
  · rename_i e
    subst e
    have hr : (parseRun ((toks (refBuild (one 65 a) ++ refBuild (one 66 a))).2.length + 1) (toks (refBuild (one 65 a) ++ refBuild (one 66 a))).2 []).1 = false := by
      rw [ht]
      simp only [List.length_append, kOf_one_len]
      rw [show 12 + 12 + 1 = 9 + 16 by rfl, run_one (c := 65) rfl ha ha2 _ _ [] (by simp), List.nil_append, kOf_one, show (16 : Nat) = (kOf pFront).length + 10 from rfl, parseRun_skips _ (noBegin pFront (by kernel_rfl))]
      simp only [List.flatMap_cons, List.flatMap_nil, List.append_nil, kOf_row, List.cons_append]
      rw [show (10 : Nat) = 8 + 1 + 1 from rfl, parseRun_skip (digits_word _).2, parseRun, decide_eq_true rfl, cond_true]
      have hg : n2 (b2 a.toNat) 0 = a := by rw [n2_b2 (by omega)]; omega
      have hp : ∀ r : List Tok, pairsRun ((([] : List UInt8), b2 a.toNat, true) :: (([] : List UInt8), utf16s 66, true) :: r) 0 [(a, 65)] = (0, [(a, 65)]) := by
        intro r
        unfold pairsRun
        have c1 : decide ((([] : List UInt8), b2 a.toNat, true).1 = wEnd) = false := decide_eq_false (by intro h; cases h)
        have c2 : pairOk [(a, 65)] (([] : List UInt8), b2 a.toNat, true) (([] : List UInt8), utf16s 66, true) = false := by
          unfold pairOk
          have : (mg [(a, 65)] (n2 (b2 a.toNat) 0)).isSome = true := by rw [hg]; simp [mg]
          simp only [this, Bool.not_true, Bool.and_false]
        rw [c1, c2]; rfl
      show (cond (leI 1 (pairsRun ((([] : List UInt8), b2 a.toNat, true) :: (([] : List UInt8), utf16s 66, true) :: _) 0 [(a, 65)]).1) _ _ : Bool × Map).1 = false
      rw [hp]; rfl
    unfold parse
    rw [hr, ht]
    rfl
  · rename_i hne
    have hr : parseRun ((toks (refBuild (one 65 a) ++ refBuild (one 66 b))).2.length + 1) (toks (refBuild (one 65 a) ++ refBuild (one 66 b))).2 [] = (true, [(a, 65), (b, 66)]) := by
      rw [ht]
      simp only [List.length_append, kOf_one_len]
      rw [show 12 + 12 + 1 = 9 + 16 by rfl, run_one (c := 65) rfl ha ha2 _ _ [] (by simp), List.nil_append]
      have h2 := run_one (c := 66) (a := b) rfl hb hb2 7 [] [(a, 65)] (by simp; exact fun h => hne h.symm)
      rw [List.append_nil] at h2
      rw [show (16 : Nat) = 9 + 7 from rfl, h2]; rfl
    unfold parse
    rw [hr, ht]
    rfl
/-! ### what isn't read, and what is no table -/
def fz (i : Nat) : List UInt8 := ([[49, 32, 98, 101, 103, 105, 110, 98, 102, 114, 97, 110, 103, 101], [40, 97, 41]] : List (List UInt8)).getD i []
theorem parse_z {a : Int} (ha : 0 ≤ a) (ha2 : a ≤ 65535) (i : Nat) (hi : i < 2) : parse (refBuild (one 65 a) ++ fz i) = (14, []) := by
  refine parse_err ?_ (by decide)
  rw [← text_table _ (u16s_one ha ha2)]
  match i, hi with
  | 0, _ =>
    have e : text (pTable (one 65 a)) ++ fz 0 = text (pTable (one 65 a) ++ [(.word [49], [32])]) ++ wRange := by rw [text_app, List.append_assoc]; rfl
    rw [e]
    refine toks_tail ((table_ok _).app (fun x hx => ?_)) (by kernel_rfl) (by decide) (fun n acc hn => ?_)
    · obtain rfl := List.mem_singleton.1 hx
      exact ⟨by kernel_rfl, rfl, sep32⟩
    · obtain ⟨n, rfl⟩ : ∃ m, n = m + 1 := ⟨n - 1, by omega⟩
      unfold toksRun
      have h1 : tokOk wRange = true := by kernel_rfl
      have h2 : tokW wRange = wRange := by kernel_rfl
      rw [h1, h2]; rfl
  | 1, _ =>
    refine toks_tail (table_ok _) (by kernel_rfl) (by decide) (fun n acc hn => ?_)
    obtain ⟨n, rfl⟩ : ∃ m, n = m + 1 := ⟨n - 1, by omega⟩
    unfold toksRun
    have h1 : tokOk (fz 1) = true := by kernel_rfl
    have h2 : tokW (fz 1) = [40] := by kernel_rfl
    rw [h1, h2]; rfl
def fy (j : Nat) : List UInt8 := ([[98, 101, 103, 105, 110, 98, 102, 99, 104, 97, 114, 32, 60, 48, 49, 62, 32, 60, 48, 48, 52, 49, 62, 32, 101, 110, 100, 98, 102, 99, 104, 97, 114],
  [98, 101, 103, 105, 110, 98, 102, 99, 104, 97, 114, 32, 60, 48, 48, 48, 49, 62, 32, 60, 100, 56, 48, 48, 62, 32, 101, 110, 100, 98, 102, 99, 104, 97, 114],
  [98, 101, 103, 105, 110, 98, 102, 99, 104, 97, 114, 32, 60, 48, 48, 48, 49, 62, 32, 101, 110, 100, 98, 102, 99, 104, 97, 114],
  [98, 101, 103, 105, 110, 98, 102, 99, 104, 97, 114, 32, 60, 48, 48, 48, 49, 62, 32, 60, 48, 48, 52, 49, 62],
  [98, 101, 103, 105, 110, 98, 102, 99, 104, 97, 114, 32, 60, 48, 48, 48, 49, 62, 32, 60, 48, 48, 52, 49, 48, 48, 52, 50, 62, 32, 101, 110, 100, 98, 102, 99, 104, 97, 114],
  [60, 48, 52, 49, 62]] : List (List UInt8)).getD j []
theorem toks_y {a : Int} (ha : 0 ≤ a) (ha2 : a ≤ 65535) {r : Text} {y : List UInt8} (hy : y = text ((.word wBegin, [32]) :: r)) (hr : TextOk ((.word wBegin, [32]) :: r)) : toks (refBuild (one 65 a) ++ y) = (0, kOf (pTable (one 65 a)) ++ (wBegin, [], false) :: kOf r) := by
  rw [← text_table _ (u16s_one ha ha2), hy, ← text_app, toks_text _ ((table_ok _).textApp hr)]
  show (0, kOf _) = _
  rw [kOf_app]; rfl
theorem parse_y {a : Int} (ha : 0 ≤ a) (ha2 : a ≤ 65535) (j : Nat) (hj : j < 6) : parse (refBuild (one 65 a) ++ fy j) = (2, []) := by
  match j, hj with
  | 0, _ => exact parse_bad ha ha2 (toks_y ha ha2 (r := [(.str [48, 49], [32]), (.str [48, 48, 52, 49], [32]), (.word wEnd, [])]) rfl ⟨by kernel_rfl, rfl, sep32, by kernel_rfl, rfl, sep32, by kernel_rfl, rfl, sep32, by kernel_rfl, rfl, sep0, trivial⟩) (by kernel_rfl)
  | 1, _ => exact parse_bad ha ha2 (toks_y ha ha2 (r := [(.str [48, 48, 48, 49], [32]), (.str [100, 56, 48, 48], [32]), (.word wEnd, [])]) rfl ⟨by kernel_rfl, rfl, sep32, by kernel_rfl, rfl, sep32, by kernel_rfl, rfl, sep32, by kernel_rfl, rfl, sep0, trivial⟩) (by kernel_rfl)
  | 2, _ => exact parse_bad ha ha2 (toks_y ha ha2 (r := [(.str [48, 48, 48, 49], [32]), (.word wEnd, [])]) rfl ⟨by kernel_rfl, rfl, sep32, by kernel_rfl, rfl, sep32, by kernel_rfl, rfl, sep0, trivial⟩) (by kernel_rfl)
  | 3, _ =>
    refine parse_bad ha ha2 (toks_y ha ha2 (r := [(.str [48, 48, 48, 49], [32]), (.str [48, 48, 52, 49], [])]) rfl ⟨by kernel_rfl, rfl, sep32, by kernel_rfl, rfl, sep32, by kernel_rfl, rfl, sep0, trivial⟩) ?_
    have e : ∀ m : Map, leI 1 (pairsRun (kOf [(.str [48, 48, 48, 49], [32]), (.str [48, 48, 52, 49], [])]) 0 m).1 = leI 1 (cond (!(mg m 1).isSome) (-1) 0) := by
      intro m
      have h1 : kOf [(.str [48, 48, 48, 49], [32]), (.str [48, 48, 52, 49], [])] = [([], [0, 1], true), ([], [0, 65], true)] := by kernel_rfl
      rw [h1]
      unfold pairsRun
      have c1 : decide ((([] : List UInt8), ([0, 1] : List UInt8), true).1 = wEnd) = false := rfl
      have c2 : pairOk m (([] : List UInt8), ([0, 1] : List UInt8), true) (([] : List UInt8), ([0, 65] : List UInt8), true) = !(mg m 1).isSome := by
        unfold pairOk
        have : n2 [0, 1] 0 = 1 := rfl
        rw [this]; rfl
      rw [c1, c2]
      cases (mg m 1).isSome <;> rfl
    rw [e]
    cases (mg [(a, 65)] 1).isSome <;> rfl
  | 4, _ => exact parse_bad ha ha2 (toks_y ha ha2 (r := [(.str [48, 48, 48, 49], [32]), (.str [48, 48, 52, 49, 48, 48, 52, 50], [32]), (.word wEnd, [])]) rfl ⟨by kernel_rfl, rfl, sep32, by kernel_rfl, rfl, sep32, by kernel_rfl, rfl, sep32, by kernel_rfl, rfl, sep0, trivial⟩) (by kernel_rfl)
  | 5, _ =>
    refine parse_err ?_ (by decide)
    rw [← text_table _ (u16s_one ha ha2)]
    refine toks_tail (table_ok _) (by kernel_rfl) (by decide) (fun n acc hn => ?_)
    obtain ⟨n, rfl⟩ : ∃ m, n = m + 1 := ⟨n - 1, by omega⟩
    unfold toksRun
    have h1 : tokOk (fy 5) = false := by kernel_rfl
    rw [h1]; rfl
end Px
namespace Go.Vx
open Go
noncomputable def G8 : FuncId → Option (Spec E)
  | 9 => some spec9
  | 11 => some spec11
  | 12 => some spec12
  | 14 => some spec14
  | 26 => some spec26
  | _ => none
theorem hG8 (hL : Laws E) : ∀ f spec, G8 f = some spec → Valid E f spec := by
  intro f spec h
  unfold G8 at h
  split at h
  · injection h with h; subst h; exact valid9 hL
  · injection h with h; subst h; exact valid11 hL
  · injection h with h; subst h; exact valid12 hL
  · injection h with h; subst h; exact valid14 hL
  · injection h with h; subst h; exact valid26 hL
  · cases h
def L8_0 : Ex → Live
  | .normal => ⟨[3, 4, 19, 20], []⟩
  | .exit 0 => ⟨[3, 4], []⟩
  | .ret => ⟨[2], []⟩
  | _ => ⟨[], []⟩
noncomputable def S8_0 (p3 : Int) (p19 : Int) (x : (List (Int × Int)) × Int) : St E.A := at' E 111 [(3, .lf (.int .i64 p3)), (4, .lf (.own 0 0 .pair x.1)), (19, .lf (.int .i64 p19)), (20, .lf (.int .i64 x.2))] []
noncomputable def t8_0 (p3 : Int) (p19 : Int) (x : (List (Int × Int)) × Int) : Tree ((List (Int × Int)) × Int ⊕ Out' E) :=
 .ite (ltI x.snd p19)
 (.ite (decide ((x.fst.length + [(IntKind.i32.wrap (IntKind.i64.wrap ((32 : Int) + x.snd)), IntKind.u16.wrap x.snd)].length) * (8 : Nat) ≤ (140737488355328 : Nat)))
  (.leaf (.inl ((x.fst ++ [(IntKind.i32.wrap (IntKind.i64.wrap ((32 : Int) + x.snd)), IntKind.u16.wrap x.snd)]), (IntKind.i64.wrap (x.snd + (1 : Int))))))
  (.fail))
 (.leaf (.inr (.exit 0, at' E 111 [(3, .lf (.int .i64 p3)), (4, .lf (.own 0 0 .pair x.fst))] [])))
theorem h8_0 (p3 : Int) (p19 : Int) (x : (List (Int × Int)) × Int) (k : Ex → St E.A → Option Unit) :
    exec E G8 (fun _ _ => .fail) 1 (lb Go.Proofs.Tryd.f8 0) (S8_0 p3 p19 x) (fun e σ1 => k e (clean E (L8_0 e) σ1)) = (t8_0 p3 p19 x).run (Sum.elim (fun x' => k .normal (S8_0 p3 p19 x')) (fun o => k o.1 o.2)) := by kernel_rfl
end Go.Vx
namespace Px
/-- codes from 32 on, each of its own glyph -/
def plainL (n : Nat) : List (Int × Int) := (List.range n).map fun (i : Nat) => ((32 + (i : Int), (i : Int)) : Int × Int)
end Px
namespace Go.Vx
open Go
noncomputable def lam8_0 (p3 : Int) (p19 : Int) (x : (List (Int × Int)) × Int) : Tree (Out' E) :=
  .ite (leI 0 p19 && leI p19 1000 && eqI x.2 0 && Nat.beq x.1.length 0)
   (.leaf (.exit 0, at' E 111 [(3, .lf (.int .i64 p3)), (4, .lf (.own 0 0 .pair (Px.plainL p19.toNat)))] [])) .fail
theorem lo8 {O : Type} (done : List (Int × Int) → O) : ∀ (l : List Nat) (j : Nat), (∀ q, q < l.length → l[q]? = some (j + q)) → loopO (fun (s : List (Int × Int)) (i : Nat) => if s = Px.plainL i then some (.inl (s ++ [(32 + (i : Int), (i : Int))])) else none) done l (Px.plainL j) = some (done (Px.plainL (j + l.length)))
  | [], j, _ => rfl
  | i :: l, j, h => by
    have hi : i = j := by have := h 0 (by simp); simpa using this
    subst hi
    unfold loopO
    rw [if_pos rfl]
    have e : Px.plainL i ++ [(32 + (i : Int), (i : Int))] = Px.plainL (i + 1) := by simp [Px.plainL, List.range_succ]
    simp only [e]
    rw [lo8 done l (i + 1) (fun q hq => by have := h (q + 1) (by simp; omega); simp only [List.getElem?_cons_succ] at this; rw [this]; congr 1; omega), List.length_cons]
    congr 3; omega
theorem m8_0 {p3 : Int} {p19 : Int} {x : (List (Int × Int)) × Int} {e : Ex} {σ : St E.A} (_ : okLenR (E := E) (.lf (.own 0 0 .pair x.1)) = true)
    (h : (lam8_0 p3 p19 x).get = some (e, σ)) : ∃ fuel, iter (t8_0 p3 p19) fuel x = some (e, σ) ∧ e ≠ .normal := by
  obtain ⟨s, i⟩ := x
  unfold lam8_0 at h
  have h' := Tree.get_ite_some h
  clear h
  rcases h' with ⟨h1, h⟩ | ⟨_, h⟩
  · simp only [leI_eq, eqI_eq, Bool.and_eq_true, decide_eq_true_eq] at h1
    obtain ⟨⟨⟨h1, h2⟩, rfl⟩, hz⟩ := h1
    obtain rfl : s = [] := List.eq_nil_of_length_eq_zero (Nat.eq_of_beq_eq_true hz)
    obtain ⟨n, rfl⟩ : ∃ j : Nat, p19 = (j : Int) := ⟨p19.toNat, by omega⟩
    rw [Int.toNat_natCast] at h
    refine ⟨_, iter_idx (t := t8_0 p3 n) (fun i s => (s, i)) (List.range n) 0 (fun (s : List (Int × Int)) (i : Nat) => if s = Px.plainL i then some (.inl (s ++ [(32 + (i : Int), (i : Int))])) else none) (fun s => (.exit 0, at' E 111 [(3, .lf (.int .i64 p3)), (4, .lf (.own 0 0 .pair s))] [])) (fun i s y hi hy => ?_) (fun s => ?_) _ 0 (Px.plainL 0) _ ?_ (Nat.lt_succ_self _) (by omega), ?_⟩
    · rw [List.length_range] at hi
      have hgi : (List.range n).getD i 0 = i := by simp [List.getD, hi]
      rw [hgi] at hy
      split at hy
      · rename_i hs
        subst hs
        injection hy with hy; subst hy
        unfold t8_0
        have e1 : IntKind.i64.wrap ((i : Int) + 1) = ((i + 1 : Nat) : Int) := by rw [wi64] <;> omega
        have e2 : IntKind.i64.wrap (32 + (i : Int)) = 32 + (i : Int) := wi64 _ (by omega) (by omega)
        have e3 : IntKind.i32.wrap (32 + (i : Int)) = 32 + (i : Int) := wi32 _ (by omega) (by omega)
        have e4 : IntKind.u16.wrap (i : Int) = (i : Int) := wu16 _ (by omega) (by omega)
        have hlt : ltI (i : Int) n = true := by rw [ltI_eq]; exact decide_eq_true (by omega)
        have hl : (Px.plainL i).length = i := by simp [Px.plainL]
        simp only [Tree.get_ite, hlt, cond_true, e1, e2, e3, e4]
        rw [decide_eq_true (by rw [hl]; simp; omega)]
        rfl
      · cases hy
    · unfold t8_0
      have hlt : ltI ((List.range n).length : Int) n = false := by rw [ltI_eq, List.length_range]; exact decide_eq_false (by omega)
      simp only [Tree.get_ite, hlt]; rfl
    · rw [List.drop_zero, lo8 _ _ 0 (fun q hq => by rw [List.length_range] at hq; simp [hq]), List.length_range, Nat.zero_add]
      exact h
    · injection h with h; injection h with h1 _; rw [← h1]; intro hh; cases hh
  · cases h
noncomputable def rd8_0 (σ : St E.A) : Tree (Out' E) :=
  let c := clean E (L8_0 .normal) σ
  if c.sl.length = 111 then
  match c.sl.getD 3 .undef, c.sl.getD 4 .undef, c.sl.getD 19 .undef, c.sl.getD 20 .undef with
  | .lf (.int .i64 p3), .lf (.own 0 0 .pair x4), .lf (.int .i64 p19), .lf (.int .i64 x20) => lam8_0 p3 p19 (x4, x20)
  | _, _, _, _ => .fail
  else .fail
theorem ll8_0 (hL : Laws E) (σ : St E.A) (e : Ex) (σ' : St E.A) (h : (rd8_0 σ).get = some (e, σ')) : LoopOK E (lb Go.Proofs.Tryd.f8 0) σ e σ' := by
  refine LoopOK.of_clean hL (L8_0 .normal) ?_
  unfold rd8_0 at h
  simp only at h
  split at h
  · rename_i hlen
    split at h
    · rename_i p3 x4 p19 x20 h0 h1 h2 h3
      refine LoopOK.lens 4 (fun g0 => ?_)
      rw [h1] at g0
      obtain ⟨fuel, hi, ho⟩ := m8_0 g0 h
      have hl := loop_at (Γ := G8) (Λ := fun _ _ => .fail) (n := 1) (body := lb Go.Proofs.Tryd.f8 0) hL (hG8 hL) (S := S8_0 p3 p19) (t := t8_0 p3 p19) (Lv := L8_0) (LamOK.none (by kernel_rfl)) (h8_0 p3 p19) hi ho
      refine LoopOK.fit hlen ?_ ?_ rfl rfl hl
      · exact ⟨h0, h1, h2, h3, trivial⟩
      · exact trivial
    · cases h
  · cases h
def L8_1 : Ex → Live
  | .normal => ⟨[3, 6, 7, 8], []⟩
  | .exit 2 => ⟨[3, 6, 7], []⟩
  | .ret => ⟨[2], []⟩
  | _ => ⟨[], []⟩
noncomputable def S8_1 (p3 : Int) (p6 : List UInt8) (x : (List UInt8) × Int) : St E.A := at' E 111 [(3, .lf (.int .i64 p3)), (6, .lf (.str p6)), (7, .lf (.str x.1)), (8, .lf (.int .i64 x.2))] []
noncomputable def t8_1 (p3 : Int) (p6 : List UInt8) (x : (List UInt8) × Int) : Tree ((List UInt8) × Int ⊕ Out' E) :=
 .ite (ltI x.snd p3)
 (.ite (leI (0 : Int) (IntKind.u64.wrap (if false = true then Max.max (100 : Int) (IntKind.i64.wrap (p3 - x.snd)) else Min.min (100 : Int) (IntKind.i64.wrap (p3 - x.snd)))) && ltI (IntKind.u64.wrap (if false = true then Max.max (100 : Int) (IntKind.i64.wrap (p3 - x.snd)) else Min.min (100 : Int) (IntKind.i64.wrap (p3 - x.snd)))) (18446744073709551616 : Int))
  (.ite (decide ((Px.dec (IntKind.u64.wrap (if false = true then Max.max (100 : Int) (IntKind.i64.wrap (p3 - x.snd)) else Min.min (100 : Int) (IntKind.i64.wrap (p3 - x.snd)))).toNat).length + [(32 : UInt8)].length ≤ (2 : Nat) ^ (60 : Nat)))
   (.ite (decide (x.fst.length + (Px.dec (IntKind.u64.wrap (if false = true then Max.max (100 : Int) (IntKind.i64.wrap (p3 - x.snd)) else Min.min (100 : Int) (IntKind.i64.wrap (p3 - x.snd)))).toNat ++ [(32 : UInt8)]).length ≤ (2 : Nat) ^ (60 : Nat)))
    (.leaf (.inl ((x.fst ++ (Px.dec (IntKind.u64.wrap (if false = true then Max.max (100 : Int) (IntKind.i64.wrap (p3 - x.snd)) else Min.min (100 : Int) (IntKind.i64.wrap (p3 - x.snd)))).toNat ++ [(32 : UInt8)])), (IntKind.i64.wrap (x.snd + (100 : Int))))))
    (.fail))
   (.fail))
  (.fail))
 (.leaf (.inr (.exit 2, at' E 111 [(3, .lf (.int .i64 p3)), (6, .lf (.str p6)), (7, .lf (.str x.fst))] [])))
theorem h8_1 (p3 : Int) (p6 : List UInt8) (x : (List UInt8) × Int) (k : Ex → St E.A → Option Unit) :
    exec E G8 (fun _ _ => .fail) 2 (lb Go.Proofs.Tryd.f8 1) (S8_1 p3 p6 x) (fun e σ1 => k e (clean E (L8_1 e) σ1)) = (t8_1 p3 p6 x).run (Sum.elim (fun x' => k .normal (S8_1 p3 p6 x')) (fun o => k o.1 o.2)) := by kernel_rfl
end Go.Vx
namespace Px
/-- how long the rows of so many are -/
def wants (n : Nat) : List UInt8 := (Go.Vx.chunks 100 (List.replicate n ())).flatMap fun r => Go.Lib.decDigits r.length ++ [32]
end Px
namespace Go.Vx
open Go
noncomputable def lam8_1 (p3 : Int) (p6 : List UInt8) (x : (List UInt8) × Int) : Tree (Out' E) :=
  .ite (leI 0 p3 && leI p3 1000 && leI 0 x.2 && leI x.2 2000 && decide (x.1.length ≤ 1000000))
   (.leaf (.exit 2, at' E 111 [(3, .lf (.int .i64 p3)), (6, .lf (.str p6)), (7, .lf (.str (x.1 ++ Px.wants (p3 - x.2).toNat)))] [])) .fail
theorem wants_step (n : Nat) (h : 0 < n) : Px.wants n = Lib.decDigits (min 100 n) ++ [32] ++ Px.wants (n - 100) := by
  unfold Px.wants
  rw [chunks_cons 100 (by omega) _ (by intro hh; have := congrArg List.length hh; simp at this; omega), List.flatMap_cons, List.drop_replicate]
  simp
theorem it8 (p3 : Nat) (p6 : List UInt8) (hp : p3 ≤ 1000) : ∀ (n i : Nat) (s : List UInt8), p3 - i < n → i ≤ 2000 → s.length + 200 * (p3 - i) ≤ 2000000 →
    iter (t8_1 p3 p6) n (s, (i : Int)) = some (.exit 2, at' E 111 [(3, .lf (.int .i64 p3)), (6, .lf (.str p6)), (7, .lf (.str (s ++ Px.wants (p3 - i))))] []) := by
  intro n
  induction n with
  | zero => intro _ _ h _ _; omega
  | succ n ih =>
    intro i s h hi hs
    rw [iter]
    rcases Nat.lt_or_ge i p3 with hlt | hge
    · have ht : (t8_1 p3 p6 (s, (i : Int))).get = some (.inl (s ++ (Lib.decDigits (min 100 (p3 - i)) ++ [32]), ((i + 100 : Nat) : Int))) := by
        clear ih
        unfold t8_1
        have hc : ltI (i : Int) (p3 : Int) = true := by rw [ltI_eq]; exact decide_eq_true (by omega)
        have e1 : IntKind.i64.wrap ((i : Int) + 100) = ((i + 100 : Nat) : Int) := by rw [wi64] <;> omega
        have e2 : IntKind.i64.wrap ((p3 : Int) - (i : Int)) = ((p3 - i : Nat) : Int) := by rw [wi64] <;> omega
        have e3 : min (100 : Int) ((p3 - i : Nat) : Int) = ((min 100 (p3 - i) : Nat) : Int) := by omega
        have e4 : IntKind.u64.wrap ((min 100 (p3 - i) : Nat) : Int) = ((min 100 (p3 - i) : Nat) : Int) := wu64 _ (by omega) (by omega)
        have c1 : (leI 0 ((min 100 (p3 - i) : Nat) : Int) && ltI ((min 100 (p3 - i) : Nat) : Int) 18446744073709551616) = true := by
          simp only [leI_eq, ltI_eq, Bool.and_eq_true, decide_eq_true_eq]; omega
        simp only [Bool.false_eq_true, if_false, Tree.get_ite, hc, cond_true, e1, e2, e3, e4, c1, Int.toNat_natCast, dec_eq]
        have h2 := itoa_len (min 100 (p3 - i))
        have h3 : (Lib.decDigits (min 100 (p3 - i))).length ≤ 101 := by omega
        clear h2 e1 e2 e3 e4 c1 hc
        rw [decide_eq_true (by simp only [List.length_cons, List.length_nil]; omega), cond_true, decide_eq_true (by simp only [List.length_append, List.length_cons, List.length_nil]; omega), cond_true]
        rfl
      rw [ht]
      simp only
      have h2 := itoa_len (min 100 (p3 - i))
      rw [ih (i + 100) _ (by omega) (by omega) (by simp only [List.length_append, List.length_cons, List.length_nil]; omega), wants_step (p3 - i) (by omega)]
      rw [show p3 - i - 100 = p3 - (i + 100) by omega]
      simp only [List.append_assoc]
    · have ht : (t8_1 p3 p6 (s, (i : Int))).get = some (.inr (.exit 2, at' E 111 [(3, .lf (.int .i64 p3)), (6, .lf (.str p6)), (7, .lf (.str s))] [])) := by
        unfold t8_1
        have hc : ltI (i : Int) (p3 : Int) = false := by rw [ltI_eq]; exact decide_eq_false (by omega)
        rw [Tree.get_ite, hc, cond_false]; rfl
      rw [ht, show p3 - i = 0 by omega]
      have : Px.wants 0 = [] := by unfold Px.wants; rw [List.replicate_zero, chunks_nil 100 (by omega)]; rfl
      rw [this, List.append_nil]
theorem m8_1 {p3 : Int} {p6 : List UInt8} {x : (List UInt8) × Int} {e : Ex} {σ : St E.A} (_ : okLenR (E := E) (.lf (.str p6)) = true) (_ : okLenR (E := E) (.lf (.str x.1)) = true)
    (h : (lam8_1 p3 p6 x).get = some (e, σ)) : ∃ fuel, iter (t8_1 p3 p6) fuel x = some (e, σ) ∧ e ≠ .normal := by
  obtain ⟨s, i⟩ := x
  unfold lam8_1 at h
  have h' := Tree.get_ite_some h
  clear h
  rcases h' with ⟨h1, h⟩ | ⟨_, h⟩
  · simp only [leI_eq, Bool.and_eq_true, decide_eq_true_eq] at h1
    obtain ⟨⟨⟨⟨h1, h2⟩, h3⟩, h4⟩, h5⟩ := h1
    obtain ⟨i, rfl⟩ : ∃ j : Nat, i = (j : Int) := ⟨i.toNat, by omega⟩
    obtain ⟨n, rfl⟩ : ∃ j : Nat, p3 = (j : Int) := ⟨p3.toNat, by omega⟩
    have e : ((n : Int) - (i : Int)).toNat = n - i := by omega
    simp only [e] at h
    refine ⟨_, (it8 n p6 (by omega) (n - i + 1) i s (by omega) (by omega) (by omega)).trans h, ?_⟩
    injection h with h; injection h with h1 _; rw [← h1]; intro hh; cases hh
  · cases h
noncomputable def rd8_1 (σ : St E.A) : Tree (Out' E) :=
  let c := clean E (L8_1 .normal) σ
  if c.sl.length = 111 then
  match c.sl.getD 3 .undef, c.sl.getD 6 .undef, c.sl.getD 7 .undef, c.sl.getD 8 .undef with
  | .lf (.int .i64 p3), .lf (.str p6), .lf (.str x7), .lf (.int .i64 x8) => lam8_1 p3 p6 (x7, x8)
  | _, _, _, _ => .fail
  else .fail
theorem ll8_1 (hL : Laws E) (σ : St E.A) (e : Ex) (σ' : St E.A) (h : (rd8_1 σ).get = some (e, σ')) : LoopOK E (lb Go.Proofs.Tryd.f8 1) σ e σ' := by
  refine LoopOK.of_clean hL (L8_1 .normal) ?_
  unfold rd8_1 at h
  simp only at h
  split at h
  · rename_i hlen
    split at h
    · rename_i p3 p6 x7 x8 h0 h1 h2 h3
      refine LoopOK.lens 6 (fun g0 => ?_)
      rw [h1] at g0
      refine LoopOK.lens 7 (fun g1 => ?_)
      rw [h2] at g1
      obtain ⟨fuel, hi, ho⟩ := m8_1 g0 g1 h
      have hl := loop_at (Γ := G8) (Λ := fun _ _ => .fail) (n := 2) (body := lb Go.Proofs.Tryd.f8 1) hL (hG8 hL) (S := S8_1 p3 p6) (t := t8_1 p3 p6) (Lv := L8_1) (LamOK.none (by kernel_rfl)) (h8_1 p3 p6) hi ho
      refine LoopOK.fit hlen ?_ ?_ rfl rfl hl
      · exact ⟨h0, h1, h2, h3, trivial⟩
      · exact trivial
    · cases h
  · cases h
def L8_3 : Ex → Live
  | .normal => ⟨[3, 6, 7, 9, 10, 11, 51, 52], []⟩
  | .exit 6 => ⟨[3, 6, 7, 9, 10, 11, 51, 52], []⟩
  | .ret => ⟨[2], []⟩
  | _ => ⟨[], []⟩
noncomputable def S8_3 (p3 : Int) (p6 : List UInt8) (p7 : List UInt8) (p9 : List UInt8) (p10 : Int) (p51 : Int) (p52 : Int) (x : Int) : St E.A := at' E 111 [(3, .lf (.int .i64 p3)), (6, .lf (.str p6)), (7, .lf (.str p7)), (9, .lf (.str p9)), (10, .lf (.int .i64 p10)), (11, .lf (.int .i64 x)), (51, .lf (.int .i64 p51)), (52, .lf (.int .i64 p52))] []
noncomputable def t8_3 (p3 : Int) (p6 : List UInt8) (p7 : List UInt8) (p9 : List UInt8) (p10 : Int) (p51 : Int) (p52 : Int) (x : Int) : Tree ((Int) ⊕ Out' E) :=
 .ite (ltI (0 : Int) x)
 (.ite (inB (IntKind.i64.wrap (x - (1 : Int))) p6.length)
  (.ite (!eqI (↑(p6.getD (IntKind.i64.wrap (x - (1 : Int))).toNat (0 : UInt8)).toNat : Int) (10 : Int))
   (.leaf (.inl ((IntKind.i64.wrap (x - (1 : Int))))))
   (.leaf (.inr (.exit 6, at' E 111 [(3, .lf (.int .i64 p3)), (6, .lf (.str p6)), (7, .lf (.str p7)), (9, .lf (.str p9)), (10, .lf (.int .i64 p10)), (11, .lf (.int .i64 x)), (51, .lf (.int .i64 p51)), (52, .lf (.int .i64 p52))] []))))
  (.fail))
 (.leaf (.inr (.exit 6, at' E 111 [(3, .lf (.int .i64 p3)), (6, .lf (.str p6)), (7, .lf (.str p7)), (9, .lf (.str p9)), (10, .lf (.int .i64 p10)), (11, .lf (.int .i64 x)), (51, .lf (.int .i64 p51)), (52, .lf (.int .i64 p52))] [])))
theorem h8_3 (p3 : Int) (p6 : List UInt8) (p7 : List UInt8) (p9 : List UInt8) (p10 : Int) (p51 : Int) (p52 : Int) (x : Int) (k : Ex → St E.A → Option Unit) :
    exec E G8 (fun _ _ => .fail) 4 (lb Go.Proofs.Tryd.f8 3) (S8_3 p3 p6 p7 p9 p10 p51 p52 x) (fun e σ1 => k e (clean E (L8_3 e) σ1)) = (t8_3 p3 p6 p7 p9 p10 p51 p52 x).run (Sum.elim (fun x' => k .normal (S8_3 p3 p6 p7 p9 p10 p51 p52 x')) (fun o => k o.1 o.2)) := by kernel_rfl
end Go.Vx
namespace Px
/-- where a line begins -/
def back (p : List UInt8) : Nat → Nat
  | 0 => 0
  | j + 1 => cond (decide (p.getD j 0 = 10)) (j + 1) (back p j)
end Px
namespace Go.Vx
open Go
noncomputable def lam8_3 (p3 : Int) (p6 : List UInt8) (p7 : List UInt8) (p9 : List UInt8) (p10 : Int) (p51 : Int) (p52 : Int) (x : Int) : Tree (Out' E) :=
  .ite (leI 0 x && leI x p6.length)
   (.leaf (.exit 6, at' E 111 [(3, .lf (.int .i64 p3)), (6, .lf (.str p6)), (7, .lf (.str p7)), (9, .lf (.str p9)), (10, .lf (.int .i64 p10)), (11, .lf (.int .i64 (Px.back p6 x.toNat))), (51, .lf (.int .i64 p51)), (52, .lf (.int .i64 p52))] [])) .fail
theorem it8' (p3 : Int) (p6 p7 p9 : List UInt8) (p10 p51 p52 : Int) (hl : p6.length ≤ 9223372036854775807) : ∀ (j n : Nat), j < n → j ≤ p6.length → iter (t8_3 p3 p6 p7 p9 p10 p51 p52) n (j : Int) = some (.exit 6, at' E 111 [(3, .lf (.int .i64 p3)), (6, .lf (.str p6)), (7, .lf (.str p7)), (9, .lf (.str p9)), (10, .lf (.int .i64 p10)), (11, .lf (.int .i64 (Px.back p6 j))), (51, .lf (.int .i64 p51)), (52, .lf (.int .i64 p52))] [])
  | 0, n + 1, _, _ => rfl
  | j + 1, n + 1, h, hj => by
    rw [iter]
    have hc : ltI (0 : Int) ((j + 1 : Nat) : Int) = true := by rw [ltI_eq]; exact decide_eq_true (by omega)
    have e1 : IntKind.i64.wrap (((j + 1 : Nat) : Int) - 1) = (j : Int) := by rw [wi64] <;> omega
    have hin : inB (j : Int) p6.length = true := inB_true.2 ⟨by omega, by omega⟩
    have q1 : ∀ c : UInt8, eqI ((c.toNat : Int)) 10 = decide (c = 10) := fun c => eqI_lit c 10 10 rfl
    have e2 : Px.back p6 (j + 1) = cond (decide (p6.getD j 0 = 10)) (j + 1) (Px.back p6 j) := rfl
    cases hb : decide (p6.getD j 0 = 10) with
    | true =>
      have ht : (t8_3 p3 p6 p7 p9 p10 p51 p52 ((j + 1 : Nat) : Int)).get = some (.inr (.exit 6, at' E 111 [(3, .lf (.int .i64 p3)), (6, .lf (.str p6)), (7, .lf (.str p7)), (9, .lf (.str p9)), (10, .lf (.int .i64 p10)), (11, .lf (.int .i64 ((j + 1 : Nat) : Int))), (51, .lf (.int .i64 p51)), (52, .lf (.int .i64 p52))] [])) := by
        unfold t8_3
        simp only [Tree.get_ite, hc, e1, hin, cond_true, Int.toNat_natCast, q1, hb]; rfl
      rw [ht, e2, hb]; rfl
    | false =>
      have ht : (t8_3 p3 p6 p7 p9 p10 p51 p52 ((j + 1 : Nat) : Int)).get = some (.inl (j : Int)) := by
        unfold t8_3
        simp only [Tree.get_ite, hc, e1, hin, cond_true, Int.toNat_natCast, q1, hb]; rfl
      rw [ht, e2, hb]
      exact it8' p3 p6 p7 p9 p10 p51 p52 hl j n (by omega) (by omega)
theorem m8_3 {p3 : Int} {p6 : List UInt8} {p7 : List UInt8} {p9 : List UInt8} {p10 : Int} {p51 : Int} {p52 : Int} {x : Int} {e : Ex} {σ : St E.A} (g : okLenR (E := E) (.lf (.str p6)) = true) (_ : okLenR (E := E) (.lf (.str p7)) = true) (_ : okLenR (E := E) (.lf (.str p9)) = true)
    (h : (lam8_3 p3 p6 p7 p9 p10 p51 p52 x).get = some (e, σ)) : ∃ fuel, iter (t8_3 p3 p6 p7 p9 p10 p51 p52) fuel x = some (e, σ) ∧ e ≠ .normal := by
  have hb : p6.length ≤ 9223372036854775807 := of_decide_eq_true g
  unfold lam8_3 at h
  have h' := Tree.get_ite_some h
  clear h
  rcases h' with ⟨h1, h⟩ | ⟨_, h⟩
  · simp only [leI_eq, Bool.and_eq_true, decide_eq_true_eq] at h1
    obtain ⟨j, rfl⟩ : ∃ j : Nat, x = (j : Int) := ⟨x.toNat, by omega⟩
    rw [Int.toNat_natCast] at h
    refine ⟨_, (it8' p3 p6 p7 p9 p10 p51 p52 hb j (j + 1) (by omega) (by omega)).trans h, ?_⟩
    injection h with h; injection h with h1 _; rw [← h1]; intro hh; cases hh
  · cases h
noncomputable def rd8_3 (σ : St E.A) : Tree (Out' E) :=
  let c := clean E (L8_3 .normal) σ
  if c.sl.length = 111 then
  match c.sl.getD 3 .undef, c.sl.getD 6 .undef, c.sl.getD 7 .undef, c.sl.getD 9 .undef, c.sl.getD 10 .undef, c.sl.getD 11 .undef, c.sl.getD 51 .undef, c.sl.getD 52 .undef with
  | .lf (.int .i64 p3), .lf (.str p6), .lf (.str p7), .lf (.str p9), .lf (.int .i64 p10), .lf (.int .i64 x11), .lf (.int .i64 p51), .lf (.int .i64 p52) => lam8_3 p3 p6 p7 p9 p10 p51 p52 (x11)
  | _, _, _, _, _, _, _, _ => .fail
  else .fail
theorem ll8_3 (hL : Laws E) (σ : St E.A) (e : Ex) (σ' : St E.A) (h : (rd8_3 σ).get = some (e, σ')) : LoopOK E (lb Go.Proofs.Tryd.f8 3) σ e σ' := by
  refine LoopOK.of_clean hL (L8_3 .normal) ?_
  unfold rd8_3 at h
  simp only at h
  split at h
  · rename_i hlen
    split at h
    · rename_i p3 p6 p7 p9 p10 x11 p51 p52 h0 h1 h2 h3 h4 h5 h6 h7
      refine LoopOK.lens 6 (fun g0 => ?_)
      rw [h1] at g0
      refine LoopOK.lens 7 (fun g1 => ?_)
      rw [h2] at g1
      refine LoopOK.lens 9 (fun g2 => ?_)
      rw [h3] at g2
      obtain ⟨fuel, hi, ho⟩ := m8_3 g0 g1 g2 h
      have hl := loop_at (Γ := G8) (Λ := fun _ _ => .fail) (n := 4) (body := lb Go.Proofs.Tryd.f8 3) hL (hG8 hL) (S := S8_3 p3 p6 p7 p9 p10 p51 p52) (t := t8_3 p3 p6 p7 p9 p10 p51 p52) (Lv := L8_3) (LamOK.none (by kernel_rfl)) (h8_3 p3 p6 p7 p9 p10 p51 p52) hi ho
      refine LoopOK.fit hlen ?_ ?_ rfl rfl hl
      · exact ⟨h0, h1, h2, h3, h4, h5, h6, h7, trivial⟩
      · exact trivial
    · cases h
  · cases h
def L8_2 : Ex → Live
  | .normal => ⟨[3, 6, 7, 9, 51, 52], []⟩
  | .exit 4 => ⟨[3, 6, 7, 9], []⟩
  | .ret => ⟨[2], []⟩
  | _ => ⟨[], []⟩
noncomputable def S8_2 (p3 : Int) (p6 : List UInt8) (p7 : List UInt8) (p51 : Int) (x : (List UInt8) × Int) : St E.A := at' E 111 [(3, .lf (.int .i64 p3)), (6, .lf (.str p6)), (7, .lf (.str p7)), (9, .lf (.str x.1)), (51, .lf (.int .i64 p51)), (52, .lf (.int .i64 x.2))] []
noncomputable def Lm8_2 : Lam E
  | 3, σ => rd8_3 σ
  | _, _ => .fail
noncomputable def t8_2 (p3 : Int) (p6 : List UInt8) (p7 : List UInt8) (p51 : Int) (x : (List UInt8) × Int) : Tree ((List UInt8) × Int ⊕ Out' E) :=
 .ite (ltI x.snd p51)
 (.ite (ltI (0 : Int) x.snd)
  (.ite (ltI (12 : Int) (IntKind.i64.wrap ((↑p6.length : Int) - x.snd)))
   (.ite (leI (0 : Int) x.snd && leI x.snd (IntKind.i64.wrap (x.snd + (12 : Int))) && leI (IntKind.i64.wrap (x.snd + (12 : Int))) (↑p6.length : Int))
    (.ite (decide (List.drop x.snd.toNat (List.take (IntKind.i64.wrap (x.snd + (12 : Int))).toNat p6) = [(32 : UInt8), (98 : UInt8), (101 : UInt8), (103 : UInt8), (105 : UInt8), (110 : UInt8), (98 : UInt8), (102 : UInt8), (99 : UInt8), (104 : UInt8), (97 : UInt8), (114 : UInt8)]))
     (.ite (leI (0 : Int) x.snd && leI x.snd (↑p6.length : Int))
      (.ite (leI (0 : Int) (↑(Px.back p6 x.snd.toNat) : Int) && leI (↑(Px.back p6 x.snd.toNat) : Int) x.snd && leI x.snd (↑p6.length : Int))
       (.ite (decide ((List.drop (↑(Px.back p6 x.snd.toNat) : Int).toNat (List.take x.snd.toNat p6)).length + [(32 : UInt8)].length ≤ (2 : Nat) ^ (60 : Nat)))
        (.ite (decide (x.fst.length + (List.drop (↑(Px.back p6 x.snd.toNat) : Int).toNat (List.take x.snd.toNat p6) ++ [(32 : UInt8)]).length ≤ (2 : Nat) ^ (60 : Nat)))
         (.leaf (.inl ((x.fst ++ (List.drop (↑(Px.back p6 x.snd.toNat) : Int).toNat (List.take x.snd.toNat p6) ++ [(32 : UInt8)])), (IntKind.i64.wrap (x.snd + (1 : Int))))))
         (.fail))
        (.fail))
       (.fail))
      (.fail))
     (.leaf (.inl (x.fst, (IntKind.i64.wrap (x.snd + (1 : Int)))))))
    (.fail))
   (.leaf (.inl (x.fst, (IntKind.i64.wrap (x.snd + (1 : Int)))))))
  (.leaf (.inl (x.fst, (IntKind.i64.wrap (x.snd + (1 : Int)))))))
 (.leaf (.inr (.exit 4, at' E 111 [(3, .lf (.int .i64 p3)), (6, .lf (.str p6)), (7, .lf (.str p7)), (9, .lf (.str x.fst))] [])))
theorem h8_2 (p3 : Int) (p6 : List UInt8) (p7 : List UInt8) (p51 : Int) (x : (List UInt8) × Int) (k : Ex → St E.A → Option Unit) :
    exec E G8 ((Lm8_2)) 3 (lb Go.Proofs.Tryd.f8 2) (S8_2 p3 p6 p7 p51 x) (fun e σ1 => k e (clean E (L8_2 e) σ1)) = (t8_2 p3 p6 p7 p51 x).run (Sum.elim (fun x' => k .normal (S8_2 p3 p6 p7 p51 x')) (fun o => k o.1 o.2)) := by kernel_rfl
end Go.Vx
namespace Px
def wHit : List UInt8 := [32, 98, 101, 103, 105, 110, 98, 102, 99, 104, 97, 114]
def hit (p : List UInt8) (i : Nat) : Bool := Nat.blt 0 i && Nat.blt 12 (p.length - i) && decide ((p.drop i).take 12 = wHit)
def gotAt (p : List UInt8) (i : Nat) : List UInt8 := cond (hit p i) ((p.take i).drop (back p i) ++ [32]) []
def gotOf (p : List UInt8) (l : List Nat) : List UInt8 := l.flatMap (gotAt p)
end Px
namespace Go.Vx
open Go
noncomputable def lam8_2 (p3 : Int) (p6 : List UInt8) (p7 : List UInt8) (p51 : Int) (x : (List UInt8) × Int) : Tree (Out' E) :=
  .ite (eqI p51 p6.length && leI 0 x.2 && leI x.2 p51 && decide (p6.length ≤ 1000000) && decide ((x.1.length : Int) ≤ 1000001 * x.2))
   (.leaf (.exit 4, at' E 111 [(3, .lf (.int .i64 p3)), (6, .lf (.str p6)), (7, .lf (.str p7)), (9, .lf (.str (x.1 ++ Px.gotOf p6 ((List.range p6.length).drop x.2.toNat))))] [])) .fail
theorem back_le (p : List UInt8) : ∀ j, Px.back p j ≤ j
  | 0 => Nat.le_refl _
  | j + 1 => by
    have := back_le p j
    unfold Px.back
    cases decide (p.getD j 0 = 10) <;> simp only [cond_true, cond_false] <;> omega
theorem gotAt_len (p : List UInt8) (i : Nat) (hi : i < p.length) : (Px.gotAt p i).length ≤ p.length + 1 := by
  unfold Px.gotAt
  cases Px.hit p i
  · simp
  · simp; omega
theorem lo8b {O : Type} (p : List UInt8) (hp : p.length ≤ 1000000) (done : List UInt8 → O) : ∀ (l : List Nat) (j : Nat) (s : List UInt8), (∀ q, q < l.length → l[q]? = some (j + q)) → j + l.length ≤ p.length → s.length ≤ 1000001 * j →
    loopO (fun (s : List UInt8) (i : Nat) => if s.length ≤ 1000001 * 1000000 then some (.inl (s ++ Px.gotAt p i)) else none) done l s = some (done (s ++ Px.gotOf p l))
  | [], j, s, _, _, _ => by simp [loopO, Px.gotOf]
  | i :: l, j, s, h, hj, hs => by
    have hi : i = j := by have := h 0 (by simp); simpa using this
    subst hi
    rw [List.length_cons] at hj
    have hg := gotAt_len p i (by omega)
    unfold loopO
    rw [if_pos (by omega)]
    simp only
    rw [lo8b p hp done l (i + 1) _ (fun q hq => by have := h (q + 1) (by simp; omega); simp only [List.getElem?_cons_succ] at this; rw [this]; congr 1; omega) (by omega) (by rw [List.length_append]; omega)]
    simp only [Px.gotOf, List.flatMap_cons, List.append_assoc]
theorem m8_2 {p3 : Int} {p6 : List UInt8} {p7 : List UInt8} {p51 : Int} {x : (List UInt8) × Int} {e : Ex} {σ : St E.A} (_ : okLenR (E := E) (.lf (.str p6)) = true) (_ : okLenR (E := E) (.lf (.str p7)) = true) (_ : okLenR (E := E) (.lf (.str x.1)) = true)
    (h : (lam8_2 p3 p6 p7 p51 x).get = some (e, σ)) : ∃ fuel, iter (t8_2 p3 p6 p7 p51) fuel x = some (e, σ) ∧ e ≠ .normal := by
  obtain ⟨s, i⟩ := x
  unfold lam8_2 at h
  have h' := Tree.get_ite_some h
  clear h
  rcases h' with ⟨h1, h⟩ | ⟨_, h⟩
  · simp only [leI_eq, eqI_eq, Bool.and_eq_true, decide_eq_true_eq] at h1
    obtain ⟨⟨⟨⟨rfl, h2⟩, h3⟩, h4⟩, h5⟩ := h1
    obtain ⟨i, rfl⟩ : ∃ j : Nat, i = (j : Int) := ⟨i.toNat, by omega⟩
    simp only [Int.toNat_natCast] at h
    refine ⟨_, iter_idx (t := t8_2 p3 p6 p7 p6.length) (fun i s => (s, i)) (List.range p6.length) 0 (fun (s : List UInt8) (i : Nat) => if s.length ≤ 1000001 * 1000000 then some (.inl (s ++ Px.gotAt p6 i)) else none) (fun s => (.exit 4, at' E 111 [(3, .lf (.int .i64 p3)), (6, .lf (.str p6)), (7, .lf (.str p7)), (9, .lf (.str s))] [])) (fun i s y hi hy => ?_) (fun s => ?_) _ i s _ ?_ (Nat.lt_succ_self _) (by simp; omega), ?_⟩
    · rw [List.length_range] at hi
      have hgi : (List.range p6.length).getD i 0 = i := by simp [List.getD, hi]
      rw [hgi] at hy
      split at hy
      · rename_i hs
        injection hy with hy; subst hy
        have ht : (t8_2 p3 p6 p7 p6.length (s, (i : Int))).get = some (.inl (s ++ Px.gotAt p6 i, ((i + 1 : Nat) : Int))) := by
          have e1 : IntKind.i64.wrap ((i : Int) + 1) = ((i + 1 : Nat) : Int) := by rw [wi64] <;> omega
          have e2 : IntKind.i64.wrap ((i : Int) + 12) = ((i + 12 : Nat) : Int) := by rw [wi64] <;> omega
          have e3 : IntKind.i64.wrap ((p6.length : Int) - (i : Int)) = ((p6.length - i : Nat) : Int) := by rw [wi64] <;> omega
          have hlt : ltI (i : Int) (p6.length : Int) = true := by rw [ltI_eq]; exact decide_eq_true (by omega)
          have e4 : (p6.take (i + 12)).drop i = (p6.drop i).take 12 := by rw [List.drop_take, Nat.add_sub_cancel_left]
          unfold t8_2
          simp only [Tree.get_ite, hlt, cond_true, e1, e2, e3, Int.toNat_natCast, e4]
          unfold Px.gotAt Px.hit
          have b1 : ltI (0 : Int) (i : Int) = Nat.blt 0 i := by rw [ltI_eq, Bool.eq_iff_iff, decide_eq_true_eq, Nat.blt_eq]; omega
          have b2 : ltI (12 : Int) ((p6.length - i : Nat) : Int) = Nat.blt 12 (p6.length - i) := by rw [ltI_eq, Bool.eq_iff_iff, decide_eq_true_eq, Nat.blt_eq]; omega
          rw [b1, b2]
          cases hb1 : Nat.blt 0 i with
          | false => simp only [cond_false, Bool.false_and, List.append_nil, Tree.get_leaf]
          | true =>
            cases hb2 : Nat.blt 12 (p6.length - i) with
            | false => simp only [cond_true, cond_false, Bool.and_false, Bool.false_and, List.append_nil, Tree.get_leaf]
            | true =>
              rw [Nat.blt_eq] at hb2
              have hbk := back_le p6 i
              have c1 : (leI 0 (i : Int) && leI (i : Int) ((i + 12 : Nat) : Int) && leI ((i + 12 : Nat) : Int) (p6.length : Int)) = true := by
                simp only [leI_eq, Bool.and_eq_true, decide_eq_true_eq]; omega
              have c2 : (leI 0 (i : Int) && leI (i : Int) (p6.length : Int)) = true := by
                simp only [leI_eq, Bool.and_eq_true, decide_eq_true_eq]; omega
              have c3 : (leI 0 ((Px.back p6 i : Nat) : Int) && leI ((Px.back p6 i : Nat) : Int) (i : Int) && leI (i : Int) (p6.length : Int)) = true := by
                simp only [leI_eq, Bool.and_eq_true, decide_eq_true_eq]; omega
              have hw : ([(32 : UInt8), (98 : UInt8), (101 : UInt8), (103 : UInt8), (105 : UInt8), (110 : UInt8), (98 : UInt8), (102 : UInt8), (99 : UInt8), (104 : UInt8), (97 : UInt8), (114 : UInt8)] : List UInt8) = Px.wHit := rfl
              have hlen : ((p6.take i).drop (Px.back p6 i)).length ≤ 1000000 := by simp; omega
              rw [hw]
              simp only [cond_true, Bool.true_and, c1, c2, c3]
              cases decide ((p6.drop i).take 12 = Px.wHit) with
              | false => simp only [cond_false, List.append_nil, Tree.get_leaf]
              | true =>
                simp only [cond_true]
                clear e1 e2 e3 hlt b1 b2 c1 c2 c3
                rw [decide_eq_true (by simp only [List.length_cons, List.length_nil]; omega), cond_true, decide_eq_true (by simp only [List.length_append, List.length_cons, List.length_nil]; omega), cond_true]
                rfl
        exact ht
      · cases hy
    · unfold t8_2
      have hlt : ltI ((List.range p6.length).length : Int) (p6.length : Int) = false := by rw [ltI_eq, List.length_range]; exact decide_eq_false (by omega)
      simp only [Tree.get_ite, hlt]; rfl
    · rw [lo8b p6 h4 _ _ i s (fun q hq => by
        rw [List.length_drop, List.length_range] at hq
        rw [List.getElem?_drop, List.getElem?_range (by omega)]) (by rw [List.length_drop, List.length_range]; omega) (by omega)]
      exact h
    · injection h with h; injection h with h1 _; rw [← h1]; intro hh; cases hh
  · cases h
noncomputable def rd8_2 (σ : St E.A) : Tree (Out' E) :=
  let c := clean E (L8_2 .normal) σ
  if c.sl.length = 111 then
  match c.sl.getD 3 .undef, c.sl.getD 6 .undef, c.sl.getD 7 .undef, c.sl.getD 9 .undef, c.sl.getD 51 .undef, c.sl.getD 52 .undef with
  | .lf (.int .i64 p3), .lf (.str p6), .lf (.str p7), .lf (.str x9), .lf (.int .i64 p51), .lf (.int .i64 x52) => lam8_2 p3 p6 p7 p51 (x9, x52)
  | _, _, _, _, _, _ => .fail
  else .fail
theorem ll8_2 (hL : Laws E) (σ : St E.A) (e : Ex) (σ' : St E.A) (h : (rd8_2 σ).get = some (e, σ')) : LoopOK E (lb Go.Proofs.Tryd.f8 2) σ e σ' := by
  refine LoopOK.of_clean hL (L8_2 .normal) ?_
  unfold rd8_2 at h
  simp only at h
  split at h
  · rename_i hlen
    split at h
    · rename_i p3 p6 p7 x9 p51 x52 h0 h1 h2 h3 h4 h5
      refine LoopOK.lens 6 (fun g0 => ?_)
      rw [h1] at g0
      refine LoopOK.lens 7 (fun g1 => ?_)
      rw [h2] at g1
      refine LoopOK.lens 9 (fun g2 => ?_)
      rw [h3] at g2
      obtain ⟨fuel, hi, ho⟩ := m8_2 g0 g1 g2 h
      have hl := loop_at (Γ := G8) (Λ := (Lm8_2)) (n := 3) (body := lb Go.Proofs.Tryd.f8 2) hL (hG8 hL) (S := S8_2 p3 p6 p7 p51) (t := t8_2 p3 p6 p7 p51) (Lv := L8_2) ((LamOK.of (m := 1) (by kernel_rfl) (fun j hj σ e σ' hg => by
      match j, hj with
      | 0, _ => exact (show (loopAt (lb Go.Proofs.Tryd.f8 2) 0).getD .skip = lb Go.Proofs.Tryd.f8 3 from by kernel_rfl) ▸ ll8_3 hL σ e σ' hg
      ))) (h8_2 p3 p6 p7 p51) hi ho
      refine LoopOK.fit hlen ?_ ?_ rfl rfl hl
      · exact ⟨h0, h1, h2, h3, h4, h5, trivial⟩
      · exact trivial
    · cases h
  · cases h
noncomputable def Lam8 : Lam E
  | 0, σ => rd8_0 σ
  | 1, σ => rd8_1 σ
  | 2, σ => rd8_2 σ
  | 3, σ => rd8_3 σ
  | _, _ => .fail
noncomputable def w8 (a0 : Int) : Tree (RV E.A × List (Obj E.A)) :=
 .ite (leI (0 : Int) (IntKind.i64.wrap (a0.tmod (350 : Int))) && leI (IntKind.i64.wrap (a0.tmod (350 : Int))) (1000 : Int) && eqI (0 : Int) (0 : Int) && ([] : List UInt8).length.beq (0 : Nat))
 (.ite (decide ((Px.plainL (IntKind.i64.wrap (a0.tmod (350 : Int))).toNat).length ≤ (1000000 : Nat)))
  (.ite (leI (0 : Int) (IntKind.i64.wrap (a0.tmod (350 : Int))) && leI (IntKind.i64.wrap (a0.tmod (350 : Int))) (1000 : Int) && leI (0 : Int) (0 : Int) && leI (0 : Int) (2000 : Int) && decide (([] : List UInt8).length ≤ (1000000 : Nat)))
   (.ite (eqI (↑(Px.build' (Px.plainL (IntKind.i64.wrap (a0.tmod (350 : Int))).toNat)).length : Int) (↑(Px.build' (Px.plainL (IntKind.i64.wrap (a0.tmod (350 : Int))).toNat)).length : Int) && leI (0 : Int) (0 : Int) && leI (0 : Int) (↑(Px.build' (Px.plainL (IntKind.i64.wrap (a0.tmod (350 : Int))).toNat)).length : Int) && decide ((Px.build' (Px.plainL (IntKind.i64.wrap (a0.tmod (350 : Int))).toNat)).length ≤ (1000000 : Nat)) && decide ((↑([] : List UInt8).length : Int) ≤ (1000001 : Int) * (0 : Int)))
    (.ite (decide ((Px.build' (Px.plainL (IntKind.i64.wrap (a0.tmod (350 : Int))).toNat)).length ≤ (1000000000 : Nat)) && Px.ascii' (Px.build' (Px.plainL (IntKind.i64.wrap (a0.tmod (350 : Int))).toNat)))
     (.ite (eqI (Px.parse' (Px.build' (Px.plainL (IntKind.i64.wrap (a0.tmod (350 : Int))).toNat))).fst (0 : Int))
      (.ite (decide ([] ++ Px.gotOf (Px.build' (Px.plainL (IntKind.i64.wrap (a0.tmod (350 : Int))).toNat)) (List.drop (Int.toNat (0 : Int)) (List.range (Px.build' (Px.plainL (IntKind.i64.wrap (a0.tmod (350 : Int))).toNat)).length)) = [] ++ Px.wants (IntKind.i64.wrap (a0.tmod (350 : Int)) - (0 : Int)).toNat))
       (.ite (decide ((Px.parse' (Px.build' (Px.plainL (IntKind.i64.wrap (a0.tmod (350 : Int))).toNat))).snd.length ≤ (2 : Nat) ^ (62 : Nat)))
        (.leaf (.lf (.bool (eqI (↑(Px.parse' (Px.build' (Px.plainL (IntKind.i64.wrap (a0.tmod (350 : Int))).toNat))).snd.length : Int) (IntKind.i64.wrap (a0.tmod (350 : Int))))), []))
        (.fail))
       (.leaf (.lf (.bool false), [])))
      (.ite (decide ([] ++ Px.gotOf (Px.build' (Px.plainL (IntKind.i64.wrap (a0.tmod (350 : Int))).toNat)) (List.drop (Int.toNat (0 : Int)) (List.range (Px.build' (Px.plainL (IntKind.i64.wrap (a0.tmod (350 : Int))).toNat)).length)) = [] ++ Px.wants (IntKind.i64.wrap (a0.tmod (350 : Int)) - (0 : Int)).toNat))
       (.ite (eqI (Px.parse' (Px.build' (Px.plainL (IntKind.i64.wrap (a0.tmod (350 : Int))).toNat))).fst (0 : Int))
        (.leaf (.lf (.bool (eqI (0 : Int) (IntKind.i64.wrap (a0.tmod (350 : Int))))), []))
        (.leaf (.lf (.bool false), [])))
       (.leaf (.lf (.bool false), []))))
     (.fail))
    (.fail))
   (.fail))
  (.fail))
 (.fail)
theorem e8 (a0 : Int) : execFun E G8 ((Lam8)) false Go.Proofs.Tryd.f8 [.lf (.int .u16 a0)] [] some = (w8 a0).get := by kernel_rfl
noncomputable def spec8 : Spec E := fun args os => match args, os with
  | [.lf (.int .u16 a0)], [] => w8 a0
  | _, _ => .fail
theorem valid8 (hL : Laws E) : Valid E 8 spec8 :=
  valid_of_body hL (hG8 hL) (Λ := (Lam8)) (fn := Go.Proofs.Tryd.f8) (keep := false) (by kernel_rfl) (by kernel_rfl) (by kernel_rfl) ((LamOK.of (m := 4) (by kernel_rfl) (fun j hj σ e σ' hg => by
      match j, hj with
      | 0, _ => exact ll8_0 hL σ e σ' hg
      | 1, _ => exact ll8_1 hL σ e σ' hg
      | 2, _ => exact ll8_2 hL σ e σ' hg
      | 3, _ => exact ll8_3 hL σ e σ' hg
      ))) (fun args os r os' h => by
    unfold spec8 at h
    split at h
    · exact (e8 _).trans h
    · cases h)
end Go.Vx
namespace Px
open Go.Vx Go
/-- what is found from a place on -/
def gfrom (a r : List UInt8) : List UInt8 := gotOf (a ++ r) ((List.range (a ++ r).length).drop a.length)
theorem gfrom_nil (a : List UInt8) : gfrom a [] = [] := by
  unfold gfrom
  rw [List.append_nil, List.drop_of_length_le (by simp)]; rfl
theorem gfrom_cons (a : List UInt8) (c : UInt8) (r : List UInt8) : gfrom a (c :: r) = gotAt (a ++ c :: r) a.length ++ gfrom (a ++ [c]) r := by
  unfold gfrom
  have e : (a ++ [c]) ++ r = a ++ c :: r := by simp
  rw [e, drop_cons (List.range (a ++ c :: r).length) 0 a.length (by simp)]
  have hg : (List.range (a ++ c :: r).length).getD a.length 0 = a.length := by simp [List.getD]
  rw [hg]
  have hl : (a ++ [c]).length = a.length + 1 := by simp
  rw [hl]
  rfl
theorem gfrom_one (a : List UInt8) (c : UInt8) (r : List UInt8) (hc : c ≠ 32) : gfrom a (c :: r) = gfrom (a ++ [c]) r := by
  rw [gfrom_cons]
  have : hit (a ++ c :: r) a.length = false := by
    unfold hit
    rw [List.drop_left]
    have : decide ((c :: r).take 12 = wHit) = false := decide_eq_false (by intro h; injection h with h _; exact hc h)
    rw [this, Bool.and_false]
  unfold gotAt
  rw [this]; rfl
theorem gfrom_word : ∀ (w a r : List UInt8), w.all (fun b => !decide (b = 32)) = true → gfrom a (w ++ r) = gfrom (a ++ w) r
  | [], a, r, _ => by simp
  | c :: w, a, r, h => by
    simp only [List.all_cons, Bool.and_eq_true, Bool.not_eq_true', decide_eq_false_iff_not] at h
    rw [List.cons_append, gfrom_one a c _ h.1, gfrom_word w (a ++ [c]) r (by simpa using h.2)]
    simp
def EndsNL (a : List UInt8) : Prop := a = [] ∨ ∃ b, a = b ++ [10]
theorem back_line {a w r : List UInt8} (ha : EndsNL a) (hw : w.all (fun b => !decide (b = 10)) = true) : ∀ k, k ≤ w.length → back (a ++ w ++ r) (a.length + k) = a.length
  | 0, _ => by
    rcases ha with rfl | ⟨b, rfl⟩
    · rfl
    · have hg : ((b ++ [10]) ++ w ++ r).getD b.length 0 = 10 := by simp [List.getD]
      have hl : (b ++ [10]).length + 0 = b.length + 1 := by simp
      have hl' : (b ++ [10]).length = b.length + 1 := by simp
      rw [hl, hl']
      unfold back
      rw [hg]; rfl
  | k + 1, h => by
    have ih := back_line (r := r) ha hw k (by omega)
    have hg : (a ++ w ++ r).getD (a.length + k) 0 = w[k] := by
      rw [List.getD, List.append_assoc, List.getElem?_append_right (by omega), Nat.add_sub_cancel_left, List.getElem?_append_left (by omega), List.getElem?_eq_getElem (by omega)]; rfl
    have hne : w[k] ≠ 10 := by
      have := List.all_eq_true.1 hw _ (List.getElem_mem (show k < w.length by omega))
      simpa using this
    rw [← Nat.add_assoc]
    unfold back
    rw [hg, decide_eq_false hne]
    exact ih
theorem gfrom_line {a w r : List UInt8} (hw : w.all (fun b => !decide (b = 32)) = true) : gfrom a (w ++ 10 :: r) = gfrom (a ++ (w ++ [10])) r := by
  rw [gfrom_word w a _ hw, gfrom_one _ 10 _ (by decide), List.append_assoc]
theorem gfrom_space {a w r : List UInt8} (ha : EndsNL a) (h1 : w.all (fun b => !decide (b = 32)) = true) (h2 : w.all (fun b => !decide (b = 10)) = true) :
    gfrom a (w ++ 32 :: r) = cond (Nat.blt 0 (a ++ w).length && Nat.blt 12 (32 :: r).length && decide ((32 :: r).take 12 = wHit)) (w ++ [32]) [] ++ gfrom (a ++ (w ++ [32])) r := by
  rw [gfrom_word w a _ h1, gfrom_cons]
  have hb := back_line (r := 32 :: r) ha h2 w.length (Nat.le_refl _)
  have e1 : hit (a ++ w ++ 32 :: r) (a ++ w).length = (Nat.blt 0 (a ++ w).length && Nat.blt 12 (32 :: r).length && decide ((32 :: r).take 12 = wHit)) := by
    have hs : (a ++ w ++ 32 :: r).length = (a ++ w).length + (32 :: r).length := List.length_append
    unfold hit
    rw [List.drop_left, hs, Nat.add_sub_cancel_left]
  unfold gotAt
  rw [e1, List.take_left, List.length_append, hb, List.drop_left, List.append_assoc]
theorem nl_end (a w : List UInt8) : EndsNL (a ++ (w ++ [10])) := .inr ⟨a ++ w, by simp⟩
/-- a line of two words, of which the second one isn't it -/
theorem gfrom_two {a w1 w2 r : List UInt8} (ha : EndsNL a) (h1 : w1.all (fun b => !decide (b = 32)) = true) (h2 : w1.all (fun b => !decide (b = 10)) = true) (h3 : w2.all (fun b => !decide (b = 32)) = true) (hn : ∀ r, (32 :: (w2 ++ 10 :: r)).take 12 ≠ wHit) :
    gfrom a (w1 ++ 32 :: (w2 ++ 10 :: r)) = gfrom (a ++ (w1 ++ 32 :: (w2 ++ [10]))) r := by
  rw [gfrom_space ha h1 h2, decide_eq_false (hn r), Bool.and_false, cond_false, List.nil_append, gfrom_line h3]
  congr 1
  simp
theorem hexs_no (p : List UInt8) : (hexs p).all (fun b => !decide (b = 32)) = true ∧ (hexs p).all (fun b => !decide (b = 10)) = true := by
  induction p with
  | nil => exact ⟨rfl, rfl⟩
  | cons b p ih =>
    have hb := b.toNat_lt
    have q : ∀ d, d < 16 → (!decide (hd d = 32)) = true ∧ (!decide (hd d = 10)) = true := fun d hd' => by
      have := all_nat (m := 16) (q := fun d => (!decide (hd d = 32)) && !decide (hd d = 10)) (by kernel_rfl) hd'
      simpa using this
    have q1 := q _ (show b.toNat / 16 < 16 by omega)
    have q2 := q _ (show b.toNat % 16 < 16 by omega)
    simp only [hexs, List.all_cons, ih.1, ih.2, q1.1, q1.2, q2.1, q2.2, Bool.and_self]
    exact ⟨trivial, trivial⟩
theorem gfrom_pair {a r : List UInt8} (ha : EndsNL a) (x : Int × Int) : gfrom a (line x ++ r) = gfrom (a ++ line x) r := by
  have e : ∀ r, line x ++ r = ((60 : UInt8) :: (hexs ([] ++ [UInt8.ofNat (Go.IntKind.u8.wrap (Go.Vx.vshr Go.IntKind.u16 x.2 (8 : Int))).toNat, UInt8.ofNat (Go.IntKind.u8.wrap x.2).toNat]) ++ [62])) ++ 32 :: (((60 : UInt8) :: (hexs (utf16s x.1) ++ [62])) ++ 10 :: r) := by
    intro r; unfold line; simp
  have e0 := e []
  rw [List.append_nil] at e0
  have n1 : ∀ p, ((60 : UInt8) :: (hexs p ++ [62])).all (fun b => !decide (b = 32)) = true := fun p => by
    rw [List.all_cons, List.all_append, (hexs_no p).1]; rfl
  have n2 : ∀ p, ((60 : UInt8) :: (hexs p ++ [62])).all (fun b => !decide (b = 10)) = true := fun p => by
    rw [List.all_cons, List.all_append, (hexs_no p).2]; rfl
  rw [e r, gfrom_two ha (n1 _) (n2 _) (n1 _) (fun r => by intro h; injection h with _ h; injection h with h _; cases h), e0]
theorem line_nl (x : Int × Int) : ∃ b, line x = b ++ [10] := ⟨_, rfl⟩
theorem EndsNL.app {a b : List UInt8} (hb : ∃ c, b = c ++ [10]) : EndsNL (a ++ b) := by
  obtain ⟨c, rfl⟩ := hb
  exact .inr ⟨a ++ c, by simp⟩
theorem gfrom_lines : ∀ (l : Seg) (a r : List UInt8), EndsNL a → gfrom a (lines l ++ r) = gfrom (a ++ lines l) r ∧ EndsNL (a ++ lines l)
  | [], a, r, ha => by simp [lines, ha]
  | x :: l, a, r, ha => by
    obtain ⟨h1, h2⟩ := gfrom_lines l (a ++ line x) r (EndsNL.app (line_nl x))
    have e : lines (x :: l) = line x ++ lines l := by simp [lines]
    rw [e, List.append_assoc, gfrom_pair ha x, h1, List.append_assoc]
    exact ⟨rfl, by rw [← List.append_assoc]; exact h2⟩
theorem digits_no (n : Nat) : (Lib.decDigits n).all (fun b => !decide (b = 32)) = true ∧ (Lib.decDigits n).all (fun b => !decide (b = 10)) = true := by
  obtain ⟨_, h⟩ := digits_ok n
  constructor <;> refine List.all_eq_true.2 fun b hb => ?_
  · have h1 := List.all_eq_true.1 h b hb
    have := all_u8 (q := fun b => !(Nat.ble 48 b.toNat && Nat.ble b.toNat 57) || !decide (b = 32)) (by kernel_rfl) b
    rw [h1] at this
    simpa using this
  · have h1 := List.all_eq_true.1 h b hb
    have := all_u8 (q := fun b => !(Nat.ble 48 b.toNat && Nat.ble b.toNat 57) || !decide (b = 10)) (by kernel_rfl) b
    rw [h1] at this
    simpa using this
theorem gfrom_row (l : Seg) (a r : List UInt8) (ha : EndsNL a) : gfrom a (rowText l ++ r) = (Lib.decDigits l.length ++ [32]) ++ gfrom (a ++ rowText l) r ∧ EndsNL (a ++ rowText l) := by
  have e : ∀ r, rowText l ++ r = Lib.decDigits l.length ++ 32 :: (wBegin ++ 10 :: (lines l ++ (wEnd ++ 10 :: r))) := by
    intro r; unfold rowText wRow wEndRow wBegin wEnd; simp
  have e0 := e []
  rw [List.append_nil] at e0
  have hd := digits_ok l.length
  have hpos : Nat.blt 0 (a ++ Lib.decDigits l.length).length = true := by
    rw [Nat.blt_eq, List.length_append]
    have := List.length_pos_iff.2 hd.1
    omega
  rw [e r, gfrom_space ha (digits_no _).1 (digits_no _).2, hpos]
  have hlen : Nat.blt 12 ((32 : UInt8) :: (wBegin ++ 10 :: (lines l ++ (wEnd ++ 10 :: r)))).length = true := by
    rw [Nat.blt_eq]
    have : wBegin.length = 11 := rfl
    simp only [List.length_cons, List.length_append, this]; omega
  have hh : decide (((32 : UInt8) :: (wBegin ++ 10 :: (lines l ++ (wEnd ++ 10 :: r)))).take 12 = wHit) = true := decide_eq_true rfl
  rw [hlen, hh]
  have hb : wBegin.all (fun b => !decide (b = 32)) = true := by decide
  have hw : wEnd.all (fun b => !decide (b = 32)) = true := by decide
  simp only [Bool.and_self, cond_true]
  rw [gfrom_line hb]
  obtain ⟨g1, g2⟩ := gfrom_lines l (a ++ (Lib.decDigits l.length ++ [32]) ++ (wBegin ++ [10])) (wEnd ++ 10 :: r) (nl_end _ _)
  rw [g1, gfrom_line hw, e0]
  refine ⟨by simp, .inr ⟨a ++ (Lib.decDigits l.length ++ 32 :: (wBegin ++ 10 :: (lines l ++ wEnd))), by simp⟩⟩
theorem gfrom_rows : ∀ (ls : List Seg) (a r : List UInt8), EndsNL a → gfrom a (ls.flatMap rowText ++ r) = ls.flatMap (fun l => Lib.decDigits l.length ++ [32]) ++ gfrom (a ++ ls.flatMap rowText) r
  | [], a, r, _ => by simp
  | l :: ls, a, r, ha => by
    obtain ⟨h1, h2⟩ := gfrom_row l a (ls.flatMap rowText ++ r) ha
    rw [List.flatMap_cons, List.append_assoc, h1, gfrom_rows ls _ r h2, List.flatMap_cons]
    simp only [List.append_assoc]
theorem chunks_map {α β : Type} (f : α → β) (n : Nat) (l : List α) : chunks n (l.map f) = (chunks n l).map (fun r => r.map f) := by
  unfold chunks
  rw [List.length_map, List.map_map]
  apply List.map_congr_left
  intro k _
  simp only [Function.comp, ← List.map_drop, ← List.map_take]
theorem wants_eq (l : Seg) : wants l.length = (chunks 100 l).flatMap (fun r => Lib.decDigits r.length ++ [32]) := by
  unfold wants
  have : List.replicate l.length () = l.map fun _ => () := by
    induction l with
    | nil => rfl
    | cons x l ih => simp [List.replicate_succ, ih]
  rw [this, chunks_map, List.flatMap_map]
  simp only [List.length_map]
theorem no_hit1 (r : List UInt8) : ((32 : UInt8) :: ([98, 101, 103, 105, 110, 99, 111, 100, 101, 115, 112, 97, 99, 101, 114, 97, 110, 103, 101] ++ 10 :: r)).take 12 ≠ wHit := by
  have h : decide (((32 : UInt8) :: ([98, 101, 103, 105, 110, 99, 111, 100, 101, 115, 112, 97, 99, 101, 114, 97, 110, 103, 101] ++ 10 :: r)).take 12 = wHit) = false := rfl
  exact of_decide_eq_false h
/-- **the rows that are found are those that are wanted** -/
theorem got_ref (l : Seg) : gotOf (refBuild l) (List.range (refBuild l).length) = wants l.length := by
  have h0 : gotOf (refBuild l) (List.range (refBuild l).length) = gfrom [] (refBuild l) := rfl
  have e : refBuild l = [98, 101, 103, 105, 110, 99, 109, 97, 112] ++ 10 :: ([49] ++ 32 :: ([98, 101, 103, 105, 110, 99, 111, 100, 101, 115, 112, 97, 99, 101, 114, 97, 110, 103, 101] ++ 10 :: ([60, 48, 48, 48, 48, 62] ++ 32 :: ([60, 102, 102, 102, 102, 62] ++ 10 :: ([101, 110, 100, 99, 111, 100, 101, 115, 112, 97, 99, 101, 114, 97, 110, 103, 101] ++ 10 :: ((chunks 100 l).flatMap rowText ++ ([101, 110, 100, 99, 109, 97, 112] ++ 10 :: []))))))) := by
    unfold refBuild addRows wFront wBack
    simp
  rw [h0, e, gfrom_line (by decide)]
  rw [gfrom_two (nl_end _ _) (by decide) (by decide) (by decide) no_hit1]
  rw [gfrom_two (a := [] ++ ([98, 101, 103, 105, 110, 99, 109, 97, 112] ++ [10]) ++ ([49] ++ 32 :: ([98, 101, 103, 105, 110, 99, 111, 100, 101, 115, 112, 97, 99, 101, 114, 97, 110, 103, 101] ++ [10]))) (EndsNL.app ⟨[49] ++ 32 :: [98, 101, 103, 105, 110, 99, 111, 100, 101, 115, 112, 97, 99, 101, 114, 97, 110, 103, 101], rfl⟩) (by decide) (by decide) (by decide) (fun r => by intro h; injection h with _ h; injection h with h _; cases h)]
  rw [gfrom_line (by decide), gfrom_rows _ _ _ (nl_end _ _), gfrom_line (by decide), gfrom_nil, List.append_nil, wants_eq]
/-! ### codes from 32 on -/
theorem plainL_len (n : Nat) : (plainL n).length = n := by simp [plainL]
theorem plainL_mem {n : Nat} {x : Int × Int} (h : x ∈ plainL n) : ∃ i : Nat, i < n ∧ x = (32 + (i : Int), (i : Int)) := by
  obtain ⟨i, hi, rfl⟩ := List.mem_map.1 h
  exact ⟨i, List.mem_range.1 hi, rfl⟩
theorem plainL_facts {n : Nat} (hn : n ≤ 1000) : scalars (plainL n) = true ∧ u16s (plainL n) = true ∧ ((plainL n).map (·.2)).Nodup := by
  refine ⟨List.all_eq_true.2 fun x hx => ?_, List.all_eq_true.2 fun x hx => ?_, ?_⟩
  · obtain ⟨i, hi, rfl⟩ := plainL_mem hx
    rw [scalar_iff]; omega
  · obtain ⟨i, hi, rfl⟩ := plainL_mem hx
    simp only [leI_eq, Bool.and_eq_true, decide_eq_true_eq]; omega
  · unfold plainL
    rw [List.map_map]
    refine List.pairwise_map.2 (List.nodup_range.imp fun {a b} h => ?_)
    intro h2
    exact h (Int.ofNat.inj h2)
theorem risesFrom_range : ∀ (k s : Nat) (q : Option Int), (∀ z, q = some z → z < 32 + (s : Int)) → s + k ≤ 1000 → risesFrom 1114111 q ((List.range' s k).map fun (i : Nat) => ((32 + (i : Int), (i : Int)) : Int × Int)) = true
  | 0, _, _, _, _ => rfl
  | k + 1, s, q, hq, hk => by
    have ih := risesFrom_range k (s + 1) (some (32 + (s : Int))) (fun z hz => by injection hz with hz; omega) (by omega)
    rw [List.range'_succ, List.map_cons]
    unfold risesFrom
    rw [ih, decide_eq_true (by omega), decide_eq_true (by omega)]
    cases q with
    | none => rfl
    | some z =>
      have := hq z rfl
      simp [this]
theorem seen_full : ∀ (l : Seg) (m : Cnt), (l.map (·.2)).Nodup → (∀ x ∈ l, x.2 ∉ m.map (·.1)) → (seen l m).length = m.length + l.length
  | [], m, _, _ => rfl
  | x :: l, m, hn, hm => by
    have e : seen (x :: l) m = seen l (more m x.2) := rfl
    rw [List.map_cons, List.nodup_cons] at hn
    rcases more_keys m x.2 with ⟨_, k2⟩ | ⟨⟨k1, hl⟩, _⟩
    · exact absurd k2 (hm x (List.mem_cons_self ..))
    · rw [e, seen_full l (more m x.2) hn.2 (fun y hy hh => ?_), hl, List.length_cons]
      · omega
      · rw [k1] at hh
        rcases List.mem_append.1 hh with hh | hh
        · exact hm y (List.mem_cons_of_mem _ hy) hh
        · exact hn.1 (List.mem_map.2 ⟨y, hy, List.mem_singleton.1 hh⟩)
theorem build_plain {n : Nat} (hn : n ≤ 1000) : build (plainL n) = refBuild (plainL n) := by
  obtain ⟨h1, _, h3⟩ := plainL_facts hn
  unfold build right
  have hr : rises 1114111 (plainL n) = true := by
    unfold rises plainL
    rw [List.range_eq_range']
    exact risesFrom_range n 0 none (fun z hz => by cases hz) (by omega)
  have hs : eqI ((seen (plainL n) []).length : Int) ((plainL n).length : Int) = true := by
    rw [eqI_eq]
    refine decide_eq_true ?_
    have := seen_full (plainL n) [] h3 (fun x _ => by simp)
    simp only [List.length_nil] at this; omega
  rw [h1, hr, hs]; rfl
end Px
namespace Go.Vx
open Go
theorem eq8 (a : Int) (h0 : 0 ≤ a) (h1 : a ≤ 65535) : (w8 a).get = some (.lf (.bool true), []) := by
  have e1 : IntKind.i64.wrap (a.tmod 350) = ((a.toNat % 350 : Nat) : Int) := by
    have : a.tmod 350 = a % 350 := Int.tmod_eq_emod_of_nonneg h0
    rw [this, wi64] <;> omega
  have hn : a.toNat % 350 < 350 := Nat.mod_lt _ (by decide)
  unfold w8
  rw [e1, Px.build'_eq, Px.ascii'_eq, Px.parse'_eq, Int.toNat_natCast]
  generalize a.toNat % 350 = n at hn ⊢
  obtain ⟨f1, f2, f3⟩ := Px.plainL_facts (n := n) (by omega)
  have hA := Px.ascii_ref (Px.plainL n)
  have lA := Px.ref_len (Px.plainL n)
  have hg := Px.got_ref (Px.plainL n)
  have hp := Px.parse_table f2 f1 f3
  rw [Px.build_plain (by omega)]
  rw [Px.plainL_len] at lA hg
  have e2 : ((n : Int) - 0).toNat = n := by omega
  rw [e2]
  have lm : ((Px.plainL n).map Px.swap).length = n := by rw [List.length_map, Px.plainL_len]
  have lp := Px.plainL_len n
  generalize Px.refBuild (Px.plainL n) = p at *
  have q0 : (0 : Int).toNat = 0 := rfl
  have q1 : ∀ z : Int, eqI z z = true := fun z => by rw [eqI_eq]; exact decide_eq_true rfl
  have q2 : leI 0 (n : Int) = true := by rw [leI_eq]; exact decide_eq_true (by omega)
  have q3 : leI (n : Int) 1000 = true := by rw [leI_eq]; exact decide_eq_true (by omega)
  have q4 : leI (0 : Int) 0 = true := rfl
  have q5 : leI (0 : Int) 2000 = true := rfl
  have q6 : leI 0 (p.length : Int) = true := by rw [leI_eq]; exact decide_eq_true (by omega)
  have q7 : decide (p.length ≤ 1000000) = true := decide_eq_true (by omega)
  have q8 : decide (p.length ≤ 1000000000) = true := decide_eq_true (by omega)
  have q9 : decide ((Px.plainL n).length ≤ 1000000) = true := decide_eq_true (by omega)
  have qa : decide (([] : List UInt8).length ≤ 1000000) = true := rfl
  have qb : decide (((([] : List UInt8).length : Nat) : Int) ≤ 1000001 * 0) = true := rfl
  have qc : ([] : List UInt8).length.beq 0 = true := rfl
  have qd : decide (n ≤ 2 ^ 62) = true := decide_eq_true (by omega)
  have qe : eqI (0 : Int) 0 = true := rfl
  simp only [Tree.get_ite, q0, q1, q2, q3, q4, q5, q6, q7, q8, q9, qa, qb, qc, hA, hp, qd, qe, List.drop_zero, hg, lm, List.nil_append, decide_true, Bool.and_self, cond_true, Tree.get_leaf]
noncomputable def spec8s : Spec E := fun args os => match args, os with
  | [.lf (.int .u16 a)], [] => .ite (leI 0 a && leI a 65535) (.leaf (.lf (.bool true), [])) .fail
  | _, _ => .fail
theorem valid8s (hL : Laws E) : Valid E 8 spec8s := (valid8 hL).less (fun args os x _ _ h => by
  unfold spec8s at h
  split at h
  · rcases Tree.get_ite_some h with ⟨h1, h⟩ | ⟨_, h⟩
    · simp only [Bool.and_eq_true, leI_eq, decide_eq_true_eq] at h1
      exact (eq8 _ h1.1 h1.2).trans h
    · cases h
  · cases h)
theorem sp8 (a : Int) (h0 : inRb .u16 a = true) : (spec8s [.lf (.int .u16 a)] []).get = some (.lf (.bool true), []) := by
  simp only [inRb, Bool.and_eq_true, decide_eq_true_eq] at h0
  have e1 : IntKind.min .u16 = 0 := rfl
  have e2 : IntKind.max .u16 = 65535 := rfl
  have d : (leI 0 a && leI a 65535) = true := by
    simp only [Bool.and_eq_true, leI_eq, decide_eq_true_eq]; omega
  show cond (leI 0 a && leI a 65535) _ _ = _
  rw [d]; rfl
end Go.Vx
