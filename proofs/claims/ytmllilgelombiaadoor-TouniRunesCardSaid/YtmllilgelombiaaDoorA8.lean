/-
  Part 8 of the proof: the second reading of the model, its laws, and the functions' contracts. Lemmas alone.
-/
import Derived.Test.YtmllilgelombiaaDoorA2
import Derived.Test.YtmllilgelombiaaDoorA7
set_option linter.unusedSectionVars false
set_option linter.unusedVariables false
set_option linter.unusedSimpArgs false
namespace Go.Vx
open Go
noncomputable def G38 : FuncId → Option (Spec E) := fun _ => none
theorem hG38 (hL : Laws E) : ∀ f spec, G38 f = some spec → Valid E f spec := by
  intro f spec h
  cases h
noncomputable def w38 (a0 : Int) : Tree (RV E.A × List (Obj E.A)) :=
 .leaf (.lf (.sl .u8 ([UInt8.ofNat (IntKind.u8.wrap ((IntKind.i64.wrap (a0.tdiv (256 : Int))).tmod (256 : Int))).toNat, UInt8.ofNat (IntKind.u8.wrap (a0.tmod (256 : Int))).toNat])), [])
theorem e38 (a0 : Int) : execFun E G38 (fun _ _ => .fail) false Go.Proofs.Tryd.f38 [.lf (.int .i64 a0)] [] some = (w38 a0).get := by kernel_rfl
noncomputable def raw38 : Spec E := fun args os => match args, os with
  | [.lf (.int .i64 a0)], [] => w38 a0
  | _, _ => .fail
theorem validraw38 (hL : Laws E) : Valid E 38 raw38 :=
  valid_of_body hL (hG38 hL) (Λ := fun _ _ => .fail) (fn := Go.Proofs.Tryd.f38) (keep := false) (by kernel_rfl) (by kernel_rfl) (by kernel_rfl) (LamOK.none (by kernel_rfl)) (fun args os r os' h => by
    unfold raw38 at h
    split at h
    · exact (e38 _).trans h
    · cases h)
noncomputable def spec38 : Spec E := fun args os => match args, os with
  | [.lf (.int .i64 n)], [] => .ite (leI 0 n && leI n 9223372036854775807) (.leaf (.lf (.sl .u8 (Px.b2 n.toNat)), [])) .fail
  | _, _ => .fail
theorem eq38 (n : Nat) (h : n ≤ 9223372036854775807) : (w38 (n : Int)).get = some (.lf (.sl .u8 (Px.b2 n)), []) := by
  unfold w38
  have e1 : ((n : Int).tdiv 256) = ((n / 256 : Nat) : Int) := rfl
  have e2 : ((n : Int).tmod 256) = ((n % 256 : Nat) : Int) := rfl
  rw [e1, e2, wi64 _ (by omega) (by omega)]
  have e3 : (((n / 256 : Nat) : Int).tmod 256) = ((n / 256 % 256 : Nat) : Int) := rfl
  rw [e3, wu8 _ (by omega) (by omega), wu8 _ (by omega) (by omega)]
  rfl
theorem valid38 (hL : Laws E) : Valid E 38 spec38 := (validraw38 hL).less (fun args os x g1 g2 h => by
  unfold spec38 at h
  split at h
  · rename_i a0
    rcases Tree.get_ite_some h with ⟨h1, h⟩ | ⟨_, h⟩
    · simp only [leI_eq, Bool.and_eq_true, decide_eq_true_eq] at h1
      have h2 := h1
      obtain ⟨a, rfl⟩ : ∃ a : Nat, a0 = (a : Int) := ⟨a0.toNat, by omega⟩
      rw [Int.toNat_natCast] at h
      exact (eq38 a (by omega)).trans h
    · cases h
  · cases h)
end Go.Vx
namespace Go.Vx
open Go
noncomputable def G24 : FuncId → Option (Spec E)
  | 22 => some spec22
  | 25 => some spec25
  | 38 => some spec38
  | _ => none
theorem hG24 (hL : Laws E) : ∀ f spec, G24 f = some spec → Valid E f spec := by
  intro f spec h
  unfold G24 at h
  split at h
  · injection h with h; subst h; exact valid22 hL
  · injection h with h; subst h; exact valid25 hL
  · injection h with h; subst h; exact valid38 hL
  · cases h
noncomputable def w24 (a0 : Int) : Tree (RV E.A × List (Obj E.A)) :=
 .ite (!Px.scalar a0)
 (.leaf (.lf (.sl .u8 []), []))
 (.ite (ltI a0 (65536 : Int))
  (.ite (leI (0 : Int) a0 && leI a0 (9223372036854775807 : Int))
   (.leaf (.lf (.sl .u8 (Px.b2 a0.toNat)), []))
   (.fail))
  (.ite (leI (0 : Int) (IntKind.i64.wrap ((55296 : Int) + IntKind.i64.wrap ((IntKind.i64.wrap (a0 - (65536 : Int))).tdiv (1024 : Int)))) && leI (IntKind.i64.wrap ((55296 : Int) + IntKind.i64.wrap ((IntKind.i64.wrap (a0 - (65536 : Int))).tdiv (1024 : Int)))) (9223372036854775807 : Int))
   (.ite (leI (0 : Int) (IntKind.i64.wrap ((56320 : Int) + (IntKind.i64.wrap (a0 - (65536 : Int))).tmod (1024 : Int))) && leI (IntKind.i64.wrap ((56320 : Int) + (IntKind.i64.wrap (a0 - (65536 : Int))).tmod (1024 : Int))) (9223372036854775807 : Int))
    (.leaf (.lf (.sl .u8 ([Px.b2 (IntKind.i64.wrap ((55296 : Int) + IntKind.i64.wrap ((IntKind.i64.wrap (a0 - (65536 : Int))).tdiv (1024 : Int)))).toNat, Px.b2 (IntKind.i64.wrap ((56320 : Int) + (IntKind.i64.wrap (a0 - (65536 : Int))).tmod (1024 : Int))).toNat].flatten)), []))
    (.fail))
   (.fail)))
theorem e24 (a0 : Int) : execFun E G24 (fun _ _ => .fail) false Go.Proofs.Tryd.f24 [.lf (.int .i64 a0)] [] some = (w24 a0).get := by kernel_rfl
noncomputable def raw24 : Spec E := fun args os => match args, os with
  | [.lf (.int .i64 a0)], [] => w24 a0
  | _, _ => .fail
theorem validraw24 (hL : Laws E) : Valid E 24 raw24 :=
  valid_of_body hL (hG24 hL) (Λ := fun _ _ => .fail) (fn := Go.Proofs.Tryd.f24) (keep := false) (by kernel_rfl) (by kernel_rfl) (by kernel_rfl) (LamOK.none (by kernel_rfl)) (fun args os r os' h => by
    unfold raw24 at h
    split at h
    · exact (e24 _).trans h
    · cases h)
theorem someL' {x y : List UInt8} {os : List (Obj E.A)} (h : x = y) : some ((.lf (.sl .u8 x) : RV E.A), os) = some (.lf (.sl .u8 y), os) := by rw [h]
theorem guard24 (n : Nat) (h : n ≤ 9223372036854775807) : (leI 0 (n : Int) && leI (n : Int) 9223372036854775807) = true := by
  simp only [leI_eq, Bool.and_eq_true, decide_eq_true_eq]; omega
theorem eq24 (c : Int) : (w24 c).get = some (.lf (.sl .u8 (Px.utf16s c)), []) := by
  unfold w24
  cases hs : Px.scalar c with
  | false => rw [Px.utf16s_no hs]; rfl
  | true =>
    obtain ⟨h1, h2, h3⟩ := (Px.scalar_iff c).1 hs
    simp only [Tree.get_ite, Tree.get_leaf, Bool.not_true, cond_false, ltI_eq]
    by_cases hc : c < 65536
    · obtain ⟨c, rfl⟩ : ∃ a : Nat, c = (a : Int) := ⟨c.toNat, by omega⟩
      rw [decide_eq_true hc, cond_true, guard24 c (by omega), cond_true, Int.toNat_natCast, Px.utf16s_low hs (by omega)]
    · obtain ⟨m, rfl⟩ : ∃ a : Nat, c = (a : Int) + 65536 := ⟨(c - 65536).toNat, by omega⟩
      have hm : m < 1048576 := by omega
      have e1 : IntKind.i64.wrap ((m : Int) + 65536 - 65536) = (m : Int) := by rw [wi64] <;> omega
      have e2 : ((m : Int).tdiv 1024) = ((m / 1024 : Nat) : Int) := rfl
      have e3 : ((m : Int).tmod 1024) = ((m % 1024 : Nat) : Int) := rfl
      have e4 : IntKind.i64.wrap ((m / 1024 : Nat) : Int) = ((m / 1024 : Nat) : Int) := by rw [wi64] <;> omega
      have e5 : IntKind.i64.wrap (55296 + ((m / 1024 : Nat) : Int)) = ((55296 + m / 1024 : Nat) : Int) := by rw [wi64] <;> omega
      have e6 : IntKind.i64.wrap (56320 + ((m % 1024 : Nat) : Int)) = ((56320 + m % 1024 : Nat) : Int) := by rw [wi64] <;> omega
      rw [decide_eq_false hc, cond_false, e1, e2, e3, e4, e5, e6, guard24 _ (by omega), guard24 _ (by omega)]
      simp only [cond_true, Int.toNat_natCast]
      rw [Px.utf16s_high hs]
      exact someL' (by simp only [List.flatten_cons, List.flatten_nil, List.append_nil])
noncomputable def spec24 : Spec E := fun args os => match args, os with
  | [.lf (.int .i64 c)], [] => .leaf (.lf (.sl .u8 (Px.utf16s c)), [])
  | _, _ => .fail
theorem valid24 (hL : Laws E) : Valid E 24 spec24 := (validraw24 hL).less (fun args os x g1 g2 h => by
  unfold spec24 at h
  split at h
  · exact (eq24 _).trans h
  · cases h)
end Go.Vx
namespace Go.Vx
open Go
noncomputable def G5 : FuncId → Option (Spec E)
  | 9 => some spec9
  | 16 => some spec16
  | 19 => some spec19
  | 20 => some spec20
  | 21 => some spec21
  | 22 => some spec22
  | 23 => some spec23
  | 24 => some spec24
  | _ => none
theorem hG5 (hL : Laws E) : ∀ f spec, G5 f = some spec → Valid E f spec := by
  intro f spec h
  unfold G5 at h
  split at h
  · injection h with h; subst h; exact valid9 hL
  · injection h with h; subst h; exact valid16 hL
  · injection h with h; subst h; exact valid19 hL
  · injection h with h; subst h; exact valid20 hL
  · injection h with h; subst h; exact valid21 hL
  · injection h with h; subst h; exact valid22 hL
  · injection h with h; subst h; exact valid23 hL
  · injection h with h; subst h; exact valid24 hL
  · cases h
noncomputable def w5 (a0 : Int) (a1 : List UInt8) : Tree (RV E.A × List (Obj E.A)) :=
 .ite (leI (0 : Int) (6 : Int) && decide (a1.length ≤ (140737488355328 : Nat)))
 (.ite (decide ((Px.utf16s a0).length ≤ (140737488355328 : Nat)))
  (.ite (decide ((List.take (Int.toNat (6 : Int)) a1).length ≤ (140737488355328 : Nat)))
   (.ite (!leI (0 : Int) (Px.rune (List.take (Int.toNat (6 : Int)) a1)) == leI (0 : Int) (Px.rune (List.take (Int.toNat (6 : Int)) a1)))
    (.leaf (.lf (.bool false), []))
    (.ite (leI (0 : Int) (Px.rune (List.take (Int.toNat (6 : Int)) a1)))
     (.ite (!eqI (IntKind.i64.wrap (bif leI (0 : Int) (Px.rune (List.take (Int.toNat (6 : Int)) a1)) then Px.rune (List.take (Int.toNat (6 : Int)) a1) else (0 : Int))) (Px.rune (List.take (Int.toNat (6 : Int)) a1)))
      (.leaf (.lf (.bool false), []))
      (.ite (!leI (0 : Int) (Px.rune (List.take (Int.toNat (6 : Int)) a1)))
       (.ite (!eqI (bif leI (0 : Int) (Px.rune (List.take (Int.toNat (6 : Int)) a1)) then Px.rune (List.take (Int.toNat (6 : Int)) a1) else (0 : Int)) (0 : Int))
        (.leaf (.lf (.bool false), []))
        (.ite (!Px.scalar (IntKind.i64.wrap a0))
         (.ite (eqI (↑(Px.utf16s a0).length : Int) (0 : Int))
          (.leaf (.lf (.bool (!leI (0 : Int) (Px.rune (Px.utf16s a0)))), []))
          (.leaf (.lf (.bool false), [])))
         (.ite (Px.same (Px.utf16s a0) (Px.utf16s (IntKind.i64.wrap a0)))
          (.ite (leI (0 : Int) (Px.rune (Px.utf16s a0)))
           (.leaf (.lf (.bool (eqI (bif leI (0 : Int) (Px.rune (Px.utf16s a0)) then Px.rune (Px.utf16s a0) else (0 : Int)) a0)), []))
           (.leaf (.lf (.bool false), [])))
          (.leaf (.lf (.bool false), [])))))
       (.ite (!Px.scalar (IntKind.i64.wrap a0))
        (.ite (eqI (↑(Px.utf16s a0).length : Int) (0 : Int))
         (.leaf (.lf (.bool (!leI (0 : Int) (Px.rune (Px.utf16s a0)))), []))
         (.leaf (.lf (.bool false), [])))
        (.ite (Px.same (Px.utf16s a0) (Px.utf16s (IntKind.i64.wrap a0)))
         (.ite (leI (0 : Int) (Px.rune (Px.utf16s a0)))
          (.leaf (.lf (.bool (eqI (bif leI (0 : Int) (Px.rune (Px.utf16s a0)) then Px.rune (Px.utf16s a0) else (0 : Int)) a0)), []))
          (.leaf (.lf (.bool false), [])))
         (.leaf (.lf (.bool false), []))))))
     (.ite (!leI (0 : Int) (Px.rune (List.take (Int.toNat (6 : Int)) a1)))
      (.ite (!eqI (bif leI (0 : Int) (Px.rune (List.take (Int.toNat (6 : Int)) a1)) then Px.rune (List.take (Int.toNat (6 : Int)) a1) else (0 : Int)) (0 : Int))
       (.leaf (.lf (.bool false), []))
       (.ite (!Px.scalar (IntKind.i64.wrap a0))
        (.ite (eqI (↑(Px.utf16s a0).length : Int) (0 : Int))
         (.leaf (.lf (.bool (!leI (0 : Int) (Px.rune (Px.utf16s a0)))), []))
         (.leaf (.lf (.bool false), [])))
        (.ite (Px.same (Px.utf16s a0) (Px.utf16s (IntKind.i64.wrap a0)))
         (.ite (leI (0 : Int) (Px.rune (Px.utf16s a0)))
          (.leaf (.lf (.bool (eqI (bif leI (0 : Int) (Px.rune (Px.utf16s a0)) then Px.rune (Px.utf16s a0) else (0 : Int)) a0)), []))
          (.leaf (.lf (.bool false), [])))
         (.leaf (.lf (.bool false), [])))))
      (.ite (!Px.scalar (IntKind.i64.wrap a0))
       (.ite (eqI (↑(Px.utf16s a0).length : Int) (0 : Int))
        (.leaf (.lf (.bool (!leI (0 : Int) (Px.rune (Px.utf16s a0)))), []))
        (.leaf (.lf (.bool false), [])))
       (.ite (Px.same (Px.utf16s a0) (Px.utf16s (IntKind.i64.wrap a0)))
        (.ite (leI (0 : Int) (Px.rune (Px.utf16s a0)))
         (.leaf (.lf (.bool (eqI (bif leI (0 : Int) (Px.rune (Px.utf16s a0)) then Px.rune (Px.utf16s a0) else (0 : Int)) a0)), []))
         (.leaf (.lf (.bool false), [])))
        (.leaf (.lf (.bool false), [])))))))
   (.fail))
  (.fail))
 (.fail)
theorem e5 (a0 : Int) (a1 : List UInt8) : execFun E G5 (fun _ _ => .fail) false Go.Proofs.Tryd.f5 [.lf (.int .i32 a0), .lf (.sl .u8 a1)] [] some = (w5 a0 a1).get := by kernel_rfl
noncomputable def raw5 : Spec E := fun args os => match args, os with
  | [.lf (.int .i32 a0), .lf (.sl .u8 a1)], [] => w5 a0 a1
  | _, _ => .fail
theorem validraw5 (hL : Laws E) : Valid E 5 raw5 :=
  valid_of_body hL (hG5 hL) (Λ := fun _ _ => .fail) (fn := Go.Proofs.Tryd.f5) (keep := false) (by kernel_rfl) (by kernel_rfl) (by kernel_rfl) (LamOK.none (by kernel_rfl)) (fun args os r os' h => by
    unfold raw5 at h
    split at h
    · exact (e5 _ _).trans h
    · cases h)
theorem eq5 (c : Int) (p : List UInt8) (hc : -2147483648 ≤ c ∧ c ≤ 2147483647) (hp : p.length ≤ 140737488355328) : (w5 c p).get = some (.lf (.bool true), []) := by
  have hl := Px.utf16s_len c
  have ht : (p.take (Int.toNat 6)).length ≤ 6 := by simp; omega
  have hw : IntKind.i64.wrap c = c := wi64 c (by omega) (by omega)
  have c1 : (leI (0 : Int) 6 && decide (p.length ≤ 140737488355328)) = true := by rw [decide_eq_true hp]; rfl
  have c2 : decide ((Px.utf16s c).length ≤ 140737488355328) = true := decide_eq_true (by omega)
  have c3 : decide ((p.take (Int.toNat 6)).length ≤ 140737488355328) = true := decide_eq_true (by omega)
  have hs : Px.same (Px.utf16s c) (Px.utf16s c) = true := (Px.same_iff _ _).2 rfl
  have key : (cond (!Px.scalar c) (cond (eqI ((Px.utf16s c).length : Int) 0) (some ((.lf (.bool (!leI 0 (Px.rune (Px.utf16s c)))) : RV E.A), ([] : List (Obj E.A)))) (some (.lf (.bool false), [])))
      (cond (Px.same (Px.utf16s c) (Px.utf16s c)) (cond (leI 0 (Px.rune (Px.utf16s c))) (some (.lf (.bool (eqI (cond (leI 0 (Px.rune (Px.utf16s c))) (Px.rune (Px.utf16s c)) 0) c)), [])) (some (.lf (.bool false), []))) (some (.lf (.bool false), [])))) = some (.lf (.bool true), []) := by
    cases h : Px.scalar c with
    | true =>
      have hr := (Px.scalar_iff c).1 h
      have c4 : leI 0 c = true := by rw [leI_eq]; exact decide_eq_true hr.1
      have c5 : eqI c c = true := by rw [eqI_eq]; exact decide_eq_true rfl
      rw [Px.rune_utf16s h, hs, c4]
      simp only [Bool.not_true, cond_false, cond_true, c5]
    | false => rw [Px.utf16s_no h]; rfl
  unfold w5
  rw [Tree.get_ite, c1, cond_true, Tree.get_ite, c2, cond_true, Tree.get_ite, c3, cond_true, hw]
  rcases Px.rune_range (p.take (Int.toNat 6)) with hq | ⟨h0, h1⟩
  · rw [hq]
    have e1 : leI 0 (-1) = false := rfl
    simp only [Tree.get_ite, e1]
    exact key
  · have e1 : leI 0 (Px.rune (p.take (Int.toNat 6))) = true := by rw [leI_eq]; exact decide_eq_true h0
    have e2 : IntKind.i64.wrap (Px.rune (p.take (Int.toNat 6))) = Px.rune (p.take (Int.toNat 6)) := wi64 _ (by omega) (by omega)
    have e3 : eqI (Px.rune (p.take (Int.toNat 6))) (Px.rune (p.take (Int.toNat 6))) = true := by rw [eqI_eq]; exact decide_eq_true rfl
    simp only [Tree.get_ite, e1, Bool.not_true, cond_true, cond_false, e2, e3]
    exact key
noncomputable def spec5 : Spec E := fun args os => match args, os with
  | [.lf (.int .i32 c), .lf (.sl .u8 p)], [] => .ite (leI (-2147483648) c && leI c 2147483647 && decide (p.length ≤ 140737488355328)) (.leaf (.lf (.bool true), [])) .fail
  | _, _ => .fail
theorem valid5 (hL : Laws E) : Valid E 5 spec5 := (validraw5 hL).less (fun args os x _ _ h => by
  unfold spec5 at h
  split at h
  · rcases Tree.get_ite_some h with ⟨h1, h⟩ | ⟨_, h⟩
    · simp only [leI_eq, Bool.and_eq_true, decide_eq_true_eq] at h1
      exact (eq5 _ _ h1.1 h1.2).trans h
    · cases h
  · cases h)
theorem sp5 (c : Int) (p : List UInt8) (hc : inRb .i32 c = true) (hp : p.length * 1 ≤ 140737488355328) : (spec5 [.lf (.int .i32 c), .lf (.sl .u8 p)] []).get = some (.lf (.bool true), []) := by
  simp only [inRb, Bool.and_eq_true, decide_eq_true_eq] at hc
  have e1 : IntKind.min .i32 = -2147483648 := rfl
  have e2 : IntKind.max .i32 = 2147483647 := rfl
  have hb : (leI (-2147483648) c && leI c 2147483647 && decide (p.length ≤ 140737488355328)) = true := by
    simp only [leI_eq, Bool.and_eq_true, decide_eq_true_eq]
    exact ⟨⟨by omega, by omega⟩, by omega⟩
  show cond (leI (-2147483648) c && leI c 2147483647 && decide (p.length ≤ 140737488355328)) _ _ = _
  rw [hb]
  rfl
end Go.Vx
