/-
  Part 2 of the proof: the second reading of the model, its laws, and the functions' contracts. Lemmas alone.
-/
import Derived.Lib.Bytealg
import Derived.Test.YtjnmckakmljejaaGreatDoorA1
set_option linter.unusedSectionVars false
set_option linter.unusedVariables false
set_option linter.unusedSimpArgs false
namespace Go.Vx
open Go
theorem one_inv {G : Gh} {w : World} {l : Leaf E.A} {v : Value} (h : SRep E G w false [l] v) : Rep E G w l v := by
  obtain ⟨l', e, h⟩ := h
  injection e with e _; subst e; exact h
theorem int_inv {G : Gh} {w : World} {k : IntKind} {n : Int} {v : Value} (h : SRep E G w false [.int k n] v) : v = .int k n ∧ inRb k n = true := by
  have := one_inv h
  cases this with
  | int hk => exact ⟨rfl, hk⟩
theorem sone {G : Gh} {w : World} {l : Leaf E.A} {v : Value} (h : Rep E G w l v) : SRep E G w false [l] v := ⟨l, rfl, h⟩
theorem infoK (t : TypeId) (k : K) (z : Value) (sz : Nat) (hi : (E.P.info? t).isSome = true) (hs : ((E.P.info? t).map (·.size)) = some sz) (hz : ((E.P.info? t).bind (·.zero)) = some z) (hsz : sz = Ksz k) (hc : z.cells.size = sz) (ha : isAg E t = Kagg k) (hu : (E.P.underlying t).isSome = true)
    (hr : ∀ G w, SRep E G w (Kagg k) (Kenc k (Kz k)) z) : ∃ i z, E.P.info? t = some i ∧ i.size = E.sz k ∧ i.zero = some z ∧ z.cells.size = i.size ∧ isAg E t = E.agg k ∧ (E.P.underlying t).isSome = true ∧ ∀ G w, SRep E G w (E.agg k) (E.enc k (E.z k)) z := by
  cases hx : E.P.info? t with
  | none => rw [hx] at hi; cases hi
  | some i =>
    rw [hx] at hs hz
    simp only [Option.map_some, Option.some.injEq, Option.bind_some] at hs hz
    exact ⟨i, z, rfl, hs.trans hsz, hz, hc.trans hs.symm, ha, hu, hr⟩
theorem zsl {G : Gh} {w : World} {k : K} : Rep E G w (.sl k []) (.slice none 0 0) := .sl0 k none 0 (by decide)
theorem zstr {G : Gh} {w : World} : Rep E G w (.str []) (.string ⟨#[]⟩) := .str ⟨#[]⟩ (by decide)
theorem reps2 {G : Gh} {w : World} {a b : Leaf E.A} {x y : Value} (h1 : Rep E G w a x) (h2 : Rep E G w b y) : Reps E G w [a, b] #[x, y] := by
  refine ⟨rfl, fun j l hj => ?_⟩
  match j with
  | 0 => injection hj with hj; subst hj; exact h1
  | 1 => injection hj with hj; subst hj; exact h2
  | j + 2 => cases hj
theorem reps3 {G : Gh} {w : World} {a b c : Leaf E.A} {x y z : Value} (h1 : Rep E G w a x) (h2 : Rep E G w b y) (h3 : Rep E G w c z) : Reps E G w [a, b, c] #[x, y, z] := by
  refine ⟨rfl, fun j l hj => ?_⟩
  match j with
  | 0 => injection hj with hj; subst hj; exact h1
  | 1 => injection hj with hj; subst hj; exact h2
  | 2 => injection hj with hj; subst hj; exact h3
  | j + 3 => cases hj
theorem reps6 {G : Gh} {w : World} {a b c d e f : Leaf E.A} {x y z u v t : Value} (h1 : Rep E G w a x) (h2 : Rep E G w b y) (h3 : Rep E G w c z) (h4 : Rep E G w d u) (h5 : Rep E G w e v) (h6 : Rep E G w f t) : Reps E G w [a, b, c, d, e, f] #[x, y, z, u, v, t] := by
  refine ⟨rfl, fun j l hj => ?_⟩
  match j with
  | 0 => injection hj with hj; subst hj; exact h1
  | 1 => injection hj with hj; subst hj; exact h2
  | 2 => injection hj with hj; subst hj; exact h3
  | 3 => injection hj with hj; subst hj; exact h4
  | 4 => injection hj with hj; subst hj; exact h5
  | 5 => injection hj with hj; subst hj; exact h6
  | j + 6 => cases hj
theorem Einfo : ∀ t k, E.key t = some k → ∃ i z, E.P.info? t = some i ∧ i.size = E.sz k ∧ i.zero = some z ∧ z.cells.size = i.size ∧ isAg E t = E.agg k ∧ (E.P.underlying t).isSome = true ∧ ∀ G w, SRep E G w (E.agg k) (E.enc k (E.z k)) z := by
  intro t k h
  change tyKey t = some k at h
  unfold tyKey at h
  split at h
  · injection h with h; subst h
    exact infoK 5 .u8 (.int .u8 0) 1 (by kernel_rfl) (by kernel_rfl) (by kernel_rfl) (by kernel_rfl) (by kernel_rfl) (by kernel_rfl) (by kernel_rfl) (fun G w => sone (.int rfl))
  · injection h with h; subst h
    exact infoK 2 .i64 (.int .i64 0) 1 (by kernel_rfl) (by kernel_rfl) (by kernel_rfl) (by kernel_rfl) (by kernel_rfl) (by kernel_rfl) (by kernel_rfl) (fun G w => sone (.int rfl))
  · injection h with h; subst h
    exact infoK 3 .i64 (.int .i64 0) 1 (by kernel_rfl) (by kernel_rfl) (by kernel_rfl) (by kernel_rfl) (by kernel_rfl) (by kernel_rfl) (by kernel_rfl) (fun G w => sone (.int rfl))
  · injection h with h; subst h
    exact infoK 54 .u64 (.int .u64 0) 1 (by kernel_rfl) (by kernel_rfl) (by kernel_rfl) (by kernel_rfl) (by kernel_rfl) (by kernel_rfl) (by kernel_rfl) (fun G w => sone (.int rfl))
  · injection h with h; subst h
    exact infoK 4 .bool (.bool false) 1 (by kernel_rfl) (by kernel_rfl) (by kernel_rfl) (by kernel_rfl) (by kernel_rfl) (by kernel_rfl) (by kernel_rfl) (fun G w => sone (.bool false))
  · injection h with h; subst h
    exact infoK 9 .str (.string ⟨#[]⟩) 1 (by kernel_rfl) (by kernel_rfl) (by kernel_rfl) (by kernel_rfl) (by kernel_rfl) (by kernel_rfl) (by kernel_rfl) (fun G w => sone zstr)
  · injection h with h; subst h
    exact infoK 22 .bytes (.slice none 0 0) 1 (by kernel_rfl) (by kernel_rfl) (by kernel_rfl) (by kernel_rfl) (by kernel_rfl) (by kernel_rfl) (by kernel_rfl) (fun G w => sone zsl)
  · injection h with h; subst h
    exact infoK 30 .val (.agg #[.int .u8 0, .int .i64 0, .int .i64 0, .string ⟨#[]⟩, .slice none 0 0, .slice none 0 0]) 6 (by kernel_rfl) (by kernel_rfl) (by kernel_rfl) (by kernel_rfl) (by kernel_rfl) (by kernel_rfl) (by kernel_rfl) (fun G w => ⟨_, rfl, reps6 (.int rfl) (.int rfl) (.int rfl) zstr zsl zsl⟩)
  · injection h with h; subst h
    exact infoK 36 .val (.agg #[.int .u8 0, .int .i64 0, .int .i64 0, .string ⟨#[]⟩, .slice none 0 0, .slice none 0 0]) 6 (by kernel_rfl) (by kernel_rfl) (by kernel_rfl) (by kernel_rfl) (by kernel_rfl) (by kernel_rfl) (by kernel_rfl) (fun G w => ⟨_, rfl, reps6 (.int rfl) (.int rfl) (.int rfl) zstr zsl zsl⟩)
  · injection h with h; subst h
    exact infoK 99 .bit (.agg #[.int .u8 0, .int .i64 0, .int .u8 0, .string ⟨#[]⟩, .int .u8 0, .bool false]) 6 (by kernel_rfl) (by kernel_rfl) (by kernel_rfl) (by kernel_rfl) (by kernel_rfl) (by kernel_rfl) (by kernel_rfl) (fun G w => ⟨_, rfl, reps6 (.int rfl) (.int rfl) (.int rfl) zstr (.int rfl) (.bool false)⟩)
  · cases h
theorem undEq {t : TypeId} {d d' : TypeDesc} (e : E.P.underlying t = some d') (hd : E.P.underlying t = some d) : d = d' := Option.some.inj (hd.symm.trans e)
theorem rep_int {G : Gh} {w : World} {k : IntKind} {n : Int} {v : Value} (h : Rep E G w (.int k n) v) : inRb k n = true := by
  cases h with
  | int hk => exact hk
theorem beq_u8 (a b : UInt8) : (((UInt8.toNat a : Nat) : Int) == ((UInt8.toNat b : Nat) : Int)) = decide (a = b) := by
  rw [Bool.eq_iff_iff]
  simp only [beq_iff_eq, decide_eq_true_eq, Int.natCast_inj]
  exact ⟨fun h => UInt8.toNat_inj.1 h, fun h => by rw [h]⟩
theorem str_inv' {G : Gh} {w : World} {x : List UInt8} {v : Value} (h : Rep E G w (.str x) v) : ∃ s : ByteArray, v = .string s ∧ s.data.toList = x := by
  cases h with
  | str s hs => exact ⟨s, rfl, rfl⟩
theorem same_int (k : IntKind) (a b : Int) : Instr.sameNow (.int k) (.int k a) (.int k b) = some (decide (a = b)) := by
  simp only [Instr.sameNow, if_true]; rfl
theorem same_str (s u : ByteArray) : (s == u) = decide (s.data.toList = u.data.toList) := by
  have h1 : (s == u) = (s.data == u.data) := by cases s; cases u; rfl
  rw [h1, Bool.eq_iff_iff, beq_iff_eq, decide_eq_true_eq]
  exact ⟨fun h => by rw [h], fun h => Array.toList_inj.1 h⟩
theorem same_u8 (a b : UInt8) : Instr.sameNow (.int .u8) (.int .u8 ((a.toNat : Nat) : Int)) (.int .u8 ((b.toNat : Nat) : Int)) = some (decide (a = b)) := by
  simp only [Instr.sameNow, if_true, beq_u8]
theorem bool_inv' {G : Gh} {w : World} {x : Bool} {v : Value} (h : Rep E G w (.bool x) v) : v = .bool x := by
  cases h with
  | bool b => rfl
theorem noKey {t : TypeId} {d : TypeDesc} (hf : keyOk (E.P.underlying t) = false) (hd : E.P.underlying t = some d) (hk : keyOk (some d) = true) : False := by
  rw [hd, hk] at hf; cases hf
theorem Ebeq : ∀ t k d, E.key t = some k → E.P.underlying t = some d → keyOk (some d) = true → ∀ G w a b va vb, SRep E G w (E.agg k) (E.enc k a) va → SRep E G w (E.agg k) (E.enc k b) vb → Instr.sameNow d va vb = some (E.beq k a b) := by
  intro t k d h hd hk
  change tyKey t = some k at h
  unfold tyKey at h
  split at h
  · injection h with h; subst h
    intro G w a b va vb ha hb
    have hd := undEq (t := 5) (d' := (.int .u8)) (by kernel_rfl) hd
    subst hd
    obtain ⟨rfl, _⟩ := int_inv ha
    obtain ⟨rfl, _⟩ := int_inv hb
    exact same_u8 a b
  · injection h with h; subst h
    intro G w a b va vb ha hb
    have hd := undEq (t := 2) (d' := (.int .i64)) (by kernel_rfl) hd
    subst hd
    obtain ⟨rfl, _⟩ := int_inv ha
    obtain ⟨rfl, _⟩ := int_inv hb
    exact same_int .i64 a b
  · injection h with h; subst h
    intro G w a b va vb ha hb
    have hd := undEq (t := 3) (d' := (.int .i64)) (by kernel_rfl) hd
    subst hd
    obtain ⟨rfl, _⟩ := int_inv ha
    obtain ⟨rfl, _⟩ := int_inv hb
    exact same_int .i64 a b
  · injection h with h; subst h
    intro G w a b va vb ha hb
    have hd := undEq (t := 54) (d' := (.int .u64)) (by kernel_rfl) hd
    subst hd
    obtain ⟨rfl, _⟩ := int_inv ha
    obtain ⟨rfl, _⟩ := int_inv hb
    exact same_int .u64 a b
  · injection h with h; subst h
    intro G w a b va vb ha hb
    have hd := undEq (t := 4) (d' := .bool) (by kernel_rfl) hd
    subst hd
    rw [bool_inv' (one_inv ha), bool_inv' (one_inv hb)]
    rfl
  · injection h with h; subst h
    intro G w a b va vb ha hb
    have hd := undEq (t := 9) (d' := .string) (by kernel_rfl) hd
    subst hd
    have ha := one_inv ha
    have hb := one_inv hb
    obtain ⟨s, rfl, rfl⟩ := str_inv' ha
    obtain ⟨u, rfl, rfl⟩ := str_inv' hb
    exact congrArg some (same_str s u)
  · exact (noKey (t := 22) (by kernel_rfl) hd hk).elim
  · exact (noKey (t := 30) (by kernel_rfl) hd hk).elim
  · exact (noKey (t := 36) (by kernel_rfl) hd hk).elim
  · exact (noKey (t := 99) (by kernel_rfl) hd hk).elim
  · cases h
theorem dInt_inv {k : IntKind} {l : Leaf KA} {n : Int} (h : dInt k l = some n) : l = .int k n := by
  unfold dInt at h
  split at h
  · split at h
    · rename_i e; subst e; injection h with h; subst h; rfl
    · cases h
  · cases h
theorem dBool_inv {l : Leaf KA} {n : Bool} (h : dBool l = some n) : l = .bool n := by
  unfold dBool at h
  split at h
  · injection h with h; subst h; rfl
  · cases h
theorem dStr_inv {l : Leaf KA} {n : List UInt8} (h : dStr l = some n) : l = .str n := by
  unfold dStr at h
  split at h
  · injection h with h; subst h; rfl
  · cases h
theorem dBytes_inv {l : Leaf KA} {n : List UInt8} (h : dBytes l = some n) : l = .sl .u8 n := by
  unfold dBytes at h
  split at h
  · injection h with h; subst h; rfl
  · cases h
theorem d1_inv {α : Type} {f : Leaf KA → Option α} {cs : List (Leaf KA)} {x : α} (h : d1 f cs = some x) : ∃ l, cs = [l] ∧ f l = some x := by
  unfold d1 at h
  split at h
  · exact ⟨_, rfl, h⟩
  · cases h
theorem nil_inv' {G : Gh} {w : World} {v : Value} (h : Rep E G w .nil v) : v = .slice none 0 0 := by
  cases h with
  | nil => rfl
theorem dVals_inv {l : Leaf KA} {n : List Val} (h : dVals l = some n) {G : Gh} {w : World} {v : Value} (hr : Rep E G w l v) : Rep E G w (.sl .val n) v := by
  unfold dVals at h
  split at h
  · injection h with h; subst h; exact hr
  · injection h with h; subst h; rw [nil_inv' hr]; exact zsl
  · cases h
theorem dStrs_inv {l : Leaf KA} {n : List (List UInt8)} (h : dStrs l = some n) {G : Gh} {w : World} {v : Value} (hr : Rep E G w l v) : Rep E G w (.sl .str n) v := by
  unfold dStrs at h
  split at h
  · injection h with h; subst h; exact hr
  · injection h with h; subst h; rw [nil_inv' hr]; exact zsl
  · cases h
theorem decVal_inv {cs : List (Leaf KA)} {x : Val} (h : decVal cs = some x) : cs.length = 6 ∧ ∀ G w (vs : Array Value), Reps E G w cs vs → Reps E G w (Kenc .val x) vs := by
  unfold decVal at h
  split at h
  · split at h
    · rename_i a' b' c' d' e' f' h1 h2 h3 h4 h5 h6
      injection h with h; subst h
      have h1 := dInt_inv h1; have h2 := dInt_inv h2; have h3 := dInt_inv h3; have h4 := dStr_inv h4
      subst h1; subst h2; subst h3; subst h4
      refine ⟨rfl, fun G w vs hv => ⟨hv.1, fun j l hj => ?_⟩⟩
      match j, hj with
      | 0, hj => injection hj with hj; subst hj; exact hv.2 0 _ rfl
      | 1, hj => injection hj with hj; subst hj; exact hv.2 1 _ rfl
      | 2, hj => injection hj with hj; subst hj; exact hv.2 2 _ rfl
      | 3, hj => injection hj with hj; subst hj; exact hv.2 3 _ rfl
      | 4, hj => injection hj with hj; subst hj; exact dVals_inv h5 (hv.2 4 _ rfl)
      | 5, hj => injection hj with hj; subst hj; exact dStrs_inv h6 (hv.2 5 _ rfl)
      | j + 6, hj => cases hj
    · cases h
  · cases h
theorem decBit_inv {cs : List (Leaf KA)} {x : Int × Int × Int × List UInt8 × Int × Bool} (h : decBit cs = some x) : cs.length = 6 ∧ ∀ G w (vs : Array Value), Reps E G w cs vs → Reps E G w (Kenc .bit x) vs := by
  unfold decBit at h
  split at h
  · split at h
    · rename_i a' b' c' d' e' f' h1 h2 h3 h4 h5 h6
      injection h with h; subst h
      have h1 := dInt_inv h1; have h2 := dInt_inv h2; have h3 := dInt_inv h3; have h4 := dStr_inv h4; have h5 := dInt_inv h5; have h6 := dBool_inv h6
      subst h1; subst h2; subst h3; subst h4; subst h5; subst h6
      exact ⟨rfl, fun G w vs hv => hv⟩
    · cases h
  · cases h
theorem decOne {k : K} {cs : List (Leaf KA)} {y : KA k} (hs : cs.length = Ksz k) (he : ∀ G w (vs : Array Value), Reps E G w cs vs → Reps E G w (Kenc k y) vs) : cs.length = E.sz k ∧ ∀ G w (vs : Array Value), Reps E G w cs vs → Reps E G w (E.enc k y) vs := ⟨hs, he⟩
theorem Edec : ∀ k cs x, E.dec k cs = some x → cs.length = E.sz k ∧ ∀ G w (vs : Array Value), Reps E G w cs vs → Reps E G w (E.enc k x) vs := by
  intro k cs x h
  change Kdec k cs = some x at h
  cases k
  case u8 =>
    obtain ⟨n, hn, h⟩ := Option.map_eq_some_iff.1 h
    subst h
    obtain ⟨l, rfl, hl⟩ := d1_inv hn
    have hl := dInt_inv hl
    subst hl
    refine decOne rfl (fun G w vs hv => ⟨hv.1, fun j l hj => ?_⟩)
    match j with
    | 0 =>
      have h0 := hv.2 0 _ rfl
      injection hj with hj; subst hj
      have hr : inRb .u8 n = true := rep_int h0
      have e : (((UInt8.ofNat n.toNat).toNat : Nat) : Int) = n := by
        simp only [inRb, IntKind.min, IntKind.max, IntKind.bits, IntKind.signed, Bool.and_eq_true, decide_eq_true_eq] at hr
        simp at hr
        rw [UInt8.toNat_ofNat']
        omega
      show Rep E G w (.int .u8 (((UInt8.ofNat n.toNat).toNat : Nat) : Int)) _
      rw [e]; exact h0
    | j + 1 => cases hj
  case bool => obtain ⟨l, rfl, hl⟩ := d1_inv h; have hl := dBool_inv hl; subst hl; exact decOne rfl (fun G w vs hv => hv)
  case str => obtain ⟨l, rfl, hl⟩ := d1_inv h; have hl := dStr_inv hl; subst hl; exact decOne rfl (fun G w vs hv => hv)
  case bytes => obtain ⟨l, rfl, hl⟩ := d1_inv h; have hl := dBytes_inv hl; subst hl; exact decOne rfl (fun G w vs hv => hv)
  case val => exact decVal_inv h
  case bit => exact decBit_inv h
  all_goals obtain ⟨l, rfl, hl⟩ := d1_inv h; have hl := dInt_inv hl; subst hl; exact decOne rfl (fun G w vs hv => hv)
theorem key_u8 (t : TypeId) (h : tyKey t = some .u8) : t = 5 := by
  unfold tyKey at h
  split at h <;> first | rfl | (injection h with h; cases h) | cases h
theorem u8_int : E.P.underlying 5 = some (.int .u8) := by kernel_rfl
theorem laws : Laws E where
  mixed := by kernel_rfl
  encLen k x := by cases k <;> first | rfl | (cases x; rfl)
  encPure k x := by cases k <;> first | rfl | (cases x; rfl)
  szPos k := by cases k <;> decide
  kb1 := rfl
  kbU8 t h := by rw [key_u8 t h]; exact u8_int
  agg1 k h := by cases k <;> first | rfl | cases h
  info := Einfo
  beq := Ebeq
  dec := Edec
  toB xs := ⟨rfl, fun i x h => ⟨x, h, rfl⟩⟩
  ofB s := ⟨rfl, fun i x h => ⟨x, h, rfl⟩⟩
end Go.Vx
namespace Px
def scalar (a : Int) : Bool := Go.Vx.leI 0 a && Go.Vx.ltI a 1114112 && !(Go.Vx.leI 55296 a && Go.Vx.leI a 57343)
theorem scalar_iff (a : Int) : scalar a = true ↔ 0 ≤ a ∧ a < 1114112 ∧ ¬ (55296 ≤ a ∧ a ≤ 57343) := by
  simp only [scalar, Go.Vx.leI_eq, Go.Vx.ltI_eq, Bool.and_eq_true, Bool.not_eq_true', Bool.and_eq_false_iff, decide_eq_true_eq, decide_eq_false_iff_not]; omega
def n2 (p : List UInt8) (i : Nat) : Int := 256 * ((p.getD i 0).toNat : Int) + ((p.getD (i + 1) 0).toNat : Int)
theorem n2_nonneg (p : List UInt8) (i : Nat) : 0 ≤ n2 p i := by unfold n2; omega
theorem n2_lt (p : List UInt8) (i : Nat) : n2 p i < 65536 := by
  unfold n2
  have h1 := (p.getD i 0).toNat_lt
  have h2 := (p.getD (i + 1) 0).toNat_lt
  omega
def b2 (n : Nat) : List UInt8 := [UInt8.ofNat (n / 256 % 256), UInt8.ofNat (n % 256)]
def utf16 (c : Int) : List UInt8 := cond (Go.Vx.ltI c 65536) (b2 c.toNat) (b2 (55296 + (c - 65536) / 1024).toNat ++ b2 (56320 + (c - 65536) % 1024).toNat)
def utf16s (c : Int) : List UInt8 := cond (scalar c) (utf16 c) []
theorem utf16s_no {c : Int} (h : scalar c = false) : utf16s c = [] := by unfold utf16s; rw [h]; rfl
theorem utf16s_low {c : Nat} (h : scalar (c : Int) = true) (hc : c < 65536) : utf16s c = b2 c := by
  have e : Go.Vx.ltI (c : Int) 65536 = true := by rw [Go.Vx.ltI_eq]; exact decide_eq_true (by omega)
  unfold utf16s utf16; rw [h, e, Int.toNat_natCast]; rfl
theorem utf16s_high {m : Nat} (h : scalar ((m : Int) + 65536) = true) : utf16s ((m : Int) + 65536) = b2 (55296 + m / 1024) ++ b2 (56320 + m % 1024) := by
  have e : Go.Vx.ltI ((m : Int) + 65536) 65536 = false := by rw [Go.Vx.ltI_eq]; exact decide_eq_false (by omega)
  have e1 : (55296 + ((m : Int) + 65536 - 65536) / 1024).toNat = 55296 + m / 1024 := by omega
  have e2 : (56320 + ((m : Int) + 65536 - 65536) % 1024).toNat = 56320 + m % 1024 := by omega
  unfold utf16s utf16; rw [h, e, e1, e2]; rfl
def same (a b : List UInt8) : Bool := decide (a = b)
theorem same_iff (a b : List UInt8) : same a b = true ↔ a = b := decide_eq_true_iff
def rune (p : List UInt8) : Int :=
  cond (Go.Vx.eqI p.length 2 && scalar (n2 p 0)) (n2 p 0)
   (cond (Go.Vx.eqI p.length 4 && Go.Vx.leI 55296 (n2 p 0) && Go.Vx.ltI (n2 p 0) 56320 && Go.Vx.leI 56320 (n2 p 2) && Go.Vx.ltI (n2 p 2) 57344) (65536 + 1024 * (n2 p 0 - 55296) + n2 p 2 - 56320) (-1))
theorem b2_two (x y : UInt8) : b2 (256 * x.toNat + y.toNat) = [x, y] := by
  have hx := x.toNat_lt
  have hy := y.toNat_lt
  unfold b2
  rw [show (256 * x.toNat + y.toNat) / 256 % 256 = x.toNat by omega, show (256 * x.toNat + y.toNat) % 256 = y.toNat by omega]
  simp
theorem n2_two (x y : UInt8) (r : List UInt8) : n2 (x :: y :: r) 0 = ((256 * x.toNat + y.toNat : Nat) : Int) := by
  show 256 * (x.toNat : Int) + (y.toNat : Int) = _
  omega
theorem n2_four (x y z u : UInt8) (r : List UInt8) : n2 (x :: y :: z :: u :: r) 2 = ((256 * z.toNat + u.toNat : Nat) : Int) := by
  show 256 * (z.toNat : Int) + (u.toNat : Int) = _
  omega
theorem utf16s_len (c : Int) : (utf16s c).length = 0 ∨ (utf16s c).length = 2 ∨ (utf16s c).length = 4 := by
  unfold utf16s utf16
  cases scalar c <;> cases Go.Vx.ltI c 65536 <;> simp [b2]
theorem b2_inj {a b : Nat} (ha : a < 65536) (hb : b < 65536) (h : b2 a = b2 b) : a = b := by
  unfold b2 at h
  injection h with h1 h2
  injection h2 with h2 _
  have h1 := congrArg UInt8.toNat h1
  have h2 := congrArg UInt8.toNat h2
  simp only [UInt8.toNat_ofNat'] at h1 h2
  omega
end Px
namespace Go.Vx
open Go
theorem someB {x y : Bool} {os : List (Obj E.A)} (h : x = y) : some ((.lf (.bool x) : RV E.A), os) = some (.lf (.bool y), os) := by rw [h]
theorem someI {k : IntKind} {x y : Int} {os : List (Obj E.A)} (h : x = y) : some ((.lf (.int k x) : RV E.A), os) = some (.lf (.int k y), os) := by rw [h]
def rangeRun {α A O : Type} (step : Nat → A → α → A ⊕ O) (fin : A → O) : Nat → A → List α → O
  | _, a, [] => fin a
  | i, a, x :: r => match step i a x with | .inl a' => rangeRun step fin (i + 1) a' r | .inr o => o
theorem range_iter {α A O X : Type} {t : X → Tree (X ⊕ O)} {l : List α} (d : α) (mk : A → Int → X) (step : Nat → A → α → A ⊕ O) (fin : A → O) (ok : Nat → A → Prop)
    (hs : ∀ (i : Nat) (a : A), i < l.length → ok i a → (t (mk a (i : Int))).get = some (match step i a (l.getD i d) with | .inl a' => .inl (mk a' ((i + 1 : Nat) : Int)) | .inr o => .inr o) ∧ ∀ a', step i a (l.getD i d) = .inl a' → ok (i + 1) a')
    (hf : ∀ a, ok l.length a → (t (mk a (l.length : Int))).get = some (.inr (fin a))) :
    ∀ (k i : Nat) (a : A), k + i = l.length → ok i a → iter t (k + 1) (mk a (i : Int)) = some (rangeRun step fin i a (l.drop i))
  | 0, i, a, hk, ho => by
    have hi : i = l.length := by omega
    subst hi
    simp only [iter, hf a ho, List.drop_length, rangeRun]
  | k + 1, i, a, hk, ho => by
    have hi : i < l.length := by omega
    obtain ⟨h1, h2⟩ := hs i a hi ho
    rw [drop_cons l d i hi]
    simp only [iter, h1, rangeRun]
    cases hst : step i a (l.getD i d) with
    | inl a' => exact range_iter d mk step fin ok hs hf k (i + 1) a' (by omega) (h2 a' hst)
    | inr o => rfl
theorem i64_succ {i n : Nat} (h : i < n) (hn : n ≤ big) : IntKind.i64.wrap ((i : Int) + 1) = ((i + 1 : Nat) : Int) := by
  unfold big at hn
  rw [wi64] <;> omega
theorem inB_nat {i n : Nat} (h : i < n) : inB (i : Int) n = true := inB_true.2 ⟨by omega, by omega⟩
theorem ltI_nat {i n : Nat} (h : i < n) : ltI (i : Int) (n : Int) = true := by rw [ltI_eq]; exact decide_eq_true (by omega)
theorem ltI_self (n : Nat) : ltI (n : Int) (n : Int) = false := by rw [ltI_eq]; exact decide_eq_false (by omega)
theorem u8_rt (b : UInt8) : UInt8.ofNat ((b.toNat : Int)).toNat = b := by simp
theorem u8_eq (a b : UInt8) : eqI (a.toNat : Int) (b.toNat : Int) = decide (a = b) := by
  rw [eqI_eq]
  have : ((a.toNat : Int) = (b.toNat : Int)) ↔ a = b := by
    constructor
    · intro h; exact UInt8.toNat_inj.1 (by omega)
    · rintro rfl; rfl
  exact decide_eq_decide.2 this
theorem vbits_or (k : IntKind) (x y : Nat) (hx : x < 2 ^ k.bits) (hy : y < 2 ^ k.bits) : vbits .or k (x : Int) (y : Int) = k.wrap ((x ||| y : Nat) : Int) := by
  unfold vbits
  simp only [BitVec.ofInt_natCast, BitVec.toNat_or, BitVec.toNat_ofNat, Nat.mod_eq_of_lt hx, Nat.mod_eq_of_lt hy]
theorem vbits_and (k : IntKind) (x y : Nat) (hx : x < 2 ^ k.bits) (hy : y < 2 ^ k.bits) : vbits .and k (x : Int) (y : Int) = k.wrap ((x &&& y : Nat) : Int) := by
  unfold vbits
  simp only [BitVec.ofInt_natCast, BitVec.toNat_and, BitVec.toNat_ofNat, Nat.mod_eq_of_lt hx, Nat.mod_eq_of_lt hy]
theorem or_low (x y n : Nat) (hy : y < 2 ^ n) : (x * 2 ^ n) ||| y = x * 2 ^ n + y := by
  rw [← Nat.shiftLeft_eq, Nat.shiftLeft_add_eq_or_of_lt hy]
theorem run_any {α O : Type} (q : α → Bool) (r fin : O) : ∀ (l : List α) (i : Nat), rangeRun (fun _ (_ : Unit) b => (cond (q b) (.inr r) (.inl ()) : Unit ⊕ O)) (fun _ => fin) i () l = cond (l.any q) r fin
  | [], _ => rfl
  | b :: l, i => by
    simp only [rangeRun, List.any_cons]
    cases q b with
    | true => rfl
    | false => exact run_any q r fin l (i + 1)
def findI {α : Type} (q : α → Bool) : Nat → List α → Int
  | _, [] => -1
  | i, b :: l => cond (q b) (i : Int) (findI q (i + 1) l)
theorem findI_ge {α : Type} (q : α → Bool) : ∀ (l : List α) (i : Nat), findI q i l = -1 ∨ ((i : Int) ≤ findI q i l ∧ findI q i l < (i + l.length : Nat))
  | [], i => .inl rfl
  | b :: l, i => by
    simp only [findI, List.length_cons]
    cases q b with
    | true => right; simp only [cond_true]; omega
    | false =>
      simp only [cond_false]
      rcases findI_ge q l (i + 1) with h | h
      · exact .inl h
      · right; omega
theorem run_find {α O : Type} (q : α → Bool) (r : Int → O) (fin : O) : ∀ (l : List α) (i : Nat), rangeRun (fun i (_ : Unit) b => (cond (q b) (.inr (r (i : Int))) (.inl ()) : Unit ⊕ O)) (fun _ => fin) i () l = cond (leI 0 (findI q i l)) (r (findI q i l)) fin
  | [], _ => rfl
  | b :: l, i => by
    simp only [rangeRun, findI]
    cases q b with
    | true =>
      simp only [cond_true]
      have : leI 0 (i : Int) = true := by rw [leI_eq]; exact decide_eq_true (by omega)
      rw [this]; rfl
    | false => exact run_find q r fin l (i + 1)
end Go.Vx
namespace Px
def brk (c : Int) : Bool := ([0, 9, 10, 12, 13, 32, 40, 41, 60, 62, 91, 93, 123, 125, 47, 37] : List UInt8).any (fun b => Go.Vx.eqI (b.toNat : Int) c)
def digit (c : Int) : Int :=
  cond (Go.Vx.leI 0 (Go.Vx.findI (fun b : UInt8 => Go.Vx.eqI (b.toNat : Int) c) 0 [48, 49, 50, 51, 52, 53, 54, 55, 56, 57, 97, 98, 99, 100, 101, 102, 48, 49, 50, 51, 52, 53, 54, 55, 56, 57, 65, 66, 67, 68, 69, 70]))
    ((Go.Vx.findI (fun b : UInt8 => Go.Vx.eqI (b.toNat : Int) c) 0 [48, 49, 50, 51, 52, 53, 54, 55, 56, 57, 97, 98, 99, 100, 101, 102, 48, 49, 50, 51, 52, 53, 54, 55, 56, 57, 65, 66, 67, 68, 69, 70]).tmod 16) (-1)
end Px
namespace Go.Vx
open Go
end Go.Vx
namespace Px
def blank (a : Int) : Bool := Go.Vx.eqI a 0 || Go.Vx.eqI a 9 || Go.Vx.eqI a 10 || Go.Vx.eqI a 12 || Go.Vx.eqI a 13 || Go.Vx.eqI a 32
def nl (b : UInt8) : Bool := Go.Vx.eqI (b.toNat : Int) 10 || Go.Vx.eqI (b.toNat : Int) 13
def lineN : List UInt8 → Nat
  | [] => 0
  | b :: r => cond (nl b) 0 (lineN r + 1)
def skipN : Bool → List UInt8 → Nat
  | _, [] => 0
  | true, b :: r => skipN (!nl b) r + 1
  | false, b :: r => cond (Go.Vx.eqI (b.toNat : Int) 37) (skipN true r + 1) (cond (blank (b.toNat : Int)) (skipN false r + 1) 0)
theorem lineN_le : ∀ l, lineN l ≤ l.length
  | [] => Nat.le_refl _
  | b :: r => by
    have := lineN_le r
    simp only [lineN, List.length_cons]
    cases nl b <;> simp only [cond_true, cond_false] <;> omega
theorem skipN_le : ∀ (l : List UInt8) (c : Bool), skipN c l ≤ l.length
  | [], c => by cases c <;> exact Nat.le_refl _
  | b :: r, true => by
    have := skipN_le r (!nl b)
    simp only [skipN, List.length_cons]; omega
  | b :: r, false => by
    have h1 := skipN_le r true
    have h2 := skipN_le r false
    simp only [skipN, List.length_cons]
    cases Go.Vx.eqI (b.toNat : Int) 37 <;> cases blank (b.toNat : Int) <;> simp only [cond_true, cond_false] <;> omega
theorem nl_blank {b : UInt8} (h : nl b = true) : blank (b.toNat : Int) = true ∧ Go.Vx.eqI (b.toNat : Int) 37 = false := by
  unfold nl at h
  unfold blank
  simp only [Go.Vx.eqI_eq, Bool.or_eq_true, decide_eq_true_eq, decide_eq_false_iff_not] at h ⊢
  omega
theorem skipN_line : ∀ l, skipN true l = lineN l + skipN false (l.drop (lineN l))
  | [] => rfl
  | b :: r => by
    simp only [skipN, lineN]
    cases h : nl b with
    | true =>
      obtain ⟨h1, h2⟩ := nl_blank h
      simp only [cond_true, List.drop_zero, skipN, h1, h2, cond_false, Bool.not_true]
      omega
    | false =>
      simp only [cond_false, Bool.not_false, List.drop_succ_cons]
      rw [skipN_line r]; omega
end Px
namespace Go.Vx
open Go
theorem run_line {O : Type} (f : Int → O) (n : Nat) : ∀ (l : List UInt8) (i : Nat), i + l.length = n →
    rangeRun (fun i (_ : Unit) b => (cond (Px.nl b) (.inr (f (i : Int))) (.inl ()) : Unit ⊕ O)) (fun _ => f (n : Int)) i () l = f ((i + Px.lineN l : Nat) : Int)
  | [], i, h => by simp only [rangeRun, Px.lineN]; simp at h; subst h; rfl
  | b :: l, i, h => by
    simp only [rangeRun, Px.lineN]
    cases Px.nl b with
    | true => rfl
    | false =>
      simp only [cond_false]
      rw [run_line f n l (i + 1) (by simp at h; omega)]
      congr 2; omega
theorem indexByte_any (c : UInt8) : ∀ l : List UInt8, leI 0 (Lib.indexByte l c) = l.any (fun b => decide (b = c))
  | [] => rfl
  | b :: l => by
    have ih := indexByte_any c l
    have hge := Lib.indexByte_ge l c
    simp only [Lib.indexByte, List.any_cons]
    by_cases hb : b = c
    · subst hb; simp [leI]
    · have h1 : (b == c) = false := by simpa using hb
      rw [h1, decide_eq_false hb, Bool.false_or, ← ih, leI_eq, leI_eq]
      refine decide_eq_decide.2 ?_
      simp only [Bool.false_eq_true, if_false, beq_iff_eq]
      split <;> omega
theorem eqI_lit (b c : UInt8) (n : Int) (h : (c.toNat : Int) = n) : eqI (b.toNat : Int) n = decide (b = c) := by rw [← h]; exact u8_eq b c
theorem nl_any (b : UInt8) : leI 0 (Lib.indexByte [10, 13] b) = Px.nl b := by
  rw [indexByte_any]
  unfold Px.nl
  rw [eqI_lit b 10 10 rfl, eqI_lit b 13 13 rfl]
  simp only [List.any_cons, List.any_nil, Bool.or_false, eq_comm (b := b)]
theorem blank_any (b : UInt8) : leI 0 (Lib.indexByte [0, 9, 10, 12, 13, 32] b) = Px.blank (b.toNat : Int) := by
  rw [indexByte_any]
  unfold Px.blank
  rw [eqI_lit b 0 0 rfl, eqI_lit b 9 9 rfl, eqI_lit b 10 10 rfl, eqI_lit b 12 12 rfl, eqI_lit b 13 13 rfl, eqI_lit b 32 32 rfl]
  simp only [List.any_cons, List.any_nil, Bool.or_false, eq_comm (b := b), Bool.or_assoc]
end Go.Vx
namespace Px
def hd (n : Nat) : UInt8 := [(48 : UInt8), 49, 50, 51, 52, 53, 54, 55, 56, 57, 97, 98, 99, 100, 101, 102].getD n 0
def hexs : List UInt8 → List UInt8
  | [] => []
  | b :: r => hd (b.toNat / 16) :: hd (b.toNat % 16) :: hexs r
theorem hexs_len : ∀ p, (hexs p).length = 2 * p.length
  | [] => rfl
  | b :: r => by simp only [hexs, List.length_cons, hexs_len r]; omega
end Px
namespace Go.Vx
open Go
theorem vshr_u8 (b : UInt8) : vshr IntKind.u8 (b.toNat : Int) 4 = ((b.toNat / 16 : Nat) : Int) := by
  unfold vshr
  have : min (Int.toNat 4) (IntKind.u8.bits) = 4 := by decide
  rw [this]
  show ((b.toNat : Int)).fdiv 16 = _
  rw [Int.fdiv_eq_ediv_of_nonneg _ (by omega)]
  omega
theorem and_u8 (b : UInt8) : vbits Go.BinOp.and IntKind.u8 (b.toNat : Int) 15 = ((b.toNat % 16 : Nat) : Int) := by
  have hb := b.toNat_lt
  have := vbits_and IntKind.u8 b.toNat 15 hb (by decide)
  rw [show ((15 : Nat) : Int) = 15 from rfl] at this
  rw [this, show (15 : Nat) = 2 ^ 4 - 1 from rfl, Nat.and_two_pow_sub_one_eq_mod, wu8] <;> omega
end Go.Vx
