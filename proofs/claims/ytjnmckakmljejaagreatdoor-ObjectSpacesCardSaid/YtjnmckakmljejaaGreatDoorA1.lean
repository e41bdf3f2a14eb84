/-
  Part 1 of the proof: the second reading of the model, its laws, and the functions' contracts. Lemmas alone.
-/
import Derived.Lib.UnsafeStr
import Derived.LoopNIn
import Derived.OrdersIn
import Derived.RangeFuncCalls
import Derived.RangeFuncNested
import Derived.RangeFuncLeaves
import Derived.Test.YtjnmckakmljejaaGreatDoorProg
import Derived.KernelRfl
import Derived.Lib.ItoaNum
import Derived.Lib.DecodeN
import Derived.Lib.Bytealg
import Derived.Test.YtjnmckakmljejaaGreatDoorA0
set_option linter.unusedSectionVars false
set_option linter.unusedVariables false
set_option linter.unusedSimpArgs false
noncomputable section
namespace Go.Vx
open Go
section
variable {Key : Type} [DecidableEq Key]
variable {E : Env Key} {G Gc : Gh} {w w' : World}
def updAll {α β : Type} (key : β → Nat) (val : β → α) (l : List β) (f : Nat → α) : Nat → α := l.foldl (fun f x => upd f (key x) (val x)) f
theorem updAll_notin {α β : Type} {key : β → Nat} {val : β → α} {i : Nat} : ∀ {l : List β} {f : Nat → α}, (∀ x ∈ l, key x ≠ i) → updAll key val l f i = f i
 | [], _, _ => rfl
 | x :: l, f, h => by
  have : updAll key val (x :: l) f = updAll key val l (upd f (key x) (val x)) := rfl
  rw [this, updAll_notin (fun y hy => h y (by simp [hy]))]
  have := h x (by simp)
  simp [upd, Ne.symm this]
theorem updAll_in {α β : Type} {key : β → Nat} {val : β → α} {i : Nat} {a : α} : ∀ {l : List β} {f : Nat → α} {x : β}, x ∈ l → key x = i → (∀ y ∈ l, key y = i → val y = a) → updAll key val l f i = a
 | [], _, _, h, _, _ => by cases h
 | y :: l, f, x, h, hk, ha => by
  have e : updAll key val (y :: l) f = updAll key val l (upd f (key y) (val y)) := rfl
  rw [e]
  by_cases hl : ∃ z ∈ l, key z = i
  ·obtain ⟨z, hz, hzk⟩ := hl
   exact updAll_in hz hzk (fun u hu => ha u (by simp [hu]))
  ·rw [updAll_notin (fun z hz hzk => hl ⟨z, hz, hzk⟩)]
   have hxy : x = y := by
    rcases List.mem_cons.1 h with h | h
    ·exact h
    ·exact absurd ⟨x, h, hk⟩ hl
   subst hxy
   simp [upd, hk, ha x (by simp) hk]
theorem updObs_eq (l : List (Nat × Nat × Obj E.A)) (ob : Nat → Option (Obj E.A)) : updObs E l ob = updAll (·.1) (fun x => some x.2.2) l ob := rfl
theorem updVer_eq (l : List (Nat × Nat × Obj E.A)) (ver : Nat → Nat) : updVer E l ver = updAll (·.1) (·.2.1) l ver := rfl
theorem updTk_eq (l : List (Nat × Nat)) (tk : Nat → Nat) : updTk l tk = updAll (·.1) (·.2) l tk := rfl
theorem mem_obsOut {σ : St E.A} {d : Nat} {ids toks : List Nat} : ∀ {i : Nat} {os : List (Obj E.A)} {x : Nat × Nat × Obj E.A}, x ∈ obsOut E σ d ids toks i os ↔ ∃ (j : Nat) (o : Obj E.A), os[j]? = some o ∧ x = ((outId E σ d ids (i + j)).1, (outId E σ d ids (i + j)).2, mapObj E (outward E σ d ids toks) o)
 | i, [], x => by simp [obsOut]
 | i, o :: os, x => by
  simp only [obsOut, List.mem_cons, mem_obsOut (i := i + 1)]
  constructor
  ·rintro (h | ⟨j, o', h1, h2⟩)
   ·exact ⟨0, o, rfl, h⟩
   ·exact ⟨j + 1, o', by simpa using h1, by rw [h2, show i + (j + 1) = i + 1 + j by omega]⟩
  ·rintro ⟨j, o', h1, h2⟩
   cases j with
   | zero => simp only [List.getElem?_cons_zero, Option.some.injEq] at h1; subst h1; exact .inl h2
   | succ j => exact .inr ⟨j, o', by simpa using h1, by rw [h2, show i + (j + 1) = i + 1 + j by omega]⟩
structure Chk (E : Env Key) (d : Nat) (ids toks : List Nat) (r : RV E.A) (os' : List (Obj E.A)) : Prop where
 n1 : ids.length ≤ os'.length
 n2 : os'.length ≤ ids.length + 32
 fresh : ∀ j, j < os'.length - ids.length → nth d j ∉ ids
 idr : ∀ i ∈ leafsIds E zero0 (rvLeafs E r), i < os'.length
 ido : ∀ o ∈ os', ∀ i ∈ leafsIds E zero0 (objLeafs E (some o)), i < os'.length
 tk : ∀ i ∈ allToks E r os', i < toks.length + 32
 tfresh : ∀ j, j < 32 → nth d (32 + j) ∉ toks
 nobuf : ∀ o ∈ os', isBuf E o = false
theorem callChk_ok {d : Nat} {ids toks : List Nat} {r : RV E.A} {os' : List (Obj E.A)} (h : callChk E d ids toks r os' = true) : Chk E d ids toks r os' := by
 unfold callChk at h
 simp only [Bool.and_eq_true, decide_eq_true_eq, List.all_eq_true, List.mem_range, Bool.not_eq_true', List.contains_eq_mem, decide_eq_false_iff_not] at h
 obtain ⟨⟨⟨⟨⟨⟨h1, h2⟩, h3⟩, h4⟩, h5⟩, h6⟩, h7⟩ := h
 refine ⟨h1, h2, h3, fun i hi => h4 i ?_, fun o ho i hi => h4 i ?_, h5, h6, h7⟩
 ·unfold allIds; exact List.mem_append_left _ hi
 ·unfold allIds; exact List.mem_append_right _ (List.mem_flatMap.2 ⟨o, ho, hi⟩)
theorem outId_old {σ : St E.A} {d : Nat} {ids : List Nat} {i id : Nat} (h : ids[i]? = some id) : outId E σ d ids i = (id, σ.ver id) := by
 unfold outId; rw [h]
theorem outId_new {σ : St E.A} {d : Nat} {ids : List Nat} {i : Nat} (h : ids.length ≤ i) : outId E σ d ids i = (nth d (i - ids.length), σ.ver (nth d (i - ids.length)) + 1) := by
 unfold outId; rw [List.getElem?_eq_none h]
theorem outTok_old {σ : St E.A} {d : Nat} {toks : List Nat} {i t : Nat} (h : toks[i]? = some t) : outTok E σ d toks i = (t, σ.tk t + 1) := by
 unfold outTok; rw [h]
theorem outTok_new {σ : St E.A} {d : Nat} {toks : List Nat} {i : Nat} (h : toks.length ≤ i) : outTok E σ d toks i = (nth d (32 + (i - toks.length)), σ.tk (nth d (32 + (i - toks.length))) + 1) := by
 unfold outTok; rw [List.getElem?_eq_none h]
theorem nth_inj {d i j : Nat} (h : nth d i = nth d j) : i = j := by unfold nth at h; omega
theorem outId_inj {σ : St E.A} {d : Nat} {ids toks : List Nat} {r : RV E.A} {os' : List (Obj E.A)} (hn : ids.Nodup) (hc : Chk E d ids toks r os') {i j : Nat} (hi : i < os'.length) (hj : j < os'.length) (h : (outId E σ d ids i).1 = (outId E σ d ids j).1) : i = j := by
 rcases Nat.lt_or_ge i ids.length with h1 | h1 <;> rcases Nat.lt_or_ge j ids.length with h2 | h2
 ·rw [outId_old (List.getElem?_eq_getElem h1), outId_old (List.getElem?_eq_getElem h2)] at h
  exact nodup_inj hn (List.getElem?_eq_getElem h1) (by rw [List.getElem?_eq_getElem h2]; simp only at h; rw [h])
 ·rw [outId_old (List.getElem?_eq_getElem h1), outId_new h2] at h
  exact absurd (List.getElem_mem h1) (by simp only at h; rw [h]; exact hc.fresh (j - ids.length) (by omega))
 ·rw [outId_old (List.getElem?_eq_getElem h2), outId_new h1] at h
  exact absurd (List.getElem_mem h2) (by simp only at h; rw [← h]; exact hc.fresh (i - ids.length) (by omega))
 ·rw [outId_new h1, outId_new h2] at h
  have := nth_inj h
  omega
theorem outTok_inj {σ : St E.A} {d : Nat} {ids toks : List Nat} {r : RV E.A} {os' : List (Obj E.A)} (hn : toks.Nodup) (hc : Chk E d ids toks r os') {i j : Nat} (hi : i < toks.length + 32) (hj : j < toks.length + 32) (h : (outTok E σ d toks i).1 = (outTok E σ d toks j).1) : i = j := by
 rcases Nat.lt_or_ge i toks.length with h1 | h1 <;> rcases Nat.lt_or_ge j toks.length with h2 | h2
 ·rw [outTok_old (List.getElem?_eq_getElem h1), outTok_old (List.getElem?_eq_getElem h2)] at h
  exact nodup_inj hn (List.getElem?_eq_getElem h1) (by rw [List.getElem?_eq_getElem h2]; simp only at h; rw [h])
 ·rw [outTok_old (List.getElem?_eq_getElem h1), outTok_new h2] at h
  exact absurd (List.getElem_mem h1) (by simp only at h; rw [h]; exact hc.tfresh (j - toks.length) (by omega))
 ·rw [outTok_old (List.getElem?_eq_getElem h2), outTok_new h1] at h
  exact absurd (List.getElem_mem h2) (by simp only at h; rw [← h]; exact hc.tfresh (i - toks.length) (by omega))
 ·rw [outTok_new h1, outTok_new h2] at h
  have := nth_inj h
  omega
def newTks (σ : St E.A) (d : Nat) (toks : List Nat) (r : RV E.A) (os' : List (Obj E.A)) : List (Nat × Nat) :=
 (addNew (List.range toks.length) (allToks E r os')).map fun i => outTok E σ d toks i
open Classical in
def Gh.out (G Gc : Gh) (σ : St E.A) (d : Nat) (ids toks : List Nat) (r : RV E.A) (os' : List (Obj E.A)) : Gh :=
 {
  blk := fun x => if h : ∃ i, i < os'.length ∧ (outId E σ d ids i).1 = x then Gc.blk h.choose else G.blk x
  tok := fun x => if h : ∃ i, i < toks.length + 32 ∧ (i < toks.length ∨ i ∈ allToks E r os') ∧ (outTok E σ d toks i).1 = x then Gc.tok h.choose else G.tok x
  ver := updVer E (obsOut E σ d ids toks 0 os') G.ver
  cur := updTk (newTks σ d toks r os') G.cur
  oth := G.oth
  bl := G.bl }
section
variable {σ : St E.A} {d : Nat} {ids toks : List Nat} {r : RV E.A} {os' : List (Obj E.A)}
theorem out_blk_in (hn : ids.Nodup) (hc : Chk E d ids toks r os') {i : Nat} (hi : i < os'.length) : (G.out Gc σ d ids toks r os').blk (outId E σ d ids i).1 = Gc.blk i := by
 have h : ∃ j, j < os'.length ∧ (outId E σ d ids j).1 = (outId E σ d ids i).1 := ⟨i, hi, rfl⟩
 simp only [Gh.out, dif_pos h]
 rw [outId_inj hn hc h.choose_spec.1 hi h.choose_spec.2]
theorem out_blk_not {x : Nat} (h : ∀ i, i < os'.length → (outId E σ d ids i).1 ≠ x) : (G.out Gc σ d ids toks r os').blk x = G.blk x := by
 simp only [Gh.out]
 rw [dif_neg (fun ⟨i, h1, h2⟩ => h i h1 h2)]
theorem out_tok_in (hn : toks.Nodup) (hc : Chk E d ids toks r os') {i : Nat} (hi : i < toks.length + 32) (hi2 : i < toks.length ∨ i ∈ allToks E r os') : (G.out Gc σ d ids toks r os').tok (outTok E σ d toks i).1 = Gc.tok i := by
 have h : ∃ j, j < toks.length + 32 ∧ (j < toks.length ∨ j ∈ allToks E r os') ∧ (outTok E σ d toks j).1 = (outTok E σ d toks i).1 := ⟨i, hi, hi2, rfl⟩
 simp only [Gh.out, dif_pos h]
 rw [outTok_inj hn hc h.choose_spec.1 hi h.choose_spec.2.2]
theorem out_tok_not {x : Nat} (h : ∀ i, i < toks.length + 32 → (i < toks.length ∨ i ∈ allToks E r os') → (outTok E σ d toks i).1 ≠ x) : (G.out Gc σ d ids toks r os').tok x = G.tok x := by
 simp only [Gh.out]
 rw [dif_neg (fun ⟨i, h1, h2, h3⟩ => h i h1 h2 h3)]
theorem out_ver_in (hver : σ.ver = G.ver) (hn : ids.Nodup) (hc : Chk E d ids toks r os') {i : Nat} (hi : i < os'.length) : (G.out Gc σ d ids toks r os').ver (outId E σ d ids i).1 = (outId E σ d ids i).2 := by
 show updVer E (obsOut E σ d ids toks 0 os') G.ver _ = _
 rw [updVer_eq]
 have hm : ((outId E σ d ids (0 + i)).1, (outId E σ d ids (0 + i)).2, mapObj E (outward E σ d ids toks) os'[i]) ∈ obsOut E σ d ids toks 0 os' := mem_obsOut.2 ⟨i, os'[i], List.getElem?_eq_getElem hi, rfl⟩
 rw [Nat.zero_add] at hm
 refine updAll_in hm rfl (fun y hy hk => ?_)
 obtain ⟨j, o, hj, rfl⟩ := mem_obsOut.1 hy
 simp only [Nat.zero_add] at hk ⊢
 rw [outId_inj hn hc (lt_of_get hj) hi hk]
theorem out_ver_not {x : Nat} (h : ∀ i, i < os'.length → (outId E σ d ids i).1 ≠ x) : (G.out Gc σ d ids toks r os').ver x = G.ver x := by
 show updVer E (obsOut E σ d ids toks 0 os') G.ver _ = _
 rw [updVer_eq]
 refine updAll_notin (fun y hy hk => ?_)
 obtain ⟨j, o, hj, rfl⟩ := mem_obsOut.1 hy
 simp only [Nat.zero_add] at hk
 exact h j (lt_of_get hj) hk
theorem mem_newTks {x : Nat × Nat} : x ∈ newTks σ d toks r os' ↔ ∃ i, (i < toks.length ∨ i ∈ allToks E r os') ∧ x = outTok E σ d toks i := by
 unfold newTks
 rw [List.mem_map]
 constructor
 ·rintro ⟨i, hi, rfl⟩
  rw [addNew_mem, List.mem_range] at hi
  exact ⟨i, hi, rfl⟩
 ·rintro ⟨i, hi, rfl⟩
  exact ⟨i, by rw [addNew_mem, List.mem_range]; exact hi, rfl⟩
theorem outTok_snd (i : Nat) : (outTok E σ d toks i).2 = σ.tk (outTok E σ d toks i).1 + 1 := by
 unfold outTok; split <;> rfl
theorem out_cur_in (hcur : σ.tk = G.cur) {i : Nat} (hi2 : i < toks.length ∨ i ∈ allToks E r os') : (G.out Gc σ d ids toks r os').cur (outTok E σ d toks i).1 = σ.tk (outTok E σ d toks i).1 + 1 := by
 show updTk (newTks σ d toks r os') G.cur _ = _
 rw [updTk_eq]
 refine updAll_in (mem_newTks.2 ⟨i, hi2, rfl⟩) rfl (fun y hy hk => ?_)
 obtain ⟨j, _, rfl⟩ := mem_newTks.1 hy
 rw [outTok_snd, hk]
theorem out_cur_not {x : Nat} (h : ∀ i, (i < toks.length ∨ i ∈ allToks E r os') → (outTok E σ d toks i).1 ≠ x) : (G.out Gc σ d ids toks r os').cur x = G.cur x := by
 show updTk (newTks σ d toks r os') G.cur _ = _
 rw [updTk_eq]
 refine updAll_notin (fun y hy hk => ?_)
 obtain ⟨j, hj, rfl⟩ := mem_newTks.1 hy
 exact h j hj hk
theorem unpassed_free {tmps : Array Value} (hr : VRel E σ G w tmps) {x b : Nat} (hb : G.blk x = some b) (hx : x ∉ ids) : (G.inn ids toks).clear b := by
 refine ⟨fun i hi => ?_, fun t lo hi ht => ?_⟩
 ·obtain ⟨id, h1, h2⟩ := inn_blk hi
  have := hr.h.inj x id b hb h2
  subst this
  exact hx (List.mem_of_getElem? h1)
 ·obtain ⟨u, h1, h2⟩ := inn_tok ht
  exact absurd hb ((hr.h.tokb u b lo hi h2).2.1 x)
theorem unpassed_tok {tmps : Array Value} (hr : VRel E σ G w tmps) {x b lo hi : Nat} (hb : G.tok x = some (b, lo, hi)) (hx : x ∉ toks) : (G.inn ids toks).clear b := by
 refine ⟨fun i hi => ?_, fun t lo' hi' ht => ?_⟩
 ·obtain ⟨id, h1, h2⟩ := inn_blk hi
  exact (hr.h.tokb x b lo _ hb).2.1 id h2
 ·obtain ⟨u, h1, h2⟩ := inn_tok ht
  refine absurd rfl (hr.h.tokj x u b b lo hi lo' hi' hb h2 (fun e => hx ?_))
  rw [e]; exact List.mem_of_getElem? h1
theorem out_free (hn : ids.Nodup) (htn : toks.Nodup) (hc : Chk E d ids toks r os') {b o : Nat} (hf : Gc.free b o) (hg : G.free b o) : (G.out Gc σ d ids toks r os').free b o := by
 refine ⟨fun x hx => ?_, fun x lo hi hx => ?_⟩
 ·by_cases h : ∃ i, i < os'.length ∧ (outId E σ d ids i).1 = x
  ·obtain ⟨i, hi, rfl⟩ := h
   rw [out_blk_in hn hc hi] at hx
   exact hf.1 i hx
  ·rw [out_blk_not (fun i hi e => h ⟨i, hi, e⟩)] at hx
   exact hg.1 x hx
 ·by_cases h : ∃ i, i < toks.length + 32 ∧ (i < toks.length ∨ i ∈ allToks E r os') ∧ (outTok E σ d toks i).1 = x
  ·obtain ⟨i, hi1, hi2, rfl⟩ := h
   rw [out_tok_in htn hc hi1 hi2] at hx
   exact hf.2 i lo hi hx
  ·rw [out_tok_not (fun i h1 h2 e => h ⟨i, h1, h2, e⟩)] at hx
   exact hg.2 x lo hi hx
theorem out_clear (hn : ids.Nodup) (htn : toks.Nodup) (hc : Chk E d ids toks r os') {b : Nat} (hf : Gc.clear b) (hg : G.clear b) : (G.out Gc σ d ids toks r os').clear b := by
 refine ⟨fun x hx => ?_, fun x lo hi hx => ?_⟩
 ·by_cases h : ∃ i, i < os'.length ∧ (outId E σ d ids i).1 = x
  ·obtain ⟨i, hi, rfl⟩ := h
   rw [out_blk_in hn hc hi] at hx
   exact hf.1 i hx
  ·rw [out_blk_not (fun i hi e => h ⟨i, hi, e⟩)] at hx
   exact hg.1 x hx
 ·by_cases h : ∃ i, i < toks.length + 32 ∧ (i < toks.length ∨ i ∈ allToks E r os') ∧ (outTok E σ d toks i).1 = x
  ·obtain ⟨i, hi1, hi2, rfl⟩ := h
   rw [out_tok_in htn hc hi1 hi2] at hx
   exact hf.2 i lo hi hx
  ·rw [out_tok_not (fun i h1 h2 e => h ⟨i, h1, h2, e⟩)] at hx
   exact hg.2 x lo hi hx
theorem notin_ids (hc : Chk E d ids toks r os') {x : Nat} (h : ¬ ∃ i, i < os'.length ∧ (outId E σ d ids i).1 = x) : x ∉ ids := fun hx => by
 obtain ⟨i, hi⟩ := List.getElem?_of_mem hx
 exact h ⟨i, Nat.lt_of_lt_of_le (lt_of_get hi) hc.n1, by rw [outId_old hi]⟩
theorem notin_toks {x : Nat} (h : ¬ ∃ i, i < toks.length + 32 ∧ (i < toks.length ∨ i ∈ allToks E r os') ∧ (outTok E σ d toks i).1 = x) : x ∉ toks := fun hx => by
 obtain ⟨i, hi⟩ := List.getElem?_of_mem hx
 exact h ⟨i, by have := lt_of_get hi; omega, .inl (lt_of_get hi), by rw [outTok_old hi]⟩
theorem out_pur {tmps : Array Value} (hr : VRel E σ G w tmps) (hn : ids.Nodup) (htn : toks.Nodup) (hc : Chk E d ids toks r os') (hfr : Fr (G.inn ids toks) w Gc w') {b o : Nat} (hp : Gc.pur b o) : (G.out Gc σ d ids toks r os').pur b o := by
 have hoth : ¬ (G.inn ids toks).oth b o := by rw [← hfr.oth]; exact hp.2
 rw [inn_oth] at hoth
 refine ⟨⟨fun x hx => ?_, fun x lo hi hx => ?_⟩, fun h => hoth (.inl h)⟩
 ·by_cases h : ∃ i, i < os'.length ∧ (outId E σ d ids i).1 = x
  ·obtain ⟨i, hi, rfl⟩ := h
   rw [out_blk_in hn hc hi] at hx
   exact hp.1.1 i hx
  ·rw [out_blk_not (fun i hi e => h ⟨i, hi, e⟩)] at hx
   exact hoth (.inr ⟨fun hf => hf.1 x hx, (unpassed_free hr hx (notin_ids hc h)).free o⟩)
 ·by_cases h : ∃ i, i < toks.length + 32 ∧ (i < toks.length ∨ i ∈ allToks E r os') ∧ (outTok E σ d toks i).1 = x
  ·obtain ⟨i, hi1, hi2, rfl⟩ := h
   rw [out_tok_in htn hc hi1 hi2] at hx
   exact hp.1.2 i lo hi hx
  ·rw [out_tok_not (fun i h1 h2 e => h ⟨i, h1, h2, e⟩)] at hx
   rcases Nat.lt_or_ge o lo with h1 | h1
   ·exact .inl h1
   ·rcases Nat.lt_or_ge o hi with h2 | h2
    ·exact (hoth (.inr ⟨fun hf => by have := hf.2 x lo hi hx; omega, (unpassed_tok hr hx (notin_toks h)).free o⟩)).elim
    ·exact .inr h2
theorem outward_rep {tmps : Array Value} (hL : Laws E) (hr : VRel E σ G w tmps) (hn : ids.Nodup) (htn : toks.Nodup) (hc : Chk E d ids toks r os') (hfr : Fr (G.inn ids toks) w Gc w') (hv0 : Gc.ver = zero0) (hc0 : Gc.cur = zero0) {l : Leaf E.A} {v : Value} (rp : Rep E Gc w' l v) :
  (∀ i ∈ leafIds E zero0 l, i < os'.length) → (∀ i ∈ leafToks E zero0 l, i ∈ allToks E r os') → Rep E (G.out Gc σ d ids toks r os') w' (mapLeaf E (outward E σ d ids toks) l) v := by
 have hcc : ∀ b o v, w'.cell? ⟨b, o, none⟩ = some v → Gc.pur b o → w'.cell? ⟨b, o, none⟩ = some v ∧ (G.out Gc σ d ids toks r os').pur b o := fun b o v h hp => ⟨h, out_pur hr hn htn hc hfr hp⟩
 induction rp with
 | dead hv => exact fun _ _ => .dead hv
 | int hk => exact fun _ _ => .int hk
 | bool b => exact fun _ _ => .bool b
 | str s h => exact fun _ _ => .str s h
 | lit hv => exact fun _ _ => .lit hv
 | nil => exact fun _ _ => .nil
 | sl0 k a cap h => exact fun _ _ => .sl0 k a cap h
 | sl k xs b off cap vals h1 h2 hcell hrep _ => exact fun _ _ => (Rep.sl k xs b off cap vals h1 h2 hcell hrep).plain hL hcc rfl
 | @own t v k xs a n cap hsl hle hown _ =>
  intro _ ht
  have hsl' := hsl.plain hL hcc rfl
  have hv : v = 0 := by rw [hc0] at hle; exact Nat.le_zero.1 hle
  subst hv
  have htt := ht t (by simp [leafToks, zero0])
  show Rep E _ w' (.own (outTok E σ d toks t).1 (outTok E σ d toks t).2 k xs) _
  have hcur := out_cur_in (Gc := Gc) (ids := ids) (r := r) (os' := os') (d := d) (toks := toks) hr.cur (i := t) (.inr htt)
  refine .own hsl' ?_ (fun _ => ?_)
  ·rw [hcur, outTok_snd]; exact Nat.le_refl _
  ·rcases hown (by rw [hc0]; rfl) with hn' | ⟨b, off, ty, m, ha, htok, hs⟩
   ·exact .inl hn'
   ·exact .inr ⟨b, off, ty, m, ha, by rw [out_tok_in htn hc (hc.tk t htt) (.inr htt)]; exact htok, hs⟩
 | @ptr id v off b hle hb =>
  intro hi _
  have hv : v = 0 := by rw [hv0] at hle; exact Nat.le_zero.1 hle
  subst hv
  have hlt := hi id (by simp [leafIds, zero0])
  show Rep E _ w' (.ptr (outId E σ d ids id).1 (outId E σ d ids id).2 off) _
  refine .ptr ?_ (fun _ => ?_)
  ·rw [out_ver_in hr.ver hn hc hlt]; exact Nat.le_refl _
  ·rw [out_blk_in hn hc hlt]; exact hb (by rw [hv0]; rfl)
 | @mp id v b hle hb =>
  intro hi _
  have hv : v = 0 := by rw [hv0] at hle; exact Nat.le_zero.1 hle
  subst hv
  have hlt := hi id (by simp [leafIds, zero0])
  show Rep E _ w' (.mp (outId E σ d ids id).1 (outId E σ d ids id).2) _
  refine .mp ?_ (fun _ => ?_)
  ·rw [out_ver_in hr.ver hn hc hlt]; exact Nat.le_refl _
  ·rw [out_blk_in hn hc hlt]; exact hb (by rw [hv0]; rfl)
 | pp cs b off vals hp hcell hrep _ =>
  exact fun _ _ => .pp cs b off vals hp (fun j hj => hcc _ _ _ (hcell j hj).1 (hcell j hj).2) (fun j l hl => (hrep j l hl).plain hL hcc (List.all_eq_true.1 hp l (List.mem_of_getElem? hl)))
 | fn f cs vs hs _ ih =>
  intro hi ht
  show Rep E _ w' (.fn f (mapLeafs E (outward E σ d ids toks) cs)) _
  rw [mapLeafs_eq]
  have sub : ∀ (cs : List (Leaf E.A)) (c : Leaf E.A), c ∈ cs → (∀ i ∈ leafIds E zero0 c, i ∈ leafsIds E zero0 cs) ∧ (∀ i ∈ leafToks E zero0 c, i ∈ leafsToks E zero0 cs) := by
   intro cs
   induction cs with
   | nil => intro c h; cases h
   | cons x xs ihx =>
    intro c h
    simp only [leafsIds, leafsToks, List.mem_append]
    rcases List.mem_cons.1 h with rfl | h
    ·exact ⟨fun i hi => .inl hi, fun i hi => .inl hi⟩
    ·exact ⟨fun i hi => .inr ((ihx c h).1 i hi), fun i hi => .inr ((ihx c h).2 i hi)⟩
  refine .fn f _ vs (by simp [hs]) (fun j l hl => ?_)
  rw [List.getElem?_map] at hl
  cases hj : cs[j]? with
  | none => rw [hj] at hl; cases hl
  | some c =>
   rw [hj] at hl; injection hl with hl; subst hl
   have hs := sub cs c (List.mem_of_getElem? hj)
   exact ih j c hj (fun i h => hi i (hs.1 i h)) (fun i h => ht i (hs.2 i h))
 | ifc _ ih => exact fun hi ht => .ifc (ih hi ht)
 | bf => exact fun _ _ => .dead rfl
 | bp => exact fun _ _ => .dead rfl
 | dp => exact fun _ _ => .dead rfl
theorem leafs_sub {ver tk : Nat → Nat} : ∀ {cs : List (Leaf E.A)} {c : Leaf E.A}, c ∈ cs → (∀ i ∈ leafIds E ver c, i ∈ leafsIds E ver cs) ∧ (∀ i ∈ leafToks E tk c, i ∈ leafsToks E tk cs)
 | [], _, h => by cases h
 | x :: xs, c, h => by
  simp only [leafsIds, leafsToks, List.mem_append]
  rcases List.mem_cons.1 h with rfl | h
  ·exact ⟨fun i hi => .inl hi, fun i hi => .inl hi⟩
  ·exact ⟨fun i hi => .inr ((leafs_sub (ver := ver) (tk := tk) h).1 i hi), fun i hi => .inr ((leafs_sub (ver := ver) (tk := tk) h).2 i hi)⟩
end
end
end Go.Vx
namespace Go.Vx
open Go
section
variable {Key : Type} [DecidableEq Key]
variable {E : Env Key} {G G' Gc : Gh} {w w' : World}
theorem Reps.maplm {cs : List (Leaf E.A)} {vs : Array Value} (h : Reps E G w cs vs) {f : Leaf E.A → Leaf E.A} (hf : ∀ l ∈ cs, ∀ v, Rep E G w l v → Rep E G' w' (mapLeaf E f l) v) : Reps E G' w' (mapLeafs E f cs) vs := by
 rw [mapLeafs_eq]
 refine ⟨by simp [h.1], fun j l hj => ?_⟩
 rw [List.getElem?_map] at hj
 cases hc : cs[j]? with
 | none => rw [hc] at hj; cases hj
 | some x => rw [hc] at hj; injection hj with hj; subst hj; exact hf _ (List.mem_of_getElem? hc) _ (h.2 j x hc)
theorem SRep.maplm {g : Bool} {cs : List (Leaf E.A)} {v : Value} (h : SRep E G w g cs v) {f : Leaf E.A → Leaf E.A} (hf : ∀ l ∈ cs, ∀ v, Rep E G w l v → Rep E G' w' (mapLeaf E f l) v) : SRep E G' w' g (mapLeafs E f cs) v := by
 unfold SRep at *
 cases g with
 | true =>
  simp only [if_true] at *
  obtain ⟨vs, rfl, hr⟩ := h
  exact ⟨vs, rfl, hr.maplm hf⟩
 | false =>
  simp only [Bool.false_eq_true, if_false] at *
  obtain ⟨l, rfl, hr⟩ := h
  exact ⟨_, rfl, hf _ (by simp) _ hr⟩
theorem RRep.maplm {r : RV E.A} {v : Value} (h : RRep E G w r v) {f : Leaf E.A → Leaf E.A} (hf : ∀ l ∈ rvLeafs E r, ∀ v, Rep E G w l v → Rep E G' w' (mapLeaf E f l) v) : RRep E G' w' (mapRV E f r) v := by
 cases h with
 | undef => exact .undef _
 | lf h => exact .lf (hf _ (by simp [rvLeafs]) _ h)
 | agg h => exact .agg (h.maplm hf)
 | @tup rs vs hs h =>
  refine .tup (by simp [hs]) (fun j r hj => ?_)
  rw [List.getElem?_map] at hj
  cases hc : rs[j]? with
  | none => rw [hc] at hj; cases hj
  | some x =>
   rw [hc] at hj; injection hj with hj; subst hj
   exact (h j x hc).maplm (fun l hl v => hf l (List.mem_flatMap.2 ⟨x, List.mem_of_getElem? hc, hl⟩) v)
theorem CallRes.mono {P : Program} {R R' : Ending → World → Prop} {res : Result Next} (h : CallRes P R res) (hr : ∀ e w, R e w → R' e w) : CallRes P R' res := by
 unfold CallRes at *
 split at h
 ·exact hr _ _ h
 ·exact h.mono hr
 ·exact h.elim
theorem ARel.inn (hL : Laws E) {σ : St E.A} {tmps : Array Value} (hr : VRel E σ G w tmps) {args : List (RV E.A)} {vals : Array Value} (ha : ARel E G w args vals) (ids toks : List Nat) :
  ARel E (G.inn ids toks) w (args.map (mapRV E (inward E σ ids []))) vals := by
 refine ⟨by simp [ha.1], fun j r hj => ?_⟩
 rw [List.getElem?_map] at hj
 cases hc : args[j]? with
 | none => rw [hc] at hj; cases hj
 | some x =>
  rw [hc] at hj; injection hj with hj; subst hj
  exact (ha.2 j x hc).mapl (fun l v h => inward_rep hL hr.ver hr.cur ids toks [] (.inr rfl) h)
theorem back_post (hL : Laws E) {σ : St E.A} {tmps : Array Value} (hr : VRel E σ G w tmps) {d : Nat} {ids toks : List Nat} (hn : ids.Nodup) (htn : toks.Nodup) {os : List (Obj E.A)} (hos : getObs E σ ids = some os) {r : RV E.A} {os' : List (Obj E.A)} (hchk : callChk E d ids toks r os' = true)
  {Gc : Gh} {v : Value} {w' : World} (hb : Back E (G.inn ids toks) w (os.map (mapObj E (inward E σ ids toks))).length r os' Gc v w') :
  Post E σ G w { val := mapRV E (outward E σ d ids toks) r, obs := obsOut E σ d ids toks 0 os', tks := (addNew (List.range toks.length) (allToks E r os')).map fun i => outTok E σ d toks i } v (G.out Gc σ d ids toks r os') w' := by
 have hc := callChk_ok hchk
 have hlen : os.length = ids.length := (getObs_ok hos).1
 have hsame : ∀ i id, ids[i]? = some id → Gc.blk i = G.blk id := fun i id hi => by
  rw [hb.same i (by rw [List.length_map, hlen]; exact lt_of_get hi)]
  simp [Gh.inn, hi]
 have hfr := hb.fr
 have out := fun {l : Leaf E.A} {v : Value} (rp : Rep E Gc w' l v) => outward_rep (σ := σ) (d := d) (r := r) (os' := os') hL hr hn htn hc hfr hb.ver hb.cur rp
 have hext : Ext G w (G.out Gc σ d ids toks r os') w' := by
  refine ⟨fun b o v hcell hf => ?_, fun x => ?_, fun x e => ⟨?_, fun _ _ => rfl⟩, fun x => ?_, fun x e rg ht => ?_, hfr.shape, rfl, fun x b lo hi o e ht ho => ?_⟩
  rotate_right
  ·have hx : ¬ ∃ i, (i < toks.length ∨ i ∈ allToks E r os') ∧ (outTok E σ d toks i).1 = x := by
    rintro ⟨i, hi, rfl⟩
    rw [out_cur_in hr.cur hi, hr.cur] at e; omega
   have q := hfr.blk b (hr.h.tokb x b lo hi ht).1 (unpassed_tok hr ht (notin_toks (fun ⟨i, _, h2, h3⟩ => hx ⟨i, h2, h3⟩)))
   rw [q.1]; exact ho
  ·have := hfr.cell b o v hcell (inn_free hf)
   exact ⟨this.1, out_free hn htn hc this.2 hf⟩
  ·by_cases hx : ∃ i, i < os'.length ∧ (outId E σ d ids i).1 = x
   ·obtain ⟨i, hi, rfl⟩ := hx
    rw [out_ver_in hr.ver hn hc hi, ← hr.ver]
    unfold outId
    split <;> simp
   ·rw [out_ver_not (fun i hi e => hx ⟨i, hi, e⟩)]; exact Nat.le_refl _
  ·by_cases hx : ∃ i, i < os'.length ∧ (outId E σ d ids i).1 = x
   ·obtain ⟨i, hi, rfl⟩ := hx
    rw [out_blk_in hn hc hi]
    rw [out_ver_in hr.ver hn hc hi, ← hr.ver] at e
    rcases Nat.lt_or_ge i ids.length with h1 | h1
    ·have hg := List.getElem?_eq_getElem h1
     rw [hsame i _ hg]
     rw [outId_old hg]
    ·rw [outId_new h1] at e
     simp at e
   ·rw [out_blk_not (fun i hi e => hx ⟨i, hi, e⟩)]
  ·by_cases hx : ∃ i, (i < toks.length ∨ i ∈ allToks E r os') ∧ (outTok E σ d toks i).1 = x
   ·obtain ⟨i, hi, rfl⟩ := hx
    rw [out_cur_in hr.cur hi, hr.cur]; omega
   ·rw [out_cur_not (fun i hi e => hx ⟨i, hi, e⟩)]; exact Nat.le_refl _
  ·by_cases hx : ∃ i, (i < toks.length ∨ i ∈ allToks E r os') ∧ (outTok E σ d toks i).1 = x
   ·obtain ⟨i, hi, rfl⟩ := hx
    rw [out_cur_in hr.cur hi, hr.cur] at e; omega
   ·rw [out_tok_not (fun i _ hi e => hx ⟨i, hi, e⟩)]; exact ht
 have hfrG : Fr G w (G.out Gc σ d ids toks r os') w' :=
  ⟨hfr.os, hfr.tape, hfr.output, hfr.size, hext.fcell, fun b hb' hf => by
   have := hfr.blk b hb' (inn_clear hf)
   exact ⟨this.1, out_clear hn htn hc this.2.1 hf, rfl⟩, hfr.shape, rfl⟩
 have keepB : ∀ x b, G.blk x = some b → x ∉ ids → w'.heap[b]? = w.heap[b]? ∧ Gc.clear b := fun x b hb' hx =>
  have q := hfr.blk b (hr.h.lt x b hb') (unpassed_free hr hb' hx)
  ⟨q.1, q.2.1⟩
 have keepT : ∀ x b lo hi, G.tok x = some (b, lo, hi) → x ∉ toks → w'.heap[b]? = w.heap[b]? ∧ Gc.clear b := fun x b lo hi hb' hx =>
  have q := hfr.blk b (hr.h.tokb x b lo hi hb').1 (unpassed_tok hr hb' hx)
  ⟨q.1, q.2.1⟩
 have hkeep : ∀ i b, i < 64 → (G.out Gc σ d ids toks r os').blk i = some b → G.blk i = some b := by
  intro x b hx h
  by_cases hxx : ∃ i, i < os'.length ∧ (outId E σ d ids i).1 = x
  ·obtain ⟨i, hi, rfl⟩ := hxx
   rw [out_blk_in hn hc hi] at h
   rcases Nat.lt_or_ge i ids.length with h1 | h1
   ·have hg := List.getElem?_eq_getElem h1
    rw [hsame i _ hg] at h
    rw [outId_old hg]
    exact h
   ·rw [outId_new h1] at hx
    simp only [nth] at hx
    omega
  ·rw [out_blk_not (fun i hi e => hxx ⟨i, hi, e⟩)] at h
   exact h
 refine ⟨?_, ?_, ?_, ?_, hext, hfrG, hkeep⟩
 ·
  refine hb.val.maplm (fun l hl v rp => out rp (fun i hi => ?_) (fun i hi => ?_))
  ·exact hc.idr i ((leafs_sub (ver := zero0) (tk := zero0) hl).1 i hi)
  ·unfold allToks
   rw [addNew_mem]
   exact .inr (List.mem_append_left _ ((leafs_sub (ver := zero0) (tk := zero0) hl).2 i hi))
 ·
  refine ⟨fun x o ho => ?_, fun x b hb' => ?_, fun x y b h1 h2 => ?_, fun t b lo hi ht => ?_, fun t u b c lo hi lo' hi' h1 h2 hne => ?_, fun g cs hg => (hr.h.gl g cs hg).mono hext, fun b o ho => ?_⟩
  ·by_cases hx : ∃ i, i < os'.length ∧ (outId E σ d ids i).1 = x
   ·obtain ⟨i, hi, rfl⟩ := hx
    have hm : ((outId E σ d ids i).1, (outId E σ d ids i).2, mapObj E (outward E σ d ids toks) os'[i]) ∈ obsOut E σ d ids toks 0 os' := mem_obsOut.2 ⟨i, os'[i], List.getElem?_eq_getElem hi, by rw [Nat.zero_add]⟩
    have hlook : updObs E (obsOut E σ d ids toks 0 os') σ.ob (outId E σ d ids i).1 = some (mapObj E (outward E σ d ids toks) os'[i]) := by
     rw [updObs_eq]
     refine updAll_in hm rfl (fun y hy hk => ?_)
     obtain ⟨j, o', hj, rfl⟩ := mem_obsOut.1 hy
     simp only [Nat.zero_add] at hk ⊢
     have := outId_inj hn hc (lt_of_get hj) hi hk
     subst this
     rw [List.getElem?_eq_getElem hi] at hj
     injection hj with hj; rw [hj]
    rw [hlook] at ho; injection ho with ho; subst ho
    have hmem : os'[i] ∈ os' := List.getElem_mem hi
    have hnb := hc.nobuf _ hmem
    rcases hb.h.ob i os'[i] (List.getElem?_eq_getElem hi) with ⟨b, hbb, hor⟩ | ⟨⟨kk, hk⟩, _⟩
    rotate_left
    ·rw [hk] at hnb; cases hnb
    refine .inl ⟨b, by rw [out_blk_in hn hc hi]; exact hbb, ?_⟩
    have lf : ∀ l ∈ objLeafs E (some os'[i]), ∀ v, Rep E Gc w' l v → Rep E (G.out Gc σ d ids toks r os') w' (mapLeaf E (outward E σ d ids toks) l) v := fun l hl v rp =>
     out rp (fun i' hi' => hc.ido _ hmem i' ((leafs_sub (ver := zero0) (tk := zero0) hl).1 i' hi')) (fun i' hi' => by
      unfold allToks
      rw [addNew_mem]
      exact .inr (List.mem_append_right _ (List.mem_flatMap.2 ⟨_, hmem, (leafs_sub (ver := zero0) (tk := zero0) hl).2 i' hi'⟩)))
    generalize os'[i] = o' at hor lf hnb ⊢
    cases hor with
    | cells h1 h2 => exact .cells h1 (h2.maplm lf)
    | map h1 h2 h3 =>
     have hcc : ∀ b o v, w'.cell? ⟨b, o, none⟩ = some v → Gc.pur b o → w'.cell? ⟨b, o, none⟩ = some v ∧ (G.out Gc σ d ids toks r os').pur b o := fun b o v h hp => ⟨h, out_pur hr hn htn hc hfr hp⟩
     exact .map h1 h2 (fun j p e hp he => ⟨(h3 j p e hp he).1.plain hL hcc, (h3 j p e hp he).2.plain hL hcc⟩)
    | buf => cases hnb
    | @wb l v ty _ lr h1 h2 h3 =>
     refine .wb h1 (lf _ (List.mem_singleton.2 rfl) _ h2) ?_
     cases l with
     | own t ver k xs =>
      cases h2 with
      | own _ hle _ =>
       have h0 : ver = Gc.cur t := by rw [hb.cur] at hle ⊢; simpa [zero0] using hle
       exact fun _ => h3 h0
     | _ => trivial
   ·have hlook : updObs E (obsOut E σ d ids toks 0 os') σ.ob x = σ.ob x := by
     rw [updObs_eq]
     refine updAll_notin (fun y hy hk => ?_)
     obtain ⟨j, o', hj, rfl⟩ := mem_obsOut.1 hy
     simp only [Nat.zero_add] at hk
     exact hx ⟨j, lt_of_get hj, hk⟩
    rw [hlook] at ho
    rcases hr.h.ob x o ho with ⟨b, hbb, hor⟩ | ⟨hk, hnn⟩
    ·exact .inl ⟨b, by rw [out_blk_not (fun i hi e => hx ⟨i, hi, e⟩)]; exact hbb, hor.mono hext (keepB x b hbb (notin_ids hc hx)).1 rfl⟩
    ·exact .inr ⟨hk, by rw [out_blk_not (fun i hi e => hx ⟨i, hi, e⟩)]; exact hnn⟩
  ·by_cases hx : ∃ i, i < os'.length ∧ (outId E σ d ids i).1 = x
   ·obtain ⟨i, hi, rfl⟩ := hx
    rw [out_blk_in hn hc hi] at hb'
    exact hb.h.lt i b hb'
   ·rw [out_blk_not (fun i hi e => hx ⟨i, hi, e⟩)] at hb'
    exact Nat.lt_of_lt_of_le (hr.h.lt x b hb') hfr.size
  ·by_cases hx : ∃ i, i < os'.length ∧ (outId E σ d ids i).1 = x <;> by_cases hy : ∃ i, i < os'.length ∧ (outId E σ d ids i).1 = y
   ·obtain ⟨i, hi, rfl⟩ := hx
    obtain ⟨j, hj, rfl⟩ := hy
    rw [out_blk_in hn hc hi] at h1
    rw [out_blk_in hn hc hj] at h2
    rw [hb.h.inj i j b h1 h2]
   ·obtain ⟨i, hi, rfl⟩ := hx
    rw [out_blk_in hn hc hi] at h1
    rw [out_blk_not (fun i hi e => hy ⟨i, hi, e⟩)] at h2
    exact absurd h1 ((keepB y b h2 (notin_ids hc hy)).2.1 i)
   ·obtain ⟨j, hj, rfl⟩ := hy
    rw [out_blk_in hn hc hj] at h2
    rw [out_blk_not (fun i hi e => hx ⟨i, hi, e⟩)] at h1
    exact absurd h2 ((keepB x b h1 (notin_ids hc hx)).2.1 j)
   ·rw [out_blk_not (fun i hi e => hx ⟨i, hi, e⟩)] at h1
    rw [out_blk_not (fun i hi e => hy ⟨i, hi, e⟩)] at h2
    exact hr.h.inj x y b h1 h2
  ·by_cases hx : ∃ i, i < toks.length + 32 ∧ (i < toks.length ∨ i ∈ allToks E r os') ∧ (outTok E σ d toks i).1 = t
   ·obtain ⟨i, hi1, hi2, rfl⟩ := hx
    rw [out_tok_in htn hc hi1 hi2] at ht
    obtain ⟨g1, g2, g3⟩ := hb.h.tokb i b lo hi ht
    refine ⟨g1, fun x hx => ?_, g3⟩
    by_cases hxx : ∃ i, i < os'.length ∧ (outId E σ d ids i).1 = x
    ·obtain ⟨j, hj, rfl⟩ := hxx
     rw [out_blk_in hn hc hj] at hx
     exact g2 j hx
    ·rw [out_blk_not (fun i hi e => hxx ⟨i, hi, e⟩)] at hx
     exact (keepB x b hx (notin_ids hc hxx)).2.2 i lo hi ht
   ·rw [out_tok_not (fun i h1 h2 e => hx ⟨i, h1, h2, e⟩)] at ht
    obtain ⟨g1, g2, g3⟩ := hr.h.tokb t b lo hi ht
    have hk := keepT t b lo hi ht (notin_toks hx)
    refine ⟨Nat.lt_of_lt_of_le g1 hfr.size, fun x hx => ?_, fun o h1 h2 => ?_⟩
    ·by_cases hxx : ∃ i, i < os'.length ∧ (outId E σ d ids i).1 = x
     ·obtain ⟨j, hj, rfl⟩ := hxx
      rw [out_blk_in hn hc hj] at hx
      exact hk.2.1 j hx
     ·rw [out_blk_not (fun i hi e => hxx ⟨i, hi, e⟩)] at hx
      exact g2 x hx
    ·rw [World.cell?_of_block (w := w) hk.1, World.frozen?_of_block (w := w) hk.1]
     exact g3 o h1 h2
  ·by_cases hx : ∃ i, i < toks.length + 32 ∧ (i < toks.length ∨ i ∈ allToks E r os') ∧ (outTok E σ d toks i).1 = t <;> by_cases hy : ∃ i, i < toks.length + 32 ∧ (i < toks.length ∨ i ∈ allToks E r os') ∧ (outTok E σ d toks i).1 = u
   ·obtain ⟨i, hi1, hi2, rfl⟩ := hx
    obtain ⟨j, hj1, hj2, rfl⟩ := hy
    rw [out_tok_in htn hc hi1 hi2] at h1
    rw [out_tok_in htn hc hj1 hj2] at h2
    exact hb.h.tokj i j b c lo hi lo' hi' h1 h2 (fun e => hne (by rw [e]))
   ·obtain ⟨i, hi1, hi2, rfl⟩ := hx
    rw [out_tok_in htn hc hi1 hi2] at h1
    rw [out_tok_not (fun i a b e => hy ⟨i, a, b, e⟩)] at h2
    intro e; subst e
    exact (keepT u b lo' hi' h2 (notin_toks hy)).2.2 i lo hi h1
   ·obtain ⟨j, hj1, hj2, rfl⟩ := hy
    rw [out_tok_in htn hc hj1 hj2] at h2
    rw [out_tok_not (fun i a b e => hx ⟨i, a, b, e⟩)] at h1
    intro e; subst e
    exact (keepT t b lo hi h1 (notin_toks hx)).2.2 j lo' hi' h2
   ·rw [out_tok_not (fun i a b e => hx ⟨i, a, b, e⟩)] at h1
    rw [out_tok_not (fun i a b e => hy ⟨i, a, b, e⟩)] at h2
    exact hr.h.tokj t u b c lo hi lo' hi' h1 h2 hne
  ·have hof := hr.h.othf b o ho
   have hio : (G.inn ids toks).oth b o := .inl ho
   have := hb.h.othf b o (by rw [hfr.oth]; exact hio)
   exact ⟨this.1, out_free hn htn hc this.2 hof.2⟩
 ·show updVer E (obsOut E σ d ids toks 0 os') σ.ver = _
  rw [hr.ver]; rfl
 ·show updTk (newTks σ d toks r os') σ.tk = _
  rw [hr.cur]; rfl
theorem call_ok (hL : Laws E) {σ : St E.A} {tmps : Array Value} (hr : VRel E σ G w tmps) {f : FuncId} {spec : Spec E} (hval : Valid E f spec) {d : Nat} {args : List (RV E.A)} {vals : Array Value} (ha : ARel E G w args vals) {δ : Delta E.A} (h : (callOp E σ d spec args).get = some δ) :
  CallRes E.P (fun e w' => ∃ v G', e = .returned v ∧ Post E σ G w δ v G' w') ((callFunc f vals).run E.P w) := by
 unfold Valid at hval
 unfold callOp at h
 generalize hids : reach E σ 12 0 (addNew [] (args.flatMap fun r => leafsIds E σ.ver (rvLeafs E r))) = ids at h
 have hn : ids.Nodup := by rw [← hids]; exact reach_nodup σ _ _ _ (addNew_nodup _ _ List.nodup_nil)
 simp only at h
 split at h
 ·cases h
 ·rename_i os hos
  generalize htoks : addNew [] (os.flatMap fun o => leafsToks E σ.tk (objLeafs E (some o))) = toks at h
  have htn : toks.Nodup := by rw [← htoks]; exact addNew_nodup _ _ List.nodup_nil
  obtain ⟨⟨r, os'⟩, hspec, h⟩ := Tree.bind_get h
  ·simp only at h
   split at h
   ·rename_i hchk
    injection h with hδ
    subst hδ
    have hv := hval _ _ _ _ hspec (G.inn ids toks) w vals (ha.inn hL hr ids toks) (HRel.inn hL hr hn htn hos) rfl rfl
    refine hv.mono (fun e w' hR => ?_)
    obtain ⟨v, Gc, rfl, hb⟩ := hR
    exact ⟨v, _, rfl, back_post hL hr hn htn hos hchk hb⟩
   ·cases h
end
end Go.Vx
namespace Go.Vx
open Go
section
variable {Key : Type} [DecidableEq Key]
variable {E : Env Key} {G : Gh} {w : World}
theorem binPtr_ok {σ : St E.A} {tmps : Array Value} (hr : VRel E σ G w tmps) {op : BinOp} {t : TypeId} {x y : Operand} {a b : RV E.A} {va vb : Value} (ha : RRep E G w a va) (hb : RRep E G w b vb) (hy : ∀ c, y = .const c → vb = c) {δ : Delta E.A} (h : binPtr E σ op t y a b = some (true, δ)) :
  PureD E G w δ (((do eqGuard op t x y va vb; Go.binOp op t va vb) : Sem Value).run E.P w) := by
 unfold binPtr at h
 split at h
 ·rename_i i v o j u p
  split at h
  ·rename_i hc
   obtain ⟨rfl, hv, hu⟩ := hc
   obtain ⟨b1, rfl, _, h1⟩ := ha.lf_inv.ptr_inv
   obtain ⟨b2, rfl, _, h2⟩ := hb.lf_inv.ptr_inv
   have e1 := h1 (by rw [hv, hr.ver])
   have e2 := h2 (by rw [hu, hr.ver])
   rw [e1] at e2; injection e2 with e2; subst e2
   have key : ∀ e, E.P.underlying t = some (.pointer e) → tsz E e ≠ 0 → (Op.equal t (.pointer (some ⟨b1, o, none⟩)) (.pointer (some ⟨b1, p, none⟩))).run E.P w = .ok (decide (o = p)) w := by
    intro e ht hz
    obtain ⟨inf, hinf⟩ := tsz_info hz
    have hs : (sizeOf e).run E.P w = .ok (tsz E e) w := run_size hinf
    have hd : Op.equal t (.pointer (some ⟨b1, o, none⟩)) (.pointer (some ⟨b1, p, none⟩)) = Op.equalIn (9999 + 1) t (.pointer (some ⟨b1, o, none⟩)) (.pointer (some ⟨b1, p, none⟩)) := rfl
    rw [hd]
    generalize 9999 = n
    unfold Op.equalIn
    simp only [Sem.run_bind, run_underlying ht, Result.andThen_ok, hs]
    rw [if_pos hz]
    unfold sameAddr
    have hbb : (b1 == b1) = true := by simp
    simp only [hbb, if_true]
    show Result.ok _ w = _
    congr 1
    by_cases hop : o = p
    ·subst hop; simp
    ·simp only [hop, decide_false]
     refine beq_eq_false_iff_ne.2 (fun e => hop ?_)
     injection e
   split at h
   ·rename_i e hut
    split at h
    ·rename_i hz
     refine .val h ?_
     have := key e hut hz
     simp only [eqGuard, Go.binOp, Sem.run_bind, Sem.run_pure, Result.andThen_ok, this, Bool.not_true, Bool.false_eq_true, if_false]
     exact .leaf (.bool _)
    ·cases h
   ·rename_i e hut
    split at h
    ·rename_i hz
     refine .val h ?_
     have := key e hut hz
     simp only [eqGuard, Go.binOp, Sem.run_bind, Sem.run_pure, Result.andThen_ok, this, Bool.not_true, Bool.false_eq_true, if_false]
     exact .leaf (.bool _)
    ·cases h
   ·cases h
  ·cases h
 ·exact binOp_ok ha hb hy h
theorem convPtr_ok {σ : St E.A} {tmps : Array Value} (hr : VRel E σ G w tmps) {src dst : TypeId} {i v o : Nat} {va : Value} (ha : RRep E G w (.lf (.ptr i v o)) va) {δ : Delta E.A} (h : convPtr E σ src dst i v o = some (true, δ)) :
  PureD E G w δ ((Go.convert src dst va).run E.P w) := by
 unfold convPtr at h
 split at h
 ·rename_i hv
  split at h
  ·rename_i ty cs hob
   obtain ⟨b, rfl, hle, h1⟩ := ha.lf_inv.ptr_inv
   have e1 := h1 (by rw [hv, hr.ver])
   obtain ⟨b', hb', hor⟩ := hr.h.obc hob
   rw [e1] at hb'; injection hb' with hb'; subst hb'
   cases hor with
   | @cells _ vs _ _ hh hreps =>
    have hsh : w.shape? b = some (ty, vs.size) := by unfold World.shape?; rw [hh]
    have hseen : (Conv.seenAt ⟨b, o, none⟩).run E.P w = .ok ⟨b, o, none⟩ w := by
     unfold Conv.seenAt viewAt
     simp [hsh]
    split at h
    ·rename_i t hs hd
     split at h
     ·rename_i hc
      obtain ⟨inf, hinf⟩ := tsz_info hc.2
      refine .val h ?_
      have hrun : (Go.convert src dst (.pointer (some ⟨b, o, none⟩))).run E.P w = .ok (.pointer (some ⟨b, o, none⟩)) w := by
       have h1 : (Conv.unsafePointer src dst (.pointer (some ⟨b, o, none⟩))).run E.P w = .ok (.pointer (some ⟨b, o, none⟩)) w := by
        have hs' : (sizeOf t).run E.P w = .ok (tsz E t) w := run_size hinf
        have hlt : ¬ o ≥ vs.size := by rw [hreps.1]; omega
        unfold Conv.unsafePointer
        simp only [Sem.run_bind, run_underlying (show E.P.underlying src = _ from hs), run_underlying (show E.P.underlying dst = _ from hd), Result.andThen_ok, hseen, hs']
        unfold cellsIn
        simp [hsh, hlt, hc.2, hs']
       unfold Go.convert
       simp only [Sem.run_bind, run_underlying (show E.P.underlying src = _ from hs), run_underlying (show E.P.underlying dst = _ from hd), Result.andThen_ok]
       exact h1
      rw [hrun]
      exact .leaf (.ptr hle h1)
     ·cases h
    ·rename_i u hs hd
     split at h
     ·rename_i hc
      obtain ⟨inf, hinf⟩ := tsz_info hc.2
      refine .val h ?_
      have hrun : (Go.convert src dst (.pointer (some ⟨b, o, none⟩))).run E.P w = .ok (.pointer (some ⟨b, o, none⟩)) w := by
       have h1 : (Conv.unsafePointer src dst (.pointer (some ⟨b, o, none⟩))).run E.P w = .ok (.pointer (some ⟨b, o, none⟩)) w := by
        have hs' : (sizeOf u).run E.P w = .ok (tsz E u) w := run_size hinf
        have hlies := hc.1
        rw [← hreps.1] at hlies
        unfold Conv.unsafePointer
        simp only [Sem.run_bind, run_underlying (show E.P.underlying src = _ from hs), run_underlying (show E.P.underlying dst = _ from hd), Result.andThen_ok, hseen, hs']
        unfold variablesAt
        simp [hsh, hlies]
       unfold Go.convert
       simp only [Sem.run_bind, run_underlying (show E.P.underlying src = _ from hs), run_underlying (show E.P.underlying dst = _ from hd), Result.andThen_ok]
       exact h1
      rw [hrun]
      exact .leaf (.ptr hle h1)
     ·cases h
    ·cases h
  ·cases h
 ·cases h
theorem sliceData_ok {ts : Array TypeId} {ty t : TypeId} {a : RV E.A} {va : Value} (ha : RRep E G w a va) {δ : Delta E.A} (h : sliceData E t a = some (true, δ)) :
  PureD E G w δ ((Builtin.unsafeSliceData_ ts ty #[va]).run E.P w) := by
 unfold sliceData at h
 split at h
 ·rename_i e tt v k xs hu
  split at h
  ·refine .gval h (fun hg => ?_)
   have hn := of_decide_eq_true hg
   have hl := ha.lf_inv
   obtain ⟨base, cap, rfl, hsl, hle, hown⟩ := hl.own_inv
   have hca : xs.length ≤ cap := by
    obtain ⟨_, _, hv, hle, _⟩ := hsl.sl_len
    injection hv with _ _ e; subst e; exact hle
   have hb : ∃ a, base = some a := by
    cases hsl with
    | sl0 => exact absurd rfl hn
    | sl => exact ⟨_, rfl⟩
   obtain ⟨a, rfl⟩ := hb
   rw [Lib.run_unsafeSliceData_row w ts ty a xs.length cap (by omega)]
   exact .leaf (.dp hl hn)
  ·cases h
 ·cases h
theorem freeze_size (w : World) (a : Addr) (n : Nat) : (w.freeze a n).heap.size = w.heap.size := by
 unfold World.freeze; split
 ·rfl
 ·simp
theorem freeze_old (w : World) (a : Addr) (n : Nat) {c : Nat} (hc : c ≠ a.block) : (w.freeze a n).heap[c]? = w.heap[c]? := by
 unfold World.freeze; split
 ·rfl
 ·simp only [Array.getElem?_modify]; rw [if_neg (fun e => hc e.symm)]
theorem freeze_cell (w : World) (a : Addr) (n : Nat) (p : Addr) : (w.freeze a n).cell? p = w.cell? p := by
 by_cases hp : p.block = a.block
 ·unfold World.freeze; split
  ·rfl
  ·unfold World.cell?
   simp only [Array.getElem?_modify]
   rw [if_pos hp.symm]
   cases hh : w.heap[p.block]? with
   | none => rfl
   | some o => cases o <;> rfl
 ·exact World.cell?_of_block (w := w) (freeze_old w a n hp)
theorem freeze_shape (w : World) (a : Addr) (n : Nat) (c : Nat) : (w.freeze a n).shape? c = w.shape? c := by
 by_cases hp : c = a.block
 ·unfold World.freeze; split
  ·rfl
  ·unfold World.shape?
   simp only [Array.getElem?_modify]
   rw [if_pos hp.symm]
   cases hh : w.heap[c]? with
   | none => rfl
   | some o => cases o <;> rfl
 ·unfold World.shape?; rw [freeze_old w a n hp]
theorem liesAt_row {P : Program} {ty e : TypeId} (ht : P.underlying ty = some (.int .u8)) (he : P.underlying e = some (.int .u8)) (hc : P.cellsOf ty = 1) (count off n : Nat) (hn : off + n ≤ count) : liesAt P P.depth ty count off e n = true := by
 have hd : P.depth = (2 * (P.types.size + Made.depth) + 1) + 1 := rfl
 rw [hd]
 simp only [liesAt, Bool.or_eq_true]
 left
 rw [hd]
 simp [rowAt, hc, hn, sameLayout, ht, he, Nat.mod_one]
theorem freeze_post {σ : St E.A} {tmps : Array Value} (hr : VRel E σ G w tmps) {tt b lo hi : Nat} (htok : G.tok tt = some (b, lo, hi)) (p : Addr) (hp : p.block = b) (n : Nat) {r : RV E.A} {val : Value}
  (hrep : Ext G w (G.bump [(tt, σ.tk tt + 1)]) (w.freeze p n) → RRep E (G.bump [(tt, σ.tk tt + 1)]) (w.freeze p n) r val) :
  Post E σ G w { val := r, tks := [(tt, σ.tk tt + 1)] } val (G.bump [(tt, σ.tk tt + 1)]) (w.freeze p n) := by
 have hT : TkOk G.cur [(tt, σ.tk tt + 1)] := fun x hx => by simp at hx; subst hx; rw [hr.cur]
 obtain ⟨p1, p2, p3⟩ := hr.h.tokb tt b _ _ htok
 have hcells : ∀ q, (w.freeze p n).cell? q = w.cell? q := freeze_cell w _ _
 have hold : ∀ c, c ≠ b → (w.freeze p n).heap[c]? = w.heap[c]? := fun c hc => freeze_old w _ _ (hp ▸ hc)
 have hbe := bump_ext hT w
 have he : Ext G w (G.bump [(tt, σ.tk tt + 1)]) (w.freeze p n) :=
  ⟨fun c o x hx hf => ⟨by rw [hcells]; exact hx, (hbe.fcell c o x hx hf).2⟩, hbe.ver, hbe.blk, hbe.cur, hbe.tok, fun c s hs => by rw [freeze_shape]; exact hs, rfl, fun u c lo' hi' o e hu ho => by
    have hut : u ≠ tt := by intro e'; subst e'; rw [bump_cur hT] at e; simp at e
    rw [hold c (hr.h.tokj u tt c b lo' hi' _ _ hu htok hut)]; exact ho⟩
 have hbump := hr.h.bump hT
 have hne : ∀ u c lo hi, (G.bump [(tt, σ.tk tt + 1)]).tok u = some (c, lo, hi) → c ≠ b := by
  intro u c lo hi hu'
  simp only [Gh.bump] at hu'
  split at hu'
  ·cases hu'
  ·rename_i hnu
   refine hr.h.tokj u tt c b lo hi _ _ hu' htok (fun e => hnu ?_)
   subst e; simp
 refine ⟨hrep he, ⟨fun i o ho => ?_, fun i c hc => by rw [freeze_size]; exact hbump.lt i c hc, hbump.inj, fun u c lo hi hu' => ?_, hbump.tokj, fun g cs hg => (hr.h.gl g cs hg).mono he, fun c o ho => by rw [freeze_size]; exact hbump.othf c o ho⟩, hr.ver, ?_, he, ?_, fun _ _ _ h => h⟩
 ·rcases hbump.ob i o ho with ⟨c, hc, hor⟩ | hh
  ·have hcb' : c ≠ b := fun e => p2 i (e ▸ hc)
   have e2 : Ext (G.bump [(tt, σ.tk tt + 1)]) w (G.bump [(tt, σ.tk tt + 1)]) (w.freeze p n) :=
    ⟨fun c o x hx hf => ⟨by rw [hcells]; exact hx, hf⟩, fun _ => Nat.le_refl _, fun _ _ => ⟨rfl, fun _ _ => rfl⟩, fun _ => Nat.le_refl _, fun _ _ _ h => h, fun c s hs => by rw [freeze_shape]; exact hs, rfl, fun u c lo' hi' o _ hu ho => by rw [hold c (hne u c lo' hi' hu)]; exact ho⟩
   exact .inl ⟨c, hc, hor.mono e2 (hold c hcb') rfl⟩
  ·exact .inr hh
 ·obtain ⟨q1, q2, q3⟩ := hbump.tokb u c lo hi hu'
  have hcb' := hne u c lo hi hu'
  refine ⟨by rw [freeze_size]; exact q1, q2, fun o h1 h2 => ?_⟩
  rw [hcells, World.frozen?_of_block (w := w) (hold c hcb')]
  exact q3 o h1 h2
 ·show updTk _ _ = updTk _ _
  rw [hr.cur]
 ·refine ⟨by unfold World.freeze; split <;> rfl, by unfold World.freeze; split <;> rfl, by unfold World.freeze; split <;> rfl, by rw [freeze_size]; exact Nat.le_refl _, he.fcell, fun c hc hf => ?_, he.shape, rfl⟩
  have hcb' : c ≠ b := fun e => by subst e; exact hf.2 tt _ _ htok
  exact ⟨hold c hcb', bump_clear hf, rfl⟩
theorem convMark_ok {σ : St E.A} {tmps : Array Value} (hr : VRel E σ G w tmps) {src dst e0 e : TypeId} {tt v : Nat} {k : Key} {xs : List (E.A k)} {va : Value} (hs : und E src = some (.slice e0)) (hd : und E dst = some (.slice e)) (ha : RRep E G w (.lf (.own tt v k xs)) va) {δ : Delta E.A} (h : convMark E σ src dst e tt v k xs = some (true, δ)) :
  ∃ v w' G', (Go.convert src dst va).run E.P w = .ok v w' ∧ Post E σ G w δ v G' w' := by
 unfold convMark at h
 split at h
 ·rename_i hc
  obtain ⟨hsd, hv, hu8⟩ := hc
  injection h with h; injection h with hg hδ
  subst hδ
  have hn0 := of_decide_eq_true hg
  have hu8' : E.P.underlying e = some (.int .u8) := by
   unfold isU8 at hu8
   split at hu8
   ·assumption
   ·cases hu8
  obtain ⟨base, cap, rfl, hsl, hle, hpl⟩ := ha.lf_inv.own_inv
  rcases hpl (by rw [hv, hr.cur]) with ⟨hnone, _⟩ | ⟨b, off, sty, sm, hbase, htok, hsh, hsk, hsm⟩
  ·subst hnone
   cases hsl with
   | sl0 => exact absurd rfl hn0
  ·subst hbase
   subst hv
   refine ⟨_, _, _, ?_, freeze_post hr htok ⟨b, sm, none⟩ rfl 1 (fun he => .lf (hsl.mono he))⟩
   subst hsd
   rw [hs] at hd
   injection hd with hd; injection hd with hd; subst hd
   unfold Go.convert
   have hss : (src == src) = true := by simp
   simp only [Sem.run_bind, run_underlying (show E.P.underlying src = _ from hs), run_underlying hu8', Result.andThen_ok, hss]
   unfold markStringish
   simp only [Sem.run_bind, run_shape, hsh, Result.andThen_ok]
   rfl
 ·cases h
theorem unsafeStr_ok (hL : Laws E) {σ : St E.A} {tmps : Array Value} (hr : VRel E σ G w tmps) {t t2 ty : TypeId} {a n : RV E.A} {va vn : Value} (ha : RRep E G w a va) (hn : RRep E G w n vn) {δ : Delta E.A} (h : unsafeStr E σ t t2 a n = some (true, δ)) :
  ∃ v w' G', (Builtin.unsafeString_ #[t, t2] ty #[va, vn]).run E.P w = .ok v w' ∧ Post E σ G w δ v G' w' := by
 unfold unsafeStr at h
 split at h
 ·rename_i e tt v k xs ik m hu
  obtain ⟨rfl, _⟩ := hn.int_inv
  split at h
  ·rename_i hc
   obtain ⟨hv, hk, hu8⟩ := hc
   split at h
   ·rename_i ys hys
    injection h with h; injection h with hg hδ
    subst hδ
    rw [eqI_eq, decide_eq_true_eq] at hg
    subst hg
    obtain ⟨hkk, hxy⟩ := castL_eq hys
    subst hkk
    cases hxy
    have hu8' : E.P.underlying e = some (.int .u8) := by
     unfold isU8 at hu8
     split at hu8
     ·assumption
     ·cases hu8
    cases ha.lf_inv with
    | @dp _ _ nn cap _ _ a hown hn0 =>
     obtain ⟨base, cap', he, hsl, hle, hpl⟩ := hown.own_inv
     injection he with e1 e2 e3
     subst e1; subst e2; subst e3
     rcases hpl (by rw [hv, hr.cur]) with ⟨hnone, _⟩ | ⟨b, off, sty, sm, hbase, htok, hsh, hsk, hsm⟩
     ·cases hnone
     ·injection hbase with hbase; subst hbase
      rw [hL.kb1, Nat.mul_one, Nat.mul_one] at htok
      rw [hL.kb1, Nat.mul_one] at hsm
      obtain ⟨inf, z, hinf, hsz, _⟩ := hL.info sty E.kb hsk
      have hco : E.P.cellsOf sty = 1 := by simp [Program.cellsOf, hinf, hsz, hL.kb1]
      obtain ⟨_, _, hv2, hlc, hcb⟩ := hsl.sl_len
      injection hv2 with _ _ e3
      subst e3
      have htb := hL.toB ys
      have hcell : ∀ j x, (E.toB ys)[j]? = some x → w.cell? ((⟨b, off, none⟩ : Addr).add j) = some (.int .u8 x.toNat) := by
       intro j x hx
       cases hsl with
       | sl0 => exact absurd rfl hn0
       | sl _ _ _ _ _ vals h1 h2 h3 h4 =>
        have hj : j < ys.length := by rw [← htb.1]; exact lt_of_get hx
        have hxj : ys[j]? = some ys[j] := List.getElem?_eq_getElem hj
        obtain ⟨x', g1, g2⟩ := htb.2 j _ hxj
        rw [hx] at g1; injection g1 with g1; subst g1
        have hc := (h3 j 0 hj (by rw [hL.kb1]; exact Nat.one_pos)).1
        have hrep := h4 j _ hxj 0 _ (by rw [g2]; rfl)
        rw [hL.kb1, Nat.mul_one, Nat.add_zero] at hc
        rw [Addr.add_mk, hc]
        generalize vals j 0 = vv at hrep
        cases hrep
        rfl
      have hlies := liesAt_row (P := E.P) (hL.kbU8 sty hsk) hu8' hco (sm / E.P.cellsOf sty) off ys.length (by rw [hco, Nat.div_one]; omega)
      have hlb := Lib.run_loadBytes (P := E.P) w (E.toB ys) ⟨b, off, none⟩ .empty hcell
      have h63 : ¬ (9223372036854775807 : Int) < (ys.length : Int) := by unfold big at hcb; omega
      have hneg : ¬ (ys.length : Int) < 0 := by omega
      have hmax : IntKind.i64.max = 9223372036854775807 := rfl
      have hl0 : ys.length ≠ 0 := hn0
      have hp : E.P.underlying t = some (.pointer e) := hu
      have hdef : Builtin.unsafeString_ #[t, t2] ty #[.pointer (some ⟨b, off, none⟩), .int ik (ys.length : Int)] =
        (do
         let n ← asInt (.int ik (ys.length : Int))
         if n < 0 then runtimePanic (.error "unsafe.String: len out of range")
         if n > IntKind.i64.max then unsupported (.unsafePointer "String: a length above the largest int")
         if n = 0 then pure (.string .empty)
         else if ← variablesAt ⟨b, off, none⟩ (← elemOf t) n.toNat then do
          let s ← loadBytes ⟨b, off, none⟩ .empty n.toNat
          freeze ⟨b, off, none⟩ n.toNat
          pure (.string s)
         else unsupported (.unsafePointer "String: not so many bytes at ptr")) := rfl
      rw [htb.1] at hlb
      have hrun : (Builtin.unsafeString_ #[t, t2] ty #[.pointer (some ⟨b, off, none⟩), .int ik (ys.length : Int)]).run E.P w = .ok (.string ⟨(E.toB ys).toArray⟩) (w.freeze ⟨b, off, none⟩ ys.length) := by
       rw [hdef]
       simp [asInt, asIntOf, hmax, h63, hneg, hl0, variablesAt, hsh, elemOf, run_underlying hp, hlies, hlb]
      have hT : TkOk G.cur [(tt, v + 1)] := fun x hx => by simp at hx; subst hx; rw [hv, hr.cur]
      obtain ⟨p1, p2, p3⟩ := hr.h.tokb tt b _ _ htok
      have hcells : ∀ p, (w.freeze ⟨b, off, none⟩ ys.length).cell? p = w.cell? p := freeze_cell w _ _
      have hold : ∀ c, c ≠ b → (w.freeze ⟨b, off, none⟩ ys.length).heap[c]? = w.heap[c]? := fun c hc => freeze_old w _ _ hc
      have hbe := bump_ext hT w
      have he : Ext G w (G.bump [(tt, v + 1)]) (w.freeze ⟨b, off, none⟩ ys.length) :=
       ⟨fun c o x hx hf => ⟨by rw [hcells]; exact hx, (hbe.fcell c o x hx hf).2⟩, hbe.ver, hbe.blk, hbe.cur, hbe.tok, fun c s hs => by rw [freeze_shape]; exact hs, rfl, fun u c lo' hi' o e hu ho => by
        have hut : u ≠ tt := by intro e'; subst e'; rw [bump_cur hT] at e; simp at e
        rw [hold c (hr.h.tokj u tt c b lo' hi' _ _ hu htok hut)]; exact ho⟩
      have hbump := hr.h.bump hT
      have hne : ∀ u c lo hi, (G.bump [(tt, v + 1)]).tok u = some (c, lo, hi) → c ≠ b := by
       intro u c lo hi hu'
       simp only [Gh.bump] at hu'
       split at hu'
       ·cases hu'
       ·rename_i hnu
        refine hr.h.tokj u tt c b lo hi _ _ hu' htok (fun e => hnu ?_)
        subst e; simp
      refine ⟨_, _, G.bump [(tt, v + 1)], hrun, .lf ?_, ⟨fun i o ho => ?_, fun i c hc => by rw [freeze_size]; exact hbump.lt i c hc, hbump.inj, fun u c lo hi hu' => ?_, hbump.tokj, fun g cs hg => (hr.h.gl g cs hg).mono he, fun c o ho => by rw [freeze_size]; exact hbump.othf c o ho⟩, hr.ver, ?_, he, ?_, fun _ _ _ h => h⟩
      ·have := Rep.str (E := E) (G := G.bump [(tt, v + 1)]) (w := w.freeze ⟨b, off, none⟩ ys.length) ⟨(E.toB ys).toArray⟩ (by simp only []; rw [htb.1]; omega)
       simpa using this
      ·rcases hbump.ob i o ho with ⟨c, hc, hor⟩ | hh
       ·have hcb' : c ≠ b := fun e => p2 i (e ▸ hc)
        have e2 : Ext (G.bump [(tt, v + 1)]) w (G.bump [(tt, v + 1)]) (w.freeze ⟨b, off, none⟩ ys.length) :=
         ⟨fun c o x hx hf => ⟨by rw [hcells]; exact hx, hf⟩, fun _ => Nat.le_refl _, fun _ _ => ⟨rfl, fun _ _ => rfl⟩, fun _ => Nat.le_refl _, fun _ _ _ h => h, fun c s hs => by rw [freeze_shape]; exact hs, rfl, fun u c lo' hi' o _ hu ho => by rw [hold c (hne u c lo' hi' hu)]; exact ho⟩
        exact .inl ⟨c, hc, hor.mono e2 (hold c hcb') rfl⟩
       ·exact .inr hh
      ·obtain ⟨q1, q2, q3⟩ := hbump.tokb u c lo hi hu'
       have hcb' := hne u c lo hi hu'
       refine ⟨by rw [freeze_size]; exact q1, q2, fun o h1 h2 => ?_⟩
       rw [hcells, World.frozen?_of_block (w := w) (hold c hcb')]
       exact q3 o h1 h2
      ·show updTk _ _ = updTk _ _
       rw [hr.cur]
      ·refine ⟨by unfold World.freeze; split <;> rfl, by unfold World.freeze; split <;> rfl, by unfold World.freeze; split <;> rfl, by rw [freeze_size]; exact Nat.le_refl _, he.fcell, fun c hc hf => ?_, he.shape, rfl⟩
       have hcb' : c ≠ b := fun e => by subst e; exact hf.2 tt _ _ htok
       exact ⟨hold c hcb', bump_clear hf, rfl⟩
   ·cases h
  ·cases h
 ·cases h
def ObsOk (ver : Nat → Nat) (l : List (Nat × Nat × Obj E.A)) : Prop := ∀ x ∈ l, x.2.1 = ver x.1 + 1 ∧ (∃ k, x.2.2 = .buf k []) ∧ 64 ≤ x.1
def Gh.fresh (G : Gh) (l : List (Nat × Nat × Obj E.A)) : Gh := { G with blk := fun i => if l.any (·.1 == i) then none else G.blk i, ver := updVer E l G.ver }
theorem fresh_ver {l : List (Nat × Nat × Obj E.A)} (h : ObsOk G.ver l) (i : Nat) : (G.fresh l).ver i = if l.any (·.1 == i) then G.ver i + 1 else G.ver i := by
 show updVer E l G.ver i = _
 rw [updVer_eq]
 split
 ·rename_i hi
  obtain ⟨x, hx, he⟩ := List.any_eq_true.1 hi
  have he : x.1 = i := by simpa using he
  exact updAll_in hx he (fun y hy hk => by rw [(h y hy).1, hk])
 ·rename_i hi
  refine updAll_notin (fun y hy hk => hi (List.any_eq_true.2 ⟨y, hy, by simpa using hk⟩))
theorem fresh_blk {l : List (Nat × Nat × Obj E.A)} {i b : Nat} (h : (G.fresh l).blk i = some b) : G.blk i = some b ∧ ¬ l.any (·.1 == i) = true := by
 simp only [Gh.fresh] at h
 split at h
 ·cases h
 ·exact ⟨h, by assumption⟩
theorem fresh_free {l : List (Nat × Nat × Obj E.A)} {b o : Nat} (h : G.free b o) : (G.fresh l).free b o := ⟨fun i hi => h.1 i (fresh_blk hi).1, h.2⟩
theorem fresh_clear {l : List (Nat × Nat × Obj E.A)} {b : Nat} (h : G.clear b) : (G.fresh l).clear b := ⟨fun i hi => h.1 i (fresh_blk hi).1, h.2⟩
theorem fresh_ext {l : List (Nat × Nat × Obj E.A)} (h : ObsOk G.ver l) (w : World) : Ext G w (G.fresh l) w := by
 refine ⟨fun b o v hc hf => ⟨hc, fresh_free hf⟩, fun i => ?_, fun i e => ⟨?_, fun _ _ => rfl⟩, fun _ => Nat.le_refl _, fun _ _ _ h => h, fun _ _ h => h, rfl, fun _ _ _ _ _ _ _ ho => ho⟩
 ·rw [fresh_ver h]; split <;> omega
 ·rw [fresh_ver h] at e
  split at e
  ·omega
  ·rename_i hi
   simp only [Gh.fresh]
   rw [if_neg hi]
theorem fresh_post {σ : St E.A} {tmps : Array Value} (hr : VRel E σ G w tmps) {l : List (Nat × Nat × Obj E.A)} (h : ObsOk σ.ver l) {r : RV E.A} {v : Value} (hv : RRep E (G.fresh l) w r v) :
  Post E σ G w { val := r, obs := l } v (G.fresh l) w := by
 have h' : ObsOk G.ver l := hr.ver ▸ h
 have he := fresh_ext h' w
 refine ⟨hv, ⟨fun i o ho => ?_, fun i b hb => hr.h.lt i b (fresh_blk hb).1, fun i j b h1 h2 => hr.h.inj i j b (fresh_blk h1).1 (fresh_blk h2).1, fun t b lo hi ht => ?_, hr.h.tokj, fun g cs hg => (hr.h.gl g cs hg).mono he, fun b o ho => ⟨(hr.h.othf b o ho).1, fresh_free (hr.h.othf b o ho).2⟩⟩,
  ?_, hr.cur, he, ⟨rfl, rfl, rfl, Nat.le_refl _, he.fcell, fun b _ hf => ⟨rfl, fresh_clear hf, rfl⟩, fun _ _ h => h, rfl⟩, fun i b _ hb => (fresh_blk hb).1⟩
 ·by_cases hi : l.any (·.1 == i) = true
  ·obtain ⟨x, hx, hxe⟩ := List.any_eq_true.1 hi
   have hxe : x.1 = i := by simpa using hxe
   refine .inr ⟨?_, by simp only [Gh.fresh]; rw [if_pos hi]⟩
   change updObs E l σ.ob i = some o at ho
   have key : ∀ (l : List (Nat × Nat × Obj E.A)) (f : Nat → Option (Obj E.A)), ObsOk σ.ver l → (l.any (·.1 == i) = true ∨ ∃ k, f i = some (.buf k [])) → ∃ k, updObs E l f i = some (.buf k []) := by
    intro l
    induction l with
    | nil => intro f _ hh; exact hh.elim (fun h => by cases h) id
    | cons y l ih =>
     intro f hok hh
     have e : updObs E (y :: l) f = updObs E l (upd f y.1 (some y.2.2)) := rfl
     rw [e]
     refine ih _ (fun z hz => hok z (by simp [hz])) ?_
     obtain ⟨_, ⟨k, hk⟩, _⟩ := hok y (by simp)
     by_cases hy : y.1 = i
     ·exact .inr ⟨k, by simp [upd, hy, hk]⟩
     ·rcases hh with hh | ⟨k', hk'⟩
      ·simp only [List.any_cons, Bool.or_eq_true, beq_iff_eq] at hh
       exact .inl (hh.resolve_left hy)
      ·refine .inr ⟨k', ?_⟩
       simp only [upd]
       rw [if_neg (fun e => hy e.symm)]
       exact hk'
   obtain ⟨k, hk⟩ := key l σ.ob h (.inl hi)
   rw [hk] at ho
   exact ⟨k, by injection ho with ho; exact ho.symm⟩
  ·have hno : updObs E l σ.ob i = σ.ob i := by
    rw [updObs_eq]
    exact updAll_notin (fun y hy hk => hi (List.any_eq_true.2 ⟨y, hy, by simpa using hk⟩))
   change updObs E l σ.ob i = some o at ho
   rw [hno] at ho
   have hblk : (G.fresh l).blk i = G.blk i := by simp only [Gh.fresh]; rw [if_neg hi]
   rcases hr.h.ob i o ho with ⟨b, hb, hor⟩ | ⟨hk, hn⟩
   ·exact .inl ⟨b, hblk.trans hb, hor.mono he rfl rfl⟩
   ·exact .inr ⟨hk, hblk.trans hn⟩
 ·obtain ⟨p1, p2, p3⟩ := hr.h.tokb t b lo hi ht
  exact ⟨p1, fun i hi => p2 i (fresh_blk hi).1, p3⟩
 ·show updVer E l σ.ver = updVer E l G.ver
  rw [hr.ver]
theorem bufLeaf_obs {ver : Nat → Nat} {t : TypeId} {n : Nat} (hn : 64 ≤ n) {l : Leaf E.A} : ObsOk ver (bufLeaf E ver t n l).2 := by
 unfold bufLeaf
 split
 ·split
  ·intro x hx; simp at hx; subst hx; exact ⟨rfl, ⟨_, rfl⟩, hn⟩
  ·intro x hx; cases hx
 ·intro x hx; cases hx
theorem bufCells_obs {ver : Nat → Nat} : ∀ (ts : List TypeId) (n : Nat) (ls : List (Leaf E.A)), 64 ≤ n → ObsOk ver (bufCells E ver ts n ls).2
 | [], _, ls, _ => by
  have e : ∀ n, bufCells E ver [] n ls = (ls, []) := fun n => by cases ls <;> rfl
  rw [e]; intro x hx; cases hx
 | t :: ts, _, [], _ => fun x hx => by cases hx
 | t :: ts, n, l :: ls, hn => by
  intro x hx
  simp only [bufCells, List.mem_append] at hx
  rcases hx with hx | hx
  ·exact bufLeaf_obs hn x hx
  ·exact bufCells_obs ts (n + 1) ls (by omega) x hx
theorem bufRV_obs {ver : Nat → Nat} {t : TypeId} {d : Nat} {r : RV E.A} : ObsOk ver (bufRV E ver t d r).2 := by
 have hd : 64 ≤ nth d 0 := by unfold nth; omega
 unfold bufRV
 split
 ·exact bufLeaf_obs hd
 ·exact bufCells_obs _ _ _ hd
 ·intro x hx; cases hx
theorem bufLeaf_rep {G' : Gh} {w' : World} {ver : Nat → Nat} {t : TypeId} {n : Nat} {l : Leaf E.A} {v : Value} (h : Rep E G' w' l v) (hc : (bufLeaf E ver t n l).2.any (·.1 == n) = true → G'.ver n = ver n + 1 ∧ G'.blk n = none) : Rep E G' w' (bufLeaf E ver t n l).1 v := by
 unfold bufLeaf at *
 split
 ·split
  ·rename_i k hk
   rw [hk] at hc
   cases h
   have := hc (by simp)
   exact .bf (by omega) (fun _ => .inl ⟨this.2, rfl, rfl, rfl⟩)
  ·exact h
 ·exact h
theorem bufCells_rep {G' : Gh} {w' : World} {ver : Nat → Nat} : ∀ (ts : List TypeId) (n : Nat) (ls : List (Leaf E.A)), (∀ t, (bufCells E ver ts n ls).2.any (·.1 == t) = true → G'.ver t = ver t + 1 ∧ G'.blk t = none) →
  (bufCells E ver ts n ls).1.length = ls.length ∧ ∀ (j : Nat) (l : Leaf E.A), (bufCells E ver ts n ls).1[j]? = some l → ∃ l', ls[j]? = some l' ∧ ∀ v, Rep E G' w' l' v → Rep E G' w' l v
 | [], _, ls, _ => by
  have e : ∀ n, bufCells E ver [] n ls = (ls, []) := fun n => by cases ls <;> rfl
  rw [e]
  exact ⟨rfl, fun j l hl => ⟨l, hl, fun v h => h⟩⟩
 | t :: ts, _, [], _ => ⟨rfl, fun j l hl => by cases j <;> cases hl⟩
 | t :: ts, n, l :: ls, h => by
  have h2 := bufCells_rep (w' := w') ts (n + 1) ls (fun t ht => h t (by simp only [bufCells, List.any_append, ht, Bool.or_true]))
  refine ⟨by simp [bufCells, h2.1], fun j l' hl => ?_⟩
  cases j with
  | zero =>
   simp only [bufCells, List.getElem?_cons_zero, Option.some.injEq] at hl
   subst hl
   exact ⟨l, rfl, fun v hv => bufLeaf_rep hv (fun ht => h n (by simp only [bufCells, List.any_append, ht, Bool.true_or]))⟩
  | succ j =>
   simp only [bufCells, List.getElem?_cons_succ] at hl
   obtain ⟨l2, h3, h4⟩ := h2.2 j l' hl
   exact ⟨l2, by simpa using h3, h4⟩
theorem bufRV_rep {t : TypeId} {d : Nat} {r : RV E.A} {v : Value} (h : RRep E G w r v) : RRep E (G.fresh (bufRV E G.ver t d r).2) w (bufRV E G.ver t d r).1 v := by
 have hO : ObsOk G.ver (bufRV E G.ver t d r).2 := bufRV_obs
 have hm := h.mono (fresh_ext hO w)
 have hc : ∀ n, (bufRV E G.ver t d r).2.any (·.1 == n) = true → (G.fresh (bufRV E G.ver t d r).2).ver n = G.ver n + 1 ∧ (G.fresh (bufRV E G.ver t d r).2).blk n = none := fun n hn => by
  refine ⟨by rw [fresh_ver hO, if_pos hn], ?_⟩
  simp only [Gh.fresh]; rw [if_pos hn]
 generalize (G.fresh (bufRV E G.ver t d r).2) = G' at *
 generalize G.ver = ver at *
 unfold bufRV at hc ⊢
 split
 ·rename_i l
  exact .lf (bufLeaf_rep hm.lf_inv (fun hn => hc _ hn))
 ·rename_i cs
  obtain ⟨vs, rfl, hreps⟩ := hm.agg_inv
  have := bufCells_rep (E := E) (G' := G') (w' := w) (ver := ver) (tyCells E t) (nth d 0) cs (fun n hn => hc n hn)
  refine .agg ⟨by rw [this.1]; exact hreps.1, fun j l hl => ?_⟩
  obtain ⟨l', h1, h2⟩ := this.2 j l hl
  exact h2 _ (hreps.2 j l' h1)
 ·exact hm
theorem buf_ok {σ : St E.A} {tmps : Array Value} (hr : VRel E σ G w tmps) {t : TypeId} {d : Nat} {r : RV E.A} {v : Value} (h : RRep E G w r v) :
  ∃ G', Post E σ G w { val := (bufRV E σ.ver t d r).1, obs := (bufRV E σ.ver t d r).2 } v G' w :=
 ⟨_, fresh_post hr bufRV_obs (by rw [hr.ver]; exact bufRV_rep h)⟩
theorem buildCells_ok {t : TypeId} {ps : List (Nat × RV E.A)} {vps : Array (Nat × Value)} (hps : PartsRep E G w ps vps.toList) {cs : List (Leaf E.A)} (h : buildCells E t ps = some cs) :
  ∃ vs, (Instr.build t vps).run E.P w = .ok (.agg vs) w ∧ Reps E G w cs vs := by
 unfold buildCells at h
 split at h
 ·rename_i zs fs hz hu
  split at h
  ·cases h
  ·rename_i hall
   obtain ⟨i, z, hi, hz', hzr⟩ := zero_cells (G := G) (w := w) hz
   obtain ⟨places, hpl, hpg⟩ := places_some E.P fs.toList (by rw [Decidable.not_not] at hall; exact hall)
   obtain ⟨vs', hfill, hreps⟩ := fill_ok (E := E) (place' := (places.toArray[·]?)) (fun i t off size he => by
    cases hfi : fs[i]? with
    | none => rw [hfi] at he; cases he
    | some f =>
     rw [hfi] at he
     simp only [Option.map_some, Option.some.injEq, Prod.mk.injEq] at he
     obtain ⟨_, rfl, rfl⟩ := he
     have := hpg i f (by simpa using hfi)
     rw [List.getElem?_toArray]; exact this) ps vps.toList zs cs z.cells hps hzr h
   refine ⟨vs', ?_, hreps⟩
   refine run_build w t vps vs' ?_
   unfold Program.built
   rw [hi, show E.P.underlying t = _ from hu]
   simp only [hz', hpl]
   exact hfill
 ·cases h
end
end Go.Vx
namespace Go.Vx
open Go
section
variable {Key : Type} [DecidableEq Key]
variable {E : Env Key} {G G' Gc : Gh} {w w' : World}
def Good (E : Env Key) (σ' : St E.A) (a : Act) (G : Gh) (w : World) (a' : Act) (w' : World) : Prop :=
 a'.defers = a.defers ∧ ∃ G', VRel E σ' G' w' a'.tmps ∧ Fr G w G' w' ∧ ∀ i b, i < 64 → G'.blk i = some b → G.blk i = some b
theorem put_defers (a : Act) (d : Option Tmp) (v : Value) : (a.put d v).defers = a.defers := by cases d <;> rfl
theorem good_of_post {σ : St E.A} {a : Act} (hr : VRel E σ G w a.tmps) {δ : Delta E.A} {v : Value} {G' : Gh} {w' : World} (p : Post E σ G w δ v G' w') (d : Option Tmp) : Good E (σ.apply E d δ) a G w (a.put d v) w' :=
 ⟨put_defers a d v, G', p.vrel hr d, p.fr, p.keep⟩
theorem wp_value {σ : St E.A} {a : Act} {o : Oper} (hr : VRel E σ G w a.tmps) {δ : Delta E.A} {s : Sem Value} (he : execOp a.eval o = (do pure (.value (← s)))) (h : ∃ v w' G', s.run E.P w = .ok v w' ∧ Post E σ G w δ v G' w') :
  o.wp E.P a w (Good E (σ.apply E o.dst δ) a G w) (fun _ _ _ => False) := by
 obtain ⟨v, w', G', h1, h2⟩ := h
 unfold Oper.wp
 rw [he]
 simp only [Sem.run_bind, h1, Result.andThen_ok]
 exact good_of_post hr h2 _
theorem wp_unit {σ : St E.A} {a : Act} {o : Oper} (hr : VRel E σ G w a.tmps) {δ : Delta E.A} {s : Sem Unit} (he : execOp a.eval o = (do s; pure .skip)) (h : ∃ w' G', s.run E.P w = .ok () w' ∧ Post E σ G w δ undef G' w') :
  o.wp E.P a w (Good E (σ.apply E o.dst δ) a G w) (fun _ _ _ => False) := by
 obtain ⟨w', G', h1, h2⟩ := h
 unfold Oper.wp
 rw [he]
 simp only [Sem.run_bind, h1, Result.andThen_ok]
 exact good_of_post hr h2 _
theorem wp_pureD {σ : St E.A} {a : Act} {o : Oper} (hr : VRel E σ G w a.tmps) {δ : Delta E.A} {s : Sem Value} (he : execOp a.eval o = (do pure (.value (← s)))) (h : PureD E G w δ (s.run E.P w)) :
  o.wp E.P a w (Good E (σ.apply E o.dst δ) a G w) (fun _ _ _ => False) := by
 obtain ⟨v, w', h1, h2⟩ := Post.pure hr h
 exact wp_value hr he ⟨v, w', G, h1, h2⟩
theorem mapM_leaf {σ : St E.A} {a : Act} (hr : VRel E σ G w a.tmps) : ∀ (l : List Operand) (ls : List (Leaf E.A)), (l.map (ev E σ)).mapM (fun | .lf l => some l | _ => none) = some ls → Reps E G w ls (l.map a.eval).toArray
 | [], ls, h => by
  simp at h; subst h; exact Reps.nil
 | x :: l, ls, h => by
  simp only [List.map_cons, List.mapM_cons, Option.bind_eq_bind] at h
  have hx := ev_ok hr x
  generalize ev E σ x = r at h hx
  cases r with
  | lf l0 =>
   simp only [Option.bind_some] at h
   cases hm : (l.map (ev E σ)).mapM (fun | .lf l => some l | _ => none) with
   | none => rw [hm] at h; cases h
   | some ls' =>
    rw [hm] at h
    simp at h
    subst h
    have ih := mapM_leaf hr l ls' hm
    refine ⟨by simp at ih ⊢; have := ih.1; simp at this; omega, fun j lf hj => ?_⟩
    cases j with
    | zero => simp at hj; subst hj; simpa using hx.lf_inv
    | succ j =>
     have := ih.2 j lf (by simpa using hj)
     simpa [Array.getD_eq_getD_getElem?] using this
  | _ => simp at h
theorem coeArgs_len : ∀ (ts : List TypeId) (rs : List (RV E.A)), (coeArgs E ts rs).length = rs.length
 | [], rs => by cases rs <;> rfl
 | t :: ts, [] => rfl
 | t :: ts, r :: rs => by simp [coeArgs, coeArgs_len ts rs]
theorem coeArgs_get : ∀ (ts : List TypeId) (rs : List (RV E.A)) (j : Nat) (r : RV E.A), (coeArgs E ts rs)[j]? = some r → ∃ r', rs[j]? = some r' ∧ ∀ G w v, RRep E G w r' v → RRep E G w r v
 | [], rs, j, r, h => by
  have e : coeArgs E [] rs = rs := by cases rs <;> rfl
  rw [e] at h; exact ⟨r, h, fun _ _ _ h => h⟩
 | t :: ts, [], j, r, h => by cases j <;> cases h
 | t :: ts, x :: rs, 0, r, h => by
  simp only [coeArgs, List.getElem?_cons_zero, Option.some.injEq] at h; subst h
  exact ⟨x, rfl, fun _ _ _ h => coeRV_ok h⟩
 | t :: ts, x :: rs, j + 1, r, h => by
  simp only [coeArgs, List.getElem?_cons_succ] at h
  obtain ⟨r', h1, h2⟩ := coeArgs_get ts rs j r h
  exact ⟨r', by simpa using h1, h2⟩
theorem args_ok {σ : St E.A} {a : Act} (hr : VRel E σ G w a.tmps) (ts : List TypeId) (az : Array Operand) {cap : List (Leaf E.A)} {cs : Array Value} (hc : Reps E G w cap cs) :
  ARel E G w (coeArgs E ts (az.toList.map (ev E σ)) ++ cap.map .lf) (az.map a.eval ++ cs) := by
 refine ⟨by simp [coeArgs_len, hc.1], fun j r hj => ?_⟩
 have hl : (coeArgs E ts (az.toList.map (ev E σ))).length = az.size := by rw [coeArgs_len]; simp
 rw [List.getElem?_append] at hj
 split at hj
 ·rename_i hlt
  rw [hl] at hlt
  obtain ⟨r', h1, h2⟩ := coeArgs_get _ _ j r hj
  rw [List.getElem?_map] at h1
  have hx : az.toList[j]? = some az[j] := by rw [Array.getElem?_toList]; exact Array.getElem?_eq_getElem hlt
  rw [hx] at h1
  injection h1 with h1; subst h1
  have : (az.map a.eval ++ cs).getD j undef = a.eval az[j] := by
   refine getD_of_get? ?_
   rw [Array.getElem?_append_left (by simpa using hlt), Array.getElem?_map, Array.getElem?_eq_getElem hlt]
   rfl
  rw [this]
  exact h2 _ _ _ (ev_ok hr _)
 ·rename_i hge
  rw [hl] at hge hj
  rw [List.getElem?_map] at hj
  cases hcj : cap[j - az.size]? with
  | none => rw [hcj] at hj; cases hj
  | some l =>
   rw [hcj] at hj; injection hj with hj; subst hj
   obtain ⟨v, hv, hrep⟩ := hc.at hcj
   have : (az.map a.eval ++ cs).getD j undef = v := by
    refine getD_of_get? ?_
    rw [Array.getElem?_append_right (by simpa using hge)]
    simpa using hv
   rw [this]
   exact .lf hrep
theorem array_two {α : Type} {a : Array α} {x y : α} (h : a.toList = [x, y]) : a = #[x, y] := by cases a; simpa using h
theorem array_one {α : Type} {a : Array α} {x : α} (h : a.toList = [x]) : a = #[x] := by cases a; simpa using h
set_option maxHeartbeats 4000000 in
theorem stp_ok (hL : Laws E) {σ : St E.A} {a : Act} (hr : VRel E σ G w a.tmps) {o : Oper} {δ : Delta E.A} (h : stp E σ o = some (true, δ)) :
  o.wp E.P a w (Good E (σ.apply E o.dst δ) a G w) (fun _ _ _ => False) := by
 unfold stp at h
 simp only at h
 split at h
 case _ x hop =>
  injection h with h; cases h
  exact wp_value (s := pure (a.eval x)) hr (by simp [execOp, hop]) ⟨_, w, _, rfl, assign_ok hr (ev_ok hr x)⟩
 case _ x hop =>
  injection h with h; cases h
  exact wp_value (s := pure (a.eval x)) hr (by simp [execOp, hop]) ⟨_, w, _, rfl, assign_ok hr (ev_ok hr x)⟩
 case _ c x y hop =>
  exact wp_pureD (s := (do pure (if ← asBool (a.eval c) then a.eval x else a.eval y))) hr (by simp [execOp, hop]) (pick_ok (ev_ok hr c) (ev_ok hr x) (ev_ok hr y) h)
 case _ t hop =>
  exact wp_value (s := Instr.alloc t true (.tuple #[])) hr (by simp [execOp, hop]) (alloc_ok hr h)
 case _ t x hop =>
  exact wp_value (s := Instr.box t (a.eval x)) hr (by simp [execOp, hop]) (box_ok hr (ev_ok hr x) h)
 case _ t ps hop =>
  exact wp_value (s := Instr.build t (ps.map fun (i, x) => (i, a.eval x))) hr (by simp [execOp, hop]) (build_ok hr (PartsRep.map hr ps) h).2
 case _ t n ps hop =>
  exact wp_value (s := Instr.buildSlice t n (ps.map fun (i, x) => (i, a.eval x))) hr (by simp [execOp, hop]) (buildSlice_ok hL hr (PartsRep.map hr ps) h).2
 case _ t x hop =>
  exact wp_pureD (s := Instr.loadAt t (a.eval x)) hr (by simp [execOp, hop]) (load_ok hL hr (ev_ok hr x) h)
 case _ t x y hop =>
  exact wp_unit (s := Instr.storeAt t (a.eval x) (a.eval y)) hr (by simp [execOp, hop]) (store_ok hL hr (ev_ok hr x) (ev_ok hr y) h).2
 case _ x hop =>
  obtain ⟨hx, hp⟩ := nilCheck_ok (ev_ok hr x) h
  refine wp_pureD (s := pure (a.eval x)) hr ?_ hp
  unfold execOp
  rw [hop]
  simp only
  rcases hx with ⟨p, hp⟩ | ⟨p, hp⟩ | ⟨f, cs, hp⟩ | ⟨t, y, hp⟩ <;> rw [hp] <;> rfl
 case _ op t x y yt hop =>
  exact wp_pureD (s := (do eqGuard op t x y (a.eval x) (a.eval y); Go.binOp op t (a.eval x) (a.eval y))) hr (by simp [execOp, hop]) (binPtr_ok hr (ev_ok hr x) (ev_ok hr y) (fun c hc => by rw [hc]; rfl) h)
 case _ op t x hop =>
  obtain ⟨h1, h2, h3⟩ := unOp_ok (G := G) (w := w) (ev_ok hr x) h
  exact wp_pureD (s := Op.unary op (a.eval x)) hr (by simp [execOp, hop]) ⟨h1, h2, h3⟩
 case _ s t x hop =>
  have hx := ev_ok hr x
  have he : execOp a.eval o = (do pure (.value (← Go.convert s t (a.eval x)))) := by simp [execOp, hop]
  generalize ev E σ x = r at h hx
  split at h
  ·exact wp_pureD hr he (convPtr_ok hr hx h)
  ·split at h
   ·rename_i hs hd
    exact wp_value hr he (convMark_ok hr hs hd hx h)
   ·refine wp_pureD hr he (convert_pure_ok hL hx h hL.kb1 (fun ss hss => ?_))
    cases hss
  by_cases hs : ∃ ss, r = .lf (.str ss) ∧ und E t ≠ some .string
  ·obtain ⟨ss, rfl, hne⟩ := hs
   have h' := h
   unfold convert at h
   split at h
   ·cases ‹RV.lf _ = RV.lf _›
   ·exact absurd (by assumption) hne
   ·rename_i e _ hu1 hu2 heq
    injection heq with heq; injection heq with heq; subst heq
    exact wp_value hr he (convert_bytes_ok hL hr hx hu1 hu2 hL.kb1 h').2
   ·rename_i e l hu1 hu2 heq
    injection heq with heq; subst heq
    exact absurd hu2 hne
   ·cases h
  ·refine wp_pureD hr he (convert_pure_ok hL hx h hL.kb1 (fun ss hss => ?_))
   by_cases hu : und E t = some .string
   ·exact hu
   ·exact absurd ⟨ss, hss, hu⟩ hs
 case _ t x hop =>
  have hx := ev_ok hr x
  split at h
  ·rename_i l heq
   rw [heq] at hx
   split at h
   ·cases h
   ·split at h
    ·cases h
    ·rename_i d hne hu
     refine wp_pureD (s := Instr.makeInterface t (a.eval x)) hr (by simp [execOp, hop]) (.val h ?_)
     have hrun : (Instr.makeInterface t (a.eval x)).run E.P w = .ok (.iface t (a.eval x)) w := by
      unfold Instr.makeInterface
      simp only [Sem.run_bind, run_underlying (show E.P.underlying t = _ from hu), Result.andThen_ok]
      cases d <;> first | rfl | exact absurd rfl (hne _)
     rw [hrun]
     exact .leaf (.ifc hx.lf_inv)
    ·cases h
  ·cases h
 case _ f first cap hop =>
  split at h
  ·rename_i hf
   split at h
   ·rename_i ls hm
    have hreps := mapM_leaf hr cap.toList ls hm
    have hfe : first = #[] := by cases first; simpa using hf
    subst hfe
    refine wp_pureD (s := Instr.makeFunc (.func f) #[] (cap.map a.eval)) hr (by simp [execOp, hop]) (.val h ?_)
    have e : (cap.toList.map a.eval).toArray = cap.map a.eval := by simp [← Array.toList_map]
    rw [e] at hreps
    exact .leaf (.fn f ls _ hreps.1 hreps.2)
   ·cases h
  ·cases h
 case _ t hop =>
  exact wp_value (s := Instr.makeMap t none) hr (by simp [execOp, hop]) (makeMap_ok hr h).2
 case _ t x lo hi mx hop =>
  exact wp_pureD (s := Instr.sliceAt t (a.eval x) (lo.map a.eval) (hi.map a.eval) (mx.map a.eval)) hr (by simp [execOp, hop]) (slice_ok hL (ev_ok hr x) (OptRep.map hr lo) (OptRep.map hr hi) (OptRep.map hr mx) h)
 case _ s x f hop =>
  exact wp_pureD (s := Instr.fieldAt s (a.eval x) f) hr (by simp [execOp, hop]) (fieldAddr_ok hr (ev_ok hr x) h)
 case _ s x f hop =>
  exact wp_pureD (s := Instr.field s (a.eval x) f) hr (by simp [execOp, hop]) (field_ok (ev_ok hr x) h)
 case _ t x i hop =>
  exact wp_pureD (s := Instr.indexAt t (a.eval x) (a.eval i)) hr (by simp [execOp, hop]) (indexAddr_ok hL hr (ev_ok hr x) (ev_ok hr i) h)
 case _ t x i hop =>
  exact wp_pureD (s := Instr.index t (a.eval x) (a.eval i)) hr (by simp [execOp, hop]) (index_ok (ev_ok hr x) (ev_ok hr i) h)
 case _ t x i ok hop =>
  exact wp_pureD (s := Instr.lookup t (a.eval x) (a.eval i) ok) hr (by simp [execOp, hop]) (lookup_ok hL hr (ev_ok hr x) (ev_ok hr i) h)
 case _ t m k x hop =>
  exact wp_unit (s := Instr.mapUpdate t (a.eval m) (a.eval k) (a.eval x)) hr (by simp [execOp, hop]) (mapUpdate_ok hL hr (ev_ok hr m) (ev_ok hr k) (ev_ok hr x) h).2
 case _ x i hop =>
  exact wp_pureD (s := Instr.extract (a.eval x) i) hr (by simp [execOp, hop]) (extract_ok (ev_ok hr x) h)
 case _ c hop =>
  have hex : execOp a.eval o = (do let d ← resolve a.eval c o.type; invoke d.target d.args) := by simp [execOp, hop]
  split at h
  case _ hcal =>
   split at h
   ·rename_i x t ts hxs hts
    have hargs := array_one hxs
    refine wp_pureD (s := Builtin.len_ c.argTypes o.type #[a.eval x]) hr ?_ (lenOp_ok hr (ts := c.argTypes) (by rw [← Array.getElem?_toList, hts]; rfl) (ev_ok hr x) h)
    rw [hex]
    simp [resolve, hcal, hargs, invoke, builtin]
   ·cases h
  case _ hcal =>
   split at h
   ·rename_i x y t t2 hxs hts
    have hargs := array_two hxs
    have htys := array_two hts
    split at h
    ·rename_i e' hu2
     refine wp_value (s := Builtin.append_ c.argTypes o.type #[a.eval x, a.eval y]) hr ?_ (append_ok hL hL.kb1 hr (ts := c.argTypes) (by rw [htys]; rfl) (by rw [htys]; rfl) (show E.P.underlying t2 = _ from hu2) (.inr ⟨e', rfl⟩) (ev_ok hr x) (ev_ok hr y) h)
     rw [hex]
     simp [resolve, hcal, hargs, invoke, builtin]
    ·rename_i hu2
     refine wp_value (s := Builtin.append_ c.argTypes o.type #[a.eval x, a.eval y]) hr ?_ (append_ok hL hL.kb1 hr (ts := c.argTypes) (by rw [htys]; rfl) (by rw [htys]; rfl) (show E.P.underlying t2 = _ from hu2) (.inl rfl) (ev_ok hr x) (ev_ok hr y) h)
     rw [hex]
     simp [resolve, hcal, hargs, invoke, builtin]
    ·cases h
   ·cases h
  case _ hcal =>
   split at h
   ·rename_i x t ts hxs hts
    have hargs := array_one hxs
    refine wp_pureD (s := Builtin.unsafeSliceData_ c.argTypes o.type #[a.eval x]) hr ?_ (sliceData_ok (ev_ok hr x) h)
    rw [hex]
    simp [resolve, hcal, hargs, invoke, builtin]
   ·cases h
  case _ hcal =>
   split at h
   ·rename_i x y t t2 hxs hts
    have hargs := array_two hxs
    have htys := array_two hts
    refine wp_value (s := Builtin.unsafeString_ #[t, t2] o.type #[a.eval x, a.eval y]) hr ?_ (unsafeStr_ok hL hr (ev_ok hr x) (ev_ok hr y) h)
    rw [hex]
    simp [resolve, hcal, hargs, htys, invoke, builtin]
   ·cases h
  case _ hcal =>
   split at h
   ·rename_i x y hxs
    have hargs := array_two hxs
    refine wp_pureD (s := Builtin.max_ c.argTypes o.type #[a.eval x, a.eval y]) hr ?_ (minmax_ok (mx := true) (ts := c.argTypes) (t := o.type) (ev_ok hr x) (ev_ok hr y) h)
    rw [hex]
    simp [resolve, hcal, hargs, invoke, builtin]
   ·cases h
  case _ hcal =>
   split at h
   ·rename_i x y hxs
    have hargs := array_two hxs
    refine wp_pureD (s := Builtin.min_ c.argTypes o.type #[a.eval x, a.eval y]) hr ?_ (minmax_ok (mx := false) (ts := c.argTypes) (t := o.type) (ev_ok hr x) (ev_ok hr y) h)
    rw [hex]
    simp [resolve, hcal, hargs, invoke, builtin]
   ·cases h
  ·cases h
 ·cases h
theorem nilTest_at {σ : St E.A} {a : Act} (hr : VRel E σ G w a.tmps) {o : Oper} {op : BinOp} {t : TypeId} {x : Operand} {y : TypeId} (hop : o.op = .binOp op t x (.const (.slice none 0 0)) y) {l : Leaf E.A} (heq : ev E σ x = .lf l) {k : Key} {xs : List (E.A k)} (hl : pureLeaf E l = .sl k xs)
  {e : TypeId} (hu : und E t = some (.slice e)) {neg : Bool} (hn : (op = .eql ∧ neg = false) ∨ (op = .neq ∧ neg = true)) :
  ∃ b : Bool, (0 < xs.length → b = false) ∧ o.wp E.P a w (Good E (σ.apply E o.dst { val := .lf (.bool (if b then !neg else neg)) }) a G w) (fun _ _ _ => False) := by
 have hx := ev_ok hr x
 rw [heq] at hx
 have hrep := hx.lf_inv.pure
 rw [hl] at hrep
 obtain ⟨A, cap, hv, _⟩ := hrep.sl_len
 refine ⟨A.isNone, fun hpos => ?_, ?_⟩
 ·rw [hv] at hrep
  cases hrep with
  | sl0 => simp at hpos
  | sl => rfl
 ·have he : execOp a.eval o = (do pure (.value (← (do eqGuard op t x (.const (.slice none 0 0)) (a.eval x) (.slice none 0 0); Go.binOp op t (a.eval x) (.slice none 0 0) : Sem Value)))) := by simp [execOp, hop, Act.eval]
  refine wp_pureD hr he ?_
  rw [hv]
  have hop' : op = .eql ∨ op = .neq := hn.elim (fun h => .inl h.1) (fun h => .inr h.1)
  have hrun : ((do eqGuard op t x (.const (.slice none 0 0)) (.slice A xs.length cap) (.slice none 0 0); Go.binOp op t (.slice A xs.length cap) (.slice none 0 0) : Sem Value)).run E.P w = .ok (.bool (if op = .eql then A.isNone else !A.isNone)) w := by
   simp only [eqGuard_at_slice, Sem.run_bind, Sem.run_pure, Result.andThen_ok]
   have hee : (Op.equal t (.slice A xs.length cap) (.slice none 0 0)).run E.P w = .ok A.isNone w := by
    have hd : Op.equal t (.slice A xs.length cap) (.slice none 0 0) = Op.equalIn (9999 + 1) t (.slice A xs.length cap) (.slice none 0 0) := rfl
    rw [hd]
    generalize 9999 = n
    unfold Op.equalIn
    simp only [Sem.run_bind, run_underlying (show E.P.underlying t = some (.slice e) from hu), Result.andThen_ok]
    cases A <;> rfl
   exact run_eq hee hop' ⟨rfl, rfl⟩
  have hb : (if op = .eql then A.isNone else !A.isNone) = (if A.isNone then !neg else neg) := by
   rcases hn with ⟨rfl, rfl⟩ | ⟨rfl, rfl⟩ <;> cases A <;> rfl
  rw [hb] at hrun
  exact ⟨rfl, rfl, _, w, hrun, SameHeap.refl w, .lf (.bool _)⟩
theorem nilTest_ok {σ : St E.A} {a : Act} (hr : VRel E σ G w a.tmps) {o : Oper} {n : Nat} {neg : Bool} (h : nilTest E σ o = some (n, neg)) :
  ∃ b : Bool, (0 < n → b = false) ∧ o.wp E.P a w (Good E (σ.apply E o.dst { val := .lf (.bool (if b then !neg else neg)) }) a G w) (fun _ _ _ => False) := by
 unfold nilTest at h
 split at h
 ·rename_i op t x _ hop
  split at h
  ·rename_i l heq
   split at h
   ·rename_i k xs e hl hu
    injection h with h; injection h with h1 h2
    subst h1; subst h2
    exact nilTest_at hr hop heq hl hu (.inl ⟨rfl, rfl⟩)
   ·rename_i k xs e hl hu
    injection h with h; injection h with h1 h2
    subst h1; subst h2
    exact nilTest_at hr hop heq hl hu (.inr ⟨rfl, rfl⟩)
   ·cases h
  ·cases h
 ·cases h
theorem stpB_ok {σ : St E.A} {a : Act} (hr : VRel E σ G w a.tmps) {o : Oper} {δ : Delta E.A} (h : stpB E σ o = some (true, δ)) :
  o.wp E.P a w (Good E (σ.apply E o.dst δ) a G w) (fun _ _ _ => False) := by
 unfold stpB at h
 simp only at h
 split at h
 case _ x hop =>
  injection h with h; cases h
  obtain ⟨G', hp⟩ := buf_ok (t := o.type) (d := dOf o) hr (ev_ok hr x)
  exact wp_value (s := pure (a.eval x)) hr (by simp [execOp, hop]) ⟨_, w, _, rfl, hp⟩
 case _ x hop =>
  injection h with h; cases h
  obtain ⟨G', hp⟩ := buf_ok (t := o.type) (d := dOf o) hr (ev_ok hr x)
  exact wp_value (s := pure (a.eval x)) hr (by simp [execOp, hop]) ⟨_, w, _, rfl, hp⟩
 case _ t ps hop =>
  split at h
  ·rename_i cs hcs
   injection h with h; cases h
   obtain ⟨vs, hrun, hreps⟩ := buildCells_ok (PartsRep.map hr ps) hcs
   obtain ⟨G', hp⟩ := buf_ok (t := t) (d := dOf o) hr (.agg hreps)
   exact wp_value (s := Instr.build t (ps.map fun (i, x) => (i, a.eval x))) hr (by simp [execOp, hop]) ⟨_, w, _, hrun, hp⟩
  ·cases h
 ·cases h
theorem stpT_ok (hL : Laws E) {Γ : FuncId → Option (Spec E)} (hΓ : ∀ f spec, Γ f = some spec → Valid E f spec) {σ : St E.A} {a : Act} (hr : VRel E σ G w a.tmps) {o : Oper} {δ : Delta E.A} (h : (stpT E Γ σ o).get = some δ) :
  o.wp E.P a w (Good E (σ.apply E o.dst δ) a G w) (fun _ _ _ => False) := by
 unfold stpT at h
 split at h
 ·rename_i f c hco
  have hop : o.op = .call c ∧ c.callee = .value f := by
   unfold calleeOf at hco
   split at hco
   ·rename_i c' hc'
    split at hco
    ·rename_i f' hf'
     injection hco with hco; injection hco with h1 h2
     subst h1; subst h2
     exact ⟨hc', hf'⟩
    ·cases hco
   ·cases hco
  obtain ⟨hoc, hcal⟩ := hop
  have hex : execOp a.eval o = (do let d ← resolve a.eval c o.type; invoke d.target d.args) := by unfold execOp; rw [hoc]
  have hf := ev_ok hr f
  split at h
  ·rename_i g cap heq
   rw [heq] at hf
   split at h
   ·rename_i spec hsp
    have hfn := hf.lf_inv
    generalize hfv : a.eval f = fv at hfn
    cases hfn with
    | fn _ _ cs hs hcs =>
     have harel := args_ok hr c.argTypes.toList c.args (cap := cap) (cs := cs) ⟨hs, hcs⟩
     have hres := call_ok hL hr (hΓ g spec hsp) harel h
     unfold Oper.wp
     rw [hex]
     have e : ((do let d ← resolve a.eval c o.type; invoke d.target d.args) : Sem Next) = callFunc g (c.args.map a.eval ++ cs) := by
      simp [resolve, hcal, hfv, Deferred.ofValue, invoke]
     rw [e]
     generalize (callFunc g (c.args.map a.eval ++ cs)).run E.P w = res at hres
     unfold CallRes at hres
     split at hres
     ·obtain ⟨v', G', he, hp⟩ := hres
      injection he with he; subst he
      exact good_of_post hr hp _
     ·rw [Oper.upon_enter]
      refine hres.mono (fun e w' hR => ?_)
      obtain ⟨v', G', rfl, hp⟩ := hR
      exact good_of_post hr hp _
     ·exact hres.elim
   ·cases h
  ·cases h
 ·unfold toT at h
  split at h
  ·rename_i g δ' hs
   cases g with
   | true =>
    have e : δ' = δ := by simpa [Tree.get, Tree.run] using h
    subst e
    split at hs
    ·exact stpB_ok hr hs
    ·exact stp_ok hL hr hs
   | false => simp [Tree.get, Tree.run] at h
  ·cases h
end
end Go.Vx
namespace Go.Vx
open Go
section
variable {Key : Type} [DecidableEq Key]
variable {E : Env Key} {G G' Gc : Gh} {w w' : World}
theorem ev_congr {σ σ' : St E.A} {x : Operand} (h : ∀ t, x = .tmp t → σ'.sl.getD t .undef = σ.sl.getD t .undef) : ev E σ' x = ev E σ x := by
 cases x with
 | tmp t => exact h t rfl
 | _ => rfl
theorem map_ev {σ σ' : St E.A} : ∀ (l : List Operand), (∀ x ∈ l, ev E σ' x = ev E σ x) → l.map (ev E σ') = l.map (ev E σ)
 | [], _ => rfl
 | x :: l, h => by simp only [List.map_cons]; rw [h x (by simp), map_ev l (fun y hy => h y (by simp [hy]))]
theorem cellsAt_congr {σ σ' : St E.A} {l : Leaf E.A} (h : ∀ id ∈ topIds E (.lf l), σ'.ob id = σ.ob id ∧ σ'.ver id = σ.ver id) : cellsAt E σ' l = cellsAt E σ l := by
 cases l <;> try rfl
 ·rename_i id v off
  obtain ⟨h1, h2⟩ := h id (by simp [topIds])
  simp only [cellsAt, h1, h2]
 ·rename_i id v off
  obtain ⟨h1, h2⟩ := h id (by simp [topIds])
  simp only [cellsAt, h1, h2]
theorem convPtr_congr {σ σ' : St E.A} {s t : TypeId} {i v o : Nat} (h1 : σ'.ob i = σ.ob i) (h2 : σ'.ver i = σ.ver i) : convPtr E σ' s t i v o = convPtr E σ s t i v o := by
 simp only [convPtr, h1, h2]
theorem binPtr_congr {σ σ' : St E.A} {op : BinOp} {t : TypeId} {y : Operand} {a b : RV E.A} (h : ∀ id ∈ topIds E a, σ'.ob id = σ.ob id ∧ σ'.ver id = σ.ver id) (h' : ∀ id ∈ topIds E b, σ'.ob id = σ.ob id ∧ σ'.ver id = σ.ver id) : binPtr E σ' op t y a b = binPtr E σ op t y a b := by
 unfold binPtr
 split
 ·rename_i i v o j u p
  rw [(h i (by simp [topIds])).2, (h' j (by simp [topIds])).2]
 ·rfl
theorem map_parts {σ σ' : St E.A} : ∀ (ps : List (Nat × Operand)), (∀ x ∈ ps.map (·.2), ev E σ' x = ev E σ x) → (ps.map fun x => (x.1, ev E σ' x.2)) = (ps.map fun x => (x.1, ev E σ x.2))
 | [], _ => rfl
 | p :: ps, h => by simp only [List.map_cons]; rw [h p.2 (by simp), map_parts ps (fun y hy => h y (by simp at hy ⊢; exact .inr hy))]
theorem map_opt {σ σ' : St E.A} (o : Option Operand) (h : ∀ x ∈ o.toList, ev E σ' x = ev E σ x) : o.map (ev E σ') = o.map (ev E σ) := by
 cases o with
 | none => rfl
 | some x => simp only [Option.map_some]; rw [h x (by simp)]
theorem reach_slots (sl sl' : List (RV E.A)) (ob : Nat → Option (Obj E.A)) (ver tk : Nat → Nat) : ∀ (n i : Nat) (l : List Nat), reach E ⟨sl', ob, ver, tk⟩ n i l = reach E ⟨sl, ob, ver, tk⟩ n i l
 | 0, _, _ => rfl
 | n + 1, i, l => by
  unfold reach
  split
  ·rfl
  ·exact reach_slots sl sl' ob ver tk n _ _
theorem getObs_slots (sl sl' : List (RV E.A)) (ob : Nat → Option (Obj E.A)) (ver tk : Nat → Nat) : ∀ (l : List Nat), getObs E ⟨sl', ob, ver, tk⟩ l = getObs E ⟨sl, ob, ver, tk⟩ l
 | [] => rfl
 | i :: l => by simp only [getObs, getObs_slots sl sl' ob ver tk l]
theorem inward_slots (sl sl' : List (RV E.A)) (ob : Nat → Option (Obj E.A)) (ver tk : Nat → Nat) (ids toks : List Nat) : inward E ⟨sl', ob, ver, tk⟩ ids toks = inward E ⟨sl, ob, ver, tk⟩ ids toks := by
 funext l; cases l <;> rfl
theorem outward_slots (sl sl' : List (RV E.A)) (ob : Nat → Option (Obj E.A)) (ver tk : Nat → Nat) (d : Nat) (ids toks : List Nat) : outward E ⟨sl', ob, ver, tk⟩ d ids toks = outward E ⟨sl, ob, ver, tk⟩ d ids toks := by
 funext l; cases l <;> rfl
theorem obsOut_slots (sl sl' : List (RV E.A)) (ob : Nat → Option (Obj E.A)) (ver tk : Nat → Nat) (d : Nat) (ids toks : List Nat) : ∀ (i : Nat) (os : List (Obj E.A)), obsOut E ⟨sl', ob, ver, tk⟩ d ids toks i os = obsOut E ⟨sl, ob, ver, tk⟩ d ids toks i os
 | _, [] => rfl
 | i, o :: os => by
  simp only [obsOut, obsOut_slots sl sl' ob ver tk d ids toks (i + 1) os, outward_slots sl sl']
  rfl
theorem callOp_slots (sl sl' : List (RV E.A)) (ob : Nat → Option (Obj E.A)) (ver tk : Nat → Nat) (d : Nat) (spec : Spec E) (args : List (RV E.A)) : callOp E ⟨sl', ob, ver, tk⟩ d spec args = callOp E ⟨sl, ob, ver, tk⟩ d spec args := by
 unfold callOp
 simp only [reach_slots sl sl', getObs_slots sl sl', inward_slots sl sl', outward_slots sl sl', obsOut_slots sl sl']
 rfl
theorem stp_slots {σ σ' : St E.A} {o : Oper} (hd : drawable o.op = true) (h : ∀ x ∈ o.op.operands.toList, ev E σ' x = ev E σ x) (hob : σ'.ob = σ.ob) (hver : σ'.ver = σ.ver) (htk : σ'.tk = σ.tk) : stp E σ' o = stp E σ o := by
 obtain ⟨sl', ob', ver', tk'⟩ := σ'
 obtain ⟨sl, ob, ver, tk⟩ := σ
 simp only at hob hver htk
 subst hob; subst hver; subst htk
 obtain ⟨dst, op, type, pos, after, guard⟩ := o
 have loadc : ∀ t a, load E ⟨sl', ob', ver', tk'⟩ t a = load E ⟨sl, ob', ver', tk'⟩ t a := fun _ _ => rfl
 cases op <;> simp [drawable, simple] at hd <;> simp only [Op.operands] at h
 case call c =>
  have hargs : ∀ x ∈ c.args.toList, ev E ⟨sl', ob', ver', tk'⟩ x = ev E ⟨sl, ob', ver', tk'⟩ x := fun x hx => h x (by simp [Call.operands]; exact .inr (by simpa using hx))
  have hargs' := map_ev c.args.toList hargs
  cases hc : c.callee with
  | value f => simp only [stp, hc]
  | invoke r m => simp [hc] at hd
  | builtin b =>
   have one : ∀ x, c.args.toList = [x] → ev E ⟨sl', ob', ver', tk'⟩ x = ev E ⟨sl, ob', ver', tk'⟩ x := fun x hl => hargs x (by rw [hl]; simp)
   have two : ∀ x y, c.args.toList = [x, y] → ev E ⟨sl', ob', ver', tk'⟩ x = ev E ⟨sl, ob', ver', tk'⟩ x ∧ ev E ⟨sl', ob', ver', tk'⟩ y = ev E ⟨sl, ob', ver', tk'⟩ y := fun x y hl => ⟨hargs x (by rw [hl]; simp), hargs y (by rw [hl]; simp)⟩
   simp only [stp, hc]
   cases b <;> simp [hc] at hd <;> simp only
   case len =>
    split
    ·rename_i x t ts hl _; simp only [one x hl]; rfl
    ·rfl
   case append =>
    split
    ·rename_i x y t t2 hl _; simp only [two x y hl]; rfl
    ·rfl
   case unsafeSliceData =>
    split
    ·rename_i x t ts hl _; simp only [one x hl]
    ·rfl
   case unsafeString =>
    split
    ·rename_i x y t t2 hl _; simp only [two x y hl]; rfl
    ·rfl
   case min =>
    split
    ·rename_i x y hl; simp only [two x y hl]
    ·rfl
   case max =>
    split
    ·rename_i x y hl; simp only [two x y hl]
    ·rfl
 case buildSlice t n ps => simp only [stp, map_parts ps.toList (by simpa using h)]; rfl
 case build t ps => simp only [stp, map_parts ps.toList (by simpa using h)]; rfl
 case alloc t => rfl
 case box t x => simp only [stp, h x (by simp)]; rfl
 case slice t x lo hi mx =>
  have h1 := h x (by simp)
  have h2 := map_opt lo (fun y hy => h y (by simp at hy ⊢; simp [hy]))
  have h3 := map_opt hi (fun y hy => h y (by simp at hy ⊢; simp [hy]))
  have h4 := map_opt mx (fun y hy => h y (by simp at hy ⊢; simp [hy]))
  simp only [stp, h1, h2, h3, h4]
 case pick c a b => simp only [stp, h c (by simp), h a (by simp), h b (by simp)]
 case move x => simp only [stp, h x (by simp)] <;> rfl
 case assign x => simp only [stp, h x (by simp)] <;> rfl
 case nilCheck x => simp only [stp, h x (by simp)] <;> rfl
 case binOp op t x y u => simp only [stp, h x (by simp), h y (by simp)] <;> rfl
 case unOp op t x => simp only [stp, h x (by simp)] <;> rfl
 case convert s t x => simp only [stp, h x (by simp)] <;> rfl
 case fieldAddr s x f => simp only [stp, h x (by simp)] <;> rfl
 case field s x f => simp only [stp, h x (by simp)] <;> rfl
 case index t x y => simp only [stp, h x (by simp), h y (by simp)] <;> rfl
 case indexAddr t x y => simp only [stp, h x (by simp), h y (by simp)] <;> rfl
 case lookup t x y ok => simp only [stp, h x (by simp), h y (by simp)] <;> rfl
 case load t x => simp only [stp, h x (by simp)] <;> rfl
 case store t x y => simp only [stp, h x (by simp), h y (by simp)] <;> rfl
 case extract x i => simp only [stp, h x (by simp)] <;> rfl
theorem convert_tk {tk tk' : Nat → Nat} {d : Nat} {s t : TypeId} {a : RV E.A} (h : ∀ e u, und E s = some .string → und E t = some (.slice e) → a ≠ .lf (.str u)) : convert E tk' d s t a = convert E tk d s t a := by
 unfold convert
 split
 ·rfl
 ·rfl
 ·rename_i e u h1 h2
  exact absurd rfl (h e u h1 h2)
 ·rfl
 ·rfl
theorem ownRV_toks {tk tk' : Nat → Nat} {t : TypeId} {d : Nat} {r : RV E.A} (h : ∀ x ∈ (ownRV E tk t d r).2.map (·.1), tk' x = tk x) : ownRV E tk' t d r = ownRV E tk t d r := by
 have leaf : ∀ (n : Nat) (t : TypeId) (l : Leaf E.A), (∀ x ∈ (ownLeaf E tk t n l).2.map (·.1), tk' x = tk x) → ownLeaf E tk' t n l = ownLeaf E tk t n l := by
  intro n t l h
  unfold ownLeaf at h ⊢
  split
  ·split
   ·rename_i hk
    simp only [hk, List.map_cons, List.map_nil, List.mem_singleton, forall_eq] at h
    rw [h]
   ·rfl
  ·rfl
 have cells : ∀ (cs : List (Leaf E.A)) (ts : List TypeId) (n : Nat), (∀ x ∈ (ownCells E tk ts n cs).2.map (·.1), tk' x = tk x) → ownCells E tk' ts n cs = ownCells E tk ts n cs := by
  intro cs
  induction cs with
  | nil => intro ts n _; cases ts <;> rfl
  | cons c cs ih =>
   intro ts n h
   cases ts with
   | nil => rfl
   | cons t ts =>
    simp only [ownCells, List.map_append, List.mem_append] at h ⊢
    rw [leaf _ _ _ (fun x hx => h x (.inl hx)), ih _ _ (fun x hx => h x (.inr hx))]
 unfold ownRV at h ⊢
 split
 ·simp only at h ⊢
  rw [leaf _ _ _ h]
 ·split
  ·rename_i hn
   simp only [hn, if_true] at h ⊢
   rw [cells _ _ _ h]
  ·rfl
 ·rfl
theorem bufRV_keys {ver ver' : Nat → Nat} {t : TypeId} {d : Nat} {r : RV E.A} (h : ∀ x ∈ (bufRV E ver t d r).2.map (·.1), ver' x = ver x) : bufRV E ver' t d r = bufRV E ver t d r := by
 have leaf : ∀ (n : Nat) (t : TypeId) (l : Leaf E.A), (∀ x ∈ (bufLeaf E ver t n l).2.map (·.1), ver' x = ver x) → bufLeaf E ver' t n l = bufLeaf E ver t n l := by
  intro n t l h
  unfold bufLeaf at h ⊢
  split
  ·split
   ·rename_i hk
    simp only [hk, List.map_cons, List.map_nil, List.mem_singleton, forall_eq] at h
    rw [h]
   ·rfl
  ·rfl
 have cells : ∀ (cs : List (Leaf E.A)) (ts : List TypeId) (n : Nat), (∀ x ∈ (bufCells E ver ts n cs).2.map (·.1), ver' x = ver x) → bufCells E ver' ts n cs = bufCells E ver ts n cs := by
  intro cs
  induction cs with
  | nil => intro ts n _; cases ts <;> rfl
  | cons c cs ih =>
   intro ts n h
   cases ts with
   | nil => rfl
   | cons t ts =>
    simp only [bufCells, List.map_append, List.mem_append] at h ⊢
    rw [leaf _ _ _ (fun x hx => h x (.inl hx)), ih _ _ (fun x hx => h x (.inr hx))]
 unfold bufRV at h ⊢
 split
 ·simp only at h ⊢
  rw [leaf _ _ _ h]
 ·simp only at h ⊢
  rw [cells _ _ _ h]
 ·rfl
def nearS (o : Op) : Bool := simple o || (match o with
 | .alloc _ | .box .. | .build .. | .buildSlice .. => true
 | _ => false)
theorem stp_near {σ σ' : St E.A} {o : Oper} (hd : nearS o.op = true) (h : ∀ x ∈ o.op.operands.toList, ev E σ' x = ev E σ x)
  (hm : ∀ x ∈ o.op.operands.toList, ∀ id ∈ topIds E (ev E σ x), σ'.ob id = σ.ob id ∧ σ'.ver id = σ.ver id) {g : Bool} {δ : Delta E.A} (hs : stp E σ o = some (g, δ))
  (hk : ∀ id ∈ keysOf E δ, σ'.ver id = σ.ver id) (ht : ∀ t ∈ toksOf E δ, σ'.tk t = σ.tk t) : stp E σ' o = some (g, δ) := by
 obtain ⟨dst, op, type, pos, after, guard⟩ := o
 cases op <;> simp [nearS, simple] at hd <;> simp only [Op.operands] at h hm
 case call c =>
  have hargs : ∀ x ∈ c.args.toList, ev E σ' x = ev E σ x := fun x hx => h x (by simp [Call.operands]; exact .inr (by simpa using hx))
  have hmems : ∀ x ∈ c.args.toList, ∀ id ∈ topIds E (ev E σ x), σ'.ob id = σ.ob id ∧ σ'.ver id = σ.ver id := fun x hx => hm x (by simp [Call.operands]; exact .inr (by simpa using hx))
  cases hc : c.callee with
  | value f => simp [hc] at hd
  | invoke r m => simp [hc] at hd
  | builtin b =>
   have one : ∀ x, c.args.toList = [x] → ev E σ' x = ev E σ x := fun x hl => hargs x (by rw [hl]; simp)
   have two : ∀ x y, c.args.toList = [x, y] → ev E σ' x = ev E σ x ∧ ev E σ' y = ev E σ y := fun x y hl => ⟨hargs x (by rw [hl]; simp), hargs y (by rw [hl]; simp)⟩
   rw [← hs]
   simp only [stp, hc]
   cases b <;> simp [hc] at hd <;> simp only
   case len =>
    split
    ·rename_i x t ts hl _
     simp only [one x hl]
     have hx := hmems x (by rw [hl]; simp)
     generalize ev E σ x = r at hx
     unfold lenOp
     split <;> try rfl
     ·rename_i id v _
      obtain ⟨h1, h2⟩ := hx id (by simp [topIds])
      simp only [h1, h2]
     ·rename_i id v _
      obtain ⟨h1, h2⟩ := hx id (by simp [topIds])
      simp only [h1, h2]
    ·rfl
   case unsafeSliceData =>
    split
    ·rename_i x t ts hl _; simp only [one x hl]
    ·rfl
   case min =>
    split
    ·rename_i x y hl; simp only [two x y hl]
    ·rfl
   case max =>
    split
    ·rename_i x y hl; simp only [two x y hl]
    ·rfl
 case move x =>
  simp only [stp, h x (by simp)] at hs ⊢
  injection hs with hs; injection hs with h1 h2
  rw [← h2] at ht
  rw [ownRV_toks ht, h1, h2]
 case assign x =>
  simp only [stp, h x (by simp)] at hs ⊢
  injection hs with hs; injection hs with h1 h2
  rw [← h2] at ht
  rw [ownRV_toks ht, h1, h2]
 case pick c a b => rw [← hs]; simp only [stp, h c (by simp), h a (by simp), h b (by simp)]
 case nilCheck x => rw [← hs]; simp only [stp, h x (by simp)]
 case binOp op t x y u => rw [← hs]; simp only [stp, h x (by simp), h y (by simp)]; exact binPtr_congr (hm x (by simp)) (hm y (by simp))
 case unOp op t x => rw [← hs]; simp only [stp, h x (by simp)]
 case field s x f => rw [← hs]; simp only [stp, h x (by simp)]
 case extract x i => rw [← hs]; simp only [stp, h x (by simp)]
 case index t x y => rw [← hs]; simp only [stp, h x (by simp), h y (by simp)]
 case slice t x lo hi mx =>
  have h1 := h x (by simp)
  have h2 := map_opt lo (fun y hy => h y (by simp at hy ⊢; simp [hy]))
  have h3 := map_opt hi (fun y hy => h y (by simp at hy ⊢; simp [hy]))
  have h4 := map_opt mx (fun y hy => h y (by simp at hy ⊢; simp [hy]))
  rw [← hs]
  simp only [stp, h1, h2, h3, h4]
 case load t x =>
  rw [← hs]
  simp only [stp, h x (by simp)]
  have hx := hm x (by simp)
  generalize ev E σ x = r at hx
  unfold load
  split
  ·rw [cellsAt_congr hx]
  ·rfl
 case fieldAddr s x f =>
  rw [← hs]
  simp only [stp, h x (by simp)]
  have hx := hm x (by simp)
  generalize ev E σ x = r at hx
  unfold fieldAddr
  split
  ·split
   ·split
    ·rfl
    ·split
     ·rename_i id v off
      rw [(hx id (by simp [topIds])).2]
     ·rfl
     ·rfl
   ·rfl
  ·rfl
 case indexAddr t x y =>
  rw [← hs]
  simp only [stp, h x (by simp), h y (by simp)]
  have hx := hm x (by simp)
  generalize ev E σ x = r at hx
  unfold indexAddr
  split
  ·obtain ⟨h1, h2⟩ := hx _ (List.mem_singleton.2 rfl)
   simp only [h1, h2]
  ·unfold indexAddrC
   split
   ·rfl
   ·have hx' := (hx _ (List.mem_singleton.2 rfl)).2
    simp only [hx']
   ·rfl
   ·rfl
 case lookup t x y ok =>
  rw [← hs]
  simp only [stp, h x (by simp), h y (by simp)]
  have hx := hm x (by simp)
  generalize ev E σ x = r at hx
  unfold lookup
  split
  ·rename_i id v _
   obtain ⟨h1, h2⟩ := hx id (by simp [topIds])
   simp only [h1, h2]
  ·rfl
  ·rfl
 case alloc t =>
  simp only [stp] at hs ⊢
  unfold alloc at hs ⊢
  split at hs
  ·rename_i r hr
   split at hs
   ·rename_i hwt
    split at hs
    ·rename_i hwb
     unfold newObj at hs
     injection hs with hs; injection hs with h1 h2
     subst h2
     have e2 : σ'.ver (nth (dOf ⟨dst, .alloc t, type, pos, after, guard⟩) 0) = σ.ver (nth (dOf ⟨dst, .alloc t, type, pos, after, guard⟩) 0) := hk _ (by simp [keysOf])
     simp only [hwt, hwb, if_true, newObj, e2, h1]
    ·cases hs
   rename_i hwt
   rw [if_neg hwt]
   split at hs
   ·rename_i cs hc
    unfold newObj at hs
    injection hs with hs; injection hs with h1 h2
    subst h2
    have e1 : ownRV E σ'.tk t _ r = ownRV E σ.tk t _ r := ownRV_toks (d := dOf ⟨dst, .alloc t, type, pos, after, guard⟩) ht
    have e2 : σ'.ver (nth (dOf ⟨dst, .alloc t, type, pos, after, guard⟩) 0) = σ.ver (nth (dOf ⟨dst, .alloc t, type, pos, after, guard⟩) 0) := hk _ (by simp [keysOf])
    simp only [e1, hc, newObj, e2, h1]
   ·cases hs
  ·cases hs
 case box t x =>
  simp only [stp, h x (by simp)] at hs ⊢
  unfold boxOp at hs ⊢
  split at hs
  ·rename_i cs hc
   unfold newObj at hs
   injection hs with hs; injection hs with h1 h2
   subst h2
   have e1 : ownRV E σ'.tk t _ (ev E σ x) = ownRV E σ.tk t _ (ev E σ x) := ownRV_toks (d := dOf ⟨dst, .box t x, type, pos, after, guard⟩) ht
   have e2 : σ'.ver (nth (dOf ⟨dst, .box t x, type, pos, after, guard⟩) 0) = σ.ver (nth (dOf ⟨dst, .box t x, type, pos, after, guard⟩) 0) := hk _ (by simp [keysOf])
   simp only [e1, hc, newObj, e2, h1]
  ·cases hs
 case build t ps =>
  simp only [stp, map_parts ps.toList (by simpa using h)] at hs ⊢
  unfold build at hs ⊢
  split at hs
  ·split at hs
   ·cases hs
   ·rename_i hn
    split at hs
    ·rename_i cs hc
     injection hs with hs; injection hs with h1 h2
     subst h2
     have e1 : ownRV E σ'.tk t _ (.agg cs) = ownRV E σ.tk t _ (.agg cs) := ownRV_toks (d := dOf ⟨dst, .build t ps, type, pos, after, guard⟩) ht
     subst h1
     rw [if_neg hn]
     simp only [e1, hc]
    ·cases hs
  ·split at hs
   ·cases hs
   ·rename_i hn
    split at hs
    ·rename_i cs hc
     injection hs with hs; injection hs with h1 h2
     subst h2
     have e1 : ownRV E σ'.tk t _ (.agg cs) = ownRV E σ.tk t _ (.agg cs) := ownRV_toks (d := dOf ⟨dst, .build t ps, type, pos, after, guard⟩) ht
     subst h1
     rw [if_neg hn]
     simp only [e1, hc]
    ·cases hs
  ·cases hs
 case buildSlice t n ps =>
  simp only [stp, map_parts ps.toList (by simpa using h)] at hs ⊢
  unfold buildSlice at hs ⊢
  split at hs
  ·split at hs
   ·split at hs
    ·rename_i hlen
     split at hs
     ·rename_i xs hx
      injection hs with hs; injection hs with h1 h2
      subst h2; subst h1
      rw [if_pos hlen]
      have e1 : σ'.tk (nth (dOf ⟨dst, .buildSlice t n ps, type, pos, after, guard⟩) 0) = σ.tk (nth (dOf ⟨dst, .buildSlice t n ps, type, pos, after, guard⟩) 0) := ht _ (by simp [toksOf])
      simp only [e1]
     ·cases hs
    ·cases hs
   ·cases hs
  ·cases hs
 case convert s t x =>
  simp only [stp, h x (by simp)] at hs ⊢
  have hx := hm x (by simp)
  generalize ev E σ x = r at hs hx ⊢
  have conv : ∀ a : RV E.A, convert E σ.tk (dOf ⟨dst, .convert s t x, type, pos, after, guard⟩) s t a = some (g, δ) → convert E σ'.tk (dOf ⟨dst, .convert s t x, type, pos, after, guard⟩) s t a = some (g, δ) := by
   intro a ha
   by_cases hu : ∃ e u, und E s = some .string ∧ und E t = some (.slice e) ∧ a = .lf (.str u)
   ·obtain ⟨e, u, h1, h2, rfl⟩ := hu
    unfold convert at ha ⊢
    rw [h1, h2] at ha ⊢
    simp only at ha ⊢
    split at ha
    ·split at ha
     ·rename_i hkey
      injection ha with ha; injection ha with q1 q2
      subst q2; subst q1
      rw [if_pos hkey]
      have e1 : σ'.tk (nth (dOf ⟨dst, .convert s t x, type, pos, after, guard⟩) 0) = σ.tk (nth (dOf ⟨dst, .convert s t x, type, pos, after, guard⟩) 0) := ht _ (by simp [toksOf])
      simp only [e1]
     ·cases ha
    ·cases ha
   ·rw [convert_tk (tk := σ.tk) (tk' := σ'.tk) (fun e u h1 h2 h3 => hu ⟨e, u, h1, h2, h3⟩)]
    exact ha
  split at hs
  ·rename_i i v o
   obtain ⟨h1, h2⟩ := hx i (by simp [topIds])
   rw [convPtr_congr h1 h2]; exact hs
  ·split at hs
   ·unfold convMark at hs ⊢
    split at hs
    ·rename_i hc
     injection hs with hs; injection hs with h1 h2
     subst h2
     rw [ht _ (List.mem_singleton.2 rfl), if_pos hc, h1]
    ·cases hs
   ·exact conv _ hs
  ·exact conv _ hs
theorem stpB_slots {σ σ' : St E.A} {o : Oper} (hd : drawable o.op = true) (h : ∀ x ∈ o.op.operands.toList, ev E σ' x = ev E σ x) (hver : σ'.ver = σ.ver) : stpB E σ' o = stpB E σ o := by
 obtain ⟨dst, op, type, pos, after, guard⟩ := o
 cases op <;> simp [drawable, simple] at hd <;> simp only [Op.operands] at h <;> try rfl
 case move x => simp only [stpB, h x (by simp), hver]
 case assign x => simp only [stpB, h x (by simp), hver]
 case build t ps => simp only [stpB, map_parts ps.toList (by simpa using h), hver]
theorem calleeOf_spec {o : Oper} {f : Operand} {c : Call} (h : calleeOf o = some (f, c)) : o.op = .call c ∧ c.callee = .value f := by
 unfold calleeOf at h
 split at h
 ·rename_i c' hc'
  split at h
  ·rename_i f' hf'
   injection h with h; injection h with h1 h2
   subst h1; subst h2
   exact ⟨hc', hf'⟩
  ·cases h
 ·cases h
theorem stpT_slots {Γ : FuncId → Option (Spec E)} {σ σ' : St E.A} {o : Oper} (hd : drawable o.op = true) (h : ∀ x ∈ o.op.operands.toList, ev E σ' x = ev E σ x) (hob : σ'.ob = σ.ob) (hver : σ'.ver = σ.ver) (htk : σ'.tk = σ.tk) : stpT E Γ σ' o = stpT E Γ σ o := by
 unfold stpT
 split
 ·rename_i f c hco
  obtain ⟨h1, h2⟩ := calleeOf_spec hco
  rw [h1] at h
  simp only [Op.operands] at h
  have hargs : ∀ x ∈ c.args.toList, ev E σ' x = ev E σ x := fun x hx => h x (by simp [Call.operands]; exact .inr (by simpa using hx))
  rw [map_ev c.args.toList hargs, h f (by simp [Call.operands, h2])]
  obtain ⟨sl', ob', ver', tk'⟩ := σ'
  obtain ⟨sl, ob, ver, tk⟩ := σ
  simp only at hob hver htk
  subst hob; subst hver; subst htk
  simp only [callOp_slots sl sl']
 ·rw [stp_slots hd h hob hver htk, stpB_slots hd h hver]
theorem toT_get {x : Out E} {δ : Delta E.A} (h : (toT E x).get = some δ) : x = some (true, δ) := by
 unfold toT at h
 split at h
 ·rename_i g δ'
  cases g with
  | true =>
   have e : δ' = δ := by simpa [Tree.get, Tree.run] using h
   rw [e]
  | false => simp [Tree.get, Tree.run] at h
 ·cases h
theorem stpB_near {σ σ' : St E.A} {o : Oper} (h : ∀ x ∈ o.op.operands.toList, ev E σ' x = ev E σ x) {g : Bool} {δ : Delta E.A} (hs : stpB E σ o = some (g, δ)) (hk : ∀ id ∈ keysOf E δ, σ'.ver id = σ.ver id) : stpB E σ' o = some (g, δ) := by
 obtain ⟨dst, op, type, pos, after, guard⟩ := o
 cases op <;> simp only [Op.operands] at h <;> try (simp [stpB] at hs; done)
 case move x =>
  simp only [stpB, h x (by simp)] at hs ⊢
  injection hs with hs; injection hs with h1 h2
  subst h2; subst h1
  rw [bufRV_keys hk]
 case assign x =>
  simp only [stpB, h x (by simp)] at hs ⊢
  injection hs with hs; injection hs with h1 h2
  subst h2; subst h1
  rw [bufRV_keys hk]
 case build t ps =>
  simp only [stpB, map_parts ps.toList (by simpa using h)] at hs ⊢
  split at hs
  ·rename_i cs hc
   injection hs with hs; injection hs with h1 h2
   subst h2; subst h1
   rw [bufRV_keys (d := dOf ⟨dst, .build t ps, type, pos, after, guard⟩) (r := .agg cs) hk]
  ·cases hs
theorem noId_leafs (ver : Nat → Nat) : ∀ (ls : List (Leaf E.A)), ls.all (noIdLeaf E) = true → leafsIds E ver ls = []
 | [], _ => rfl
 | l :: ls, h => by
  simp only [List.all_cons, Bool.and_eq_true] at h
  rw [leafsIds, noId_leafs ver ls h.2]
  cases l <;> first | rfl | (exfalso; exact Bool.noConfusion h.1)
theorem reach_none (σ : St E.A) : reach E σ 12 0 [] = [] := rfl
theorem inward_none (σ σ' : St E.A) : inward E σ' [] [] = inward E σ [] [] := by
 funext l
 cases l <;> simp [inward]
theorem outward_bare {σ σ' : St E.A} {d : Nat} {ids toks : List Nat} : ∀ (ls : List (Leaf E.A)), (mapLeafs E (outward E σ d ids toks) ls).all (bareLeaf E) = true → mapLeafs E (outward E σ' d ids toks) ls = mapLeafs E (outward E σ d ids toks) ls
 | [], _ => rfl
 | l :: ls, h => by
  rw [mapLeafs] at h ⊢
  simp only [List.all_cons, Bool.and_eq_true] at h
  rw [mapLeafs, outward_bare ls h.2]
  congr 1
  cases l <;> first | rfl | (exfalso; exact Bool.noConfusion h.1)
theorem outwardT_bare {σ σ' : St E.A} {d : Nat} {ids toks : List Nat} : ∀ (vs : List (Bool × List (Leaf E.A))), ((vs.map fun x => (x.1, mapLeafs E (outward E σ d ids toks) x.2)).flatMap (·.2)).all (bareLeaf E) = true →
  (vs.map fun x => (x.1, mapLeafs E (outward E σ' d ids toks) x.2)) = vs.map fun x => (x.1, mapLeafs E (outward E σ d ids toks) x.2)
 | [], _ => rfl
 | v :: vs, h => by
  simp only [List.map_cons, List.flatMap_cons, List.all_append, Bool.and_eq_true] at h
  simp only [List.map_cons]
  rw [outward_bare v.2 h.1, outwardT_bare vs h.2]
theorem outwardRV_bare {σ σ' : St E.A} {d : Nat} {ids toks : List Nat} (r : RV E.A) (h : bareRV E (mapRV E (outward E σ d ids toks) r) = true) : mapRV E (outward E σ' d ids toks) r = mapRV E (outward E σ d ids toks) r := by
 unfold bareRV at h
 cases r with
 | lf l =>
  have h' : (mapLeafs E (outward E σ d ids toks) [l]).all (bareLeaf E) = true := h
  have := outward_bare (σ' := σ') [l] h'
  simp only [mapLeafs] at this
  injection this with h1 _
  simp only [mapRV, h1]
 | agg cs => simp only [mapRV]; rw [outward_bare cs h]
 | tup vs => simp only [mapRV]; rw [outwardT_bare vs h]
 | undef => rfl
theorem callOp_near {σ σ' : St E.A} {d : Nat} {spec : Spec E} {args : List (RV E.A)} (hn : args.all (noIdRV E) = true) {δ : Delta E.A} (hs : (callOp E σ d spec args).get = some δ) (hq : quiet E δ = true) (hb : bareRV E δ.val = true) :
  (callOp E σ' d spec args).get = some δ := by
 have ids : ∀ σ : St E.A, addNew [] (args.flatMap fun r => leafsIds E σ.ver (rvLeafs E r)) = [] := by
  intro σ
  have : (args.flatMap fun r => leafsIds E σ.ver (rvLeafs E r)) = [] := by
   rw [List.flatMap_eq_nil_iff]
   exact fun r hr => noId_leafs _ _ (List.all_eq_true.1 hn r hr)
  rw [this]; rfl
 unfold callOp at hs ⊢
 simp only [ids, reach_none, getObs, List.map_nil, List.flatMap_nil, addNew] at hs ⊢
 rw [inward_none σ σ']
 obtain ⟨x, hx, hs⟩ := Tree.bind_get hs
 have hx' : ∀ f : RV E.A × List (Obj E.A) → Tree (Delta E.A), ((spec (args.map (mapRV E (inward E σ [] []))) []).bind f).get = (f x).get := by
  intro f
  generalize spec (args.map (mapRV E (inward E σ [] []))) [] = t at hx
  induction t with
  | leaf a => injection hx with hx; subst hx; rfl
  | ite b t e iht ihe =>
   cases b with
   | true => exact iht hx
   | false => exact ihe hx
  | fail => cases hx
 rw [hx']
 split at hs
 ·rename_i hc
  injection hs with hs
  subst hs
  have hq' : obsOut E σ d [] [] 0 x.2 = [] ∧ (addNew (List.range ([] : List Nat).length) (allToks E x.1 x.2)).map (fun i => outTok E σ d [] i) = [] := by simpa [quiet] using hq
  obtain ⟨q1, q2⟩ := hq'
  have e1 : x.2 = [] := by
   cases h2 : x.2 with
   | nil => rfl
   | cons o os => rw [h2] at q1; cases q1
  have e2 : addNew (List.range ([] : List Nat).length) (allToks E x.1 x.2) = [] := List.map_eq_nil_iff.1 q2
  rw [if_pos hc, outwardRV_bare x.1 hb]
  simp only [List.length_nil, List.range_zero] at e2 ⊢
  rw [e2, e1]
  rfl
 ·cases hs
theorem stpT_near {Γ : FuncId → Option (Spec E)} {σ σ' : St E.A} {o : Oper} {δ : Delta E.A} (hd : near E o.op (opIds E σ o, δ) = true) (h : ∀ x ∈ o.op.operands.toList, ev E σ' x = ev E σ x)
  (hm : ∀ id ∈ opIds E σ o, σ'.ob id = σ.ob id ∧ σ'.ver id = σ.ver id) (hs : (stpT E Γ σ o).get = some δ)
  (hk : ∀ id ∈ keysOf E δ, σ'.ver id = σ.ver id) (ht : ∀ t ∈ toksOf E δ, σ'.tk t = σ.tk t) : (stpT E Γ σ' o).get = some δ := by
 have hm' : ∀ x ∈ o.op.operands.toList, ∀ id ∈ topIds E (ev E σ x), σ'.ob id = σ.ob id ∧ σ'.ver id = σ.ver id := fun x hx id hid => hm id (List.mem_append_left _ (List.mem_flatMap.2 ⟨x, hx, hid⟩))
 unfold stpT at hs ⊢
 cases hco : calleeOf o with
 | none =>
  rw [hco] at hs
  simp only at hs ⊢
  have hS : nearS o.op = true := by
   unfold near at hd
   unfold nearS
   cases hsi : simple o.op with
   | true => rfl
   | false =>
    rw [hsi] at hd
    simp only [Bool.false_or] at hd ⊢
    unfold calleeOf at hco
    generalize o.op = op at hd hco ⊢
    cases op <;> first | rfl | exact hd | skip
    rename_i c
    cases hc : c.callee <;> simp [hc] at hd hco
  have hs := toT_get hs
  split at hs
  ·rename_i hb
   rw [if_pos hb, stpB_near h hs hk]; rfl
  ·rename_i hb
   rw [if_neg hb, stp_near hS h hm' hs hk ht]; rfl
 | some fc =>
  obtain ⟨f, c⟩ := fc
  obtain ⟨h1, h2⟩ := calleeOf_spec hco
  have hev := h
  rw [h1] at hev
  simp only [Op.operands] at hev
  have hargs : ∀ x ∈ c.args.toList, ev E σ' x = ev E σ x := fun x hx => hev x (by simp [Call.operands]; exact .inr (by simpa using hx))
  have hd' : nope ∉ opIds E σ o ∧ quiet E δ = true ∧ bareRV E δ.val = true := by
   unfold near at hd
   rw [h1] at hd
   simp only [simple, h2, Bool.false_or, Bool.and_eq_true, Bool.not_eq_true', List.contains_eq_mem, decide_eq_false_iff_not] at hd
   exact ⟨hd.1.1, hd.1.2, hd.2⟩
  have hfar : nope ∉ farIds E σ o := fun hx => hd'.1 (List.mem_append_right _ hx)
  unfold farIds at hfar
  rw [hco] at hfar hs
  simp only at hfar hs ⊢
  rw [map_ev c.args.toList hargs, hev f (by simp [Call.operands, h2])]
  split at hs
  ·rename_i g cap hcap
   rw [hcap] at hfar
   simp only at hfar ⊢
   cases hg : Γ g with
   | none => rw [hg] at hs; cases hs
   | some spec =>
    rw [hg] at hs
    simp only at hs ⊢
    cases hall : (coeArgs E c.argTypes.toList (c.args.toList.map (ev E σ)) ++ cap.map RV.lf).all (noIdRV E) with
    | true => exact callOp_near hall hs hd'.2.1 hd'.2.2
    | false =>
     rw [hall] at hfar
     exact absurd (List.mem_singleton.2 rfl) hfar
  ·cases hs
end
end Go.Vx
namespace Go.Vx
open Go
section
variable {Key : Type} [DecidableEq Key]
variable {E : Env Key} {G G' Gc : Gh} {w w' : World}
abbrev Chg (E : Env Key) := Option Tmp × Delta E.A
def ap (xs : List (Chg E)) (i : Nat) (σ : St E.A) : St E.A := match xs[i]? with | some x => σ.apply E x.1 x.2 | none => σ
def stN (xs : List (Chg E)) (S : Nat → Bool) : Nat → St E.A → St E.A
 | 0, σ => σ
 | n + 1, σ => if S n then ap xs n (stN xs S n σ) else stN xs S n σ
theorem stN_succ (xs : List (Chg E)) (S : Nat → Bool) (n : Nat) (σ : St E.A) : stN xs S (n + 1) σ = if S n then ap xs n (stN xs S n σ) else stN xs S n σ := rfl
theorem put_len (d : Option Tmp) (r : RV E.A) (sl : List (RV E.A)) : (put E d r sl).length = sl.length := by cases d <;> simp [put]
theorem apply_len (σ : St E.A) (d : Option Tmp) (δ : Delta E.A) : (σ.apply E d δ).sl.length = σ.sl.length := put_len _ _ _
theorem ap_len (xs : List (Chg E)) (i : Nat) (σ : St E.A) : (ap xs i σ).sl.length = σ.sl.length := by
 unfold ap; split
 ·exact apply_len _ _ _
 ·rfl
theorem stN_len (xs : List (Chg E)) (S : Nat → Bool) (σ : St E.A) : ∀ n, (stN xs S n σ).sl.length = σ.sl.length
 | 0 => rfl
 | n + 1 => by
  rw [stN_succ]; split
  ·rw [ap_len, stN_len xs S σ n]
  ·exact stN_len xs S σ n
theorem put_getD (d : Option Tmp) (r : RV E.A) (sl : List (RV E.A)) (t : Nat) : (put E d r sl).getD t .undef = if d = some t ∧ t < sl.length then r else sl.getD t .undef := by
 cases d with
 | none => simp [put]
 | some d =>
  simp only [put, List.getD, List.getElem?_set, Option.some.injEq]
  by_cases h : d = t
  ·subst h
   by_cases hl : d < sl.length
   ·simp [hl]
   ·simp [hl]
  ·simp [h]
theorem stN_slot {xs : List (Chg E)} {S T : Nat → Bool} {σ : St E.A} {t : Nat} : ∀ n, (∀ j, j < n → ∀ x, xs[j]? = some x → x.1 = some t → S j = T j) → (stN xs S n σ).sl.getD t .undef = (stN xs T n σ).sl.getD t .undef
 | 0, _ => rfl
 | n + 1, h => by
  have ih := stN_slot (S := S) (T := T) (σ := σ) n (fun j hj => h j (by omega))
  have hlen : (stN xs S n σ).sl.length = (stN xs T n σ).sl.length := by rw [stN_len, stN_len]
  have one : ∀ S : Nat → Bool, (∀ x, xs[n]? = some x → x.1 ≠ some t) → (stN xs S (n + 1) σ).sl.getD t .undef = (stN xs S n σ).sl.getD t .undef := by
   intro S hx
   simp only [stN_succ]
   split
   ·unfold ap
    split
    ·rename_i x hxe
     simp only [St.apply]
     rw [put_getD, if_neg (fun hc => hx x hxe hc.1)]
    ·rfl
   ·rfl
  by_cases hx : ∃ x, xs[n]? = some x ∧ x.1 = some t
  ·obtain ⟨x, hx, ht⟩ := hx
   have hs := h n (by omega) x hx ht
   simp only [stN_succ]
   rw [hs]
   split
   ·unfold ap
    rw [hx]
    simp only [St.apply]
    rw [put_getD, put_getD, ih, hlen]
   ·exact ih
  ·rw [one S (fun x hxe hc => hx ⟨x, hxe, hc⟩), one T (fun x hxe hc => hx ⟨x, hxe, hc⟩), ih]
theorem updObs_at {l : List (Nat × Nat × Obj E.A)} {ob ob' : Nat → Option (Obj E.A)} {id : Nat} (h : ob id = ob' id) : updObs E l ob id = updObs E l ob' id := by
 unfold updObs
 induction l generalizing ob ob' with
 | nil => exact h
 | cons x l ih => exact ih (by simp only [upd]; rw [h])
theorem updVer_at {l : List (Nat × Nat × Obj E.A)} {ob ob' : Nat → Nat} {id : Nat} (h : ob id = ob' id) : updVer E l ob id = updVer E l ob' id := by
 unfold updVer
 induction l generalizing ob ob' with
 | nil => exact h
 | cons x l ih => exact ih (by simp only [upd]; rw [h])
theorem updObs_notin {l : List (Nat × Nat × Obj E.A)} {ob : Nat → Option (Obj E.A)} {id : Nat} (h : id ∉ l.map (·.1)) : updObs E l ob id = ob id := by
 unfold updObs
 induction l generalizing ob with
 | nil => rfl
 | cons x l ih =>
  simp only [List.map_cons, List.mem_cons, not_or] at h
  exact (ih h.2).trans (by simp only [upd]; exact if_neg h.1)
theorem updVer_notin {l : List (Nat × Nat × Obj E.A)} {ob : Nat → Nat} {id : Nat} (h : id ∉ l.map (·.1)) : updVer E l ob id = ob id := by
 unfold updVer
 induction l generalizing ob with
 | nil => rfl
 | cons x l ih =>
  simp only [List.map_cons, List.mem_cons, not_or] at h
  exact (ih h.2).trans (by simp only [upd]; exact if_neg h.1)
theorem stN_mem {xs : List (Chg E)} {S T : Nat → Bool} {σ : St E.A} {id : Nat} : ∀ n, (∀ j, j < n → S j = T j ∨ ∀ x, xs[j]? = some x → id ∉ keysOf E x.2) → (stN xs S n σ).ob id = (stN xs T n σ).ob id ∧ (stN xs S n σ).ver id = (stN xs T n σ).ver id
 | 0, _ => ⟨rfl, rfl⟩
 | n + 1, h => by
  have ih := stN_mem (S := S) (T := T) (σ := σ) n (fun j hj => h j (by omega))
  rcases h n (by omega) with hs | hx
  ·simp only [stN_succ]
   rw [hs]
   split
   ·unfold ap
    split
    ·simp only [St.apply]
     exact ⟨updObs_at ih.1, updVer_at ih.2⟩
    ·exact ih
   ·exact ih
  ·have one : ∀ S : Nat → Bool, (stN xs S (n + 1) σ).ob id = (stN xs S n σ).ob id ∧ (stN xs S (n + 1) σ).ver id = (stN xs S n σ).ver id := by
    intro S
    simp only [stN_succ]
    split
    ·unfold ap
     split
     ·rename_i x hxe
      simp only [St.apply]
      exact ⟨updObs_notin (hx x hxe), updVer_notin (hx x hxe)⟩
     ·exact ⟨rfl, rfl⟩
    ·exact ⟨rfl, rfl⟩
   rw [(one S).1, (one S).2, (one T).1, (one T).2]
   exact ih
theorem updTk_of {l : List (Nat × Nat)} {tk tk' : Nat → Nat} {i : Nat} (h : tk i = tk' i) : updTk l tk i = updTk l tk' i := by
 unfold updTk
 induction l generalizing tk tk' with
 | nil => exact h
 | cons x l ih => exact ih (by simp only [upd]; rw [h])
theorem updTk_out {l : List (Nat × Nat)} {tk : Nat → Nat} {i : Nat} (h : i ∉ l.map (·.1)) : updTk l tk i = tk i := by
 unfold updTk
 induction l generalizing tk with
 | nil => rfl
 | cons x l ih =>
  simp only [List.map_cons, List.mem_cons, not_or] at h
  exact (ih h.2).trans (by simp only [upd]; exact if_neg h.1)
theorem stN_tok {xs : List (Chg E)} {S T : Nat → Bool} {σ : St E.A} {i : Nat} : ∀ n, (∀ j, j < n → S j = T j ∨ ∀ x, xs[j]? = some x → i ∉ toksOf E x.2) → (stN xs S n σ).tk i = (stN xs T n σ).tk i
 | 0, _ => rfl
 | n + 1, h => by
  have ih := stN_tok (S := S) (T := T) (σ := σ) n (fun j hj => h j (by omega))
  rcases h n (by omega) with hs | hx
  ·simp only [stN_succ]
   rw [hs]
   split
   ·unfold ap
    split
    ·simp only [St.apply]
     exact updTk_of ih
    ·exact ih
   ·exact ih
  ·have one : ∀ S : Nat → Bool, (stN xs S (n + 1) σ).tk i = (stN xs S n σ).tk i := by
    intro S
    simp only [stN_succ]
    split
    ·unfold ap
     split
     ·rename_i x hxe
      simp only [St.apply]
      exact updTk_out (hx x hxe)
     ·rfl
    ·rfl
   rw [one S, one T]
   exact ih
theorem quiet_spec {δ : Delta E.A} (h : quiet E δ = true) : δ.obs = [] ∧ δ.tks = [] := by simpa [quiet] using h
theorem apply_quiet {σ : St E.A} {d : Option Tmp} {δ : Delta E.A} (h : quiet E δ = true) : (σ.apply E d δ) = { σ with sl := put E d δ.val σ.sl } := by
 obtain ⟨h1, h2⟩ := quiet_spec h
 simp only [St.apply, h1, h2, updObs, updVer, updTk, List.foldl_nil]
theorem stN_same {xs : List (Chg E)} {S T : Nat → Bool} {σ : St E.A} : ∀ n, (∀ j, j < n → S j = T j ∨ ∀ x, xs[j]? = some x → quiet E x.2 = true) → (stN xs S n σ).ob = (stN xs T n σ).ob ∧ (stN xs S n σ).ver = (stN xs T n σ).ver ∧ (stN xs S n σ).tk = (stN xs T n σ).tk
 | 0, _ => ⟨rfl, rfl, rfl⟩
 | n + 1, h => by
  have ih := stN_same (S := S) (T := T) (σ := σ) n (fun j hj => h j (by omega))
  rcases h n (by omega) with hs | hx
  ·simp only [stN_succ]
   rw [hs]
   split
   ·unfold ap
    split
    ·simp only [St.apply, ih]
     exact ⟨trivial, trivial, trivial⟩
    ·exact ih
   ·exact ih
  ·have one : ∀ S : Nat → Bool, (stN xs S (n + 1) σ).ob = (stN xs S n σ).ob ∧ (stN xs S (n + 1) σ).ver = (stN xs S n σ).ver ∧ (stN xs S (n + 1) σ).tk = (stN xs S n σ).tk := by
    intro S
    simp only [stN_succ]
    split
    ·unfold ap
     split
     ·rename_i x hxe
      rw [apply_quiet (hx x hxe)]
      exact ⟨rfl, rfl, rfl⟩
     ·exact ⟨rfl, rfl, rfl⟩
    ·exact ⟨rfl, rfl, rfl⟩
   rw [(one S).1, (one S).2.1, (one S).2.2, (one T).1, (one T).2.1, (one T).2.2]
   exact ih
theorem stN_congr {xs : List (Chg E)} {S T : Nat → Bool} {σ : St E.A} : ∀ n, (∀ j, j < n → S j = T j) → stN xs S n σ = stN xs T n σ
 | 0, _ => rfl
 | n + 1, h => by simp only [stN_succ]; rw [h n (by omega), stN_congr n (fun j hj => h j (by omega))]
theorem stN_cut {xs : List (Chg E)} {σ : St E.A} {i : Nat} : ∀ n, i ≤ n → stN xs (fun j => decide (j < i)) n σ = stN xs (fun _ => true) i σ
 | 0, h => by
  have : i = 0 := by omega
  subst this; rfl
 | n + 1, h => by
  rcases Nat.lt_or_ge n i with h1 | h1
  ·have : i = n + 1 := by omega
   subst this
   exact stN_congr _ (fun j hj => by simp [hj])
  ·simp only [stN_succ]
   rw [if_neg (by simp; omega)]
   exact stN_cut n h1
theorem put_comm {c d : Option Tmp} (h : diffDst c d = true) (r s : RV E.A) (sl : List (RV E.A)) : put E c r (put E d s sl) = put E d s (put E c r sl) := by
 cases c <;> cases d <;> try rfl
 rename_i c d
 simp [diffDst] at h
 simp only [put]
 exact List.set_comm _ _ (Ne.symm h)
theorem apply_comm {x y : Chg E} (h : diffDst x.1 y.1 = true) (hq : quiet E x.2 = true ∨ quiet E y.2 = true) (σ : St E.A) : (σ.apply E x.1 x.2).apply E y.1 y.2 = (σ.apply E y.1 y.2).apply E x.1 x.2 := by
 have e : ∀ x y : Chg E, diffDst x.1 y.1 = true → quiet E x.2 = true → ∀ σ : St E.A, (σ.apply E x.1 x.2).apply E y.1 y.2 = (σ.apply E y.1 y.2).apply E x.1 x.2 := by
  intro x y h hq σ
  rw [apply_quiet hq, apply_quiet hq]
  simp only [St.apply]
  rw [put_comm h]
 rcases hq with hq | hq
 ·exact e x y h hq σ
 ·refine (e y x ?_ hq σ).symm
  generalize x.1 = a at h ⊢
  generalize y.1 = b at h ⊢
  cases a <;> cases b <;> try rfl
  simp [diffDst] at h ⊢
  exact fun e => h e.symm
theorem disj_mem {a b : List Nat} (h : disj a b = true) {i : Nat} (hi : i ∈ a) : i ∉ b := by
 unfold disj at h
 have := List.all_eq_true.1 h i hi
 simpa using this
def parted (x y : Delta E.A) : Prop := disj (keysOf E x) (keysOf E y) = true ∧ disj (toksOf E x) (toksOf E y) = true
theorem apply_comm2 {x y : Chg E} (h : diffDst x.1 y.1 = true) (hp : parted x.2 y.2) (σ : St E.A) : (σ.apply E x.1 x.2).apply E y.1 y.2 = (σ.apply E y.1 y.2).apply E x.1 x.2 := by
 obtain ⟨h1, h2⟩ := hp
 simp only [St.apply]
 have e1 : updObs E y.2.obs (updObs E x.2.obs σ.ob) = updObs E x.2.obs (updObs E y.2.obs σ.ob) := by
  funext i
  by_cases hi : i ∈ keysOf E x.2
  ·rw [updObs_notin (disj_mem h1 hi)]
   exact updObs_at (updObs_notin (disj_mem h1 hi)).symm
  ·rw [updObs_notin (l := x.2.obs) hi]
   exact updObs_at (updObs_notin hi)
 have e2 : updVer E y.2.obs (updVer E x.2.obs σ.ver) = updVer E x.2.obs (updVer E y.2.obs σ.ver) := by
  funext i
  by_cases hi : i ∈ keysOf E x.2
  ·rw [updVer_notin (disj_mem h1 hi)]
   exact updVer_at (updVer_notin (disj_mem h1 hi)).symm
  ·rw [updVer_notin (l := x.2.obs) hi]
   exact updVer_at (updVer_notin hi)
 have e3 : updTk y.2.tks (updTk x.2.tks σ.tk) = updTk x.2.tks (updTk y.2.tks σ.tk) := by
  funext i
  by_cases hi : i ∈ toksOf E x.2
  ·rw [updTk_out (disj_mem h2 hi)]
   exact updTk_of (updTk_out (disj_mem h2 hi)).symm
  ·rw [updTk_out (l := x.2.tks) hi]
   exact updTk_of (updTk_out hi)
 have h' : diffDst y.1 x.1 = true := by
  generalize x.1 = a at h ⊢
  generalize y.1 = b at h ⊢
  cases a <;> cases b <;> try rfl
  simp [diffDst] at h ⊢
  exact fun e => h e.symm
 rw [e1, e2, e3, put_comm h']
theorem stN_add {xs : List (Chg E)} {S : Nat → Bool} {σ : St E.A} {i : Nat} (hi : S i = false) : ∀ n, i < n → (∀ j, i < j → j < n → S j = true → ∀ x y, xs[i]? = some x → xs[j]? = some y → diffDst x.1 y.1 = true ∧ ((quiet E x.2 = true ∨ quiet E y.2 = true) ∨ parted x.2 y.2)) →
  stN xs (fun j => if j = i then true else S j) n σ = ap xs i (stN xs S n σ)
 | 0, h, _ => by omega
 | n + 1, h, hc => by
  rcases Nat.lt_or_ge i n with h1 | h1
  ·have ih := stN_add (σ := σ) hi n h1 (fun j a b => hc j a (by omega))
   simp only [stN_succ]
   rw [if_neg (by omega : ¬ n = i), ih]
   cases hs : S n with
   | false => rfl
   | true =>
    simp only [if_true]
    unfold ap
    cases hx : xs[i]? with
    | none => rfl
    | some x =>
     cases hy : xs[n]? with
     | none => rfl
     | some y =>
      obtain ⟨h2, h3⟩ := hc n h1 (by omega) hs x y hx hy
      rcases h3 with h3 | h3
      ·exact apply_comm h2 h3 _
      ·exact apply_comm2 h2 h3 _
  ·have : i = n := by omega
   subst this
   simp only [stN_succ]
   simp only [if_true, hi, Bool.false_eq_true, if_false]
   rw [stN_congr (S := fun j => if j = i then true else S j) (T := S) i (fun j hj => if_neg (by omega))]
def predsOf (o : Oper) (acc : List (List Nat)) : List Nat := addNew [] ((o.after.toList.filter (Region.binds .any)).flatMap fun e => e.on :: acc.getD e.on [])
theorem preds_keep : ∀ (l : List Oper) (acc : List (List Nat)) (j : Nat), j < acc.length → (preds l acc).getD j [] = acc.getD j []
 | [], _, _, _ => rfl
 | o :: l, acc, j, h => by
  simp only [preds]
  rw [preds_keep l _ j (by simp; omega)]
  simp only [List.getD]
  rw [List.getElem?_append_left h]
theorem preds_at : ∀ (l : List Oper) (acc : List (List Nat)) (i : Nat) (o : Oper), l[i]? = some o →
  ∃ acc', acc'.length = acc.length + i ∧ (∀ j, j < acc'.length → (preds l acc).getD j [] = acc'.getD j []) ∧ (preds l acc).getD (acc.length + i) [] = predsOf o acc'
 | [], _, i, _, h => by cases i <;> cases h
 | x :: l, acc, 0, o, h => by
  injection h with h; subst h
  refine ⟨acc, rfl, fun j hj => preds_keep _ _ _ hj, ?_⟩
  simp only [preds]
  rw [preds_keep l _ _ (by simp)]
  simp [predsOf]
 | x :: l, acc, i + 1, o, h => by
  simp only [preds]
  obtain ⟨acc', h1, h2, h3⟩ := preds_at l (acc ++ [predsOf x acc]) i o (by simpa using h)
  refine ⟨acc', by simp at h1; omega, h2, ?_⟩
  rw [← h3]
  simp only [List.length_append, List.length_singleton]
  congr 1
  omega
theorem preds_mem {ops : Array Oper} {i : Nat} {o : Oper} (ho : ops[i]? = some o) (x : Nat) : x ∈ (preds ops.toList []).getD i [] ↔ ∃ e ∈ o.after, Region.binds .any e = true ∧ (x = e.on ∨ (e.on < i ∧ x ∈ (preds ops.toList []).getD e.on [])) := by
 obtain ⟨acc', h1, h2, h3⟩ := preds_at ops.toList [] i o (by simpa using ho)
 simp only [List.length_nil, Nat.zero_add] at h1 h3
 rw [h3]
 unfold predsOf
 rw [addNew_mem]
 simp only [List.not_mem_nil, false_or, List.mem_flatMap, List.mem_filter, List.mem_cons, Array.mem_toList_iff]
 constructor
 ·rintro ⟨e, ⟨he, hb⟩, rfl | hx⟩
  ·exact ⟨e, he, hb, .inl rfl⟩
  ·rcases Nat.lt_or_ge e.on i with hl | hl
   ·exact ⟨e, he, hb, .inr ⟨hl, by rw [h2 _ (by omega)]; exact hx⟩⟩
   ·rw [List.getD, List.getElem?_eq_none (by omega)] at hx
    cases hx
 ·rintro ⟨e, he, hb, rfl | ⟨hl, hx⟩⟩
  ·exact ⟨e, ⟨he, hb⟩, .inl rfl⟩
  ·exact ⟨e, ⟨he, hb⟩, .inr (by rw [← h2 _ (by omega)]; exact hx)⟩
end
end Go.Vx
namespace Go.Vx
open Go
section
variable {Key : Type} [DecidableEq Key]
variable {E : Env Key} {G G' Gc : Gh} {w w' : World}
theorem upon_mono {P : Program} {o : Oper} {a : Act} {next next' : Act → World → Prop} {Q : Exit → Act → World → Prop} (h : ∀ a' w', next a' w' → next' a' w') {r : Result Next} (hu : o.upon P a next (fun _ _ _ => False) r) : o.upon P a next' Q r := by
 cases r with
 | ok n w' =>
  cases n <;> simp only [Oper.upon] at hu ⊢ <;> first | exact h _ _ hu | skip
  ·refine hu.mono (fun e w'' he => ?_)
   cases e with
   | returned v => exact h _ _ he
   | panicked c => exact he.elim
   | outgrown => obtain ⟨_, _, hf⟩ := he; exact hf.elim
  ·exact hu.mono (fun v w'' hv => h _ _ hv)
 | halt x w' =>
  cases x <;> simp only [Oper.upon] at hu
theorem Good.trans {σ σ' : St E.A} {a a1 a2 : Act} {G1 : Gh} {w1 w2 : World} (h1 : a1.defers = a.defers) (hf : Fr G w G1 w1 ∧ ∀ i b, i < 64 → G1.blk i = some b → G.blk i = some b) (h : Good E σ' a1 G1 w1 a2 w2) : Good E σ' a G w a2 w2 := by
 obtain ⟨h2, G2, h3, h4, h5⟩ := h
 exact ⟨h2.trans h1, G2, h3, hf.1.trans h4, fun i b hi hb => hf.2 i b hi (h5 i b hi hb)⟩
theorem setBool_rel {σ : St E.A} {tmps : Array Value} (hr : VRel E σ G w tmps) {d : Nat} {b : Bool} (hd : σ.sl.getD d .undef = .lf (.bool b)) : VRel E (setBool E σ d b) G w tmps := by
 refine ⟨⟨by simp [setBool, hr.s.1], fun i r hi => ?_⟩, hr.h, hr.ver, hr.cur⟩
 simp only [setBool, List.getElem?_set] at hi
 split at hi
 ·rename_i e; subst e
  split at hi
  ·rename_i hl
   injection hi with hi; subst hi
   refine hr.s.2 d _ ?_
   rw [List.getD, List.getElem?_eq_getElem hl] at hd
   rw [List.getElem?_eq_getElem hl]
   exact congrArg some hd
  ·exact absurd hi (by simp)
 ·exact hr.s.2 i r hi
theorem slot_val {σ : St E.A} {tmps : Array Value} (hr : VRel E σ G w tmps) {d : Nat} {r : RV E.A} (hd : σ.sl.getD d .undef = r) (hne : r ≠ .undef) : ∃ v, tmps[d]? = some v ∧ RRep E G w r v := by
 rcases Nat.lt_or_ge d σ.sl.length with h | h
 ·have h1 : σ.sl[d]? = some r := by
   rw [List.getElem?_eq_getElem h]
   rw [List.getD, List.getElem?_eq_getElem h] at hd
   exact congrArg some hd
  have h2 := hr.s.2 d r h1
  rw [hr.s.1] at h
  rw [Array.getD_eq_getD_getElem?, Array.getElem?_eq_getElem h] at h2
  exact ⟨tmps[d], Array.getElem?_eq_getElem h, h2⟩
 ·rw [List.getD, List.getElem?_eq_none h] at hd
  exact absurd hd.symm hne
theorem runOps_ok (hL : Laws E) {Γ : FuncId → Option (Spec E)} (hΓ : ∀ f spec, Γ f = some spec → Valid E f spec) {ops : Array Oper} {β : Type} {k : St E.A → Option β} {x : β} {Q : Exit → Act → World → Prop} :
  ∀ (l : List Oper) (is : List Nat), is.map (fun i => ops[i]?) = l.map some → ∀ (σ : St E.A) (G : Gh) (w : World) (a : Act), VRel E σ G w a.tmps → runOps E Γ ops k l σ = some x →
   (∀ σ' a' w', k σ' = some x → Good E σ' a G w a' w' → Q .normal a' w') → wpOps E.P ops Q is a w
 | [], is, hi, σ, G, w, a, hr, h, hQ => by
  have : is = [] := by cases is <;> simp at hi ⊢
  subst this
  simp only [runOps] at h
  exact hQ σ a w h ⟨rfl, G, hr, Fr.refl G w, fun _ _ _ h => h⟩
 | o :: l, is, hi, σ, G, w, a, hr, h, hQ => by
  match is, hi with
  | i :: is, hi =>
   simp only [List.map_cons, List.cons.injEq] at hi
   obtain ⟨ho, hi⟩ := hi
   simp only [wpOps, ho]
   have go : ∀ σ : St E.A, VRel E σ G w a.tmps → (match nilTest E σ o with
     | some (n, neg) =>
      cond (Nat.blt 0 n) (runOps E Γ ops k l (σ.apply E o.dst { val := .lf (.bool neg) }))
       (bothO (runOps E Γ ops k l (σ.apply E o.dst { val := .lf (.bool (!neg)) })) (runOps E Γ ops k l (σ.apply E o.dst { val := .lf (.bool neg) })))
     | none => (stpT E Γ σ o).run (fun δ => runOps E Γ ops k l (σ.apply E o.dst δ))) = some x → o.wp E.P a w (wpOps E.P ops Q is) Q := by
    intro σ hr h
    split at h
    ·rename_i n neg hnt
     obtain ⟨b, hb, hwp⟩ := nilTest_ok hr hnt
     have h' : runOps E Γ ops k l (σ.apply E o.dst { val := .lf (.bool (if b then !neg else neg)) }) = some x := by
      cases hn : Nat.blt 0 n with
      | true =>
       rw [hn] at h
       have : b = false := hb (by simpa [Nat.blt_eq] using hn)
       subst this
       exact h
      | false =>
       rw [hn] at h
       have := bothO_some h
       cases b with
       | true => exact this.1
       | false => exact this.2
     refine upon_mono (fun a' w' hg => ?_) hwp
     obtain ⟨h1, G', h2, h3⟩ := hg
     exact runOps_ok hL hΓ l is hi _ G' w' a' h2 h' (fun σ'' a'' w'' hk hg' => hQ σ'' a'' w'' hk (Good.trans (σ := σ) h1 h3 hg'))
    obtain ⟨δ, hs, h⟩ := Tree.run_some h
    refine upon_mono (fun a' w' hg => ?_) (stpT_ok hL hΓ hr hs)
    obtain ⟨h1, G', h2, h3⟩ := hg
    exact runOps_ok hL hΓ l is hi _ G' w' a' h2 h (fun σ'' a'' w'' hk hg' => hQ σ'' a'' w'' hk (Good.trans (σ := σ) h1 h3 hg'))
   have skip : ∀ σ : St E.A, VRel E σ G w a.tmps → runOps E Γ ops k l (σ.putv E o.dst (.tup [])) = some x → wpOps E.P ops Q is (a.put o.dst undef) w := by
    intro σ hr h
    have hr' : VRel E (σ.putv E o.dst (.tup [])) G w (a.put o.dst undef).tmps := ⟨hr.s.put (.undefVal _ _), hr.h, hr.ver, hr.cur⟩
    exact runOps_ok hL hΓ l is hi _ G w _ hr' h (fun σ'' a'' w'' hk hg' => hQ σ'' a'' w'' hk (Good.trans (σ := σ) (put_defers _ _ _) ⟨Fr.refl G w, fun _ _ _ h => h⟩ hg'))
   simp only [runOps] at h
   split at h
   ·rename_i hgd
    have hw : Region.wanted o (yielded ops a.tmps) = true := by unfold Region.wanted; rw [hgd]
    rw [if_pos hw]
    exact .inl (go σ hr h)
   ·rename_i j want hgd
    split at h
    ·cases h
    ·rename_i d hd
     have hy : ∀ v, a.tmps[d]? = some v → yielded ops a.tmps j = (match v with | .bool b => some b | _ => none) := by
      intro v hv
      unfold yielded
      rw [hd]
      simp only [Option.bind_some, hv]
      cases v <;> rfl
     split at h
     ·rename_i b hb
      obtain ⟨v, hv, hrep⟩ := slot_val hr hb (by simp)
      have := hrep.bool_inv
      subst this
      have hyb := hy _ hv
      simp only at hyb
      cases b with
      | true =>
       simp only [cond_true] at h
       have hr' := setBool_rel hr hb
       cases want with
       | true =>
        simp only [if_true] at h
        have hw : Region.wanted o (yielded ops a.tmps) = true := by unfold Region.wanted; rw [hgd]; simp [hyb]
        rw [if_pos hw]
        exact .inl (go _ hr' h)
       | false =>
        simp only [Bool.false_eq_true, if_false] at h
        have hw : ¬ Region.wanted o (yielded ops a.tmps) = true := by unfold Region.wanted; rw [hgd]; simp [hyb]
        rw [if_neg hw]
        exact skip _ hr' h
      | false =>
       simp only [cond_false] at h
       have hr' := setBool_rel hr hb
       cases want with
       | true =>
        simp only [if_true] at h
        have hw : ¬ Region.wanted o (yielded ops a.tmps) = true := by unfold Region.wanted; rw [hgd]; simp [hyb]
        rw [if_neg hw]
        exact skip _ hr' h
       | false =>
        simp only [Bool.false_eq_true, if_false] at h
        have hw : Region.wanted o (yielded ops a.tmps) = true := by unfold Region.wanted; rw [hgd]; simp [hyb]
        rw [if_pos hw]
        exact .inl (go _ hr' h)
     ·rename_i hb
      obtain ⟨v, hv, hrep⟩ := slot_val hr hb (by simp)
      obtain ⟨vs, rfl, hvs, _⟩ := hrep.tup_inv
      have hyb := hy _ hv
      simp only at hyb
      have hw : ¬ Region.wanted o (yielded ops a.tmps) = true := by unfold Region.wanted; rw [hgd]; simp [hyb]
      rw [if_neg hw]
      exact skip _ hr h
     ·cases h
end
end Go.Vx
namespace Go.Vx
open Go
def roundsS (W : Code → (Exit → Act → World → Prop) → Act → World → Prop) (c : Code) (Q : Exit → Act → World → Prop) : Nat → Act → World → Prop
 | 0, _, _ => False
 | n + 1, a, w => W c (Exit.then (roundsS W c Q n) Q) a w
structure Sys (P : Program) where
 W : Code → (Exit → Act → World → Prop) → Act → World → Prop
 mono : ∀ {c : Code} {Q Q' : Exit → Act → World → Prop} {a : Act} {w : World}, W c Q a w → (∀ e a w, Q e a w → Q' e a w) → W c Q' a w
 skip : ∀ {Q : Exit → Act → World → Prop} {a : Act} {w : World}, Q .normal a w → W .skip Q a w
 exit : ∀ {id : Nat} {Q : Exit → Act → World → Prop} {a : Act} {w : World}, Q (.exit id) a w → W (.exit id) Q a w
 ret : ∀ {Q : Exit → Act → World → Prop} {a : Act} {w : World}, Q .ret a w → W .ret Q a w
 seq : ∀ {x y : Code} {Q : Exit → Act → World → Prop} {a : Act} {w : World}, W x (Exit.then (W y Q) Q) a w → W (.seq x y) Q a w
 condT : ∀ {c : Operand} {x y : Code} {Q : Exit → Act → World → Prop} {a : Act} {w : World}, a.eval c = .bool true → W x Q a w → W (.cond c x y) Q a w
 condF : ∀ {c : Operand} {x y : Code} {Q : Exit → Act → World → Prop} {a : Act} {w : World}, a.eval c = .bool false → W y Q a w → W (.cond c x y) Q a w
 block : ∀ {id : Nat} {c : Code} {Q : Exit → Act → World → Prop} {a : Act} {w : World}, W c (Exit.inBlock id Q) a w → W (.block id c) Q a w
 rounds : ∀ {c : Code} {Q : Exit → Act → World → Prop} {a : Act} {w : World} (m : Nat), roundsS W c Q m a w → W (.loop c) Q a w
 region : ∀ {id : Nat} {ops : Array Oper} {Q : Exit → Act → World → Prop} {a : Act} {w : World}, ops.any isDefer = false → ¬ LetsOut Q → wpOps P ops Q (List.range ops.size) a w → W (.region id ops false) Q a w
 draw : ∀ {id : Nat} {ops : Array Oper} {Q : Exit → Act → World → Prop} {a : Act} {w : World}, ops.any isDefer = false → ¬ LetsOut Q → (∀ t, wpOps P ops Q (Region.schedule (P.follows .mixedOrders) ops t) a { w with drawn := w.drawn + 1 }) → W (.region id ops true) Q a w
 top : Prop
 topW : top → ∀ {c : Code} {Q : Exit → Act → World → Prop} {a : Act} {w : World}, c.wp P Q a w → W c Q a w
def wpSys (P : Program) : Sys P where
 W c Q a w := c.wp P Q a w
 mono := wp_mono
 skip := wp_skip
 exit := wp_exit
 ret := wp_ret
 seq := wp_seq
 condT := wp_cond_true
 condF := wp_cond_false
 block := wp_block
 rounds := fun {c Q a w} m h => wp_loop_rounds m (by
  have : ∀ m a w, roundsS (fun c Q a w => c.wp P Q a w) c Q m a w → Code.rounds P c Q m a w := by
   intro m
   induction m with
   | zero => exact fun _ _ h => h
   | succ m ih =>
    intro a w h
    rw [rounds_succ]
    refine wp_mono (show c.wp P (Exit.then (roundsS (fun c Q a w => c.wp P Q a w) c Q m) Q) a w from h) (fun e a w h => ?_)
    cases e with
    | normal => exact ih _ _ h
    | _ => exact h
  exact this m a w h)
 region := fun _ _ h => wp_region h
 draw := fun _ _ h => wp_region_draw h
 top := True
 topW := fun _ _ _ _ _ h => h
end Go.Vx
namespace Go.Vx
open Go
section
variable {Key : Type} [DecidableEq Key]
variable {E : Env Key} {G G' Gc : Gh} {w w' : World}
def wants (ops : Array Oper) (σ : St E.A) (o : Oper) : Option Bool :=
 match o.guard with
 | none => some true
 | some (j, want) =>
  match (ops[j]?).bind (·.dst) with
  | none => none
  | some d => match σ.sl.getD d .undef with | .lf (.bool b) => some (b == want) | .tup [] => some false | _ => none
def Does (Γ : FuncId → Option (Spec E)) (ops : Array Oper) (σ : St E.A) (o : Oper) (δ : Delta E.A) : Prop :=
 (wants ops σ o = some true ∧ (stpT E Γ σ o).get = some δ) ∨ (wants ops σ o = some false ∧ δ = skipD E)
def DoesE (Γ : FuncId → Option (Spec E)) (ops : Array Oper) (σ : St E.A) (o : Oper) (e : Ent E) : Prop :=
 (wants ops σ o = some true ∧ (stpT E Γ σ o).get = some e.2 ∧ e.1 = opIds E σ o) ∨ (wants ops σ o = some false ∧ e.2 = skipD E)
theorem setBool_self {σ : St E.A} {d : Nat} {b : Bool} (h : σ.sl.getD d .undef = .lf (.bool b)) : setBool E σ d b = σ := by
 have hl : d < σ.sl.length := by
  rcases Nat.lt_or_ge d σ.sl.length with h1 | h1
  ·exact h1
  ·rw [List.getD, List.getElem?_eq_none h1] at h; cases h
 rw [List.getD, List.getElem?_eq_getElem hl] at h
 simp only [Option.getD_some] at h
 unfold setBool
 rw [← h, List.set_getElem_self]
theorem wants_ok {ops : Array Oper} {σ : St E.A} {o : Oper} {tmps : Array Value} (hr : VRel E σ G w tmps) {b : Bool} (h : wants ops σ o = some b) : Region.wanted o (yielded ops tmps) = b := by
 unfold wants at h
 unfold Region.wanted
 split at h
 ·rename_i hg; injection h with h; subst h; rw [hg]
 ·rename_i j want hg
  rw [hg]
  split at h
  ·cases h
  ·rename_i d hd
   have hy : ∀ v, tmps[d]? = some v → yielded ops tmps j = (match v with | .bool b => some b | _ => none) := by
    intro v hv
    unfold yielded
    rw [hd]
    simp only [Option.bind_some, hv]
    cases v <;> rfl
   split at h
   ·rename_i c hc
    obtain ⟨v, hv, hrep⟩ := slot_val hr hc (by simp)
    have := hrep.bool_inv
    subst this
    have hyb := hy _ hv
    simp only at hyb
    injection h with h
    rw [← h]
    cases c <;> cases want <;> simp [hyb]
   ·rename_i hc
    obtain ⟨v, hv, hrep⟩ := slot_val hr hc (by simp)
    obtain ⟨vs, rfl, _, _⟩ := hrep.tup_inv
    have hyb := hy _ hv
    simp only at hyb
    injection h with h
    rw [← h]
    simp [hyb]
   ·cases h
theorem does_ok (hL : Laws E) {Γ : FuncId → Option (Spec E)} (hΓ : ∀ f spec, Γ f = some spec → Valid E f spec) {ops : Array Oper} {σ : St E.A} {o : Oper} {δ : Delta E.A} {a : Act} (hr : VRel E σ G w a.tmps) (hd : Does Γ ops σ o δ) {i : Nat} (ho : ops[i]? = some o) {Q : Exit → Act → World → Prop} {K : Act → World → Prop}
  (hK : ∀ a' w', Good E (σ.apply E o.dst δ) a G w a' w' → K a' w') : wpOp E.P ops Q i K a w := by
 unfold wpOp
 rw [ho]
 simp only
 rcases hd with ⟨h1, h2⟩ | ⟨h1, rfl⟩
 ·rw [if_pos (wants_ok hr h1)]
  exact .inl (upon_mono hK (stpT_ok hL hΓ hr h2))
 ·have := wants_ok hr h1
  rw [if_neg (by rw [this]; simp)]
  refine hK _ _ ⟨put_defers _ _ _, G, ⟨?_, hr.h, hr.ver, hr.cur⟩, Fr.refl G w, fun _ _ _ h => h⟩
  exact hr.s.put (.undefVal _ _)
theorem runOpsD_some {Γ : FuncId → Option (Spec E)} {ops : Array Oper} {β : Type} {k : List (Ent E) → St E.A → Option β} {x : β} :
  ∀ (l : List Oper) (es : List (Ent E)) (σ : St E.A), runOpsD E Γ ops k l es σ = some x →
   ∃ es', es'.length = l.length ∧ k (es ++ es') ((l.zip es').foldl (fun σ x => σ.apply E x.1.dst x.2.2) σ) = some x ∧
    ∀ (i : Nat) (o : Oper) (e : Ent E), l[i]? = some o → es'[i]? = some e → DoesE Γ ops (((l.zip es').take i).foldl (fun σ x => σ.apply E x.1.dst x.2.2) σ) o e
 | [], es, σ, h => ⟨[], rfl, by simpa [runOpsD] using h, fun i o e hi => by cases i <;> cases hi⟩
 | o :: l, es, σ, h => by
  have both : ∀ e : Ent E, DoesE Γ ops σ o e → runOpsD E Γ ops k l (es ++ [e]) (σ.apply E o.dst e.2) = some x →
    ∃ es', es'.length = (o :: l).length ∧ k (es ++ es') (((o :: l).zip es').foldl (fun σ x => σ.apply E x.1.dst x.2.2) σ) = some x ∧
    ∀ (i : Nat) (o' : Oper) (e : Ent E), (o :: l)[i]? = some o' → es'[i]? = some e → DoesE Γ ops ((((o :: l).zip es').take i).foldl (fun σ x => σ.apply E x.1.dst x.2.2) σ) o' e := by
   intro e hd h
   obtain ⟨es', h1, h2, h3⟩ := runOpsD_some l _ _ h
   refine ⟨e :: es', by simp [h1], by simpa using h2, fun i o' e' hi he => ?_⟩
   cases i with
   | zero => simp at hi he; subst hi; subst he; exact hd
   | succ i => exact h3 i o' e' (by simpa using hi) (by simpa using he)
  have go : wants ops σ o = some true → ∀ δ, (stpT E Γ σ o).get = some δ → runOpsD E Γ ops k l (es ++ [(opIds E σ o, δ)]) (σ.apply E o.dst δ) = some x → _ := fun hw δ hs h => both (opIds E σ o, δ) (.inl ⟨hw, hs, rfl⟩) h
  have skip : wants ops σ o = some false → runOpsD E Γ ops k l (es ++ [([], skipD E)]) (σ.apply E o.dst (skipD E)) = some x → _ := fun hw h => both ([], skipD E) (.inr ⟨hw, rfl⟩) h
  simp only [runOpsD] at h
  split at h
  ·rename_i hg
   obtain ⟨δ, hs, h⟩ := Tree.run_some h
   exact go (by unfold wants; rw [hg]) δ hs h
  ·rename_i j want hg
   split at h
   ·cases h
   ·rename_i d hd
    split at h
    ·rename_i b hb
     have hw : wants ops σ o = some (b == want) := by unfold wants; rw [hg]; simp only [hd, hb]
     cases b with
     | true =>
      simp only [cond_true, setBool_self hb] at h
      cases want with
      | true =>
       simp only [if_true] at h
       obtain ⟨δ, hs, h⟩ := Tree.run_some h
       exact go hw δ hs h
      | false => exact skip hw (by simpa using h)
     | false =>
      simp only [cond_false, setBool_self hb] at h
      cases want with
      | true => exact skip hw (by simpa using h)
      | false =>
       simp only [Bool.false_eq_true, if_false] at h
       obtain ⟨δ, hs, h⟩ := Tree.run_some h
       exact go hw δ hs h
    ·rename_i hb
     exact skip (by unfold wants; rw [hg]; simp only [hd, hb]) h
    ·cases h
theorem foldl_stN (ops : List Oper) (es : List (Ent E)) (hl : es.length = ops.length) (σ : St E.A) : ∀ i, i ≤ ops.length →
  ((ops.zip es).take i).foldl (fun σ x => σ.apply E x.1.dst x.2.2) σ = stN ((ops.zip es).map fun x => (x.1.dst, x.2.2)) (fun _ => true) i σ
 | 0, _ => rfl
 | i + 1, h => by
  have hlt : i < (ops.zip es).length := by simp [hl]; omega
  rw [stN_succ, if_pos rfl, ← foldl_stN ops es hl σ i (by omega), List.take_add_one, List.foldl_append]
  unfold ap
  rw [List.getElem?_map, List.getElem?_eq_getElem hlt]
  rfl
theorem wants_congr {ops : Array Oper} {σ σ' : St E.A} {o : Oper} (h : ∀ t ∈ o.looksAt ops, σ'.sl.getD t .undef = σ.sl.getD t .undef) : wants ops σ' o = wants ops σ o := by
 unfold wants
 split
 ·rfl
 ·rename_i j want hg
  split
  ·rfl
  ·rename_i d hd
   rw [h d (by unfold Oper.looksAt; rw [hg]; simp [hd])]
theorem pair_spec {ops : Array Oper} {pr : List (List Nat)} {es : List (Ent E)} {i j : Nat} (h : pairOK E ops pr es i j = true) {x y : Oper} {e f : Ent E} (hx : ops[i]? = some x) (hy : ops[j]? = some y) (he : es[i]? = some e) (hf : es[j]? = some f) :
  diffDst x.dst y.dst = true ∧ (i ∈ pr.getD j [] ∨ (x.apart ops y = true ∧ (((quiet E e.2 = true ∨ (quiet E f.2 = true ∧ simple y.op = true ∧ disj f.1 (keysOf E e.2) = true)) ∧ (quiet E f.2 = true ∨ (quiet E e.2 = true ∧ simple x.op = true ∧ disj e.1 (keysOf E f.2) = true))) ∨ apartOK E x.op y.op e f = true))) := by
 unfold pairOK at h
 rw [hx, hy, he, hf] at h
 simp only [Bool.and_eq_true, Bool.or_eq_true, List.contains_iff_mem, and_assoc] at h
 exact h
def farOf (o : Oper) (e : Ent E) (δ : Delta E.A) : Prop := near E o.op e = true ∧ disj e.1 (keysOf E δ) = true ∧ disj (keysOf E e.2) (keysOf E δ) = true ∧ disj (toksOf E e.2) (toksOf E δ) = true
theorem far_simple {o : Oper} {e : Ent E} {δ : Delta E.A} (h : quiet E e.2 = true ∧ simple o.op = true ∧ disj e.1 (keysOf E δ) = true) : farOf o e δ := by
 obtain ⟨h1, h2⟩ := quiet_spec h.1
 refine ⟨by unfold near; rw [h.2.1]; rfl, h.2.2, ?_, ?_⟩
 ·rw [keysOf, h1]; rfl
 ·rw [toksOf, h2]; rfl
theorem far_apart {x y : Oper} {e f : Ent E} (h : apartOK E x.op y.op e f = true) : farOf x e f.2 ∧ farOf y f e.2 ∧ parted e.2 f.2 ∧ parted f.2 e.2 := by
 unfold apartOK at h
 simp only [Bool.and_eq_true] at h
 obtain ⟨⟨⟨⟨⟨⟨⟨h1, h2⟩, h3⟩, h4⟩, h5⟩, h6⟩, h7⟩, h8⟩ := h
 exact ⟨⟨h1, h4, h5, h7⟩, ⟨h2, h3, h6, h8⟩, ⟨h5, h7⟩, ⟨h6, h8⟩⟩
def cntN (S : Nat → Bool) : Nat → Nat
 | 0 => 0
 | n + 1 => cntN S n + (if S n then 0 else 1)
theorem cnt_zero {S : Nat → Bool} : ∀ n, cntN S n = 0 → ∀ j, j < n → S j = true
 | 0, _, j, hj => by omega
 | n + 1, h, j, hj => by
  simp only [cntN] at h
  split at h
  ·rename_i hs
   rcases Nat.lt_or_ge j n with h1 | h1
   ·exact cnt_zero n (by omega) j h1
   ·have : j = n := by omega
    subst this; exact hs
  ·omega
theorem cnt_same {S T : Nat → Bool} : ∀ n, (∀ j, j < n → S j = T j) → cntN S n = cntN T n
 | 0, _ => rfl
 | n + 1, h => by simp only [cntN]; rw [h n (by omega), cnt_same n (fun j hj => h j (by omega))]
theorem cnt_set {S : Nat → Bool} {i : Nat} (hi : S i = false) : ∀ n, i < n → cntN (fun j => if j = i then true else S j) n + 1 = cntN S n
 | 0, h => by omega
 | n + 1, h => by
  rcases Nat.lt_or_ge i n with h1 | h1
  ·have ih := cnt_set hi n h1
   simp only [cntN] at ih ⊢
   simp only [if_neg (by omega : ¬ n = i)]
   omega
  ·have : i = n := by omega
   subst this
   simp only [cntN, hi]
   rw [cnt_same (S := fun j => if j = i then true else S j) (T := S) i (fun j hj => if_neg (by omega))]
   simp
section
variable {Γ : FuncId → Option (Spec E)} {ops : Array Oper} {es : List (Ent E)} {σ0 : St E.A}
def chgs (ops : Array Oper) (es : List (Ent E)) : List (Chg E) := (ops.toList.zip es).map fun x => (x.1.dst, x.2.2)
theorem chgs_at {i : Nat} {x : Chg E} (h : (chgs ops es)[i]? = some x) : ∃ o e, ops[i]? = some o ∧ es[i]? = some e ∧ x = (o.dst, e.2) := by
 unfold chgs at h
 rw [List.getElem?_map] at h
 cases hz : (ops.toList.zip es)[i]? with
 | none => rw [hz] at h; cases h
 | some z =>
  rw [hz] at h
  injection h with h
  obtain ⟨h1, h2⟩ := List.getElem?_zip_eq_some.1 hz
  exact ⟨z.1, z.2, by simpa using h1, h2, h.symm⟩
theorem does_frame (hok : okD E ops es = true) (hdo : ∀ i o e, ops[i]? = some o → es[i]? = some e → DoesE Γ ops (stN (chgs ops es) (fun _ => true) i σ0) o e)
  {S : Nat → Bool} (hcl : ∀ j, j < ops.size → S j = true → ∀ i ∈ (preds ops.toList []).getD j [], S i = true) {i : Nat} {o : Oper} {e : Ent E} (ho : ops[i]? = some o) (he : es[i]? = some e) (hi : S i = false) (hpr : ∀ j ∈ (preds ops.toList []).getD i [], S j = true) :
  Does Γ ops (stN (chgs ops es) S ops.size σ0) o e.2 := by
 have hin : i < ops.size := (Array.getElem?_eq_some_iff.1 ho).1
 unfold okD at hok
 simp only [List.all_eq_true, List.mem_range, Bool.and_eq_true, decide_eq_true_eq] at hok
 have hdr : drawable o.op = true := by have := (hok i hin).1.1; rw [ho] at this; exact this
 have h1 := hdo i o e ho he
 rw [← stN_cut ops.size (Nat.le_of_lt hin)] at h1
 have out : ∀ j, j < ops.size → ∀ x, (chgs ops es)[j]? = some x → S j = decide (j < i) ∨
   ((∀ t, x.1 = some t → t ∉ o.looksAt ops) ∧ (quiet E x.2 = true ∨ farOf o e x.2)) := by
  intro j hj x hx
  obtain ⟨oj, ej, hoj, hej, rfl⟩ := chgs_at hx
  rcases Nat.lt_trichotomy j i with h | rfl | h
  ·rcases (pair_spec ((hok i hin).2 j h) hoj ho hej he).2 with h2 | ⟨h2, ⟨h3, h4⟩ | h5⟩
   ·exact .inl (by rw [hpr j h2]; simp [h])
   ·exact .inr ⟨fun t ht => (Oper.apart_spec h2).1 t ht, h3.imp id far_simple⟩
   ·exact .inr ⟨fun t ht => (Oper.apart_spec h2).1 t ht, .inr (far_apart h5).2.1⟩
  ·exact .inl (by simp [hi])
  ·rcases (pair_spec ((hok j hj).2 i h) ho hoj he hej).2 with h2 | ⟨h2, ⟨h3, h4⟩ | h5⟩
   ·refine .inl ?_
    cases hs : S j with
    | false => simp; omega
    | true => have := hcl j hj hs i h2; rw [hi] at this; cases this
   ·exact .inr ⟨fun t ht => (Oper.apart_spec h2).2.2 t ht, h4.imp id far_simple⟩
   ·exact .inr ⟨fun t ht => (Oper.apart_spec h2).2.2 t ht, .inr (far_apart h5).1⟩
 have slots : ∀ t ∈ o.looksAt ops, (stN (chgs ops es) S ops.size σ0).sl.getD t .undef = (stN (chgs ops es) (fun j => decide (j < i)) ops.size σ0).sl.getD t .undef := by
  intro t ht
  refine stN_slot _ (fun j hj x hx hxt => ?_)
  rcases out j hj x hx with h | ⟨h, _⟩
  ·exact h
  ·exact absurd ht (h t hxt)
 rcases h1 with ⟨hw, hs, hids⟩ | ⟨hw, hs⟩
 ·refine .inl ⟨(wants_congr slots).trans hw, ?_⟩
  have hev : ∀ x ∈ o.op.operands.toList, ev E (stN (chgs ops es) S ops.size σ0) x = ev E (stN (chgs ops es) (fun j => decide (j < i)) ops.size σ0) x := by
   intro x hx
   refine ev_congr (fun t ht => slots t ?_)
   subst ht
   exact List.mem_append_left _ (List.mem_filterMap.2 ⟨_, hx, rfl⟩)
  by_cases hA : ∀ j, j < ops.size → S j = decide (j < i) ∨ ∀ x, (chgs ops es)[j]? = some x → quiet E x.2 = true
  ·obtain ⟨m1, m2, m3⟩ := stN_same (xs := chgs ops es) (S := S) (T := fun j => decide (j < i)) (σ := σ0) ops.size hA
   rw [stpT_slots hdr hev m1 m2 m3]
   exact hs
  ·have hq : near E o.op e = true := by
    simp only [Classical.not_forall, not_or] at hA
    obtain ⟨j, hj, h2, x, hx, h3⟩ := hA
    rcases out j hj x hx with h | ⟨_, h | h⟩
    ·exact absurd h h2
    ·exact absurd h h3
    ·exact h.1
   have keys : ∀ (l : List Nat), (∀ x : Delta E.A, farOf o e x → disj l (keysOf E x) = true) → ∀ id ∈ l, (stN (chgs ops es) S ops.size σ0).ob id = (stN (chgs ops es) (fun j => decide (j < i)) ops.size σ0).ob id ∧ (stN (chgs ops es) S ops.size σ0).ver id = (stN (chgs ops es) (fun j => decide (j < i)) ops.size σ0).ver id := by
    intro l hl id hid
    refine stN_mem _ (fun j hj => ?_)
    by_cases hP : S j = decide (j < i)
    ·exact .inl hP
    ·refine .inr (fun y hy hm => ?_)
     rcases out j hj y hy with h | ⟨_, h | h⟩
     ·exact hP h
     ·rw [keysOf, (quiet_spec h).1] at hm; cases hm
     ·exact disj_mem (hl y.2 h) hid hm
   have he' : e = (opIds E (stN (chgs ops es) (fun j => decide (j < i)) ops.size σ0) o, e.2) := by rw [← hids]
   refine stpT_near (by rw [← he']; exact hq) hev (fun id hid => keys e.1 (fun x hx => hx.2.1) id (by rw [hids]; exact hid)) hs (fun id hid => (keys (keysOf E e.2) (fun x hx => hx.2.2.1) id hid).2) (fun t ht => ?_)
   refine stN_tok _ (fun j hj => ?_)
   by_cases hP : S j = decide (j < i)
   ·exact .inl hP
   ·refine .inr (fun y hy hm => ?_)
    rcases out j hj y hy with h | ⟨_, h | h⟩
    ·exact hP h
    ·rw [toksOf, (quiet_spec h).2] at hm; cases hm
    ·exact disj_mem h.2.2.2 ht hm
 ·exact .inr ⟨(wants_congr slots).trans hw, hs⟩
theorem VRel.drawn {σ : St E.A} {tmps : Array Value} (hr : VRel E σ G w tmps) (n : Nat) : VRel E σ G { w with drawn := n } tmps := by
 have hx : Ext G w G { w with drawn := n } := ⟨fun _ _ _ h hf => ⟨h, hf⟩, fun _ => Nat.le_refl _, fun _ _ => ⟨rfl, fun _ _ => rfl⟩, fun _ => Nat.le_refl _, fun _ _ _ h => h, fun _ _ h => h, rfl, fun _ _ _ _ _ _ _ ho => ho⟩
 exact ⟨hr.s.mono hx, ⟨fun i o ho => (hr.h.ob i o ho).imp (fun ⟨b, h1, h2⟩ => ⟨b, h1, h2.mono hx rfl rfl⟩) (fun h => h), hr.h.lt, hr.h.inj, hr.h.tokb, hr.h.tokj, fun g cs hg => (hr.h.gl g cs hg).mono hx, hr.h.othf⟩, hr.ver, hr.cur⟩
theorem fr_drawn (n : Nat) : Fr G w G { w with drawn := n } := ⟨rfl, rfl, rfl, Nat.le_refl _, fun _ _ _ h hf => ⟨h, hf⟩, fun _ _ hf => ⟨rfl, hf, rfl⟩, fun _ _ h => h, rfl⟩
theorem ready_of_least (hok : okD E ops es = true) {listed : Array Bool} (hsz : listed.size = ops.size) {i : Nat} (hi : i < ops.size) (hS : listed.getD i false = false) (hl : ∀ j, j < i → listed.getD j false = true) : i ∈ Region.ready .any ops listed := by
 unfold okD at hok
 simp only [List.all_eq_true, List.mem_range, Bool.and_eq_true, decide_eq_true_eq] at hok
 rw [mem_ready]
 have ho : ops[i]? = some ops[i] := Array.getElem?_eq_getElem hi
 refine ⟨?_, ops[i], ho, fun e he hb => hl _ ((hok i hi).1.2 e.on ((preds_mem ho _).2 ⟨e, he, hb, .inl rfl⟩))⟩
 simp only [Array.getD_eq_getD_getElem?] at hS ⊢
 rw [Array.getElem?_eq_getElem (by omega)] at hS ⊢
 exact hS
theorem drawn_any (hL : Laws E) (hΓ : ∀ f spec, Γ f = some spec → Valid E f spec) (hlen : es.length = ops.size) (hok : okD E ops es = true) (hdo : ∀ i o e, ops[i]? = some o → es[i]? = some e → DoesE Γ ops (stN (chgs ops es) (fun _ => true) i σ0) o e) {Q : Exit → Act → World → Prop} :
  ∀ (fuel : Nat) (listed : Array Bool) (G : Gh) (w : World) (a : Act), listed.size = ops.size → cntN (fun j => listed.getD j false) ops.size ≤ fuel →
   (∀ j, j < ops.size → listed.getD j false = true → ∀ i ∈ (preds ops.toList []).getD j [], listed.getD i false = true) →
   VRel E (stN (chgs ops es) (fun j => listed.getD j false) ops.size σ0) G w a.tmps →
   (∀ a' w', Good E (stN (chgs ops es) (fun _ => true) ops.size σ0) a G w a' w' → Q .normal a' w') → wpAny E.P .any ops Q fuel listed a w := by
 have hall : ∀ (listed : Array Bool) (G : Gh) (w : World) (a : Act), (∀ j, j < ops.size → listed.getD j false = true) → VRel E (stN (chgs ops es) (fun j => listed.getD j false) ops.size σ0) G w a.tmps →
   (∀ a' w', Good E (stN (chgs ops es) (fun _ => true) ops.size σ0) a G w a' w' → Q .normal a' w') → Q .normal a w := by
  intro listed G w a h hr hQ
  rw [stN_congr (T := fun _ => true) ops.size (fun j hj => by rw [h j hj])] at hr
  exact hQ a w ⟨rfl, G, hr, Fr.refl G w, fun _ _ _ h => h⟩
 have least : ∀ (listed : Array Bool), listed.size = ops.size → Region.ready .any ops listed = [] → ∀ j, j < ops.size → listed.getD j false = true := by
  intro listed hsz hr j
  induction j using Nat.strongRecOn with
  | ind j ih =>
   intro hj
   cases hs : listed.getD j false with
   | true => rfl
   | false =>
    have := ready_of_least hok hsz hj hs (fun i hi => ih i hi (by omega))
    rw [hr] at this; cases this
 intro fuel
 induction fuel with
 | zero =>
  intro listed G w a hsz hc hcl hr hQ
  have h := cnt_zero ops.size (Nat.le_zero.1 hc)
  refine ⟨?_, hall listed G w a h hr hQ⟩
  rw [List.eq_nil_iff_forall_not_mem]
  intro i hi
  obtain ⟨h1, o, ho, _⟩ := mem_ready.1 hi
  have hin : i < ops.size := (Array.getElem?_eq_some_iff.1 ho).1
  have h2 := h i hin
  simp only [Array.getD_eq_getD_getElem?] at h1 h2
  rw [Array.getElem?_eq_getElem (by omega)] at h1 h2
  simp only [Option.getD_some] at h1 h2
  rw [h1] at h2; cases h2
 | succ fuel ih =>
  intro listed G w a hsz hc hcl hr hQ
  refine ⟨fun hnil => hall listed G w a (least listed hsz hnil) hr hQ, fun i hi => ?_⟩
  obtain ⟨h1, o, ho, hdeps⟩ := mem_ready.1 hi
  have hin : i < ops.size := (Array.getElem?_eq_some_iff.1 ho).1
  have hS : listed.getD i false = false := by
   simp only [Array.getD_eq_getD_getElem?] at h1 ⊢
   rw [Array.getElem?_eq_getElem (by omega)] at h1 ⊢
   exact h1
  obtain ⟨e, he⟩ : ∃ e, es[i]? = some e := ⟨_, List.getElem?_eq_getElem (by omega)⟩
  have hpr : ∀ j ∈ (preds ops.toList []).getD i [], listed.getD j false = true := by
   intro j hj
   obtain ⟨ed, hed, hb, rfl | ⟨hlt, hm⟩⟩ := (preds_mem ho j).1 hj
   ·exact hdeps ed hed hb
   ·exact hcl ed.on (by omega) (hdeps ed hed hb) j hm
  have hd := does_frame (σ0 := σ0) hok hdo (S := fun j => listed.getD j false) hcl ho he hS hpr
  refine does_ok hL hΓ hr hd ho (fun a' w' hg => ?_)
  obtain ⟨g1, G', g2, g3⟩ := hg
  have hset : ∀ j, (listed.setIfInBounds i true).getD j false = if j = i then true else listed.getD j false := by
   intro j
   by_cases h : j = i
   ·subst h
    rw [if_pos rfl]
    simp [hsz, hin]
   ·rw [if_neg h]
    exact getD_set_ne false (Ne.symm h)
  have hfun : (fun j => (listed.setIfInBounds i true).getD j false) = fun j => if j = i then true else listed.getD j false := funext hset
  refine ih (listed.setIfInBounds i true) G' w' a' (by simp [hsz]) ?_ ?_ ?_ (fun a'' w'' hg => hQ a'' w'' (Good.trans (σ := σ0) g1 g3 hg))
  ·rw [hfun]
   have := cnt_set (S := fun j => listed.getD j false) hS ops.size hin
   omega
  ·intro j hj hs k hk
   rw [hset] at hs ⊢
   split
   ·rfl
   ·split at hs
    ·rename_i hji; subst hji
     exact hpr k hk
    ·exact hcl j hj hs k hk
  ·rw [hfun, stN_add hS ops.size hin]
   ·have hx : (chgs ops es)[i]? = some (o.dst, e.2) := by
     unfold chgs
     rw [List.getElem?_map, List.getElem?_zip_eq_some (z := (o, e)) |>.2 ⟨by simpa using ho, he⟩]
     rfl
    unfold ap
    rw [hx]
    exact g2
   ·intro j hij hj hs x y hx hy
    obtain ⟨ox, ex, hox, hex, rfl⟩ := chgs_at hx
    obtain ⟨oy, ey, hoy, hey, rfl⟩ := chgs_at hy
    have hok' := hok
    unfold okD at hok'
    simp only [List.all_eq_true, List.mem_range, Bool.and_eq_true, decide_eq_true_eq] at hok'
    obtain ⟨p1, p2⟩ := pair_spec ((hok' j hj).2 i hij) hox hoy hex hey
    refine ⟨p1, ?_⟩
    rcases p2 with h | ⟨_, ⟨h, h'⟩ | h⟩
    ·have := hcl j hj hs i h
     rw [hS] at this; cases this
    ·rcases h with h | h
     ·exact .inl (.inl h)
     ·exact .inl (.inr h.1)
    ·exact .inr (far_apart h).2.2.1
theorem drawn_ok (S : Sys E.P) (hL : Laws E) (hno : ops.any isDefer = false) (hΓ : ∀ f spec, Γ f = some spec → Valid E f spec) {β : Type} {k : St E.A → Option β} {x : β} {id : Nat} {a : Act} (hr : VRel E σ0 G w a.tmps) (h : runOpsD E Γ ops (fun es σ' => cond (okD E ops es) (k σ') none) ops.toList [] σ0 = some x)
  {Q : Exit → Act → World → Prop} (hlo : ¬ LetsOut Q) (hQ : ∀ σ' a' w', k σ' = some x → Good E σ' a G w a' w' → Q .normal a' w') : S.W (Code.region id ops true) Q a w := by
 obtain ⟨es, h1, h2, h3⟩ := runOpsD_some _ _ _ h
 simp only [List.nil_append] at h2
 have hlen : es.length = ops.size := by simpa using h1
 have hst : ∀ i, i ≤ ops.size → ((ops.toList.zip es).take i).foldl (fun σ x => σ.apply E x.1.dst x.2.2) σ0 = stN (chgs ops es) (fun _ => true) i σ0 := fun i hi => foldl_stN ops.toList es h1 σ0 i (by simpa using hi)
 cases hok : okD E ops es with
 | false => rw [hok] at h2; cases h2
 | true =>
  rw [hok] at h2
  simp only [cond_true] at h2
  have hfin := hst ops.size (Nat.le_refl _)
  rw [List.take_of_length_le (by simp [hlen])] at hfin
  rw [hfin] at h2
  have hrep : ∀ j, (Array.replicate ops.size false).getD j false = false := by
   intro j
   simp only [Array.getD_eq_getD_getElem?, Array.getElem?_replicate]
   split <;> rfl
  have hr0 : stN (chgs ops es) (fun j => (Array.replicate ops.size false).getD j false) ops.size σ0 = σ0 := by
   have : ∀ n, stN (chgs ops es) (fun j => (Array.replicate ops.size false).getD j false) n σ0 = σ0 := by
    intro n
    induction n with
    | zero => rfl
    | succ n ih =>
     rw [stN_succ, ih, if_neg (by rw [hrep]; simp)]
   exact this _
  have hcnt : ∀ n, cntN (fun j => (Array.replicate ops.size false).getD j false) n = n := by
   intro n
   induction n with
   | zero => rfl
   | succ n ih => unfold cntN; rw [ih]; simp only [hrep]; simp
  refine S.draw hno hlo (fun t => by
   simp only [Region.schedule, hL.mixed, Bool.true_or, if_true]
   refine wpAny_sound ops.size t _ a _ ?_
   refine drawn_any (σ0 := σ0) hL hΓ hlen hok (fun i o e ho he => ?_) ops.size (Array.replicate ops.size false) G _ a (by simp) (by rw [hcnt]; exact Nat.le_refl _) ?_ ?_ (fun a' w' hg => ?_)
   ·have hi : i < ops.size := (Array.getElem?_eq_some_iff.1 ho).1
    rw [← hst i (Nat.le_of_lt hi)]
    exact h3 i o e (by simpa using ho) he
   ·intro j hj hs
    rw [hrep] at hs; cases hs
   ·rw [hr0]
    exact hr.drawn _
   ·exact hQ _ a' w' h2 (Good.trans (σ := σ0) rfl ⟨fr_drawn _, fun _ _ _ h => h⟩ hg))
end
end
end Go.Vx
namespace Go.Vx
open Go
section
variable {Key : Type} [DecidableEq Key]
variable {E : Env Key} {G G' Gc : Gh} {w w' : World}
def exOf : Ex → Exit
 | .normal => .normal
 | .exit id => .exit id
 | .ret => .ret
def LoopOK (E : Env Key) (body : Code) (σ : St E.A) (e : Ex) (σ' : St E.A) : Prop :=
 ∀ (S : Sys E.P) (G : Gh) (w : World) (a : Act), VRel E σ G w a.tmps → S.W (Code.loop body) (fun e' a' w' => e' = exOf e ∧ Good E σ' a G w a' w') a w
def Marks : List Deferred → Gh → World → Prop
 | [], _, _ => True
 | d :: ds, G, w => (∃ D, d = { target := .collected D, args := #[] } ∧ w.heap[D]? = some (.deferred (some [])) ∧ G.clear D ∧ ∀ d' ∈ ds, ∀ D', d'.target = .collected D' → D' ≠ D) ∧ Marks ds G w
def GoodN (E : Env Key) (r : Bool) (σ' : St E.A) (a : Act) (G : Gh) (w : World) (a' : Act) (w' : World) : Prop :=
 ∃ ds, (r = false → ds = []) ∧ a'.defers = ds ++ a.defers ∧ ∃ G', VRel E σ' G' w' a'.tmps ∧ (Fr G w G' w' ∧ ∀ i b, i < 64 → G'.blk i = some b → G.blk i = some b) ∧ Marks ds G' w' ∧ ∀ d ∈ ds, ∀ D, d.target = .collected D → w.heap.size ≤ D
theorem Good.toN {σ' : St E.A} {a a' : Act} (r : Bool) (h : Good E σ' a G w a' w') : GoodN E r σ' a G w a' w' := by
 obtain ⟨h1, G', h2, h3⟩ := h
 exact ⟨[], fun _ => rfl, h1, G', h2, h3, trivial, fun d hd => by cases hd⟩
theorem GoodN.good {σ' : St E.A} {a a' : Act} (h : GoodN E false σ' a G w a' w') : Good E σ' a G w a' w' := by
 obtain ⟨ds, h0, h1, G', h2, h3, _⟩ := h
 obtain rfl := h0 rfl
 exact ⟨h1, G', h2, h3⟩
theorem Marks.fr {w w' : World} : ∀ (ds : List Deferred) {G G' : Gh}, Marks ds G w → Fr G w G' w' → Marks ds G' w'
 | [], _, _, _, _ => trivial
 | _ :: ds, _, _, ⟨⟨D, h1, h2, h3, h4⟩, h5⟩, hf => by
  obtain ⟨g1, g2, _⟩ := hf.blk D (Array.getElem?_eq_some_iff.1 h2).1 h3
  exact ⟨⟨D, h1, g1.trans h2, g2, h4⟩, Marks.fr ds h5 hf⟩
theorem Marks.app {G : Gh} {w : World} : ∀ (ds es : List Deferred), Marks ds G w → Marks es G w → (∀ d ∈ ds, ∀ D, d.target = .collected D → ∀ e ∈ es, ∀ D', e.target = .collected D' → D' ≠ D) → Marks (ds ++ es) G w
 | [], _, _, h, _ => h
 | d :: ds, es, ⟨⟨D, h1, h2, h3, h4⟩, h5⟩, h, hne => by
  refine ⟨⟨D, h1, h2, h3, fun d' hd' D' hD' => ?_⟩, Marks.app ds es h5 h (fun d hd => hne d (List.mem_cons_of_mem _ hd))⟩
  rcases List.mem_append.1 hd' with hd' | hd'
  ·exact h4 d' hd' D' hD'
  ·exact hne d (List.mem_cons_self ..) D (by rw [h1]) d' hd' D' hD'
theorem Marks.lt {G : Gh} {w : World} : ∀ (ds : List Deferred), Marks ds G w → ∀ d ∈ ds, ∀ D, d.target = .collected D → D < w.heap.size
 | [], _, d, hd, _, _ => by cases hd
 | d0 :: ds, ⟨⟨D, h1, h2, _, _⟩, h5⟩, d, hd, D', hD' => by
  rcases List.mem_cons.1 hd with rfl | hd
  ·rw [h1] at hD'; injection hD' with hD'; subst hD'
   exact (Array.getElem?_eq_some_iff.1 h2).1
  ·exact Marks.lt ds h5 d hd D' hD'
theorem GoodN.trans {r : Bool} {σ σ' : St E.A} {a a1 a2 : Act} {w1 w2 : World} (h1 : GoodN E r σ a G w a1 w1) (h : ∀ G1, VRel E σ G1 w1 a1.tmps → GoodN E r σ' a1 G1 w1 a2 w2) : GoodN E r σ' a G w a2 w2 := by
 obtain ⟨ds, p1, p2, G1, p3, p4, p5, p6⟩ := h1
 obtain ⟨es, q1, q2, G2, q3, q4, q5, q6⟩ := h G1 p3
 refine ⟨es ++ ds, fun hr => by rw [p1 hr, q1 hr]; rfl, by rw [q2, p2, List.append_assoc], G2, q3, ⟨p4.1.trans q4.1, fun i b hi hb => p4.2 i b hi (q4.2 i b hi hb)⟩, Marks.app es ds q5 (Marks.fr ds p5 q4.1) (fun d hd D hD e he D' hD' => ?_), fun d hd D hD => ?_⟩
 ·have := Marks.lt ds p5 e he D' hD'
  have := q6 d hd D hD
  omega
 ·rcases List.mem_append.1 hd with hd | hd
  ·exact Nat.le_trans p4.1.size (q6 d hd D hD)
  ·exact p6 d hd D hD
def RangeOK (E : Env Key) (f : Operand) (ps : Array Tmp) (az body : Code) (σ : St E.A) (e : Ex) (σ' : St E.A) : Prop :=
 ∀ (G : Gh) (w : World) (a : Act), VRel E σ G w a.tmps → (Code.rangeFunc f ps az body).wp E.P (fun e' a' w' => e' = exOf e ∧ GoodN E true σ' a G w a' w') a w
def rangeAt : Code → Nat → Option (Operand × Array Tmp × Code × Code)
 | .seq a b, j => if j < loops a then rangeAt a j else rangeAt b (j - loops a)
 | .cond _ a b, j => if j < loops a then rangeAt a j else rangeAt b (j - loops a)
 | .block _ a, j => rangeAt a j
 | .loop a, j => if j = 0 then none else rangeAt a (j - 1)
 | .rangeFunc f ps az b, j => if j = 0 then some (f, ps, az, b) else rangeAt b (j - 1)
 | .scope a, j => rangeAt a j
 | _, _ => none
def RamOK (E : Env Key) (Λ : Lam E) (n : Nat) (c : Code) : Prop :=
 ∀ j f ps az b, rangeAt c j = some (f, ps, az, b) → ∀ σ e σ', (Λ (n + j) σ).get = some (e, σ') → RangeOK E f ps az b σ e σ'
def loopAt : Code → Nat → Option Code
 | .seq a b, j => if j < loops a then loopAt a j else loopAt b (j - loops a)
 | .cond _ a b, j => if j < loops a then loopAt a j else loopAt b (j - loops a)
 | .block _ a, j => loopAt a j
 | .loop a, j => if j = 0 then some a else loopAt a (j - 1)
 | .rangeFunc _ _ _ b, j => if j = 0 then none else loopAt b (j - 1)
 | .scope a, j => loopAt a j
 | _, _ => none
def LamOK (E : Env Key) (Λ : Lam E) (n : Nat) (c : Code) : Prop :=
 ∀ j body, loopAt c j = some body → ∀ σ e σ', (Λ (n + j) σ).get = some (e, σ') → LoopOK E body σ e σ'
theorem LamOK.left {Λ : Lam E} {n : Nat} {a b : Code} (h : ∀ j body, (if j < loops a then loopAt a j else loopAt b (j - loops a)) = some body → ∀ σ e σ', (Λ (n + j) σ).get = some (e, σ') → LoopOK E body σ e σ') (hz : ∀ j body, loopAt a j = some body → j < loops a) : LamOK E Λ n a :=
 fun j body hj => h j body (by rw [if_pos (hz j body hj)]; exact hj)
theorem LamOK.right {Λ : Lam E} {n : Nat} {a b : Code} (h : ∀ j body, (if j < loops a then loopAt a j else loopAt b (j - loops a)) = some body → ∀ σ e σ', (Λ (n + j) σ).get = some (e, σ') → LoopOK E body σ e σ') : LamOK E Λ (n + loops a) b :=
 fun j body hj σ e σ' hg => h (loops a + j) body (by rw [if_neg (by omega), Nat.add_sub_cancel_left]; exact hj) σ e σ' (by rw [← Nat.add_assoc]; exact hg)
theorem loopAt_lt : ∀ (c : Code) (j : Nat) (body : Code), loopAt c j = some body → j < loops c
 | .seq a b, j, body, h => by
  simp only [loopAt] at h
  simp only [loops]
  split at h
  ·have := loopAt_lt a j body h; omega
  ·have := loopAt_lt b _ body h; omega
 | .cond _ a b, j, body, h => by
  simp only [loopAt] at h
  simp only [loops]
  split at h
  ·have := loopAt_lt a j body h; omega
  ·have := loopAt_lt b _ body h; omega
 | .block _ a, j, body, h => loopAt_lt a j body h
 | .loop a, j, body, h => by
  simp only [loopAt] at h
  simp only [loops]
  split at h
  ·omega
  ·have := loopAt_lt a _ body h; omega
 | .rangeFunc _ _ _ b, j, body, h => by
  simp only [loopAt] at h
  simp only [loops]
  split at h
  ·cases h
  ·have := loopAt_lt b _ body h; omega
 | .scope a, j, body, h => loopAt_lt a j body h
 | .skip, _, _, h => by cases h
 | .region .., _, _, h => by cases h
 | .exit _, _, _, h => by cases h
 | .label _, _, _, h => by cases h
 | .goto _, _, _, h => by cases h
 | .ret, _, _, h => by cases h
 | .refuse _, _, _, h => by cases h
theorem rangeAt_lt : ∀ (c : Code) (j : Nat) {x}, rangeAt c j = some x → j < loops c
 | .seq a b, j, x, h => by
  simp only [rangeAt] at h
  simp only [loops]
  split at h
  ·have := rangeAt_lt a j h; omega
  ·have := rangeAt_lt b _ h; omega
 | .cond _ a b, j, x, h => by
  simp only [rangeAt] at h
  simp only [loops]
  split at h
  ·have := rangeAt_lt a j h; omega
  ·have := rangeAt_lt b _ h; omega
 | .block _ a, j, x, h => rangeAt_lt a j h
 | .loop a, j, x, h => by
  simp only [rangeAt] at h
  simp only [loops]
  split at h
  ·cases h
  ·have := rangeAt_lt a _ h; omega
 | .rangeFunc _ _ _ b, j, x, h => by
  simp only [rangeAt] at h
  simp only [loops]
  split at h
  ·omega
  ·have := rangeAt_lt b _ h; omega
 | .scope a, j, x, h => rangeAt_lt a j h
 | .skip, _, _, h => by cases h
 | .region .., _, _, h => by cases h
 | .exit _, _, _, h => by cases h
 | .label _, _, _, h => by cases h
 | .goto _, _, _, h => by cases h
 | .ret, _, _, h => by cases h
 | .refuse _, _, _, h => by cases h
theorem RamOK.left {Λ : Lam E} {n : Nat} {a b : Code} (h : ∀ j f ps az c, (if j < loops a then rangeAt a j else rangeAt b (j - loops a)) = some (f, ps, az, c) → ∀ σ e σ', (Λ (n + j) σ).get = some (e, σ') → RangeOK E f ps az c σ e σ') : RamOK E Λ n a :=
 fun j f ps az c hj => h j f ps az c (by rw [if_pos (rangeAt_lt a j hj)]; exact hj)
theorem RamOK.right {Λ : Lam E} {n : Nat} {a b : Code} (h : ∀ j f ps az c, (if j < loops a then rangeAt a j else rangeAt b (j - loops a)) = some (f, ps, az, c) → ∀ σ e σ', (Λ (n + j) σ).get = some (e, σ') → RangeOK E f ps az c σ e σ') : RamOK E Λ (n + loops a) b :=
 fun j f ps az c hj σ e σ' hg => h (loops a + j) f ps az c (by rw [if_neg (by omega), Nat.add_sub_cancel_left]; exact hj) σ e σ' (by rw [← Nat.add_assoc]; exact hg)
def Ways (E : Env Key) (r : Bool) {β : Type} (k : Ex → St E.A → Option β) (x : β) (a : Act) (G : Gh) (w : World) : Exit → Act → World → Prop :=
 fun e a' w' => ∃ ex σ', e = exOf ex ∧ k ex σ' = some x ∧ GoodN E r σ' a G w a' w'
theorem ways_in {r : Bool} {β : Type} {k : Ex → St E.A → Option β} {x : β} {a : Act} {G : Gh} {w : World} : ¬ LetsOut (Ways E r k x a G w) := by
 rintro ⟨a', w', ex, σ', h, _⟩
 cases ex <;> cases h
theorem exec_ok (S : Sys E.P) (r : Bool) (htop : r = true → S.top) (hL : Laws E) {Γ : FuncId → Option (Spec E)} (hΓ : ∀ f spec, Γ f = some spec → Valid E f spec) {Λ : Lam E} {β : Type} {x : β} :
  ∀ (c : Code) (n : Nat), LamOK E Λ n c → (r = true → RamOK E Λ n c) → (r = false → ranges c = false) → ∀ (σ : St E.A) (k : Ex → St E.A → Option β) (G : Gh) (w : World) (a : Act), VRel E σ G w a.tmps → exec E Γ Λ n c σ k = some x → S.W c (Ways E r k x a G w) a w
 | .skip, n, _, _, _, σ, k, G, w, a, hr, h => S.skip ⟨.normal, σ, rfl, h, Good.toN r ⟨rfl, G, hr, Fr.refl G w, fun _ _ _ h => h⟩⟩
 | .region id ops draw, n, _, _, _, σ, k, G, w, a, hr, h => by
  simp only [exec] at h
  cases hno : ops.any isDefer with
  | true => rw [hno] at h; cases h
  | false =>
  rw [hno, cond_false] at h
  cases draw with
  | true =>
   simp only [if_true] at h
   exact drawn_ok S hL hno hΓ hr h ways_in (fun σ' a' w' hk hg => ⟨.normal, σ', rfl, hk, hg.toN r⟩)
  | false =>
   simp only [Bool.false_eq_true, if_false] at h
   refine S.region hno ways_in (runOps_ok hL hΓ ops.toList (List.range ops.size) ?_ σ G w a hr h (fun σ' a' w' hk hg => ⟨.normal, σ', rfl, hk, hg.toN r⟩))
   apply List.ext_getElem?
   intro i
   simp only [List.getElem?_map]
   rcases Nat.lt_or_ge i ops.size with hi | hi
   ·rw [List.getElem?_range hi, Array.getElem?_toList, Array.getElem?_eq_getElem hi]; simp [hi]
   ·rw [List.getElem?_eq_none (by simpa using hi), Array.getElem?_toList, Array.getElem?_eq_none hi]; rfl
 | .seq c d, n, hΛ, hR, hno, σ, k, G, w, a, hr, h => by
  simp only [exec] at h
  have hn1 : r = false → ranges c = false := fun hr => (Bool.or_eq_false_iff.1 (show (ranges c || ranges d) = false from hno hr)).1
  have hn2 : r = false → ranges d = false := fun hr => (Bool.or_eq_false_iff.1 (show (ranges c || ranges d) = false from hno hr)).2
  have h1 := exec_ok S r htop hL hΓ c n (LamOK.left hΛ (loopAt_lt c)) (fun hr => RamOK.left (hR hr)) hn1 σ _ G w a hr h
  refine S.seq (S.mono h1 (fun e a1 w1 hw => ?_))
  obtain ⟨ex, σ1, rfl, hk, hg⟩ := hw
  cases ex with
  | normal =>
   simp only at hk
   have hg' := hg
   obtain ⟨ds, g0, g1, G1, g2, g3⟩ := hg
   have h2 := exec_ok S r htop hL hΓ d _ (LamOK.right hΛ) (fun hr => RamOK.right (hR hr)) hn2 σ1 k G1 w1 a1 g2 hk
   refine S.mono h2 (fun e a2 w2 hw => ?_)
   obtain ⟨ex, σ2, h3, h4, h5⟩ := hw
   refine ⟨ex, σ2, h3, h4, ?_⟩
   have : GoodN E r σ1 a G w a1 w1 → True := fun _ => trivial
   obtain ⟨es, q1, q2, G2, q3, q4, q5, q6⟩ := h5
   obtain ⟨g3, g4, g5⟩ := g3
   refine ⟨es ++ ds, fun hr => by rw [g0 hr, q1 hr]; rfl, by rw [q2, g1, List.append_assoc], G2, q3, ⟨g3.1.trans q4.1, fun i b hi hb => g3.2 i b hi (q4.2 i b hi hb)⟩, Marks.app es ds q5 (Marks.fr ds g4 q4.1) (fun d hd D hD e he D' hD' => ?_), fun d hd D hD => ?_⟩
   ·have := Marks.lt ds g4 e he D' hD'
    have := q6 d hd D hD
    omega
   ·rcases List.mem_append.1 hd with hd | hd
    ·exact Nat.le_trans g3.1.size (q6 d hd D hD)
    ·exact g5 d hd D hD
  | exit id => exact ⟨.exit id, σ1, rfl, hk, hg⟩
  | ret => exact ⟨.ret, σ1, rfl, hk, hg⟩
 | .cond c p q, n, hΛ, hR, hno, σ, k, G, w, a, hr, h => by
  simp only [exec] at h
  have hn1 : r = false → ranges p = false := fun hr => (Bool.or_eq_false_iff.1 (show (ranges p || ranges q) = false from hno hr)).1
  have hn2 : r = false → ranges q = false := fun hr => (Bool.or_eq_false_iff.1 (show (ranges p || ranges q) = false from hno hr)).2
  have hc := ev_ok hr c
  split at h
  ·rename_i t heq
   rw [heq] at hc
   have hv := hc.bool_inv
   cases t with
   | true => exact S.condT hv (exec_ok S r htop hL hΓ p n (LamOK.left hΛ (loopAt_lt p)) (fun hr => RamOK.left (hR hr)) hn1 σ k G w a hr h)
   | false => exact S.condF hv (exec_ok S r htop hL hΓ q _ (LamOK.right hΛ) (fun hr => RamOK.right (hR hr)) hn2 σ k G w a hr h)
  ·cases h
 | .block id c, n, hΛ, hR, hno, σ, k, G, w, a, hr, h => by
  simp only [exec] at h
  have h1 := exec_ok S r htop hL hΓ c n hΛ hR hno σ _ G w a hr h
  refine S.block (S.mono h1 (fun e a1 w1 hw => ?_))
  obtain ⟨ex, σ1, rfl, hk, hg⟩ := hw
  cases ex with
  | normal => exact ⟨.normal, σ1, rfl, hk, hg⟩
  | exit id' =>
   simp only at hk
   simp only [exOf, Exit.inBlock]
   split at hk
   ·rename_i e; rw [if_pos e]; exact ⟨.normal, σ1, rfl, hk, hg⟩
   ·rename_i e; rw [if_neg e]; exact ⟨.exit id', σ1, rfl, hk, hg⟩
  | ret => exact ⟨.ret, σ1, rfl, hk, hg⟩
 | .loop c, n, hΛ, _, _, σ, k, G, w, a, hr, h => by
  simp only [exec] at h
  obtain ⟨⟨e, σ'⟩, hg, hk⟩ := Tree.run_some h
  have := hΛ 0 c (by simp [loopAt]) σ e σ' (by simpa using hg) S G w a hr
  exact S.mono this (fun e' a' w' ⟨h1, h2⟩ => ⟨e, σ', h1, hk, h2.toN r⟩)
 | .rangeFunc f ps az c, n, _, hR, hno, σ, k, G, w, a, hr, h => by
  simp only [exec] at h
  obtain ⟨⟨e, σ'⟩, hg, hk⟩ := Tree.run_some h
  cases r with
  | false => exact absurd (hno rfl) (by simp [ranges])
  | true =>
   have := hR rfl 0 f ps az c (by simp [rangeAt]) σ e σ' (by simpa using hg) G w a hr
   exact S.mono (S.topW (htop rfl) this) (fun e' a' w' ⟨h1, h2⟩ => ⟨e, σ', h1, hk, h2⟩)
 | .exit id, n, _, _, _, σ, k, G, w, a, hr, h => S.exit ⟨.exit id, σ, rfl, h, Good.toN r ⟨rfl, G, hr, Fr.refl G w, fun _ _ _ h => h⟩⟩
 | .ret, n, _, _, _, σ, k, G, w, a, hr, h => S.ret ⟨.ret, σ, rfl, h, Good.toN r ⟨rfl, G, hr, Fr.refl G w, fun _ _ _ h => h⟩⟩
 | .label _, _, _, _, _, _, _, _, _, _, _, h => by simp [exec] at h
 | .goto _, _, _, _, _, _, _, _, _, _, _, h => by simp [exec] at h
 | .scope _, _, _, _, _, _, _, _, _, _, _, h => by simp [exec] at h
 | .refuse _, _, _, _, _, _, _, _, _, _, _, h => by simp [exec] at h
end
end Go.Vx
namespace Go.Vx
open Go
section
variable {Key : Type} [DecidableEq Key]
variable {E : Env Key} {G G' Gc : Gh} {w w' : World}
def Gh.kept (G : Gh) (obs toks : List Nat) : Gh := { blk := fun i => if obs.contains i then G.blk i else none, tok := fun i => (toks[i]?).bind G.tok, ver := zero0, cur := zero0, oth := G.oth, bl := G.bl }
theorem kept_tok {obs toks : List Nat} {i : Nat} {r : Nat × Nat × Nat} (h : (G.kept obs toks).tok i = some r) : ∃ t, toks[i]? = some t ∧ G.tok t = some r := by
 simp only [Gh.kept] at h
 cases hi : toks[i]? with
 | none => rw [hi] at h; cases h
 | some t => rw [hi] at h; exact ⟨t, rfl, h⟩
theorem kept_free {obs toks : List Nat} {b o : Nat} (h : G.free b o) : (G.kept obs toks).free b o :=
 ⟨(fun i hi => by
  simp only [Gh.kept] at hi
  split at hi
  ·exact h.1 i hi
  ·cases hi), fun t lo hi ht => by obtain ⟨u, _, h2⟩ := kept_tok ht; exact h.2 u lo hi h2⟩
theorem kept_clear {obs toks : List Nat} {b : Nat} (h : G.clear b) : (G.kept obs toks).clear b :=
 ⟨(fun i hi => by
  simp only [Gh.kept] at hi
  split at hi
  ·exact h.1 i hi
  ·cases hi), fun t lo hi ht => by obtain ⟨u, _, h2⟩ := kept_tok ht; exact h.2 u lo hi h2⟩
theorem kept_pur {obs toks : List Nat} {b o : Nat} (h : G.pur b o) : (G.kept obs toks).pur b o := ⟨kept_free h.1, h.2⟩
theorem cleanLeaf_rep {σ : St E.A} (hL : Laws E) (hh : HRel E σ.ob G w) (hver : σ.ver = G.ver) (hcur : σ.tk = G.cur) (obs toks : List Nat) {l : Leaf E.A} {v : Value} (r : Rep E G w l v) : Rep E (G.kept obs toks) w (mapLeaf E (cleanLeaf E σ obs toks) l) v := by
 have hc : ∀ b o v, w.cell? ⟨b, o, none⟩ = some v → G.pur b o → w.cell? ⟨b, o, none⟩ = some v ∧ (G.kept obs toks).pur b o := fun b o v h hf => ⟨h, kept_pur hf⟩
 induction r with
 | dead hv => exact .dead hv
 | int hk => exact .int hk
 | bool b => exact .bool b
 | str s h => exact .str s h
 | lit hv => exact .lit hv
 | nil => exact .nil
 | sl0 k a cap h => exact .sl0 k a cap h
 | sl k xs b off cap vals h1 h2 hcell hrep _ => exact (Rep.sl k xs b off cap vals h1 h2 hcell hrep).plain hL hc rfl
 | @own t v k xs a n cap hsl hle hown _ =>
  have hsl' := hsl.plain hL hc rfl
  show Rep E (G.kept obs toks) w (cleanLeaf E σ obs toks (.own t v k xs)) _
  simp only [cleanLeaf]
  split
  ·rename_i hvt
   refine .own hsl' (Nat.zero_le _) (fun _ => ?_)
   rcases hown (by rw [hvt.1, hcur]) with hn | ⟨b, off, ty, m, ha, ht, hs⟩
   ·exact .inl hn
   ·refine .inr ⟨b, off, ty, m, ha, ?_, hs⟩
    simp only [Gh.kept, idxOf_get hvt.2]
    exact ht
  ·exact hsl'
 | @ptr id v off b hle hb =>
  show Rep E (G.kept obs toks) w (cleanLeaf E σ obs toks (.ptr id v off)) _
  simp only [cleanLeaf]
  split
  ·rename_i hv
   refine .ptr (Nat.zero_le _) (fun _ => ?_)
   simp only [Gh.kept]
   rw [if_pos hv.2]
   exact hb (by rw [hv.1, hver])
  ·exact .dead rfl
 | @mp id v b hle hb =>
  show Rep E (G.kept obs toks) w (cleanLeaf E σ obs toks (.mp id v)) _
  simp only [cleanLeaf]
  split
  ·rename_i hv
   refine .mp (Nat.zero_le _) (fun _ => ?_)
   simp only [Gh.kept]
   rw [if_pos hv.2]
   exact hb (by rw [hv.1, hver])
  ·exact .dead rfl
 | pp cs b off vals hp hcell hrep _ =>
  exact .pp cs b off vals hp (fun j hj => hc _ _ _ (hcell j hj).1 (hcell j hj).2) (fun j l hl => (hrep j l hl).plain hL hc (List.all_eq_true.1 hp l (List.mem_of_getElem? hl)))
 | fn f cs vs hs _ ih =>
  show Rep E _ w (.fn f (mapLeafs E (cleanLeaf E σ obs toks) cs)) _
  rw [mapLeafs_eq]
  refine .fn f _ vs (by simp [hs]) (fun j l hl => ?_)
  rw [List.getElem?_map] at hl
  cases hj : cs[j]? with
  | none => rw [hj] at hl; cases hl
  | some c => rw [hj] at hl; injection hl with hl; subst hl; exact ih j c hj
 | ifc _ ih => exact .ifc ih
 | @bf id v n cap a hle hb =>
  show Rep E (G.kept obs toks) w (cleanLeaf E σ obs toks (.bf id v)) _
  simp only [cleanLeaf]
  split
  ·rename_i hv
   have hvG : v = G.ver id := by rw [hv, hver]
   split
   ·rename_i hm
    refine .bf (Nat.zero_le _) (fun _ => ?_)
    simp only [Gh.kept]
    rw [if_pos hm]
    exact hb hvG
   ·rename_i hm
    split
    ·rename_i k xs hob
     rcases bf_inv hh hvG hob (.bf hle hb) with ⟨rfl, he, _⟩ | ⟨b, cap', vs, ty, he, hbl, g1, g2, g3, g4, g5, g6⟩
     ·rw [he]; exact .sl0 k none 0 (Nat.zero_le _)
     ·rw [he]
      have hpur : ∀ o, (G.kept obs toks).pur b o := fun o => by
       refine ⟨⟨fun i hi => ?_, fun t lo hi ht => ?_⟩, fun ho => (hh.othf b o ho).2.1 id hbl⟩
       ·simp only [Gh.kept] at hi
        split at hi
        ·rename_i hi'
         have := hh.inj i id b hi hbl
         subst this
         exact hm hi'
        ·cases hi
       ·obtain ⟨u, _, h2⟩ := kept_tok ht
        exact absurd hbl ((hh.tokb u b lo hi h2).2.1 id)
      refine .sl k xs b 0 cap' (fun i j => vs.getD (i * E.sz k + j) undef) g3 g4 (fun i j hi hj => ⟨?_, hpur _⟩) (fun i x hx j l hl => (g6 i x hx j l hl).plain hL hc (List.all_eq_true.1 (hL.encPure k x) l (List.mem_of_getElem? hl)))
      have h1 : i * E.sz k + j < vs.size := by
       have h2 : (i + 1) * E.sz k ≤ cap' * E.sz k := Nat.mul_le_mul_right _ (by omega)
       rw [Nat.succ_mul] at h2
       omega
      rw [Nat.zero_add]
      simp [World.cell?, g1, Array.getD, h1]
    ·exact .dead rfl
  ·exact .dead rfl
 | @bp id v i b off hle hb =>
  show Rep E (G.kept obs toks) w (cleanLeaf E σ obs toks (.bp id v i)) _
  simp only [cleanLeaf]
  split
  ·rename_i hv
   refine .bp (Nat.zero_le _) (fun _ => ?_)
   simp only [Gh.kept]
   rw [if_pos hv.2]
   exact hb (by rw [hv.1, hver])
  ·exact .dead rfl
 | dp => exact .dead rfl
theorem cleanSl_len {σ : St E.A} {L : Live} {toks : List Nat} : ∀ (i : Nat) (rs : List (RV E.A)), (cleanSl E σ L toks i rs).length = rs.length
 | _, [] => rfl
 | i, r :: rs => by simp [cleanSl, cleanSl_len (i + 1) rs]
theorem cleanSl_get {σ : St E.A} {L : Live} {toks : List Nat} : ∀ (i : Nat) (rs : List (RV E.A)) (j : Nat) (r : RV E.A), (cleanSl E σ L toks i rs)[j]? = some r → r = .undef ∨ ∃ r', rs[j]? = some r' ∧ r = mapRV E (cleanLeaf E σ L.ob toks) r'
 | i, [], j, r, h => by cases j <;> cases h
 | i, x :: rs, 0, r, h => by
  simp only [cleanSl, List.getElem?_cons_zero, Option.some.injEq] at h
  split at h
  ·exact .inr ⟨x, rfl, h.symm⟩
  ·exact .inl h.symm
 | i, x :: rs, j + 1, r, h => by
  simp only [cleanSl, List.getElem?_cons_succ] at h
  rcases cleanSl_get (i + 1) rs j r h with h | ⟨r', h1, h2⟩
  ·exact .inl h
  ·exact .inr ⟨r', by simpa using h1, h2⟩
theorem clean_wrow {σ : St E.A} (hcur : σ.tk = G.cur) {G' : Gh} {obs toks : List Nat} {l : Leaf E.A} {v : Value} (hw : WRow E G w l v) : WRow E G' w (mapLeaf E (cleanLeaf E σ obs toks) l) v := by
 cases l with
 | own t ver k xs =>
  show WRow E G' w (cleanLeaf E σ obs toks (.own t ver k xs)) v
  simp only [cleanLeaf]
  split
  ·rename_i h
   exact fun _ => hw (by rw [h.1, hcur])
  ·trivial
 | ptr => simp only [mapLeaf, cleanLeaf]; split <;> trivial
 | mp => simp only [mapLeaf, cleanLeaf]; split <;> trivial
 | bp => simp only [mapLeaf, cleanLeaf]; split <;> trivial
 | bf id v =>
  simp only [mapLeaf, cleanLeaf]
  split
  ·split
   ·trivial
   ·split <;> trivial
  ·trivial
 | _ => trivial
theorem cleanOb_some {σ : St E.A} {obs toks : List Nat} {i : Nat} {o : Obj E.A} : ∀ (l : List Nat), look (cleanOb E σ obs toks l) i = some o → i ∈ l ∧ (σ.ob i).map (mapObj E (cleanLeaf E σ obs toks)) = some o
 | [], h => by cases h
 | j :: l, h => by
  simp only [cleanOb, look] at h
  split at h
  ·rename_i e; subst e; exact ⟨by simp, h⟩
  ·obtain ⟨h1, h2⟩ := cleanOb_some l h
   exact ⟨by simp [h1], h2⟩
theorem clean_rel (hL : Laws E) {σ : St E.A} {tmps : Array Value} (hr : VRel E σ G w tmps) (L : Live) : VRel E (clean E L σ) (G.kept L.ob (liveToks E σ L)) w tmps := by
 have hnd : (liveToks E σ L).Nodup := addNew_nodup _ _ List.nodup_nil
 generalize htk : liveToks E σ L = toks at hnd ⊢
 have hcl : clean E L σ = mkSt E (cleanSl E σ L toks 0 σ.sl) (cleanOb E σ L.ob toks L.ob) := by unfold clean; rw [htk]
 rw [hcl]
 refine ⟨⟨(cleanSl_len 0 σ.sl).trans hr.s.1, fun i r hi => ?_⟩, ⟨fun i o ho => ?_, fun i b hb => ?_, fun i j b h1 h2 => ?_, fun t b lo hi ht => ?_, fun t u b c lo hi lo' hi' h1 h2 hne => ?_, fun g cs hg => ?_, fun b o ho => ⟨(hr.h.othf b o ho).1, kept_free (hr.h.othf b o ho).2⟩⟩, rfl, rfl⟩
 ·rcases cleanSl_get 0 σ.sl i r hi with rfl | ⟨r', h1, rfl⟩
  ·exact .undef _
  ·exact (hr.s.2 i r' h1).mapl (fun l v h => cleanLeaf_rep hL hr.h hr.ver hr.cur L.ob toks h)
 ·obtain ⟨hm, ho⟩ := cleanOb_some _ ho
  have hm : L.ob.contains i = true := by simpa using hm
  cases hx : σ.ob i with
  | none => rw [hx] at ho; cases ho
  | some x =>
   rw [hx] at ho; injection ho with ho; subst ho
   rcases hr.h.ob i x hx with ⟨b, hb, hor⟩ | ⟨⟨k, rfl⟩, hn⟩
   rotate_left
   ·exact .inr ⟨⟨k, rfl⟩, by simp only [Gh.kept]; rw [if_pos hm]; exact hn⟩
   refine .inl ⟨b, by simp only [Gh.kept]; rw [if_pos hm]; exact hb, hor.mapl hL (fun _ _ _ h hf => ⟨h, kept_pur hf⟩) rfl rfl (fun l v h => cleanLeaf_rep hL hr.h hr.ver hr.cur L.ob toks h) (fun l v _ hw => clean_wrow hr.cur hw)⟩
 ·simp only [Gh.kept] at hb
  split at hb
  ·exact hr.h.lt i b hb
  ·cases hb
 ·simp only [Gh.kept] at h1 h2
  split at h1
  ·split at h2
   ·exact hr.h.inj i j b h1 h2
   ·cases h2
  ·cases h1
 ·obtain ⟨u, _, ht⟩ := kept_tok ht
  obtain ⟨h1, h2, h3⟩ := hr.h.tokb u b lo hi ht
  refine ⟨h1, fun i hi => ?_, h3⟩
  simp only [Gh.kept] at hi
  split at hi
  ·exact h2 i hi
  ·cases hi
 ·obtain ⟨t', h3, h4⟩ := kept_tok h1
  obtain ⟨u', h5, h6⟩ := kept_tok h2
  exact hr.h.tokj t' u' b c lo hi lo' hi' h4 h6 (fun e => hne (nodup_inj hnd h3 (e ▸ h5)))
 ·obtain ⟨this, ⟨t, hs⟩, ha⟩ := hr.h.gl g cs hg
  refine ⟨?_, ⟨t, hs⟩, fun k hk => (ha k hk).imp fun _ hn => ⟨hn.1, hn.2.1, kept_pur hn.2.2⟩⟩
  cases this with
  | pp _ b off vals hp hcell hrep =>
   exact .pp cs _ _ vals hp (fun j hj => ⟨(hcell j hj).1, kept_pur (hcell j hj).2⟩) (fun j l hl => (hrep j l hl).plain hL (fun _ _ _ h hf => ⟨h, kept_pur hf⟩) (List.all_eq_true.1 hp l (List.mem_of_getElem? hl)))
theorem clean_fr (L toks : List Nat) : Fr G w (G.kept L toks) w ∧ ∀ i b, i < 64 → (G.kept L toks).blk i = some b → G.blk i = some b :=
 ⟨⟨rfl, rfl, rfl, Nat.le_refl _, fun _ _ _ h hf => ⟨h, kept_free hf⟩, fun _ _ hf => ⟨rfl, kept_clear hf, rfl⟩, fun _ _ h => h, rfl⟩, fun i b _ h => by
  simp only [Gh.kept] at h
  split at h
  ·exact h
  ·cases h⟩
theorem LoopOK.of_clean (hL : Laws E) {body : Code} {σ σ' : St E.A} {e : Ex} (L : Live) (h : LoopOK E body (clean E L σ) e σ') : LoopOK E body σ e σ' := by
 intro S G w a hr
 refine S.mono (h S (G.kept L.ob (liveToks E σ L)) w a (clean_rel hL hr L)) (fun e' a' w' ⟨h1, h2⟩ => ⟨h1, Good.trans (σ := σ) rfl (clean_fr L.ob (liveToks E σ L)) h2⟩)
theorem VRel.weak {σ σ' : St E.A} {tmps : Array Value} (hr : VRel E σ G w tmps) (h1 : σ'.sl.length = σ.sl.length) (h2 : ∀ (i : Nat) (r : RV E.A), σ'.sl[i]? = some r → r = .undef ∨ σ.sl.getD i .undef = r) (h3 : ∀ i o, σ'.ob i = some o → σ.ob i = some o) (h4 : σ'.ver = σ.ver) (h5 : σ'.tk = σ.tk) : VRel E σ' G w tmps := by
 refine ⟨⟨h1.trans hr.s.1, fun i r hi => ?_⟩, ⟨fun i o ho => hr.h.ob i o (h3 i o ho), hr.h.lt, hr.h.inj, hr.h.tokb, hr.h.tokj, hr.h.gl, hr.h.othf⟩, h4.trans hr.ver, h5.trans hr.cur⟩
 rcases h2 i r hi with rfl | h
 ·exact .undef _
 ·have hlt : i < σ.sl.length := by rw [← h1]; exact lt_of_get hi
  rw [List.getD, List.getElem?_eq_getElem hlt] at h
  exact hr.s.2 i r (by rw [List.getElem?_eq_getElem hlt]; exact congrArg some h)
theorem LoopOK.weak {body : Code} {σ σ' σ'' : St E.A} {e : Ex} (h1 : σ'.sl.length = σ.sl.length) (h2 : ∀ (i : Nat) (r : RV E.A), σ'.sl[i]? = some r → r = .undef ∨ σ.sl.getD i .undef = r) (h3 : ∀ i o, σ'.ob i = some o → σ.ob i = some o) (h4 : σ'.ver = σ.ver) (h5 : σ'.tk = σ.tk) (h : LoopOK E body σ' e σ'') : LoopOK E body σ e σ'' :=
 fun S G w a hr => h S G w a (hr.weak h1 h2 h3 h4 h5)
theorem loop_iter (hL : Laws E) {Γ : FuncId → Option (Spec E)} (hΓ : ∀ f spec, Γ f = some spec → Valid E f spec) {Λ : Lam E} {n : Nat} {body : Code} (hΛ : LamOK E Λ n body) (hno : ranges body = false)
  {X O : Type} (S : X → St E.A) (T : O → Ex × St E.A) (t : X → Tree (X ⊕ O)) (Lv : Ex → Live)
  (hrun : ∀ (x : X) (k : Ex → St E.A → Option Unit), exec E Γ Λ n body (S x) (fun e σ1 => k e (clean E (Lv e) σ1)) = (t x).run (Sum.elim (fun x' => k .normal (S x')) (fun o => k (T o).1 (T o).2)))
  (fuel : Nat) (x : X) (o : O) (hT : (T o).1 ≠ .normal) (hi : iter t fuel x = some o) : LoopOK E body (S x) (T o).1 (T o).2 := by
 classical
 intro Y G0 w0 a0 hr0
 have key : ∀ (fuel : Nat) (x : X), iter t fuel x = some o → ∀ (G : Gh) (w : World) (a : Act) (Q : Exit → Act → World → Prop), VRel E (S x) G w a.tmps → (∀ a' w', Good E (T o).2 a G w a' w' → Q (exOf (T o).1) a' w') → roundsS Y.W body Q fuel a w := by
  intro fuel
  induction fuel with
  | zero => intro x hi; cases hi
  | succ fuel ih =>
   intro x hi G w a Q hr hQ
   show Y.W body (Exit.then (roundsS Y.W body Q fuel) Q) a w
   let k : Ex → St E.A → Option Unit := fun e σ1 => if (e = .normal ∧ ∃ x', σ1 = S x' ∧ iter t fuel x' = some o) ∨ (e = (T o).1 ∧ σ1 = (T o).2) then some () else none
   have hk : exec E Γ Λ n body (S x) (fun e σ1 => k e (clean E (Lv e) σ1)) = some () := by
    rw [hrun, Tree.run_eq]
    simp only [iter] at hi
    split at hi
    ·rename_i x' hg
     rw [hg]
     simp only [Option.bind_some]
     exact if_pos (.inl ⟨rfl, x', rfl, hi⟩)
    ·rename_i o' hg
     rw [hg]
     injection hi with hi; subst hi
     simp only [Option.bind_some]
     exact if_pos (.inr ⟨rfl, rfl⟩)
    ·cases hi
   refine Y.mono (exec_ok Y false (fun h => by cases h) hL hΓ body n hΛ (fun h => by cases h) (fun _ => hno) (S x) _ G w a hr hk) (fun e a1 w1 hw => ?_)
   obtain ⟨ex, σ1, rfl, hkk, hg1⟩ := hw
   obtain ⟨hd, G1, hr1, hf1⟩ := hg1.good
   have hcl := clean_rel hL hr1 (Lv ex)
   have hfr : Fr G w (G1.kept (Lv ex).ob (liveToks E σ1 (Lv ex))) w1 ∧ ∀ i b, i < 64 → (G1.kept (Lv ex).ob (liveToks E σ1 (Lv ex))).blk i = some b → G.blk i = some b :=
    ⟨hf1.1.trans (clean_fr (Lv ex).ob (liveToks E σ1 (Lv ex))).1, fun i b hi hb => hf1.2 i b hi ((clean_fr (w := w1) (Lv ex).ob (liveToks E σ1 (Lv ex))).2 i b hi hb)⟩
   have hkk' : (ex = .normal ∧ ∃ x', clean E (Lv ex) σ1 = S x' ∧ iter t fuel x' = some o) ∨ (ex = (T o).1 ∧ clean E (Lv ex) σ1 = (T o).2) := by
    by_cases hc : (ex = .normal ∧ ∃ x', clean E (Lv ex) σ1 = S x' ∧ iter t fuel x' = some o) ∨ (ex = (T o).1 ∧ clean E (Lv ex) σ1 = (T o).2)
    ·exact hc
    ·simp only [k, if_neg hc] at hkk; cases hkk
   rcases hkk' with ⟨rfl, x', hx', hi'⟩ | ⟨rfl, ht⟩
   ·rw [hx'] at hcl
    exact ih x' hi' _ w1 a1 Q hcl (fun a' w' hg => hQ a' w' (Good.trans (σ := S x) hd hfr hg))
   ·rw [ht] at hcl
    have hq := hQ a1 w1 ⟨hd, _, hcl, hfr⟩
    have hne := hT
    cases hT' : (T o).1 with
    | normal => exact absurd hT' hne
    | exit id => rw [hT'] at hq; exact hq
    | ret => rw [hT'] at hq; exact hq
 exact Y.rounds fuel (key fuel x hi G0 w0 a0 _ hr0 (fun a' w' hg => ⟨rfl, hg⟩))
def resSem (tmps : Array Value) : ResultVar → Sem Value := fun x => match x with
 | .tmp t => pure (tmps.getD t undef)
 | .cell a t => do loadVar t (← asAddr (tmps.getD a undef))
theorem resVar_ok (hL : Laws E) {σ : St E.A} {tmps : Array Value} (hr : VRel E σ G w tmps) {x : ResultVar} {r : RV E.A} (h : resVar E σ x = some r) :
  ∃ v w1, (resSem tmps x).run E.P w = .ok v w1 ∧ w1 = w ∧ RRep E G w r v := by
 have hslot : ∀ t, RRep E G w (σ.sl.getD t .undef) (tmps.getD t undef) := by
  intro t
  rw [List.getD]
  cases h : σ.sl[t]? with
  | none => exact .undef _
  | some r => exact hr.s.2 t r h
 cases x with
 | tmp t =>
  simp only [resVar] at h; injection h with h; subst h
  exact ⟨_, w, rfl, rfl, hslot t⟩
 | cell a ty =>
  simp only [resVar] at h
  split at h
  ·rename_i g δ hl
   injection h with h; subst h
   have hg : g = true := by
    unfold load at hl
    split at hl
    ·split at hl
     ·split at hl
      ·split at hl
       ·unfold val at hl; injection hl with hl; injection hl with h1 _; exact h1.symm
       ·cases hl
      ·split at hl
       ·unfold val at hl; injection hl with hl; injection hl with h1 _; exact h1.symm
       ·cases hl
     ·cases hl
    ·cases hl
   subst hg
   obtain ⟨_, _, v, w1, hrun, hsame, hrep⟩ := load_ok hL hr (hslot a) hl
   have hw1 : w1 = w ∧ ∃ ad, tmps.getD a undef = .pointer (some ad) := by
    have hrun' := hrun
    unfold load at hl
    split at hl
    ·rename_i l d heq hu
     split at hl
     ·rename_i cs hcs
      have hla := hslot a
      rw [heq] at hla
      obtain ⟨b, off, vals, hv, hc, hrv⟩ := cellsAt_ok hL hr hla.lf_inv hcs
      refine ⟨?_, ⟨b, off, none⟩, hv⟩
      rw [hv] at hrun'
      have e0 : (Instr.loadAt ty (.pointer (some ⟨b, off, none⟩))).run E.P w = (loadVar ty ⟨b, off, none⟩).run E.P w := by simp [Instr.loadAt, Instr.sureAddr]
      rw [e0] at hrun'
      obtain ⟨i, hi⟩ := und_info (E := E) (show E.P.underlying ty = some d from hu)
      unfold loadVar at hrun'
      simp only [Sem.run_bind, run_isAg (E := E) (show E.P.underlying ty = some d from hu), Result.andThen_ok] at hrun'
      split at hl
      ·rename_i hag
       rw [if_pos hag] at hrun'
       split at hl
       ·rename_i hsz
        simp only [Sem.run_bind, run_size hi, Result.andThen_ok] at hrun'
        rw [run_loadCells w ⟨b, off, none⟩ (tsz E ty) vals (fun j hj => by rw [Addr.add_mk]; exact hc j (by omega))] at hrun'
        simp only [Result.andThen_ok, Sem.run_pure, Result.ok.injEq] at hrun'
        exact hrun'.2.symm
       ·cases hl
      ·rename_i hag
       simp only [hag, Bool.false_eq_true, if_false] at hrun'
       split at hl
       ·have h0 := hc 0 (by simp)
        simp only [Nat.add_zero] at h0
        simp only [run_load, h0, Result.ok.injEq] at hrun'
        exact hrun'.2.symm
       ·cases hl
     ·cases hl
    ·cases hl
   obtain ⟨rfl, ad, had⟩ := hw1
   refine ⟨v, w1, ?_, rfl, hrep⟩
   show ((do loadVar ty (← asAddr (tmps.getD a undef)) : Sem Value)).run E.P _ = _
   rw [had] at hrun ⊢
   simpa [Instr.loadAt, Instr.sureAddr, asAddr] using hrun
  ·cases h
theorem asTup_ok {r : RV E.A} {v : Value} (h : RRep E G w r v) {x : Bool × List (Leaf E.A)} (hx : asTup E r = some x) : SRep E G w x.1 x.2 v := by
 unfold asTup at hx
 split at hx
 ·injection hx with hx; subst hx
  exact ⟨_, rfl, h.lf_inv⟩
 ·injection hx with hx; subst hx
  exact h.agg_inv
 ·cases hx
theorem resVars_ok (hL : Laws E) {σ : St E.A} {tmps : Array Value} (hr : VRel E σ G w tmps) : ∀ (l : List ResultVar) (rs : List (RV E.A)), resVars E σ l = some rs →
  ∃ vs : List Value, (l.mapM (resSem tmps)).run E.P w = .ok vs w ∧ vs.length = rs.length ∧ ∀ (j : Nat) (r : RV E.A) (v : Value), rs[j]? = some r → vs[j]? = some v → RRep E G w r v
 | [], rs, h => by
  simp only [resVars] at h; injection h with h; subst h
  exact ⟨[], by simp, rfl, fun j r v hj => by cases j <;> cases hj⟩
 | x :: l, rs, h => by
  simp only [resVars] at h
  split at h
  ·rename_i y ys hy hys
   injection h with h; subst h
   obtain ⟨v, w1, h1, hw1, h2⟩ := resVar_ok hL hr hy
   rw [hw1] at h1
   obtain ⟨vs, h3, h4, h5⟩ := resVars_ok hL hr l ys hys
   refine ⟨v :: vs, ?_, by simp [h4], fun j r u hj hu => ?_⟩
   ·rw [List.mapM_cons]
    simp only [Sem.run_bind, h1, h3, Result.andThen_ok, Sem.run_pure]
   ·cases j with
    | zero => simp at hj hu; subst hj; subst hu; exact h2
    | succ j => exact h5 j r u (by simpa using hj) (by simpa using hu)
  ·cases h
theorem asTups_ok : ∀ (rs : List (RV E.A)) (ts : List (Bool × List (Leaf E.A))) (vs : List Value), asTups E rs = some ts → vs.length = rs.length → (∀ (j : Nat) (r : RV E.A) (v : Value), rs[j]? = some r → vs[j]? = some v → RRep E G w r v) →
  ts.length = vs.length ∧ ∀ (j : Nat) (x : Bool × List (Leaf E.A)) (v : Value), ts[j]? = some x → vs[j]? = some v → SRep E G w x.1 x.2 v
 | [], ts, vs, h, hl, _ => by
  simp only [asTups] at h; injection h with h; subst h
  exact ⟨by simp at hl ⊢; exact hl.symm ▸ rfl, fun j x v hj => by cases j <;> cases hj⟩
 | r :: rs, ts, [], h, hl, _ => by simp at hl
 | r :: rs, ts, v :: vs, h, hl, hrep => by
  simp only [asTups] at h
  split at h
  ·rename_i y ys hy hys
   injection h with h; subst h
   obtain ⟨h1, h2⟩ := asTups_ok rs ys vs hys (by simpa using hl) (fun j r v hj hv => hrep (j + 1) r v (by simpa using hj) (by simpa using hv))
   refine ⟨by simp [h1], fun j x u hj hu => ?_⟩
   cases j with
   | zero => simp at hj hu; subst hj; subst hu; exact asTup_ok (hrep 0 r v rfl rfl) hy
   | succ j => exact h2 j x u (by simpa using hj) (by simpa using hu)
  ·cases h
theorem retRV_ok (hL : Laws E) {σ : St E.A} {tmps : Array Value} (hr : VRel E σ G w tmps) {fn : Func} {r : RV E.A} (h : retRV E σ fn.results.toList = some r) : ∃ v, (results fn tmps).run E.P w = .ok v w ∧ RRep E G w r v := by
 unfold retRV at h
 have key : ∀ rs, resVars E σ fn.results.toList = some rs → ∃ vs : List Value, (results fn tmps).run E.P w = .ok (if h : vs.length = 1 then vs[0] else .tuple vs.toArray) w ∧ vs.length = rs.length ∧ ∀ (j : Nat) (r : RV E.A) (v : Value), rs[j]? = some r → vs[j]? = some v → RRep E G w r v := by
  intro rs hrs
  obtain ⟨vs, h1, h2, h3⟩ := resVars_ok hL hr _ rs hrs
  refine ⟨vs, ?_, h2, h3⟩
  show ((do let vs ← fn.results.mapM (resSem tmps); pure (if h : vs.size = 1 then vs[0] else .tuple vs)) : Sem Value).run E.P w = _
  rw [Array.mapM_eq_mapM_toList]
  simp only [Sem.run_bind, Sem.run_map, h1, Result.andThen_ok, Sem.run_pure, List.size_toArray, List.getElem_toArray]
 split at h
 ·rename_i r' hrs
  injection h with h; subst h
  obtain ⟨vs, h1, h2, h3⟩ := key _ hrs
  match vs, h2 with
  | [v], _ => exact ⟨v, by simpa using h1, h3 0 _ v rfl rfl⟩
 ·rename_i rs hne hrs
  obtain ⟨vs, h1, h2, h3⟩ := key _ hrs
  split at h
  ·rename_i ts hts
   injection h with h; subst h
   obtain ⟨h4, h5⟩ := asTups_ok rs ts vs hts h2 h3
   have hl1 : ¬ vs.length = 1 := by
    intro e
    rw [h2] at e
    match rs, e, hne with
    | [r'], _, hne => exact hne r' rfl
   rw [dif_neg hl1] at h1
   refine ⟨_, h1, .tup (by simp [h4]) (fun j x hj => ?_)⟩
   have hlt : j < vs.length := by rw [← h4]; exact lt_of_get hj
   have := h5 j x vs[j] hj (List.getElem?_eq_getElem hlt)
   have e : vs.toArray.getD j undef = vs[j] := getD_of_get? (by simp [hlt])
   rw [e]; exact this
  ·cases h
 ·cases h
theorem coePart_ok {t : TypeId} {x : Bool × List (Leaf E.A)} {v : Value} (h : SRep E G w x.1 x.2 v) : SRep E G w (coePart E t x).1 (coePart E t x).2 v := by
 unfold coePart
 split
 ·rename_i cs
  have hr : RRep E G w (.agg cs) v := by obtain ⟨vs, rfl, hv⟩ := h; exact .agg hv
  have := coeRV_ok (t := t) hr
  split
  ·rename_i cs' he
   rw [he] at this
   exact this.agg_inv
  ·exact h
 ·obtain ⟨l', he, hl⟩ := h
  injection he with he _; subst he
  exact ⟨_, rfl, coeLeaf_ok hl⟩
 ·exact h
theorem coeParts_len : ∀ (ts : List TypeId) (vs : List (Bool × List (Leaf E.A))), (coeParts E ts vs).length = vs.length
 | [], vs => by cases vs <;> rfl
 | t :: ts, [] => rfl
 | t :: ts, v :: vs => by simp [coeParts, coeParts_len ts vs]
theorem coeParts_ok : ∀ (ts : List TypeId) (vs : List (Bool × List (Leaf E.A))) (j : Nat) (x : Bool × List (Leaf E.A)) (u : Value), (∀ y, vs[j]? = some y → SRep E G w y.1 y.2 u) → (coeParts E ts vs)[j]? = some x → SRep E G w x.1 x.2 u
 | [], vs, j, x, u, h, hx => by cases vs <;> exact h x hx
 | t :: ts, [], j, x, u, h, hx => by cases j <;> cases hx
 | t :: ts, v :: vs, 0, x, u, h, hx => by
  simp only [coeParts, List.getElem?_cons_zero, Option.some.injEq] at hx
  subst hx
  exact coePart_ok (h v rfl)
 | t :: ts, v :: vs, j + 1, x, u, h, hx => coeParts_ok ts vs j x u (fun y hy => h y (by simpa using hy)) (by simpa [coeParts] using hx)
theorem coeRes_ok {ts : List TypeId} {r : RV E.A} {v : Value} (h : RRep E G w r v) : RRep E G w (coeRes E ts r) v := by
 unfold coeRes
 split
 ·exact coeRV_ok h
 ·rename_i vs _
  obtain ⟨vals, rfl, h1, h2⟩ := h.tup_inv
  exact .tup (by rw [coeParts_len]; exact h1) (fun j x hj => coeParts_ok ts vs j x _ (fun y hy => h2 j y hy) hj)
 ·exact h
end
end Go.Vx
namespace Go.Vx
open Go Go.RowKit
section
variable {Key : Type} [DecidableEq Key]
variable {E : Env Key} {G : Gh} {w : World}
def Idle (G : Gh) (A : World) (row : Option Nat) : Prop := ∀ r, row = some r → G.clear r ∧ ∃ o : Go.Obj, A.heap[r]? = some o ∧ o.isCells = false
theorem cell_grown {A B : World} {row : Option Nat} (hg : A.grownBy B row) (hr : Idle G A row) {b o : Nat} {v : Value} (h : A.cell? ⟨b, o, none⟩ = some v) : B.cell? ⟨b, o, none⟩ = some v := by
 have hlt := lt_of_cell h
 have hne : some b ≠ row := by
  intro e
  obtain ⟨_, o', ho', hc⟩ := hr b e.symm
  unfold World.cell? at h
  simp only [ho'] at h
  cases o' <;> simp_all [Obj.isCells]
 rw [World.cell?_of_block (w := A) (hg.block b hlt hne)]; exact h
theorem shape_grown {A B : World} {row : Option Nat} (hg : A.grownBy B row) (hr : Idle G A row) {b : Nat} {s : TypeId × Nat} (h : A.shape? b = some s) : B.shape? b = some s := by
 have hlt := shape_lt h
 have hne : some b ≠ row := by
  intro e
  obtain ⟨_, o', ho', hc⟩ := hr b e.symm
  unfold World.shape? at h
  simp only [ho'] at h
  cases o' <;> simp_all [Obj.isCells]
 have := hg.block b hlt hne
 unfold World.shape? at *
 rw [this]; exact h
theorem ext_grown {A B : World} {row : Option Nat} (hg : A.grownBy B row) (hr : Idle G A row) : Ext G A G B :=
 ⟨fun b o v hc hf => ⟨cell_grown hg hr hc, hf⟩, fun _ => Nat.le_refl _, fun _ _ => ⟨rfl, fun _ _ => rfl⟩, fun _ => Nat.le_refl _, fun _ _ _ h => h, fun b s hs => shape_grown hg hr hs, rfl, fun t b lo hi o _ ht ho => by rw [hg.block b (lt_of_heap ho) (fun e => (hr b e.symm).1.2 t lo hi ht)]; exact ho⟩
theorem hrel_grown {ob : Nat → Option (Obj E.A)} {A B : World} {row : Option Nat} (hg : A.grownBy B row) (hr : Idle G A row) (h : HRel E ob G A) : HRel E ob G B where
 ob i o ho := (h.ob i o ho).imp (fun ⟨b, hb⟩ => ⟨b, hb.1, hb.2.mono (ext_grown hg hr) (hg.block b (h.lt i b hb.1) (fun e => (hr b e.symm).1.1 i hb.1)) rfl⟩) id
 lt i b hb := Nat.lt_of_lt_of_le (h.lt i b hb) hg.size
 inj := h.inj
 tokb u b lo' hi' hu := by
  obtain ⟨h1, h2, h3⟩ := h.tokb u b lo' hi' hu
  have hne : some b ≠ row := fun e => (hr b e.symm).1.2 u lo' hi' hu
  refine ⟨Nat.lt_of_lt_of_le h1 hg.size, h2, fun o ho1 ho2 => ?_⟩
  rw [World.cell?_of_block (w := A) (hg.block b h1 hne), World.frozen?_of_block (w := A) (hg.block b h1 hne)]
  exact h3 o ho1 ho2
 tokj := h.tokj
 gl g cs hg' := (h.gl g cs hg').mono (ext_grown hg hr)
 othf b o ho := ⟨Nat.lt_of_lt_of_le (h.othf b o ho).1 hg.size, (h.othf b o ho).2⟩
theorem vrel_grown {σ : St E.A} {tmps : Array Value} {A B : World} {row : Option Nat} (hg : A.grownBy B row) (hr : Idle G A row) (h : VRel E σ G A tmps) : VRel E σ G B tmps :=
 ⟨h.s.mono (ext_grown hg hr), hrel_grown hg hr h.h, h.ver, h.cur⟩
theorem fr_grown {G0 : Gh} {w0 A B : World} {row : Option Nat} (hg : A.grownBy B row) (hr : Idle G A row) (hrow : ∀ r, row = some r → w0.heap.size ≤ r) (h : Fr G0 w0 G A) : Fr G0 w0 G B :=
 ⟨hg.os.trans h.os, hg.tape.trans h.tape, hg.output.trans h.output, Nat.le_trans h.size hg.size,
  fun b o v hc hf => ⟨cell_grown hg hr (h.cell b o v hc hf).1, (h.cell b o v hc hf).2⟩,
  fun b hb hf => by
  have p := h.blk b hb hf
  refine ⟨(hg.block b (Nat.lt_of_lt_of_le hb h.size) (fun e => ?_)).trans p.1, p.2⟩
  have := hrow b e.symm; omega,
  fun b s hs => shape_grown hg hr (h.shape b s hs), h.oth⟩
theorem idle_put {A : World} {r : Nat} {o : Go.Obj} (hc : G.clear r) (h : A.heap[r]? = some o) (ho : o.isCells = false) : Idle G A (some r) := fun _ e => by cases e; exact ⟨hc, o, h, ho⟩
def Kept (G : Gh) (w W : World) : Prop := w.heap.size ≤ W.heap.size ∧ ∀ b, b < w.heap.size → G.clear b → W.heap[b]? = w.heap[b]?
theorem Fr.kept {G' : Gh} {W : World} (h : Fr G w G' W) : Kept G w W := ⟨h.size, fun b hb hf => (h.blk b hb hf).1⟩
end
end Go.Vx
namespace Go.Vx
open Go
section
variable {Key : Type} [DecidableEq Key]
variable {E : Env Key} {G : Gh} {w : World}
def Gh.fin (G : Gh) (ids toks : List Nat) : Gh :=
 { blk := fun i => (ids[i]?).bind G.blk, tok := fun i => (toks[i]?).bind G.tok, ver := zero0, cur := zero0, oth := G.oth, bl := G.bl }
theorem fin_blk {ids toks : List Nat} {i b : Nat} (h : (G.fin ids toks).blk i = some b) : ∃ id, ids[i]? = some id ∧ G.blk id = some b := by
 simp only [Gh.fin] at h
 cases hi : ids[i]? with
 | none => rw [hi] at h; cases h
 | some id => rw [hi] at h; exact ⟨id, rfl, h⟩
theorem fin_tok {ids toks : List Nat} {i : Nat} {r : Nat × Nat × Nat} (h : (G.fin ids toks).tok i = some r) : ∃ t, toks[i]? = some t ∧ G.tok t = some r := by
 simp only [Gh.fin] at h
 cases hi : toks[i]? with
 | none => rw [hi] at h; cases h
 | some t => rw [hi] at h; exact ⟨t, rfl, h⟩
theorem fin_free {ids toks : List Nat} {b o : Nat} (h : G.free b o) : (G.fin ids toks).free b o :=
 ⟨fun i hb => by obtain ⟨id, _, h2⟩ := fin_blk hb; exact h.1 id h2, fun t lo hi ht => by obtain ⟨u, _, h2⟩ := fin_tok ht; exact h.2 u lo hi h2⟩
theorem fin_clear {ids toks : List Nat} {b : Nat} (h : G.clear b) : (G.fin ids toks).clear b :=
 ⟨fun i hb => by obtain ⟨id, _, h2⟩ := fin_blk hb; exact h.1 id h2, fun t lo hi ht => by obtain ⟨u, _, h2⟩ := fin_tok ht; exact h.2 u lo hi h2⟩
theorem fin_pur {ids toks : List Nat} {b o : Nat} (h : G.pur b o) : (G.fin ids toks).pur b o := ⟨fin_free h.1, h.2⟩
theorem inward_fin {σ : St E.A} (hL : Laws E) (hh : HRel E σ.ob G w) (hver : σ.ver = G.ver) (hcur : σ.tk = G.cur) (ids toks toks' : List Nat) (htt : toks' = toks ∨ toks' = []) {l : Leaf E.A} {v : Value} (r : Rep E G w l v) : Rep E (G.fin ids toks) w (mapLeaf E (inwardF E σ ids toks') l) v := by
 have hc : ∀ b o v, w.cell? ⟨b, o, none⟩ = some v → G.pur b o → w.cell? ⟨b, o, none⟩ = some v ∧ (G.fin ids toks).pur b o := fun b o v h hf => ⟨h, fin_pur hf⟩
 induction r with
 | dead hv => exact .dead hv
 | int hk => exact .int hk
 | bool b => exact .bool b
 | str s h => exact .str s h
 | lit hv => exact .lit hv
 | nil => exact .nil
 | sl0 k a cap h => exact .sl0 k a cap h
 | sl k xs b off cap vals h1 h2 hcell hrep _ => exact (Rep.sl k xs b off cap vals h1 h2 hcell hrep).plain hL hc rfl
 | @own t v k xs a n cap hsl hle hown _ =>
  have hsl' := hsl.plain hL hc rfl
  show Rep E (G.fin ids toks) w (inwardF E σ ids toks' (.own t v k xs)) _
  simp only [inwardF, inward]
  split
  ·rename_i hvt
   rcases htt with rfl | rfl
   ·refine .own hsl' (Nat.zero_le _) (fun _ => ?_)
    rcases hown (by rw [hvt.1, hcur]) with hn | ⟨b, off, ty, m, ha, ht, hs⟩
    ·exact .inl hn
    ·refine .inr ⟨b, off, ty, m, ha, ?_, hs⟩
     simp only [Gh.fin, idxOf_get hvt.2]
     exact ht
   ·simp at hvt
  ·exact hsl'
 | @ptr id v off b hle hb =>
  show Rep E (G.fin ids toks) w (inwardF E σ ids toks' (.ptr id v off)) _
  simp only [inwardF, inward]
  split
  ·rename_i hv
   refine .ptr (Nat.zero_le _) (fun _ => ?_)
   simp only [Gh.fin, idxOf_get hv.2]
   exact hb (by rw [hv.1, hver])
  ·exact .dead rfl
 | @mp id v b hle hb =>
  show Rep E (G.fin ids toks) w (inwardF E σ ids toks' (.mp id v)) _
  simp only [inwardF, inward]
  split
  ·rename_i hv
   refine .mp (Nat.zero_le _) (fun _ => ?_)
   simp only [Gh.fin, idxOf_get hv.2]
   exact hb (by rw [hv.1, hver])
  ·exact .dead rfl
 | pp cs b off vals hp hcell hrep _ =>
  exact .pp cs b off vals hp (fun j hj => hc _ _ _ (hcell j hj).1 (hcell j hj).2) (fun j l hl => (hrep j l hl).plain hL hc (List.all_eq_true.1 hp l (List.mem_of_getElem? hl)))
 | fn f cs vs hs _ ih =>
  have e : ∀ cs : List (Leaf E.A), mapLeafs E (inwardF E σ ids toks') cs = cs.map (mapLeaf E (inwardF E σ ids toks')) := by
   intro cs
   induction cs with
   | nil => rfl
   | cons c cs ih => simp [mapLeafs, ih]
  show Rep E _ w (.fn f (mapLeafs E (inwardF E σ ids toks') cs)) _
  rw [e]
  refine .fn f _ vs (by simp [hs]) (fun j l hl => ?_)
  rw [List.getElem?_map] at hl
  cases hj : cs[j]? with
  | none => rw [hj] at hl; cases hl
  | some c => rw [hj] at hl; injection hl with hl; subst hl; exact ih j c hj
 | ifc _ ih => exact .ifc ih
 | @bf id v n cap a hle hb =>
  show Rep E (G.fin ids toks) w (inwardF E σ ids toks' (.bf id v)) _
  simp only [inwardF]
  split
  ·rename_i hv
   have hvG : v = G.ver id := by rw [hv.1, hver]
   have hm : ¬ id ∈ ids := by simpa using hv.2
   split
   ·rename_i k xs hob
    rcases bf_inv hh hvG hob (.bf hle hb) with ⟨rfl, he, _⟩ | ⟨b, cap', vs, ty, he, hbl, g1, g2, g3, g4, g5, g6⟩
    ·rw [he]; exact .sl0 k none 0 (Nat.zero_le _)
    ·rw [he]
     have hpur : ∀ o, (G.fin ids toks).pur b o := fun o => by
      refine ⟨⟨fun i hi => ?_, fun t lo hi ht => ?_⟩, fun ho => (hh.othf b o ho).2.1 id hbl⟩
      ·obtain ⟨id', h1, h2⟩ := fin_blk hi
       have := hh.inj id' id b h2 hbl
       subst this
       exact hm (List.mem_of_getElem? h1)
      ·obtain ⟨u, _, h2⟩ := fin_tok ht
       exact absurd hbl ((hh.tokb u b lo hi h2).2.1 id)
     refine .sl k xs b 0 cap' (fun i j => vs.getD (i * E.sz k + j) undef) g3 g4 (fun i j hi hj => ⟨?_, hpur _⟩) (fun i x hx j l hl => (g6 i x hx j l hl).plain hL hc (List.all_eq_true.1 (hL.encPure k x) l (List.mem_of_getElem? hl)))
     have h1 : i * E.sz k + j < vs.size := by
      have h2 : (i + 1) * E.sz k ≤ cap' * E.sz k := Nat.mul_le_mul_right _ (by omega)
      rw [Nat.succ_mul] at h2
      omega
     rw [Nat.zero_add]
     simp [World.cell?, g1, Array.getD, h1]
   ·exact .dead rfl
  ·exact .dead rfl
 | bp => exact .dead rfl
 | dp => exact .dead rfl
theorem inwardF_wrow {σ : St E.A} (hcur : σ.tk = G.cur) {G' : Gh} {ids toks : List Nat} {l : Leaf E.A} {v : Value} (hw : WRow E G w l v) : WRow E G' w (mapLeaf E (inwardF E σ ids toks) l) v := by
 cases l with
 | bf id v =>
  simp only [mapLeaf, inwardF]
  split
  ·split <;> trivial
  ·trivial
 | own t ver k xs => exact inward_wrow (ids := ids) hcur hw
 | ptr id v off => exact inward_wrow (ids := ids) (toks := toks) (l := .ptr id v off) hcur hw
 | mp id v => exact inward_wrow (ids := ids) (toks := toks) (l := .mp id v) hcur hw
 | _ => trivial
theorem HRel.fin {σ : St E.A} {tmps : Array Value} (hL : Laws E) (hr : VRel E σ G w tmps) {ids toks : List Nat} (hids : ids.Nodup) (htoks : toks.Nodup) {os : List (Obj E.A)} (hos : getObs E σ ids = some os) :
  HRel E (fun i => (os.map (mapObj E (inwardF E σ ids toks)))[i]?) (G.fin ids toks) w where
 ob i o ho := by
  simp only [List.getElem?_map] at ho
  cases hi : os[i]? with
  | none => rw [hi] at ho; cases ho
  | some x =>
   rw [hi] at ho; injection ho with ho; subst ho
   have hlt := lt_of_get hi
   obtain ⟨h1, h2⟩ := getObs_ok hos
   obtain ⟨id, hid⟩ : ∃ id, ids[i]? = some id := ⟨_, List.getElem?_eq_getElem (by omega)⟩
   obtain ⟨o', h3, h4⟩ := h2 i id hid
   rw [hi] at h3; injection h3 with h3; subst h3
   rcases hr.h.ob id x h4 with ⟨b, hb, hor⟩ | ⟨⟨k, rfl⟩, hn⟩
   rotate_left
   ·exact .inr ⟨⟨k, rfl⟩, by simp [Gh.fin, hid, hn]⟩
   exact .inl ⟨b, by simp [Gh.fin, hid, hb], hor.mapl hL (fun _ _ _ h hf => ⟨h, fin_pur hf⟩) rfl rfl (fun l v h => inward_fin hL hr.h hr.ver hr.cur ids toks toks (.inl rfl) h) (fun l v _ hw => inwardF_wrow hr.cur hw)⟩
 lt i b hb := by obtain ⟨id, _, h2⟩ := fin_blk hb; exact hr.h.lt id b h2
 inj i j b h1 h2 := by
  obtain ⟨id, h3, h4⟩ := fin_blk h1
  obtain ⟨id', h5, h6⟩ := fin_blk h2
  have := hr.h.inj id id' b h4 h6
  subst this
  exact nodup_inj hids h3 h5
 tokb t b lo hi ht := by
  obtain ⟨u, _, h2⟩ := fin_tok ht
  obtain ⟨g1, g2, g3⟩ := hr.h.tokb u b lo hi h2
  exact ⟨g1, fun i hb => by obtain ⟨id, _, h4⟩ := fin_blk hb; exact g2 id h4, g3⟩
 tokj t u b c lo hi lo' hi' h1 h2 hne := by
  obtain ⟨t', h3, h4⟩ := fin_tok h1
  obtain ⟨u', h5, h6⟩ := fin_tok h2
  exact hr.h.tokj t' u' b c lo hi lo' hi' h4 h6 (fun e => hne (nodup_inj htoks h3 (e ▸ h5)))
 gl g cs hg := by
  obtain ⟨this, ⟨t, hs⟩, ha⟩ := hr.h.gl g cs hg
  refine ⟨?_, ⟨t, hs⟩, fun k hk => (ha k hk).imp fun _ hn => ⟨hn.1, hn.2.1, fin_pur hn.2.2⟩⟩
  cases this with
  | pp _ b off vals hp hcell hrep =>
   exact .pp cs _ _ vals hp (fun j hj => ⟨(hcell j hj).1, fin_pur (hcell j hj).2⟩) (fun j l hl => (hrep j l hl).plain hL (fun _ _ _ h hf => ⟨h, fin_pur hf⟩) (List.all_eq_true.1 hp l (List.mem_of_getElem? hl)))
 othf b o ho := ⟨(hr.h.othf b o ho).1, fin_free (hr.h.othf b o ho).2⟩
theorem fin_fr (ids toks : List Nat) : Fr G w (G.fin ids toks) w :=
 ⟨rfl, rfl, rfl, Nat.le_refl _, fun _ _ _ h hf => ⟨h, fin_free hf⟩, fun _ _ hf => ⟨rfl, fin_clear hf, rfl⟩, fun _ _ h => h, rfl⟩
theorem init_rel {args : List (RV E.A)} {os : List (Obj E.A)} {vals : Array Value} (ha : ARel E G w args vals) (hh : HRel E (fun i => os[i]?) G w) (hv : G.ver = zero0) (hc : G.cur = zero0) (n : Nat) :
  VRel E (init E n args os) G w (vals ++ Array.replicate (n - vals.size) undef) := by
 refine ⟨⟨by simp [init, ha.1], fun i r hi => ?_⟩, hh, hv.symm, hc.symm⟩
 simp only [init] at hi
 rcases Nat.lt_or_ge i args.length with h | h
 ·rw [List.getElem?_append_left h] at hi
  have h1 : i < vals.size := by rw [← ha.1]; exact h
  have h2 : i < vals.size + (n - vals.size) := by omega
  have e : (vals ++ Array.replicate (n - vals.size) undef).getD i undef = vals.getD i undef := by
   simp [Array.getD, h1, h2, Array.getElem_append_left]
  rw [e]
  exact ha.2 i r hi
 ·rw [List.getElem?_append_right h, List.getElem?_replicate] at hi
  split at hi
  ·injection hi with hi; subst hi
   have e : (vals ++ Array.replicate (n - vals.size) undef).getD i undef = undef := by
    rw [Array.getD]
    split
    ·rename_i hlt
     rw [ha.1] at h
     simp [Array.getElem_append_right h]
    ·rfl
   rw [e]
   exact .tup rfl (fun j r hj => by cases j <;> cases hj)
  ·cases hi
theorem finish_ok (hL : Laws E) {G' : Gh} {w' : World} {fn : Func} {σ : St E.A} {tmps : Array Value} {n m : Nat} {keep : Bool} (hr : VRel E σ G' w' tmps) {r : RV E.A} {os' : List (Obj E.A)} (h : finish E fn.resultTypes.toList n m keep σ fn.results.toList = some (r, os'))
  (hfr : Fr G w G' w') (hk : ∀ i b, i < 64 → G'.blk i = some b → G.blk i = some b) : ∃ v G1, (results fn tmps).run E.P w' = .ok v w' ∧ Back E G w n r os' G1 v w' := by
 unfold finish at h
 split at h
 ·cases h
 ·rename_i r0 hr0
  obtain ⟨v, hv, hrep⟩ := retRV_ok hL hr hr0
  generalize hids : reach E σ 12 0 (addNew (List.range n) (leafsIds E σ.ver (rvLeafs E r0))) = ids at h
  have hn : ids.Nodup := by rw [← hids]; exact reach_nodup σ _ _ _ (addNew_nodup _ _ List.nodup_range)
  simp only at h
  split at h
  ·cases h
  ·rename_i os hos
   generalize htoks : addNew (List.range m) (os.flatMap fun o => leafsToks E σ.tk (objLeafs E (some o))) = toks at h
   have htn : toks.Nodup := by rw [← htoks]; exact addNew_nodup _ _ List.nodup_range
   generalize htoks' : (if keep then addNew toks (leafsToks E σ.tk (rvLeafs E r0)) else toks) = toks' at h
   have htn' : toks'.Nodup := by
    rw [← htoks']
    split
    ·exact addNew_nodup _ _ htn
    ·exact htn
   split at h
   ·rename_i hnn
    injection h with h; injection h with h1 h2
    subst h1; subst h2
    refine ⟨v, G'.fin ids toks', hv, ?_, HRel.fin hL hr hn htn' hos, rfl, rfl, fun i hi => ?_, hfr.trans (fin_fr ids toks')⟩
    ·refine coeRes_ok (hrep.mapl (fun l v h => ?_))
     cases keep with
     | true => exact inward_fin hL hr.h hr.ver hr.cur ids toks' toks' (.inl rfl) h
     | false => exact inward_fin hL hr.h hr.ver hr.cur ids toks' [] (.inr rfl) h
    ·have hid : ids[i]? = some i := by
      have h1 : (ids.take n)[i]? = some i := by rw [hnn.1, List.getElem?_range hi]
      rwa [List.getElem?_take_of_lt hi] at h1
     obtain ⟨o, ho', ho⟩ := (getObs_ok hos).2 i i hid
     have hnb := List.all_eq_true.1 hnn.2.2 o (List.mem_of_getElem? ho')
     rcases hr.h.ob i o ho with ⟨b, hb, _⟩ | ⟨⟨k, hk'⟩, _⟩
     rotate_left
     ·rw [hk'] at hnb; cases hnb
     rw [hk i b (by omega) hb]
     simp [Gh.fin, hid, hb]
   ·cases h
theorem leaves_marks {σ : St E.A} {tmps : Array Value} {fn : Func} {R : Ending → World → Prop} {G' : Gh} : ∀ (ds : List Deferred) (w' : World), Marks ds G' w' → VRel E σ G' w' tmps → Fr G w G' w' → (∀ d ∈ ds, ∀ D, d.target = .collected D → w.heap.size ≤ D) →
  (∀ w'', VRel E σ G' w'' tmps → Fr G w G' w'' → ∃ v, (results fn tmps).run E.P w'' = .ok v w'' ∧ R (.returned v) w'') → LeavesInM Fence.wide 0 E.P fn tmps R ds .returning w'
 | [], w', _, hv, hf, _, hfin => by
  obtain ⟨v, h1, h2⟩ := hfin w' hv hf
  exact ⟨v, h1, h2⟩
 | d :: ds, w', ⟨⟨D, h1, h2, h3, h4⟩, h5⟩, hv, hf, hD, hfin => by
  subst h1
  have hg := grownBy_putObj' w' D (.deferred none)
  have hid : Idle G' w' (some D) := idle_put h3 h2 rfl
  have hm : ∀ (es : List Deferred), (∀ d' ∈ es, ∀ D', d'.target = .collected D' → D' ≠ D) → Marks es G' w' → Marks es G' (w'.putObj D (.deferred none)) := by
   intro es
   induction es with
   | nil => exact fun _ _ => trivial
   | cons e es ih =>
    rintro hne ⟨⟨D', g1, g2, g3, g4⟩, g5⟩
    exact ⟨⟨D', g1, (World.putObj_heap_other (hne e (List.mem_cons_self ..) D' (by rw [g1]))).trans g2, g3, g4⟩, ih (fun d' hd' => hne d' (List.mem_cons_of_mem _ hd')) g5⟩
  exact ⟨by simp, .inl ⟨D, _, rfl, run_takeDeferred h2, leaves_marks ds _ (hm ds h4 h5) (vrel_grown hg hid hv) (fr_grown hg hid (fun r e => by cases e; exact hD _ (List.mem_cons_self ..) D rfl) hf) (fun d' hd' => hD d' (List.mem_cons_of_mem _ hd')) hfin⟩⟩
theorem valid_of_exec (hL : Laws E) {Γ : FuncId → Option (Spec E)} (hΓ : ∀ f spec, Γ f = some spec → Valid E f spec) {Λ : Lam E} {f : FuncId} {fn : Func} {c : Code} {spec : Spec E} {keep : Bool}
  (hf : E.P.funcs[f]? = some fn) (hb : fn.body = some c) (hnm : (fn.name == "runtime.NumGoroutine") = false) (hΛ : LamOK E Λ 0 c) (r : Bool) (hR : r = true → RamOK E Λ 0 c) (hno : r = false → ranges c = false)
  (hrun : ∀ args os r os', (spec args os).get = some (r, os') → execFun E Γ Λ keep fn args os some = some (r, os')) : Valid E f spec := by
 unfold Valid
 intro args os rr os' hs G w vals ha hh hv hc
 have hx := hrun args os rr os' hs
 unfold execFun at hx
 rw [hb] at hx
 simp only at hx
 have hi := init_rel ha hh hv hc fn.ntmps
 have hcf : (callFunc f vals).run E.P w = .ok (.enter f vals) w := by
  unfold callFunc
  have hne : ¬ fn.name = "runtime.NumGoroutine" := by simpa using hnm
  simp [hf, hb, hne]
 rw [hcf]
 refine callsIn_wide.1 (callsIn_of_wp_marks (n := 0) hf hb trivial (wpIn_wide.2 (wp_mono (show c.wp E.P _ _ w from exec_ok (wpSys E.P) r (fun _ => trivial) hL hΓ c 0 hΛ hR hno (init E fn.ntmps args os) _ G w _ hi hx) (fun e a' w' hw => ?_))))
 obtain ⟨ex, σ', rfl, hk, ds, _, hd, G', hr', hfr, hmk, hD⟩ := hw
 have hds : a'.defers = ds := hd.trans (List.append_nil ds)
 have fin : ∀ x, (match finish E fn.resultTypes.toList os.length (toksIn E os) keep σ' fn.results.toList with | some x => some x | none => none) = some x → x = (rr, os') → LeavesInM Fence.wide 0 E.P fn a'.tmps (fun e w' => ∃ v' G1, e = .returned v' ∧ Back E G w os.length rr os' G1 v' w') a'.defers .returning w' := by
  intro x hx e
  split at hx
  ·rename_i y hy
   injection hx with hx; subst hx; subst e
   rw [hds]
   refine leaves_marks (G := G) (w := w) ds w' hmk hr' hfr.1 hD (fun w'' hv'' hf'' => ?_)
   obtain ⟨v, G1, h1, h2⟩ := finish_ok hL hv'' hy hf'' hfr.2
   exact ⟨v, h1, v, G1, rfl, h2⟩
  ·cases hx
 cases ex with
 | normal => exact fin _ hk rfl
 | ret => exact fin _ hk rfl
 | exit id => cases hk
end
end Go.Vx
namespace Go.Vx
open Go
section
variable {Key : Type} [DecidableEq Key] (E : Env Key)
def pickSl : List (Nat × RV E.A) → Nat → RV E.A
 | [], _ => .undef
 | x :: r, i => if i = x.1 then x.2 else pickSl r i
def slotsFrom (l : List (Nat × RV E.A)) : Nat → Nat → List (RV E.A)
 | 0, _ => []
 | n + 1, i => pickSl E l i :: slotsFrom l n (i + 1)
def slots (n : Nat) (l : List (Nat × RV E.A)) : List (RV E.A) := slotsFrom E l n 0
def at' (n : Nat) (l : List (Nat × RV E.A)) (os : List (Nat × Option (Obj E.A))) : St E.A := mkSt E (slots E n l) os
def FitsS (σ : St E.A) : List (Nat × RV E.A) → Prop
 | [] => True
 | x :: l => σ.sl.getD x.1 .undef = x.2 ∧ FitsS σ l
def FitsO (σ : St E.A) : List (Nat × Option (Obj E.A)) → Prop
 | [] => True
 | x :: l => σ.ob x.1 = x.2 ∧ FitsO σ l
variable {E}
theorem slotsFrom_len (l : List (Nat × RV E.A)) : ∀ n i, (slotsFrom E l n i).length = n
 | 0, _ => rfl
 | n + 1, i => by simp [slotsFrom, slotsFrom_len l n (i + 1)]
theorem slotsFrom_get (l : List (Nat × RV E.A)) : ∀ n i j r, (slotsFrom E l n i)[j]? = some r → r = pickSl E l (i + j)
 | 0, _, j, r, h => by cases j <;> cases h
 | n + 1, i, 0, r, h => by simp [slotsFrom] at h; exact h.symm
 | n + 1, i, j + 1, r, h => by
  have := slotsFrom_get l n (i + 1) j r (by simpa [slotsFrom] using h)
  rw [this]; congr 1; omega
theorem pickSl_fits {σ : St E.A} : ∀ (l : List (Nat × RV E.A)) (i : Nat), FitsS E σ l → pickSl E l i = .undef ∨ σ.sl.getD i .undef = pickSl E l i
 | [], _, _ => .inl rfl
 | x :: l, i, h => by
  simp only [pickSl]
  split
  ·rename_i e; subst e; exact .inr h.1
  ·exact pickSl_fits l i h.2
theorem look_fits {σ : St E.A} : ∀ (l : List (Nat × Option (Obj E.A))) (i : Nat) (o : Obj E.A), FitsO E σ l → look l i = some o → σ.ob i = some o
 | [], _, _, _, h => by cases h
 | x :: l, i, o, hf, h => by
  simp only [look] at h
  split at h
  ·rename_i e; subst e; rw [hf.1]; exact h
  ·exact look_fits l i o hf.2 h
theorem LoopOK.fit {body : Code} {σ σ' : St E.A} {e : Ex} {n : Nat} {l : List (Nat × RV E.A)} {os : List (Nat × Option (Obj E.A))} (hn : σ.sl.length = n) (hl : FitsS E σ l) (ho : FitsO E σ os) (hv : σ.ver = zero0) (ht : σ.tk = zero0)
  (h : LoopOK E body (at' E n l os) e σ') : LoopOK E body σ e σ' := by
 refine LoopOK.weak (σ' := at' E n l os) ?_ (fun i r hi => ?_) (fun i o hi => look_fits os i o ho hi) hv.symm ht.symm h
 ·show (slotsFrom E l n 0).length = _
  rw [slotsFrom_len]; exact hn.symm
 ·have := slotsFrom_get l n 0 i r hi
  rw [Nat.zero_add] at this
  rw [this]
  exact pickSl_fits l i hl
abbrev Out' (E : Env Key) := Ex × St E.A
theorem iter_tree {X O : Type} {t : X → Tree (X ⊕ O)} {lam : X → Tree O} {m : X → Nat}
  (h : ∀ x o, (lam x).get = some o → (∃ x', (t x).get = some (.inl x') ∧ m x' < m x ∧ (lam x').get = some o) ∨ (t x).get = some (.inr o)) : ∀ (n : Nat) (x : X) (o : O), (lam x).get = some o → m x < n → iter t n x = some o
 | 0, _, _, _, hm => by omega
 | n + 1, x, o, hok, hm => by
  simp only [iter]
  rcases h x o hok with ⟨x', h1, h2, h3⟩ | h1
  ·rw [h1]
   exact iter_tree h n x' o h3 (by omega)
  ·rw [h1]
def LamB (E : Env Key) (Λ : Lam E) (n : Nat) (c : Code) : Prop := LamOK E Λ n c ∧ ranges c = false
theorem loop_at (hL : Laws E) {Γ : FuncId → Option (Spec E)} (hΓ : ∀ f spec, Γ f = some spec → Valid E f spec) {Λ : Lam E} {n : Nat} {body : Code} (hΛ : LamB E Λ n body)
  {X : Type} {S : X → St E.A} {t : X → Tree (X ⊕ Out' E)} {Lv : Ex → Live}
  (hrun : ∀ (x : X) (k : Ex → St E.A → Option Unit), exec E Γ Λ n body (S x) (fun e σ1 => k e (clean E (Lv e) σ1)) = (t x).run (Sum.elim (fun x' => k .normal (S x')) (fun o => k o.1 o.2)))
  {x : X} {fuel : Nat} {o : Out' E} (hi : iter t fuel x = some o) (ho : o.1 ≠ .normal) : LoopOK E body (S x) o.1 o.2 :=
 loop_iter hL hΓ hΛ.1 hΛ.2 S (fun o => o) t Lv hrun fuel x o ho hi
theorem lamOK_of {Λ : Lam E} {n m : Nat} {c : Code} (hm : loops c = m) (h : ∀ j, j < m → ∀ σ e σ', (Λ (n + j) σ).get = some (e, σ') → LoopOK E ((loopAt c j).getD .skip) σ e σ') : LamOK E Λ n c := by
 intro j body hj σ e σ' hg
 have := h j (by have := loopAt_lt c j body hj; omega) σ e σ' hg
 rw [hj] at this
 exact this
theorem LamOK.of {Λ : Lam E} {n m : Nat} {c : Code} (hm : (loops c, ranges c) = (m, false)) (h : ∀ j, j < m → ∀ σ e σ', (Λ (n + j) σ).get = some (e, σ') → LoopOK E ((loopAt c j).getD .skip) σ e σ') : LamB E Λ n c := by
 injection hm with h1 h2
 exact ⟨lamOK_of h1 h, h2⟩
theorem LamOK.none {Λ : Lam E} {n : Nat} {c : Code} (hm : (loops c, ranges c) = (0, false)) : LamB E Λ n c := LamOK.of hm (fun j hj => by omega)
def LamR (E : Env Key) (Λ : Lam E) (n : Nat) (c : Code) : Prop := LamOK E Λ n c ∧ RamOK E Λ n c
def lbc (c : Code) (j : Nat) : Code := (loopAt c j).getD .skip
def rfc (c : Code) (j : Nat) : Operand × Array Tmp × Code × Code := (rangeAt c j).getD (.tmp 0, #[], .skip, .skip)
theorem LamR.of {Λ : Lam E} {n m : Nat} {c : Code} (hm : loops c = m) (h : ∀ j, j < m → ((rangeAt c j).isNone = true ∧ ∀ σ e σ', (Λ (n + j) σ).get = some (e, σ') → LoopOK E (lbc c j) σ e σ') ∨ ((loopAt c j).isNone = true ∧ ∀ σ e σ', (Λ (n + j) σ).get = some (e, σ') → RangeOK E (rfc c j).1 (rfc c j).2.1 (rfc c j).2.2.1 (rfc c j).2.2.2 σ e σ')) : LamR E Λ n c := by
 refine ⟨fun j body hj σ e σ' hg => ?_, fun j f ps az b hj σ e σ' hg => ?_⟩
 ·rcases h j (by have := loopAt_lt c j body hj; omega) with ⟨_, h⟩ | ⟨h, _⟩
  ·have := h σ e σ' hg
   unfold lbc at this
   rw [hj] at this
   exact this
  ·rw [hj] at h; cases h
 ·rcases h j (by have := rangeAt_lt c j hj; omega) with ⟨h, _⟩ | ⟨_, h⟩
  ·rw [hj] at h; cases h
  ·have := h σ e σ' hg
   unfold rfc at this
   rw [hj] at this
   exact this
def lb (f : Func) (j : Nat) : Code := (loopAt (f.body.getD .skip) j).getD .skip
theorem valid_of_body (hL : Laws E) {Γ : FuncId → Option (Spec E)} (hΓ : ∀ f spec, Γ f = some spec → Valid E f spec) {Λ : Lam E} {f : FuncId} {fn : Func} {spec : Spec E} {keep : Bool}
  (hf : E.P.funcs[f]? = some fn) (hb : fn.body = some (fn.body.getD .skip)) (hnm : (fn.name == "runtime.NumGoroutine") = false) (hΛ : LamB E Λ 0 (fn.body.getD .skip))
  (hrun : ∀ args os r os', (spec args os).get = some (r, os') → execFun E Γ Λ keep fn args os some = some (r, os')) : Valid E f spec :=
 valid_of_exec hL hΓ hf hb hnm hΛ.1 false (fun h => by cases h) (fun _ => hΛ.2) hrun
def okLen : Leaf E.A → Bool
 | .str s => decide (s.length ≤ big)
 | .sl _ xs => decide (xs.length ≤ big)
 | .own _ _ _ xs => decide (xs.length ≤ big)
 | _ => true
def okLenR : RV E.A → Bool
 | .lf l => okLen l
 | .agg cs => cs.all okLen
 | _ => true
def okLenO : Obj E.A → Bool
 | .cells _ cs => cs.all okLen
 | .buf _ xs => decide (xs.length ≤ big)
 | .wb _ l => okLen l
 | _ => true
variable {G : Gh} {w : World}
theorem okLen_ok {l : Leaf E.A} {v : Value} (h : Rep E G w l v) : okLen l = true := by
 have sl : ∀ {k : Key} {xs : List (E.A k)} {v : Value}, Rep E G w (.sl k xs) v → xs.length ≤ big := by
  intro k xs v h
  cases h with
  | sl0 => simp
  | sl k xs b off cap vals h1 h2 => omega
 cases h with
 | str s h => simpa [okLen] using h
 | sl0 k a cap h => simp [okLen]
 | sl k xs b off cap vals h1 h2 hc hr => simp only [okLen, decide_eq_true_eq]; omega
 | own h _ _ => simpa [okLen] using sl h
 | _ => rfl
theorem okLens_ok {cs : List (Leaf E.A)} {vs : Array Value} (h : Reps E G w cs vs) : cs.all okLen = true := by
 rw [List.all_eq_true]
 intro l hl
 obtain ⟨j, hj, rfl⟩ := List.getElem_of_mem hl
 exact okLen_ok (h.2 j _ (List.getElem?_eq_getElem hj))
theorem okLenR_ok {r : RV E.A} {v : Value} (h : RRep E G w r v) : okLenR r = true := by
 cases r with
 | lf l => exact okLen_ok h.lf_inv
 | agg cs => obtain ⟨vs, _, hv⟩ := h.agg_inv; exact okLens_ok hv
 | _ => rfl
theorem okLenO_ok {o : Obj E.A} {b : Nat} (h : ORep E G w o b) : okLenO o = true := by
 cases h with
 | cells h1 h2 => exact okLens_ok h2
 | map => rfl
 | buf h1 h2 h3 h4 => simp only [okLenO, decide_eq_true_eq]; omega
 | wb _ h2 => exact okLen_ok h2
theorem HRel.okLen {ob : Nat → Option (Obj E.A)} (h : HRel E ob G w) {i : Nat} {o : Obj E.A} (ho : ob i = some o) : okLenO o = true := by
 rcases h.ob i o ho with ⟨b, _, hb⟩ | ⟨⟨k, rfl⟩, _⟩
 ·exact okLenO_ok hb
 ·rfl
theorem LoopOK.lens {body : Code} {σ σ' : St E.A} {e : Ex} (i : Nat) (h : okLenR (σ.sl.getD i .undef) = true → LoopOK E body σ e σ') : LoopOK E body σ e σ' := by
 intro S G w a hr
 refine h ?_ S G w a hr
 rw [List.getD]
 cases hs : σ.sl[i]? with
 | none => rfl
 | some r => exact okLenR_ok (hr.s.2 i r hs)
theorem LoopOK.lensO {body : Code} {σ σ' : St E.A} {e : Ex} (i : Nat) (h : (∀ o, σ.ob i = some o → okLenO o = true) → LoopOK E body σ e σ') : LoopOK E body σ e σ' := by
 intro S G w a hr
 refine h (fun o ho => ?_) S G w a hr
 exact hr.h.okLen ho
theorem Valid.never {f : FuncId} {spec : Spec E} (h : ∀ args os, (spec args os).get = none) : Valid E f spec := by
 unfold Valid
 intro args os r os' hx
 rw [h] at hx; cases hx
theorem Valid.forN {f : FuncId} {spec : Spec E} {N : Nat → Spec E} (h : ∀ n, Valid E f (N n)) (hn : ∀ args os x, (spec args os).get = some x → ∃ n, (N n args os).get = some x) : Valid E f spec := by
 unfold Valid at h ⊢
 intro args os r os' hx
 obtain ⟨n, hn⟩ := hn args os _ hx
 exact h n args os r os' hn
theorem Valid.less {f : FuncId} {spec spec' : Spec E} (h : Valid E f spec) (hs : ∀ args os x, args.all okLenR = true → os.all okLenO = true → (spec' args os).get = some x → (spec args os).get = some x) : Valid E f spec' := by
 unfold Valid at h ⊢
 intro args os r os' hx G w vals ha hh hv hc
 refine h args os r os' (hs args os _ ?_ ?_ hx) G w vals ha hh hv hc
 ·rw [List.all_eq_true]
  intro r hr
  obtain ⟨j, hj, rfl⟩ := List.getElem_of_mem hr
  exact okLenR_ok (ha.2 j _ (List.getElem?_eq_getElem hj))
 ·rw [List.all_eq_true]
  intro o ho
  obtain ⟨j, hj, rfl⟩ := List.getElem_of_mem ho
  exact hh.okLen (List.getElem?_eq_getElem hj)
end
end Go.Vx
namespace Go.Vx
open Go
@[simp] theorem Tree.get_leaf {α : Type} (a : α) : (Tree.leaf a).get = some a := rfl
@[simp] theorem Tree.get_fail {α : Type} : (Tree.fail : Tree α).get = none := rfl
@[simp] theorem Tree.get_ite {α : Type} (b : Bool) (t e : Tree α) : (Tree.ite b t e).get = cond b t.get e.get := rfl
theorem Tree.get_ite_some {α : Type} {b : Bool} {t e : Tree α} {x : α} (h : (Tree.ite b t e).get = some x) : (b = true ∧ t.get = some x) ∨ (b = false ∧ e.get = some x) := by
 cases b with
 | true => exact .inl ⟨rfl, h⟩
 | false => exact .inr ⟨rfl, h⟩
theorem wi64 (n : Int) (h0 : -9223372036854775808 ≤ n) (h1 : n ≤ 9223372036854775807) : IntKind.i64.wrap n = n := by
 simp only [IntKind.wrap, IntKind.bits, IntKind.signed]; simp; omega
theorem wu8 (n : Int) (h0 : 0 ≤ n) (h1 : n ≤ 255) : IntKind.u8.wrap n = n := by
 simp only [IntKind.wrap, IntKind.bits, IntKind.signed]; simp; omega
theorem wu64 (n : Int) (h0 : 0 ≤ n) (h1 : n ≤ 18446744073709551615) : IntKind.u64.wrap n = n := by
 simp only [IntKind.wrap, IntKind.bits, IntKind.signed]; simp; omega
theorem inB_true {i : Int} {n : Nat} : inB i n = true ↔ 0 ≤ i ∧ i < (n : Int) := inB_iff
theorem drop_cons {α : Type} (l : List α) (d : α) (i : Nat) (h : i < l.length) : l.drop i = l.getD i d :: l.drop (i + 1) := by
 have : l.getD i d = l[i] := by simp [List.getD, h]
 rw [this]; exact List.drop_eq_getElem_cons h
theorem cond_dec {α : Type} {p : Prop} [Decidable p] (t e : α) : cond (decide p) t e = if p then t else e := by
 by_cases h : p <;> simp [h]
end Go.Vx
namespace Go.Vx
open Go
inductive Val where
 | mk (kind num gen : Int) (text : List UInt8) (list : List Val) (keys : List (List UInt8))
end Go.Vx
namespace Px
open Go.Vx
def vk : Val → Int | .mk a _ _ _ _ _ => a
def vn : Val → Int | .mk _ a _ _ _ _ => a
def vg : Val → Int | .mk _ _ a _ _ _ => a
def vt : Val → List UInt8 | .mk _ _ _ a _ _ => a
def vl : Val → List Val | .mk _ _ _ _ a _ => a
def vs : Val → List (List UInt8) | .mk _ _ _ _ _ a => a
theorem v_eta (v : Val) : Val.mk (vk v) (vn v) (vg v) (vt v) (vl v) (vs v) = v := by cases v; rfl
def v0 : Val := .mk 0 0 0 [] [] []
end Px
namespace Go.Vx
open Go
inductive K
 | u8 | i64 | u64 | bool | str | val | bytes | bit
 deriving DecidableEq
abbrev Bit := Int × Int × Int × List UInt8 × Int × Bool
@[reducible] def KA : K → Type
 | .u8 => UInt8
 | .i64 | .u64 => Int
 | .bool => Bool
 | .str | .bytes => List UInt8
 | .val => Val
 | .bit => Int × Int × Int × List UInt8 × Int × Bool
def Kz : (k : K) → KA k
 | .u8 => (0 : UInt8)
 | .i64 => (0 : Int) | .u64 => (0 : Int)
 | .bool => false
 | .str => ([] : List UInt8) | .bytes => ([] : List UInt8)
 | .val => Val.mk 0 0 0 [] [] []
 | .bit => ((0, 0, 0, [], 0, false) : Int × Int × Int × List UInt8 × Int × Bool)
def Kenc : (k : K) → KA k → List (Leaf KA)
 | .u8, (x : UInt8) => [.int .u8 (x.toNat : Int)]
 | .i64, (x : Int) => [.int .i64 x] | .u64, (x : Int) => [.int .u64 x]
 | .bool, (x : Bool) => [.bool x]
 | .str, (x : List UInt8) => [.str x]
 | .bytes, (x : List UInt8) => [.sl .u8 x]
 | .val, (v : Val) => [.int .u8 (Px.vk v), .int .i64 (Px.vn v), .int .i64 (Px.vg v), .str (Px.vt v), .sl .val (Px.vl v), .sl .str (Px.vs v)]
 | .bit, (x : Int × Int × Int × List UInt8 × Int × Bool) => [.int .u8 x.1, .int .i64 x.2.1, .int .u8 x.2.2.1, .str x.2.2.2.1, .int .u8 x.2.2.2.2.1, .bool x.2.2.2.2.2]
def dInt (k : IntKind) : Leaf KA → Option Int
 | .int k' n => if k' = k then some n else none
 | _ => none
def dBool : Leaf KA → Option Bool | .bool b => some b | _ => none
def dStr : Leaf KA → Option (List UInt8) | .str s => some s | _ => none
def dBytes : Leaf KA → Option (List UInt8) | .sl .u8 (x : List UInt8) => some x | _ => none
def dVals : Leaf KA → Option (List Val) | .sl .val (x : List Val) => some x | .nil => some [] | _ => none
def dStrs : Leaf KA → Option (List (List UInt8)) | .sl .str (x : List (List UInt8)) => some x | .nil => some [] | _ => none
def d1 {α : Type} (f : Leaf KA → Option α) : List (Leaf KA) → Option α | [l] => f l | _ => none
def decVal : List (Leaf KA) → Option Val
 | [a, b, c, d, e, f] => match dInt .u8 a, dInt .i64 b, dInt .i64 c, dStr d, dVals e, dStrs f with
  | some a, some b, some c, some d, some e, some f => some (Val.mk a b c d e f)
  | _, _, _, _, _, _ => none
 | _ => none
def decBit : List (Leaf KA) → Option (Int × Int × Int × List UInt8 × Int × Bool)
 | [a, b, c, d, e, f] => match dInt .u8 a, dInt .i64 b, dInt .u8 c, dStr d, dInt .u8 e, dBool f with
  | some a, some b, some c, some d, some e, some f => some (a, b, c, d, e, f)
  | _, _, _, _, _, _ => none
 | _ => none
def Kdec : (k : K) → List (Leaf KA) → Option (KA k)
 | .u8, cs => (d1 (dInt .u8) cs).map fun n => UInt8.ofNat n.toNat
 | .i64, cs => d1 (dInt .i64) cs | .u64, cs => d1 (dInt .u64) cs
 | .bool, cs => d1 dBool cs
 | .str, cs => d1 dStr cs
 | .bytes, cs => d1 dBytes cs
 | .val, cs => decVal cs
 | .bit, cs => decBit cs
def Kagg : K → Bool | .val | .bit => true | _ => false
def Ksz : K → Nat | .val | .bit => 6 | _ => 1
def Kbeq : (k : K) → KA k → KA k → Bool
 | .u8, (x : UInt8), (y : UInt8) => decide (x = y)
 | .i64, (x : Int), (y : Int) => decide (x = y) | .u64, (x : Int), (y : Int) => decide (x = y)
 | .bool, (x : Bool), (y : Bool) => x == y
 | .str, (x : List UInt8), (y : List UInt8) => decide (x = y)
 | _, _, _ => false
def tyKey : TypeId → Option K
 | 5 => some .u8 | 2 => some .i64 | 3 => some .i64 | 54 => some .u64 | 4 => some .bool | 9 => some .str | 22 => some .bytes
 | 30 => some .val | 36 => some .val | 99 => some .bit
 | _ => none
def E : Env K where
 A := KA
 z := Kz
 enc := Kenc
 dec := Kdec
 agg := Kagg
 sz := Ksz
 beq := Kbeq
 kb := .u8
 toB := fun (x : List UInt8) => x
 ofB := fun (x : List UInt8) => x
 P := Go.Proofs.Tryz.prog
 key := tyKey
 gl := fun g => match g with
  | 1 => some [.dead]
  | 2 => some ((Go.Lib.pow10Tab).map fun z => .int .u64 z)
  | 3 => some ((List.range 256).map fun c => .int .u8 (Go.Lib.firstT c : Int))
  | 4 => some ((List.range 32).map fun c => .int .u8 (if c % 2 = 0 then (Go.Lib.accLo (c / 2) : Int) else (Go.Lib.accHi (c / 2) : Int)))
  | 5 => some [.ifc 181 .dead]
  | 6 => some [.ifc 181 .dead]
  | _ => none
 ga := fun g => if g = 1 then some .i64 else none
 wb := fun t => t == 80
end Go.Vx
namespace Go.Vx
open Go
theorem one_inv {G : Gh} {w : World} {l : Leaf E.A} {v : Value} (h : SRep E G w false [l] v) : Rep E G w l v := by
 obtain ⟨l', e, h⟩ := h
 injection e with e _; subst e; exact h
theorem int_inv {G : Gh} {w : World} {k : IntKind} {n : Int} {v : Value} (h : SRep E G w false [.int k n] v) : v = .int k n ∧ inRb k n = true := by
 have := one_inv h
 cases this with
 | int hk => exact ⟨rfl, hk⟩
theorem sone {G : Gh} {w : World} {l : Leaf E.A} {v : Value} (h : Rep E G w l v) : SRep E G w false [l] v := ⟨l, rfl, h⟩
theorem infoK (t : TypeId) (k : K) (z : Value) (sz : Nat) (hi : (E.P.info? t).isSome = true) (hs : ((E.P.info? t).map (·.size)) = some sz) (hz : ((E.P.info? t).bind (·.zero)) = some z) (hsz : sz = Ksz k) (hc : z.cells.size = sz) (ha : isAg E t = Kagg k) (hu : (E.P.underlying t).isSome = true)
  (hr : ∀ G w, SRep E G w (Kagg k) (Kenc k (Kz k)) z) : ∃ i z, E.P.info? t = some i ∧ i.size = E.sz k ∧ i.zero = some z ∧ z.cells.size = i.size ∧ isAg E t = E.agg k ∧ (E.P.underlying t).isSome = true ∧ ∀ G w, SRep E G w (E.agg k) (E.enc k (E.z k)) z := by
 cases hx : E.P.info? t with
 | none => rw [hx] at hi; cases hi
 | some i =>
  rw [hx] at hs hz
  simp only [Option.map_some, Option.some.injEq, Option.bind_some] at hs hz
  exact ⟨i, z, rfl, hs.trans hsz, hz, hc.trans hs.symm, ha, hu, hr⟩
theorem zsl {G : Gh} {w : World} {k : K} : Rep E G w (.sl k []) (.slice none 0 0) := .sl0 k none 0 (by decide)
theorem zstr {G : Gh} {w : World} : Rep E G w (.str []) (.string ⟨#[]⟩) := .str ⟨#[]⟩ (by decide)
theorem reps6 {G : Gh} {w : World} {a b c d e f : Leaf E.A} {x y z u v t : Value} (h1 : Rep E G w a x) (h2 : Rep E G w b y) (h3 : Rep E G w c z) (h4 : Rep E G w d u) (h5 : Rep E G w e v) (h6 : Rep E G w f t) : Reps E G w [a, b, c, d, e, f] #[x, y, z, u, v, t] := by
 refine ⟨rfl, fun j l hj => ?_⟩
 match j with
 | 0 => injection hj with hj; subst hj; exact h1
 | 1 => injection hj with hj; subst hj; exact h2
 | 2 => injection hj with hj; subst hj; exact h3
 | 3 => injection hj with hj; subst hj; exact h4
 | 4 => injection hj with hj; subst hj; exact h5
 | 5 => injection hj with hj; subst hj; exact h6
 | j + 6 => cases hj
theorem Einfo : ∀ t k, E.key t = some k → ∃ i z, E.P.info? t = some i ∧ i.size = E.sz k ∧ i.zero = some z ∧ z.cells.size = i.size ∧ isAg E t = E.agg k ∧ (E.P.underlying t).isSome = true ∧ ∀ G w, SRep E G w (E.agg k) (E.enc k (E.z k)) z := by
 intro t k h
 change tyKey t = some k at h
 unfold tyKey at h
 split at h
 ·injection h with h; subst h
  exact infoK 5 .u8 (.int .u8 0) 1 (by kernel_rfl) (by kernel_rfl) (by kernel_rfl) (by kernel_rfl) (by kernel_rfl) (by kernel_rfl) (by kernel_rfl) (fun G w => sone (.int rfl))
 ·injection h with h; subst h
  exact infoK 2 .i64 (.int .i64 0) 1 (by kernel_rfl) (by kernel_rfl) (by kernel_rfl) (by kernel_rfl) (by kernel_rfl) (by kernel_rfl) (by kernel_rfl) (fun G w => sone (.int rfl))
 ·injection h with h; subst h
  exact infoK 3 .i64 (.int .i64 0) 1 (by kernel_rfl) (by kernel_rfl) (by kernel_rfl) (by kernel_rfl) (by kernel_rfl) (by kernel_rfl) (by kernel_rfl) (fun G w => sone (.int rfl))
 ·injection h with h; subst h
  exact infoK 54 .u64 (.int .u64 0) 1 (by kernel_rfl) (by kernel_rfl) (by kernel_rfl) (by kernel_rfl) (by kernel_rfl) (by kernel_rfl) (by kernel_rfl) (fun G w => sone (.int rfl))
 ·injection h with h; subst h
  exact infoK 4 .bool (.bool false) 1 (by kernel_rfl) (by kernel_rfl) (by kernel_rfl) (by kernel_rfl) (by kernel_rfl) (by kernel_rfl) (by kernel_rfl) (fun G w => sone (.bool false))
 ·injection h with h; subst h
  exact infoK 9 .str (.string ⟨#[]⟩) 1 (by kernel_rfl) (by kernel_rfl) (by kernel_rfl) (by kernel_rfl) (by kernel_rfl) (by kernel_rfl) (by kernel_rfl) (fun G w => sone zstr)
 ·injection h with h; subst h
  exact infoK 22 .bytes (.slice none 0 0) 1 (by kernel_rfl) (by kernel_rfl) (by kernel_rfl) (by kernel_rfl) (by kernel_rfl) (by kernel_rfl) (by kernel_rfl) (fun G w => sone zsl)
 ·injection h with h; subst h
  exact infoK 30 .val (.agg #[.int .u8 0, .int .i64 0, .int .i64 0, .string ⟨#[]⟩, .slice none 0 0, .slice none 0 0]) 6 (by kernel_rfl) (by kernel_rfl) (by kernel_rfl) (by kernel_rfl) (by kernel_rfl) (by kernel_rfl) (by kernel_rfl) (fun G w => ⟨_, rfl, reps6 (.int rfl) (.int rfl) (.int rfl) zstr zsl zsl⟩)
 ·injection h with h; subst h
  exact infoK 36 .val (.agg #[.int .u8 0, .int .i64 0, .int .i64 0, .string ⟨#[]⟩, .slice none 0 0, .slice none 0 0]) 6 (by kernel_rfl) (by kernel_rfl) (by kernel_rfl) (by kernel_rfl) (by kernel_rfl) (by kernel_rfl) (by kernel_rfl) (fun G w => ⟨_, rfl, reps6 (.int rfl) (.int rfl) (.int rfl) zstr zsl zsl⟩)
 ·injection h with h; subst h
  exact infoK 99 .bit (.agg #[.int .u8 0, .int .i64 0, .int .u8 0, .string ⟨#[]⟩, .int .u8 0, .bool false]) 6 (by kernel_rfl) (by kernel_rfl) (by kernel_rfl) (by kernel_rfl) (by kernel_rfl) (by kernel_rfl) (by kernel_rfl) (fun G w => ⟨_, rfl, reps6 (.int rfl) (.int rfl) (.int rfl) zstr (.int rfl) (.bool false)⟩)
 ·cases h
theorem undEq {t : TypeId} {d d' : TypeDesc} (e : E.P.underlying t = some d') (hd : E.P.underlying t = some d) : d = d' := Option.some.inj (hd.symm.trans e)
theorem rep_int {G : Gh} {w : World} {k : IntKind} {n : Int} {v : Value} (h : Rep E G w (.int k n) v) : inRb k n = true := by
 cases h with
 | int hk => exact hk
theorem beq_u8 (a b : UInt8) : (((UInt8.toNat a : Nat) : Int) == ((UInt8.toNat b : Nat) : Int)) = decide (a = b) := by
 rw [Bool.eq_iff_iff]
 simp only [beq_iff_eq, decide_eq_true_eq, Int.natCast_inj]
 exact ⟨fun h => UInt8.toNat_inj.1 h, fun h => by rw [h]⟩
theorem str_inv' {G : Gh} {w : World} {x : List UInt8} {v : Value} (h : Rep E G w (.str x) v) : ∃ s : ByteArray, v = .string s ∧ s.data.toList = x := by
 cases h with
 | str s hs => exact ⟨s, rfl, rfl⟩
theorem same_int (k : IntKind) (a b : Int) : Instr.sameNow (.int k) (.int k a) (.int k b) = some (decide (a = b)) := by
 simp only [Instr.sameNow, if_true]; rfl
theorem same_str (s u : ByteArray) : (s == u) = decide (s.data.toList = u.data.toList) := by
 have h1 : (s == u) = (s.data == u.data) := by cases s; cases u; rfl
 rw [h1, Bool.eq_iff_iff, beq_iff_eq, decide_eq_true_eq]
 exact ⟨fun h => by rw [h], fun h => Array.toList_inj.1 h⟩
theorem same_u8 (a b : UInt8) : Instr.sameNow (.int .u8) (.int .u8 ((a.toNat : Nat) : Int)) (.int .u8 ((b.toNat : Nat) : Int)) = some (decide (a = b)) := by
 simp only [Instr.sameNow, if_true, beq_u8]
theorem bool_inv' {G : Gh} {w : World} {x : Bool} {v : Value} (h : Rep E G w (.bool x) v) : v = .bool x := by
 cases h with
 | bool b => rfl
theorem noKey {t : TypeId} {d : TypeDesc} (hf : keyOk (E.P.underlying t) = false) (hd : E.P.underlying t = some d) (hk : keyOk (some d) = true) : False := by
 rw [hd, hk] at hf; cases hf
theorem Ebeq : ∀ t k d, E.key t = some k → E.P.underlying t = some d → keyOk (some d) = true → ∀ G w a b va vb, SRep E G w (E.agg k) (E.enc k a) va → SRep E G w (E.agg k) (E.enc k b) vb → Instr.sameNow d va vb = some (E.beq k a b) := by
 intro t k d h hd hk
 change tyKey t = some k at h
 unfold tyKey at h
 split at h
 ·injection h with h; subst h
  intro G w a b va vb ha hb
  have hd := undEq (t := 5) (d' := (.int .u8)) (by kernel_rfl) hd
  subst hd
  obtain ⟨rfl, _⟩ := int_inv ha
  obtain ⟨rfl, _⟩ := int_inv hb
  exact same_u8 a b
 ·injection h with h; subst h
  intro G w a b va vb ha hb
  have hd := undEq (t := 2) (d' := (.int .i64)) (by kernel_rfl) hd
  subst hd
  obtain ⟨rfl, _⟩ := int_inv ha
  obtain ⟨rfl, _⟩ := int_inv hb
  exact same_int .i64 a b
 ·injection h with h; subst h
  intro G w a b va vb ha hb
  have hd := undEq (t := 3) (d' := (.int .i64)) (by kernel_rfl) hd
  subst hd
  obtain ⟨rfl, _⟩ := int_inv ha
  obtain ⟨rfl, _⟩ := int_inv hb
  exact same_int .i64 a b
 ·injection h with h; subst h
  intro G w a b va vb ha hb
  have hd := undEq (t := 54) (d' := (.int .u64)) (by kernel_rfl) hd
  subst hd
  obtain ⟨rfl, _⟩ := int_inv ha
  obtain ⟨rfl, _⟩ := int_inv hb
  exact same_int .u64 a b
 ·injection h with h; subst h
  intro G w a b va vb ha hb
  have hd := undEq (t := 4) (d' := .bool) (by kernel_rfl) hd
  subst hd
  rw [bool_inv' (one_inv ha), bool_inv' (one_inv hb)]
  rfl
 ·injection h with h; subst h
  intro G w a b va vb ha hb
  have hd := undEq (t := 9) (d' := .string) (by kernel_rfl) hd
  subst hd
  have ha := one_inv ha
  have hb := one_inv hb
  obtain ⟨s, rfl, rfl⟩ := str_inv' ha
  obtain ⟨u, rfl, rfl⟩ := str_inv' hb
  exact congrArg some (same_str s u)
 ·exact (noKey (t := 22) (by kernel_rfl) hd hk).elim
 ·exact (noKey (t := 30) (by kernel_rfl) hd hk).elim
 ·exact (noKey (t := 36) (by kernel_rfl) hd hk).elim
 ·exact (noKey (t := 99) (by kernel_rfl) hd hk).elim
 ·cases h
theorem dInt_inv {k : IntKind} {l : Leaf KA} {n : Int} (h : dInt k l = some n) : l = .int k n := by
 unfold dInt at h
 split at h
 ·split at h
  ·rename_i e; subst e; injection h with h; subst h; rfl
  ·cases h
 ·cases h
theorem dBool_inv {l : Leaf KA} {n : Bool} (h : dBool l = some n) : l = .bool n := by
 unfold dBool at h
 split at h
 ·injection h with h; subst h; rfl
 ·cases h
theorem dStr_inv {l : Leaf KA} {n : List UInt8} (h : dStr l = some n) : l = .str n := by
 unfold dStr at h
 split at h
 ·injection h with h; subst h; rfl
 ·cases h
theorem dBytes_inv {l : Leaf KA} {n : List UInt8} (h : dBytes l = some n) : l = .sl .u8 n := by
 unfold dBytes at h
 split at h
 ·injection h with h; subst h; rfl
 ·cases h
theorem d1_inv {α : Type} {f : Leaf KA → Option α} {cs : List (Leaf KA)} {x : α} (h : d1 f cs = some x) : ∃ l, cs = [l] ∧ f l = some x := by
 unfold d1 at h
 split at h
 ·exact ⟨_, rfl, h⟩
 ·cases h
theorem nil_inv' {G : Gh} {w : World} {v : Value} (h : Rep E G w .nil v) : v = .slice none 0 0 := by
 cases h with
 | nil => rfl
theorem dVals_inv {l : Leaf KA} {n : List Val} (h : dVals l = some n) {G : Gh} {w : World} {v : Value} (hr : Rep E G w l v) : Rep E G w (.sl .val n) v := by
 unfold dVals at h
 split at h
 ·injection h with h; subst h; exact hr
 ·injection h with h; subst h; rw [nil_inv' hr]; exact zsl
 ·cases h
theorem dStrs_inv {l : Leaf KA} {n : List (List UInt8)} (h : dStrs l = some n) {G : Gh} {w : World} {v : Value} (hr : Rep E G w l v) : Rep E G w (.sl .str n) v := by
 unfold dStrs at h
 split at h
 ·injection h with h; subst h; exact hr
 ·injection h with h; subst h; rw [nil_inv' hr]; exact zsl
 ·cases h
theorem decVal_inv {cs : List (Leaf KA)} {x : Val} (h : decVal cs = some x) : cs.length = 6 ∧ ∀ G w (vs : Array Value), Reps E G w cs vs → Reps E G w (Kenc .val x) vs := by
 unfold decVal at h
 split at h
 ·split at h
  ·rename_i a' b' c' d' e' f' h1 h2 h3 h4 h5 h6
   injection h with h; subst h
   have h1 := dInt_inv h1; have h2 := dInt_inv h2; have h3 := dInt_inv h3; have h4 := dStr_inv h4
   subst h1; subst h2; subst h3; subst h4
   refine ⟨rfl, fun G w vs hv => ⟨hv.1, fun j l hj => ?_⟩⟩
   match j, hj with
   | 0, hj => injection hj with hj; subst hj; exact hv.2 0 _ rfl
   | 1, hj => injection hj with hj; subst hj; exact hv.2 1 _ rfl
   | 2, hj => injection hj with hj; subst hj; exact hv.2 2 _ rfl
   | 3, hj => injection hj with hj; subst hj; exact hv.2 3 _ rfl
   | 4, hj => injection hj with hj; subst hj; exact dVals_inv h5 (hv.2 4 _ rfl)
   | 5, hj => injection hj with hj; subst hj; exact dStrs_inv h6 (hv.2 5 _ rfl)
   | j + 6, hj => cases hj
  ·cases h
 ·cases h
theorem decBit_inv {cs : List (Leaf KA)} {x : Int × Int × Int × List UInt8 × Int × Bool} (h : decBit cs = some x) : cs.length = 6 ∧ ∀ G w (vs : Array Value), Reps E G w cs vs → Reps E G w (Kenc .bit x) vs := by
 unfold decBit at h
 split at h
 ·split at h
  ·rename_i a' b' c' d' e' f' h1 h2 h3 h4 h5 h6
   injection h with h; subst h
   have h1 := dInt_inv h1; have h2 := dInt_inv h2; have h3 := dInt_inv h3; have h4 := dStr_inv h4; have h5 := dInt_inv h5; have h6 := dBool_inv h6
   subst h1; subst h2; subst h3; subst h4; subst h5; subst h6
   exact ⟨rfl, fun G w vs hv => hv⟩
  ·cases h
 ·cases h
theorem decOne {k : K} {cs : List (Leaf KA)} {y : KA k} (hs : cs.length = Ksz k) (he : ∀ G w (vs : Array Value), Reps E G w cs vs → Reps E G w (Kenc k y) vs) : cs.length = E.sz k ∧ ∀ G w (vs : Array Value), Reps E G w cs vs → Reps E G w (E.enc k y) vs := ⟨hs, he⟩
theorem Edec : ∀ k cs x, E.dec k cs = some x → cs.length = E.sz k ∧ ∀ G w (vs : Array Value), Reps E G w cs vs → Reps E G w (E.enc k x) vs := by
 intro k cs x h
 change Kdec k cs = some x at h
 cases k
 case u8 =>
  obtain ⟨n, hn, h⟩ := Option.map_eq_some_iff.1 h
  subst h
  obtain ⟨l, rfl, hl⟩ := d1_inv hn
  have hl := dInt_inv hl
  subst hl
  refine decOne rfl (fun G w vs hv => ⟨hv.1, fun j l hj => ?_⟩)
  match j with
  | 0 =>
   have h0 := hv.2 0 _ rfl
   injection hj with hj; subst hj
   have hr : inRb .u8 n = true := rep_int h0
   have e : (((UInt8.ofNat n.toNat).toNat : Nat) : Int) = n := by
    simp only [inRb, IntKind.min, IntKind.max, IntKind.bits, IntKind.signed, Bool.and_eq_true, decide_eq_true_eq] at hr
    simp at hr
    rw [UInt8.toNat_ofNat']
    omega
   show Rep E G w (.int .u8 (((UInt8.ofNat n.toNat).toNat : Nat) : Int)) _
   rw [e]; exact h0
  | j + 1 => cases hj
 case bool => obtain ⟨l, rfl, hl⟩ := d1_inv h; have hl := dBool_inv hl; subst hl; exact decOne rfl (fun G w vs hv => hv)
 case str => obtain ⟨l, rfl, hl⟩ := d1_inv h; have hl := dStr_inv hl; subst hl; exact decOne rfl (fun G w vs hv => hv)
 case bytes => obtain ⟨l, rfl, hl⟩ := d1_inv h; have hl := dBytes_inv hl; subst hl; exact decOne rfl (fun G w vs hv => hv)
 case val => exact decVal_inv h
 case bit => exact decBit_inv h
 all_goals obtain ⟨l, rfl, hl⟩ := d1_inv h; have hl := dInt_inv hl; subst hl; exact decOne rfl (fun G w vs hv => hv)
theorem key_u8 (t : TypeId) (h : tyKey t = some .u8) : t = 5 := by
 unfold tyKey at h
 split at h <;> first | rfl | (injection h with h; cases h) | cases h
theorem u8_int : E.P.underlying 5 = some (.int .u8) := by kernel_rfl
theorem laws : Laws E where
 mixed := by kernel_rfl
 encLen k x := by cases k <;> first | rfl | (cases x; rfl)
 encPure k x := by cases k <;> first | rfl | (cases x; rfl)
 szPos k := by cases k <;> decide
 kb1 := rfl
 kbU8 t h := by rw [key_u8 t h]; exact u8_int
 agg1 k h := by cases k <;> first | rfl | cases h
 info := Einfo
 beq := Ebeq
 dec := Edec
 toB xs := ⟨rfl, fun i x h => ⟨x, h, rfl⟩⟩
 ofB s := ⟨rfl, fun i x h => ⟨x, h, rfl⟩⟩
end Go.Vx
namespace Px
def n2 (p : List UInt8) (i : Nat) : Int := 256 * ((p.getD i 0).toNat : Int) + ((p.getD (i + 1) 0).toNat : Int)
def b2 (n : Nat) : List UInt8 := [UInt8.ofNat (n / 256 % 256), UInt8.ofNat (n % 256)]
def same (a b : List UInt8) : Bool := decide (a = b)
theorem same_iff (a b : List UInt8) : same a b = true ↔ a = b := decide_eq_true_iff
end Px
namespace Go.Vx
open Go
theorem someB {x y : Bool} {os : List (Obj E.A)} (h : x = y) : some ((.lf (.bool x) : RV E.A), os) = some (.lf (.bool y), os) := by rw [h]
def rangeRun {α A O : Type} (step : Nat → A → α → A ⊕ O) (fin : A → O) : Nat → A → List α → O
 | _, a, [] => fin a
 | i, a, x :: r => match step i a x with | .inl a' => rangeRun step fin (i + 1) a' r | .inr o => o
theorem range_iter {α A O X : Type} {t : X → Tree (X ⊕ O)} {l : List α} (d : α) (mk : A → Int → X) (step : Nat → A → α → A ⊕ O) (fin : A → O) (ok : Nat → A → Prop)
  (hs : ∀ (i : Nat) (a : A), i < l.length → ok i a → (t (mk a (i : Int))).get = some (match step i a (l.getD i d) with | .inl a' => .inl (mk a' ((i + 1 : Nat) : Int)) | .inr o => .inr o) ∧ ∀ a', step i a (l.getD i d) = .inl a' → ok (i + 1) a')
  (hf : ∀ a, ok l.length a → (t (mk a (l.length : Int))).get = some (.inr (fin a))) :
  ∀ (k i : Nat) (a : A), k + i = l.length → ok i a → iter t (k + 1) (mk a (i : Int)) = some (rangeRun step fin i a (l.drop i))
 | 0, i, a, hk, ho => by
  have hi : i = l.length := by omega
  subst hi
  simp only [iter, hf a ho, List.drop_length, rangeRun]
 | k + 1, i, a, hk, ho => by
  have hi : i < l.length := by omega
  obtain ⟨h1, h2⟩ := hs i a hi ho
  rw [drop_cons l d i hi]
  simp only [iter, h1, rangeRun]
  cases hst : step i a (l.getD i d) with
  | inl a' => exact range_iter d mk step fin ok hs hf k (i + 1) a' (by omega) (h2 a' hst)
  | inr o => rfl
theorem i64_succ {i n : Nat} (h : i < n) (hn : n ≤ big) : IntKind.i64.wrap ((i : Int) + 1) = ((i + 1 : Nat) : Int) := by
 unfold big at hn
 rw [wi64] <;> omega
theorem inB_nat {i n : Nat} (h : i < n) : inB (i : Int) n = true := inB_true.2 ⟨by omega, by omega⟩
theorem ltI_nat {i n : Nat} (h : i < n) : ltI (i : Int) (n : Int) = true := by rw [ltI_eq]; exact decide_eq_true (by omega)
theorem ltI_self (n : Nat) : ltI (n : Int) (n : Int) = false := by rw [ltI_eq]; exact decide_eq_false (by omega)
theorem u8_eq (a b : UInt8) : eqI (a.toNat : Int) (b.toNat : Int) = decide (a = b) := by
 rw [eqI_eq]
 have : ((a.toNat : Int) = (b.toNat : Int)) ↔ a = b := by
  constructor
  ·intro h; exact UInt8.toNat_inj.1 (by omega)
  ·rintro rfl; rfl
 exact decide_eq_decide.2 this
theorem vbits_and (k : IntKind) (x y : Nat) (hx : x < 2 ^ k.bits) (hy : y < 2 ^ k.bits) : vbits .and k (x : Int) (y : Int) = k.wrap ((x &&& y : Nat) : Int) := by
 unfold vbits
 simp only [BitVec.ofInt_natCast, BitVec.toNat_and, BitVec.toNat_ofNat, Nat.mod_eq_of_lt hx, Nat.mod_eq_of_lt hy]
def findI {α : Type} (q : α → Bool) : Nat → List α → Int
 | _, [] => -1
 | i, b :: l => cond (q b) (i : Int) (findI q (i + 1) l)
theorem findI_ge {α : Type} (q : α → Bool) : ∀ (l : List α) (i : Nat), findI q i l = -1 ∨ ((i : Int) ≤ findI q i l ∧ findI q i l < (i + l.length : Nat))
 | [], i => .inl rfl
 | b :: l, i => by
  simp only [findI, List.length_cons]
  cases q b with
  | true => right; simp only [cond_true]; omega
  | false =>
   simp only [cond_false]
   rcases findI_ge q l (i + 1) with h | h
   ·exact .inl h
   ·right; omega
end Go.Vx
namespace Px
end Px
namespace Go.Vx
open Go
end Go.Vx
namespace Px
def blank (a : Int) : Bool := Go.Vx.eqI a 0 || Go.Vx.eqI a 9 || Go.Vx.eqI a 10 || Go.Vx.eqI a 12 || Go.Vx.eqI a 13 || Go.Vx.eqI a 32
def nl (b : UInt8) : Bool := Go.Vx.eqI (b.toNat : Int) 10 || Go.Vx.eqI (b.toNat : Int) 13
def lineN : List UInt8 → Nat
 | [] => 0
 | b :: r => cond (nl b) 0 (lineN r + 1)
def skipN : Bool → List UInt8 → Nat
 | _, [] => 0
 | true, b :: r => skipN (!nl b) r + 1
 | false, b :: r => cond (Go.Vx.eqI (b.toNat : Int) 37) (skipN true r + 1) (cond (blank (b.toNat : Int)) (skipN false r + 1) 0)
theorem lineN_le : ∀ l, lineN l ≤ l.length
 | [] => Nat.le_refl _
 | b :: r => by
  have := lineN_le r
  simp only [lineN, List.length_cons]
  cases nl b <;> simp only [cond_true, cond_false] <;> omega
theorem skipN_le : ∀ (l : List UInt8) (c : Bool), skipN c l ≤ l.length
 | [], c => by cases c <;> exact Nat.le_refl _
 | b :: r, true => by
  have := skipN_le r (!nl b)
  simp only [skipN, List.length_cons]; omega
 | b :: r, false => by
  have h1 := skipN_le r true
  have h2 := skipN_le r false
  simp only [skipN, List.length_cons]
  cases Go.Vx.eqI (b.toNat : Int) 37 <;> cases blank (b.toNat : Int) <;> simp only [cond_true, cond_false] <;> omega
theorem nl_blank {b : UInt8} (h : nl b = true) : blank (b.toNat : Int) = true ∧ Go.Vx.eqI (b.toNat : Int) 37 = false := by
 unfold nl at h
 unfold blank
 simp only [Go.Vx.eqI_eq, Bool.or_eq_true, decide_eq_true_eq, decide_eq_false_iff_not] at h ⊢
 omega
theorem skipN_line : ∀ l, skipN true l = lineN l + skipN false (l.drop (lineN l))
 | [] => rfl
 | b :: r => by
  simp only [skipN, lineN]
  cases h : nl b with
  | true =>
   obtain ⟨h1, h2⟩ := nl_blank h
   simp only [cond_true, List.drop_zero, skipN, h1, h2, cond_false, Bool.not_true]
   omega
  | false =>
   simp only [cond_false, Bool.not_false, List.drop_succ_cons]
   rw [skipN_line r]; omega
end Px
namespace Go.Vx
open Go
theorem run_line {O : Type} (f : Int → O) (n : Nat) : ∀ (l : List UInt8) (i : Nat), i + l.length = n →
  rangeRun (fun i (_ : Unit) b => (cond (Px.nl b) (.inr (f (i : Int))) (.inl ()) : Unit ⊕ O)) (fun _ => f (n : Int)) i () l = f ((i + Px.lineN l : Nat) : Int)
 | [], i, h => by simp only [rangeRun, Px.lineN]; simp at h; subst h; rfl
 | b :: l, i, h => by
  simp only [rangeRun, Px.lineN]
  cases Px.nl b with
  | true => rfl
  | false =>
   simp only [cond_false]
   rw [run_line f n l (i + 1) (by simp at h; omega)]
   congr 2; omega
theorem indexByte_any (c : UInt8) : ∀ l : List UInt8, leI 0 (Lib.indexByte l c) = l.any (fun b => decide (b = c))
 | [] => rfl
 | b :: l => by
  have ih := indexByte_any c l
  have hge := Lib.indexByte_ge l c
  simp only [Lib.indexByte, List.any_cons]
  by_cases hb : b = c
  ·subst hb; simp [leI]
  ·have h1 : (b == c) = false := by simpa using hb
   rw [h1, decide_eq_false hb, Bool.false_or, ← ih, leI_eq, leI_eq]
   refine decide_eq_decide.2 ?_
   simp only [Bool.false_eq_true, if_false, beq_iff_eq]
   split <;> omega
theorem eqI_lit (b c : UInt8) (n : Int) (h : (c.toNat : Int) = n) : eqI (b.toNat : Int) n = decide (b = c) := by rw [← h]; exact u8_eq b c
theorem nl_any (b : UInt8) : leI 0 (Lib.indexByte [10, 13] b) = Px.nl b := by
 rw [indexByte_any]
 unfold Px.nl
 rw [eqI_lit b 10 10 rfl, eqI_lit b 13 13 rfl]
 simp only [List.any_cons, List.any_nil, Bool.or_false, eq_comm (b := b)]
theorem blank_any (b : UInt8) : leI 0 (Lib.indexByte [0, 9, 10, 12, 13, 32] b) = Px.blank (b.toNat : Int) := by
 rw [indexByte_any]
 unfold Px.blank
 rw [eqI_lit b 0 0 rfl, eqI_lit b 9 9 rfl, eqI_lit b 10 10 rfl, eqI_lit b 12 12 rfl, eqI_lit b 13 13 rfl, eqI_lit b 32 32 rfl]
 simp only [List.any_cons, List.any_nil, Bool.or_false, eq_comm (b := b), Bool.or_assoc]
end Go.Vx
namespace Px
def hd (n : Nat) : UInt8 := [(48 : UInt8), 49, 50, 51, 52, 53, 54, 55, 56, 57, 97, 98, 99, 100, 101, 102].getD n 0
def hexs : List UInt8 → List UInt8
 | [] => []
 | b :: r => hd (b.toNat / 16) :: hd (b.toNat % 16) :: hexs r
theorem hexs_len : ∀ p, (hexs p).length = 2 * p.length
 | [] => rfl
 | b :: r => by simp only [hexs, List.length_cons, hexs_len r]; omega
end Px
namespace Go.Vx
open Go
theorem vshr_u8 (b : UInt8) : vshr IntKind.u8 (b.toNat : Int) 4 = ((b.toNat / 16 : Nat) : Int) := by
 unfold vshr
 have : min (Int.toNat 4) (IntKind.u8.bits) = 4 := by decide
 rw [this]
 show ((b.toNat : Int)).fdiv 16 = _
 rw [Int.fdiv_eq_ediv_of_nonneg _ (by omega)]
 omega
theorem and_u8 (b : UInt8) : vbits Go.BinOp.and IntKind.u8 (b.toNat : Int) 15 = ((b.toNat % 16 : Nat) : Int) := by
 have hb := b.toNat_lt
 have := vbits_and IntKind.u8 b.toNat 15 hb (by decide)
 rw [show ((15 : Nat) : Int) = 15 from rfl] at this
 rw [this, show (15 : Nat) = 2 ^ 4 - 1 from rfl, Nat.and_two_pow_sub_one_eq_mod, wu8] <;> omega
end Go.Vx
end
