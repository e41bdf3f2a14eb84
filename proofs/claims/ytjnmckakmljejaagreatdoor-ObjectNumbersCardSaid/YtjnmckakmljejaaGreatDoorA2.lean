/-
  Part 2 of the proof: the second reading of the model, its laws, and the functions' contracts. Lemmas alone.
-/
import Derived.RangeFuncLeaves
import Derived.Test.YtjnmckakmljejaaGreatDoorProg
import Derived.KernelRfl
import Derived.Lib.ItoaNum
import Derived.Lib.DecodeN
import Derived.Lib.Bytealg
import Derived.Test.YtjnmckakmljejaaGreatDoorA1
set_option linter.unusedSectionVars false
set_option linter.unusedVariables false
set_option linter.unusedSimpArgs false
namespace Go.Vx
open Go
section
variable {Key : Type} [DecidableEq Key]
variable {E : Env Key} {G : Gh} {w : World}
/-! ### what goes back -/
def Gh.fin (G : Gh) (ids toks : List Nat) : Gh :=
  { blk := fun i => (ids[i]?).bind G.blk, tok := fun i => (toks[i]?).bind G.tok, ver := zero0, cur := zero0, oth := G.oth, bl := G.bl }
theorem fin_blk {ids toks : List Nat} {i b : Nat} (h : (G.fin ids toks).blk i = some b) : ∃ id, ids[i]? = some id ∧ G.blk id = some b := by
  simp only [Gh.fin] at h
  cases hi : ids[i]? with
  | none => rw [hi] at h; cases h
  | some id => rw [hi] at h; exact ⟨id, rfl, h⟩
theorem fin_tok {ids toks : List Nat} {i : Nat} {r : Nat × Nat × Nat} (h : (G.fin ids toks).tok i = some r) : ∃ t, toks[i]? = some t ∧ G.tok t = some r := by
  simp only [Gh.fin] at h
  cases hi : toks[i]? with
  | none => rw [hi] at h; cases h
  | some t => rw [hi] at h; exact ⟨t, rfl, h⟩
theorem fin_free {ids toks : List Nat} {b o : Nat} (h : G.free b o) : (G.fin ids toks).free b o :=
  ⟨fun i hb => by obtain ⟨id, _, h2⟩ := fin_blk hb; exact h.1 id h2, fun t lo hi ht => by obtain ⟨u, _, h2⟩ := fin_tok ht; exact h.2 u lo hi h2⟩
theorem fin_clear {ids toks : List Nat} {b : Nat} (h : G.clear b) : (G.fin ids toks).clear b :=
  ⟨fun i hb => by obtain ⟨id, _, h2⟩ := fin_blk hb; exact h.1 id h2, fun t lo hi ht => by obtain ⟨u, _, h2⟩ := fin_tok ht; exact h.2 u lo hi h2⟩
theorem fin_pur {ids toks : List Nat} {b o : Nat} (h : G.pur b o) : (G.fin ids toks).pur b o := ⟨fin_free h.1, h.2⟩
theorem inward_fin {σ : St E.A} (hL : Laws E) (hh : HRel E σ.ob G w) (hver : σ.ver = G.ver) (hcur : σ.tk = G.cur) (ids toks toks' : List Nat) (htt : toks' = toks ∨ toks' = []) {l : Leaf E.A} {v : Value} (r : Rep E G w l v) : Rep E (G.fin ids toks) w (mapLeaf E (inwardF E σ ids toks') l) v := by
  have hc : ∀ b o v, w.cell? ⟨b, o, none⟩ = some v → G.pur b o → w.cell? ⟨b, o, none⟩ = some v ∧ (G.fin ids toks).pur b o := fun b o v h hf => ⟨h, fin_pur hf⟩
  induction r with
  | dead hv => exact .dead hv
  | int hk => exact .int hk
  | bool b => exact .bool b
  | str s h => exact .str s h
  | lit hv => exact .lit hv
  | nil => exact .nil
  | sl0 k a cap h => exact .sl0 k a cap h
  | sl k xs b off cap vals h1 h2 hcell hrep _ => exact (Rep.sl k xs b off cap vals h1 h2 hcell hrep).plain hL hc rfl
  | @own t v k xs a n cap hsl hle hown _ =>
    have hsl' := hsl.plain hL hc rfl
    show Rep E (G.fin ids toks) w (inwardF E σ ids toks' (.own t v k xs)) _
    simp only [inwardF, inward]
    split
    · rename_i hvt
      rcases htt with rfl | rfl
      · refine .own hsl' (Nat.zero_le _) (fun _ => ?_)
        rcases hown (by rw [hvt.1, hcur]) with hn | ⟨b, off, ty, m, ha, ht, hs⟩
        · exact .inl hn
        · refine .inr ⟨b, off, ty, m, ha, ?_, hs⟩
          simp only [Gh.fin, idxOf_get hvt.2]
          exact ht
      · simp at hvt
    · exact hsl'
  | @ptr id v off b hle hb =>
    show Rep E (G.fin ids toks) w (inwardF E σ ids toks' (.ptr id v off)) _
    simp only [inwardF, inward]
    split
    · rename_i hv
      refine .ptr (Nat.zero_le _) (fun _ => ?_)
      simp only [Gh.fin, idxOf_get hv.2]
      exact hb (by rw [hv.1, hver])
    · exact .dead rfl
  | @mp id v b hle hb =>
    show Rep E (G.fin ids toks) w (inwardF E σ ids toks' (.mp id v)) _
    simp only [inwardF, inward]
    split
    · rename_i hv
      refine .mp (Nat.zero_le _) (fun _ => ?_)
      simp only [Gh.fin, idxOf_get hv.2]
      exact hb (by rw [hv.1, hver])
    · exact .dead rfl
  | pp cs b off vals hp hcell hrep _ =>
    exact .pp cs b off vals hp (fun j hj => hc _ _ _ (hcell j hj).1 (hcell j hj).2) (fun j l hl => (hrep j l hl).plain hL hc (List.all_eq_true.1 hp l (List.mem_of_getElem? hl)))
  | fn f cs vs hs _ ih =>
    have e : ∀ cs : List (Leaf E.A), mapLeafs E (inwardF E σ ids toks') cs = cs.map (mapLeaf E (inwardF E σ ids toks')) := by
      intro cs
      induction cs with
      | nil => rfl
      | cons c cs ih => simp [mapLeafs, ih]
    show Rep E _ w (.fn f (mapLeafs E (inwardF E σ ids toks') cs)) _
    rw [e]
    refine .fn f _ vs (by simp [hs]) (fun j l hl => ?_)
    rw [List.getElem?_map] at hl
    cases hj : cs[j]? with
    | none => rw [hj] at hl; cases hl
    | some c => rw [hj] at hl; injection hl with hl; subst hl; exact ih j c hj
  | ifc _ ih => exact .ifc ih
  | @bf id v n cap a hle hb =>
    show Rep E (G.fin ids toks) w (inwardF E σ ids toks' (.bf id v)) _
    simp only [inwardF]
    split
    · rename_i hv
      have hvG : v = G.ver id := by rw [hv.1, hver]
      have hm : ¬ id ∈ ids := by simpa using hv.2
      split
      · rename_i k xs hob
        rcases bf_inv hh hvG hob (.bf hle hb) with ⟨rfl, he, _⟩ | ⟨b, cap', vs, ty, he, hbl, g1, g2, g3, g4, g5, g6⟩
        · rw [he]; exact .sl0 k none 0 (Nat.zero_le _)
        · rw [he]
          have hpur : ∀ o, (G.fin ids toks).pur b o := fun o => by
            refine ⟨⟨fun i hi => ?_, fun t lo hi ht => ?_⟩, fun ho => (hh.othf b o ho).2.1 id hbl⟩
            · obtain ⟨id', h1, h2⟩ := fin_blk hi
              have := hh.inj id' id b h2 hbl
              subst this
              exact hm (List.mem_of_getElem? h1)
            · obtain ⟨u, _, h2⟩ := fin_tok ht
              exact absurd hbl ((hh.tokb u b lo hi h2).2.1 id)
          refine .sl k xs b 0 cap' (fun i j => vs.getD (i * E.sz k + j) undef) g3 g4 (fun i j hi hj => ⟨?_, hpur _⟩) (fun i x hx j l hl => (g6 i x hx j l hl).plain hL hc (List.all_eq_true.1 (hL.encPure k x) l (List.mem_of_getElem? hl)))
          have h1 : i * E.sz k + j < vs.size := by
            have h2 : (i + 1) * E.sz k ≤ cap' * E.sz k := Nat.mul_le_mul_right _ (by omega)
            rw [Nat.succ_mul] at h2
            omega
          rw [Nat.zero_add]
          simp [World.cell?, g1, Array.getD, h1]
      · exact .dead rfl
    · exact .dead rfl
  | bp => exact .dead rfl
  | dp => exact .dead rfl
theorem inwardF_wrow {σ : St E.A} (hcur : σ.tk = G.cur) {G' : Gh} {ids toks : List Nat} {l : Leaf E.A} {v : Value} (hw : WRow E G w l v) : WRow E G' w (mapLeaf E (inwardF E σ ids toks) l) v := by
  cases l with
  | bf id v =>
    simp only [mapLeaf, inwardF]
    split
    · split <;> trivial
    · trivial
  | own t ver k xs => exact inward_wrow (ids := ids) hcur hw
  | ptr id v off => exact inward_wrow (ids := ids) (toks := toks) (l := .ptr id v off) hcur hw
  | mp id v => exact inward_wrow (ids := ids) (toks := toks) (l := .mp id v) hcur hw
  | _ => trivial
theorem HRel.fin {σ : St E.A} {tmps : Array Value} (hL : Laws E) (hr : VRel E σ G w tmps) {ids toks : List Nat} (hids : ids.Nodup) (htoks : toks.Nodup) {os : List (Obj E.A)} (hos : getObs E σ ids = some os) :
    HRel E (fun i => (os.map (mapObj E (inwardF E σ ids toks)))[i]?) (G.fin ids toks) w where
  ob i o ho := by
    simp only [List.getElem?_map] at ho
    cases hi : os[i]? with
    | none => rw [hi] at ho; cases ho
    | some x =>
      rw [hi] at ho; injection ho with ho; subst ho
      have hlt := lt_of_get hi
      obtain ⟨h1, h2⟩ := getObs_ok hos
      obtain ⟨id, hid⟩ : ∃ id, ids[i]? = some id := ⟨_, List.getElem?_eq_getElem (by omega)⟩
      obtain ⟨o', h3, h4⟩ := h2 i id hid
      rw [hi] at h3; injection h3 with h3; subst h3
      rcases hr.h.ob id x h4 with ⟨b, hb, hor⟩ | ⟨⟨k, rfl⟩, hn⟩
      rotate_left
      · exact .inr ⟨⟨k, rfl⟩, by simp [Gh.fin, hid, hn]⟩
      exact .inl ⟨b, by simp [Gh.fin, hid, hb], hor.mapl hL (fun _ _ _ h hf => ⟨h, fin_pur hf⟩) rfl rfl (fun l v h => inward_fin hL hr.h hr.ver hr.cur ids toks toks (.inl rfl) h) (fun l v _ hw => inwardF_wrow hr.cur hw)⟩
  lt i b hb := by obtain ⟨id, _, h2⟩ := fin_blk hb; exact hr.h.lt id b h2
  inj i j b h1 h2 := by
    obtain ⟨id, h3, h4⟩ := fin_blk h1
    obtain ⟨id', h5, h6⟩ := fin_blk h2
    have := hr.h.inj id id' b h4 h6
    subst this
    exact nodup_inj hids h3 h5
  tokb t b lo hi ht := by
    obtain ⟨u, _, h2⟩ := fin_tok ht
    obtain ⟨g1, g2, g3⟩ := hr.h.tokb u b lo hi h2
    exact ⟨g1, fun i hb => by obtain ⟨id, _, h4⟩ := fin_blk hb; exact g2 id h4, g3⟩
  tokj t u b c lo hi lo' hi' h1 h2 hne := by
    obtain ⟨t', h3, h4⟩ := fin_tok h1
    obtain ⟨u', h5, h6⟩ := fin_tok h2
    exact hr.h.tokj t' u' b c lo hi lo' hi' h4 h6 (fun e => hne (nodup_inj htoks h3 (e ▸ h5)))
  gl g cs hg := by
    obtain ⟨this, ⟨t, hs⟩, ha⟩ := hr.h.gl g cs hg
    refine ⟨?_, ⟨t, hs⟩, fun k hk => (ha k hk).imp fun _ hn => ⟨hn.1, hn.2.1, fin_pur hn.2.2⟩⟩
    cases this with
    | pp _ b off vals hp hcell hrep =>
      exact .pp cs _ _ vals hp (fun j hj => ⟨(hcell j hj).1, fin_pur (hcell j hj).2⟩) (fun j l hl => (hrep j l hl).plain hL (fun _ _ _ h hf => ⟨h, fin_pur hf⟩) (List.all_eq_true.1 hp l (List.mem_of_getElem? hl)))
  othf b o ho := ⟨(hr.h.othf b o ho).1, fin_free (hr.h.othf b o ho).2⟩
theorem fin_fr (ids toks : List Nat) : Fr G w (G.fin ids toks) w :=
  ⟨rfl, rfl, rfl, Nat.le_refl _, fun _ _ _ h hf => ⟨h, fin_free hf⟩, fun _ _ hf => ⟨rfl, fin_clear hf, rfl⟩, fun _ _ h => h, rfl⟩
theorem init_rel {args : List (RV E.A)} {os : List (Obj E.A)} {vals : Array Value} (ha : ARel E G w args vals) (hh : HRel E (fun i => os[i]?) G w) (hv : G.ver = zero0) (hc : G.cur = zero0) (n : Nat) :
    VRel E (init E n args os) G w (vals ++ Array.replicate (n - vals.size) undef) := by
  refine ⟨⟨by simp [init, ha.1], fun i r hi => ?_⟩, hh, hv.symm, hc.symm⟩
  simp only [init] at hi
  rcases Nat.lt_or_ge i args.length with h | h
  · rw [List.getElem?_append_left h] at hi
    have h1 : i < vals.size := by rw [← ha.1]; exact h
    have h2 : i < vals.size + (n - vals.size) := by omega
    have e : (vals ++ Array.replicate (n - vals.size) undef).getD i undef = vals.getD i undef := by
      simp [Array.getD, h1, h2, Array.getElem_append_left]
    rw [e]
    exact ha.2 i r hi
  · rw [List.getElem?_append_right h, List.getElem?_replicate] at hi
    split at hi
    · injection hi with hi; subst hi
      have e : (vals ++ Array.replicate (n - vals.size) undef).getD i undef = undef := by
        rw [Array.getD]
        split
        · rename_i hlt
          rw [ha.1] at h
          simp [Array.getElem_append_right h]
        · rfl
      rw [e]
      exact .tup rfl (fun j r hj => by cases j <;> cases hj)
    · cases hi
theorem finish_ok (hL : Laws E) {G' : Gh} {w' : World} {fn : Func} {σ : St E.A} {tmps : Array Value} {n m : Nat} {keep : Bool} (hr : VRel E σ G' w' tmps) {r : RV E.A} {os' : List (Obj E.A)} (h : finish E fn.resultTypes.toList n m keep σ fn.results.toList = some (r, os'))
    (hfr : Fr G w G' w') (hk : ∀ i b, i < 64 → G'.blk i = some b → G.blk i = some b) : ∃ v G1, (results fn tmps).run E.P w' = .ok v w' ∧ Back E G w n r os' G1 v w' := by
  unfold finish at h
  split at h
  · cases h
  · rename_i r0 hr0
    obtain ⟨v, hv, hrep⟩ := retRV_ok hL hr hr0
    generalize hids : reach E σ 12 0 (addNew (List.range n) (leafsIds E σ.ver (rvLeafs E r0))) = ids at h
    have hn : ids.Nodup := by rw [← hids]; exact reach_nodup σ _ _ _ (addNew_nodup _ _ List.nodup_range)
    simp only at h
    split at h
    · cases h
    · rename_i os hos
      generalize htoks : addNew (List.range m) (os.flatMap fun o => leafsToks E σ.tk (objLeafs E (some o))) = toks at h
      have htn : toks.Nodup := by rw [← htoks]; exact addNew_nodup _ _ List.nodup_range
      generalize htoks' : (if keep then addNew toks (leafsToks E σ.tk (rvLeafs E r0)) else toks) = toks' at h
      have htn' : toks'.Nodup := by
        rw [← htoks']
        split
        · exact addNew_nodup _ _ htn
        · exact htn
      split at h
      · rename_i hnn
        injection h with h; injection h with h1 h2
        subst h1; subst h2
        refine ⟨v, G'.fin ids toks', hv, ?_, HRel.fin hL hr hn htn' hos, rfl, rfl, fun i hi => ?_, hfr.trans (fin_fr ids toks')⟩
        · refine coeRes_ok (hrep.mapl (fun l v h => ?_))
          cases keep with
          | true => exact inward_fin hL hr.h hr.ver hr.cur ids toks' toks' (.inl rfl) h
          | false => exact inward_fin hL hr.h hr.ver hr.cur ids toks' [] (.inr rfl) h
        · have hid : ids[i]? = some i := by
            have h1 : (ids.take n)[i]? = some i := by rw [hnn.1, List.getElem?_range hi]
            rwa [List.getElem?_take_of_lt hi] at h1
          obtain ⟨o, ho', ho⟩ := (getObs_ok hos).2 i i hid
          have hnb := List.all_eq_true.1 hnn.2.2 o (List.mem_of_getElem? ho')
          rcases hr.h.ob i o ho with ⟨b, hb, _⟩ | ⟨⟨k, hk'⟩, _⟩
          rotate_left
          · rw [hk'] at hnb; cases hnb
          rw [hk i b (by omega) hb]
          simp [Gh.fin, hid, hb]
      · cases h
theorem leaves_marks {σ : St E.A} {tmps : Array Value} {fn : Func} {R : Ending → World → Prop} {G' : Gh} : ∀ (ds : List Deferred) (w' : World), Marks ds G' w' → VRel E σ G' w' tmps → Fr G w G' w' → (∀ d ∈ ds, ∀ D, d.target = .collected D → w.heap.size ≤ D) →
    (∀ w'', VRel E σ G' w'' tmps → Fr G w G' w'' → ∃ v, (results fn tmps).run E.P w'' = .ok v w'' ∧ R (.returned v) w'') → LeavesInM Fence.wide 0 E.P fn tmps R ds .returning w'
  | [], w', _, hv, hf, _, hfin => by
    obtain ⟨v, h1, h2⟩ := hfin w' hv hf
    exact ⟨v, h1, h2⟩
  | d :: ds, w', ⟨⟨D, h1, h2, h3, h4⟩, h5⟩, hv, hf, hD, hfin => by
    subst h1
    have hg := grownBy_putObj' w' D (.deferred none)
    have hid : Idle G' w' (some D) := idle_put h3 h2 rfl
    have hm : ∀ (es : List Deferred), (∀ d' ∈ es, ∀ D', d'.target = .collected D' → D' ≠ D) → Marks es G' w' → Marks es G' (w'.putObj D (.deferred none)) := by
      intro es
      induction es with
      | nil => exact fun _ _ => trivial
      | cons e es ih =>
        rintro hne ⟨⟨D', g1, g2, g3, g4⟩, g5⟩
        exact ⟨⟨D', g1, (World.putObj_heap_other (hne e (List.mem_cons_self ..) D' (by rw [g1]))).trans g2, g3, g4⟩, ih (fun d' hd' => hne d' (List.mem_cons_of_mem _ hd')) g5⟩
    exact ⟨by simp, .inl ⟨D, _, rfl, run_takeDeferred h2, leaves_marks ds _ (hm ds h4 h5) (vrel_grown hg hid hv) (fr_grown hg hid (fun r e => by cases e; exact hD _ (List.mem_cons_self ..) D rfl) hf) (fun d' hd' => hD d' (List.mem_cons_of_mem _ hd')) hfin⟩⟩
theorem valid_of_exec (hL : Laws E) {Γ : FuncId → Option (Spec E)} (hΓ : ∀ f spec, Γ f = some spec → Valid E f spec) {Λ : Lam E} {f : FuncId} {fn : Func} {c : Code} {spec : Spec E} {keep : Bool}
    (hf : E.P.funcs[f]? = some fn) (hb : fn.body = some c) (hnm : (fn.name == "runtime.NumGoroutine") = false) (hΛ : LamOK E Λ 0 c) (r : Bool) (hR : r = true → RamOK E Λ 0 c) (hno : r = false → ranges c = false)
    (hrun : ∀ args os r os', (spec args os).get = some (r, os') → execFun E Γ Λ keep fn args os some = some (r, os')) : Valid E f spec := by
  unfold Valid
  intro args os rr os' hs G w vals ha hh hv hc
  have hx := hrun args os rr os' hs
  unfold execFun at hx
  rw [hb] at hx
  simp only at hx
  have hi := init_rel ha hh hv hc fn.ntmps
  have hcf : (callFunc f vals).run E.P w = .ok (.enter f vals) w := by
    unfold callFunc
    have hne : ¬ fn.name = "runtime.NumGoroutine" := by simpa using hnm
    simp [hf, hb, hne]
  rw [hcf]
  refine callsIn_wide.1 (callsIn_of_wp_marks (n := 0) hf hb trivial (wpIn_wide.2 (wp_mono (show c.wp E.P _ _ w from exec_ok (wpSys E.P) r (fun _ => trivial) hL hΓ c 0 hΛ hR hno (init E fn.ntmps args os) _ G w _ hi hx) (fun e a' w' hw => ?_))))
  obtain ⟨ex, σ', rfl, hk, ds, _, hd, G', hr', hfr, hmk, hD⟩ := hw
  have hds : a'.defers = ds := hd.trans (List.append_nil ds)
  have fin : ∀ x, (match finish E fn.resultTypes.toList os.length (toksIn E os) keep σ' fn.results.toList with | some x => some x | none => none) = some x → x = (rr, os') → LeavesInM Fence.wide 0 E.P fn a'.tmps (fun e w' => ∃ v' G1, e = .returned v' ∧ Back E G w os.length rr os' G1 v' w') a'.defers .returning w' := by
    intro x hx e
    split at hx
    · rename_i y hy
      injection hx with hx; subst hx; subst e
      rw [hds]
      refine leaves_marks (G := G) (w := w) ds w' hmk hr' hfr.1 hD (fun w'' hv'' hf'' => ?_)
      obtain ⟨v, G1, h1, h2⟩ := finish_ok hL hv'' hy hf'' hfr.2
      exact ⟨v, h1, v, G1, rfl, h2⟩
    · cases hx
  cases ex with
  | normal => exact fin _ hk rfl
  | ret => exact fin _ hk rfl
  | exit id => cases hk
end
end Go.Vx
namespace Go.Vx
open Go
section
variable {Key : Type} [DecidableEq Key] (E : Env Key)
def pickSl : List (Nat × RV E.A) → Nat → RV E.A
  | [], _ => .undef
  | x :: r, i => if i = x.1 then x.2 else pickSl r i
def slotsFrom (l : List (Nat × RV E.A)) : Nat → Nat → List (RV E.A)
  | 0, _ => []
  | n + 1, i => pickSl E l i :: slotsFrom l n (i + 1)
/-- n slots, of which those are told -/
def slots (n : Nat) (l : List (Nat × RV E.A)) : List (RV E.A) := slotsFrom E l n 0
/-- a state by what is told of it -/
def at' (n : Nat) (l : List (Nat × RV E.A)) (os : List (Nat × Option (Obj E.A))) : St E.A := mkSt E (slots E n l) os
def FitsS (σ : St E.A) : List (Nat × RV E.A) → Prop
  | [] => True
  | x :: l => σ.sl.getD x.1 .undef = x.2 ∧ FitsS σ l
def FitsO (σ : St E.A) : List (Nat × Option (Obj E.A)) → Prop
  | [] => True
  | x :: l => σ.ob x.1 = x.2 ∧ FitsO σ l
variable {E}
theorem slotsFrom_len (l : List (Nat × RV E.A)) : ∀ n i, (slotsFrom E l n i).length = n
  | 0, _ => rfl
  | n + 1, i => by simp [slotsFrom, slotsFrom_len l n (i + 1)]
theorem slotsFrom_get (l : List (Nat × RV E.A)) : ∀ n i j r, (slotsFrom E l n i)[j]? = some r → r = pickSl E l (i + j)
  | 0, _, j, r, h => by cases j <;> cases h
  | n + 1, i, 0, r, h => by simp [slotsFrom] at h; exact h.symm
  | n + 1, i, j + 1, r, h => by
    have := slotsFrom_get l n (i + 1) j r (by simpa [slotsFrom] using h)
    rw [this]; congr 1; omega
theorem pickSl_fits {σ : St E.A} : ∀ (l : List (Nat × RV E.A)) (i : Nat), FitsS E σ l → pickSl E l i = .undef ∨ σ.sl.getD i .undef = pickSl E l i
  | [], _, _ => .inl rfl
  | x :: l, i, h => by
    simp only [pickSl]
    split
    · rename_i e; subst e; exact .inr h.1
    · exact pickSl_fits l i h.2
theorem look_fits {σ : St E.A} : ∀ (l : List (Nat × Option (Obj E.A))) (i : Nat) (o : Obj E.A), FitsO E σ l → look l i = some o → σ.ob i = some o
  | [], _, _, _, h => by cases h
  | x :: l, i, o, hf, h => by
    simp only [look] at h
    split at h
    · rename_i e; subst e; rw [hf.1]; exact h
    · exact look_fits l i o hf.2 h
theorem LoopOK.fit {body : Code} {σ σ' : St E.A} {e : Ex} {n : Nat} {l : List (Nat × RV E.A)} {os : List (Nat × Option (Obj E.A))} (hn : σ.sl.length = n) (hl : FitsS E σ l) (ho : FitsO E σ os) (hv : σ.ver = zero0) (ht : σ.tk = zero0)
    (h : LoopOK E body (at' E n l os) e σ') : LoopOK E body σ e σ' := by
  refine LoopOK.weak (σ' := at' E n l os) ?_ (fun i r hi => ?_) (fun i o hi => look_fits os i o ho hi) hv.symm ht.symm h
  · show (slotsFrom E l n 0).length = _
    rw [slotsFrom_len]; exact hn.symm
  · have := slotsFrom_get l n 0 i r hi
    rw [Nat.zero_add] at this
    rw [this]
    exact pickSl_fits l i hl
abbrev Out' (E : Env Key) := Ex × St E.A
/-- what is to be shown of a loop's rounds -/
theorem iter_tree {X O : Type} {t : X → Tree (X ⊕ O)} {lam : X → Tree O} {m : X → Nat}
    (h : ∀ x o, (lam x).get = some o → (∃ x', (t x).get = some (.inl x') ∧ m x' < m x ∧ (lam x').get = some o) ∨ (t x).get = some (.inr o)) : ∀ (n : Nat) (x : X) (o : O), (lam x).get = some o → m x < n → iter t n x = some o
  | 0, _, _, _, hm => by omega
  | n + 1, x, o, hok, hm => by
    simp only [iter]
    rcases h x o hok with ⟨x', h1, h2, h3⟩ | h1
    · rw [h1]
      exact iter_tree h n x' o h3 (by omega)
    · rw [h1]
/-- a code's loops are told, and it holds no range over a function -/
def LamB (E : Env Key) (Λ : Lam E) (n : Nat) (c : Code) : Prop := LamOK E Λ n c ∧ ranges c = false
theorem loop_at (hL : Laws E) {Γ : FuncId → Option (Spec E)} (hΓ : ∀ f spec, Γ f = some spec → Valid E f spec) {Λ : Lam E} {n : Nat} {body : Code} (hΛ : LamB E Λ n body)
    {X : Type} {S : X → St E.A} {t : X → Tree (X ⊕ Out' E)} {Lv : Ex → Live}
    (hrun : ∀ (x : X) (k : Ex → St E.A → Option Unit), exec E Γ Λ n body (S x) (fun e σ1 => k e (clean E (Lv e) σ1)) = (t x).run (Sum.elim (fun x' => k .normal (S x')) (fun o => k o.1 o.2)))
    {x : X} {fuel : Nat} {o : Out' E} (hi : iter t fuel x = some o) (ho : o.1 ≠ .normal) : LoopOK E body (S x) o.1 o.2 :=
  loop_iter hL hΓ hΛ.1 hΛ.2 S (fun o => o) t Lv hrun fuel x o ho hi
theorem lamOK_of {Λ : Lam E} {n m : Nat} {c : Code} (hm : loops c = m) (h : ∀ j, j < m → ∀ σ e σ', (Λ (n + j) σ).get = some (e, σ') → LoopOK E ((loopAt c j).getD .skip) σ e σ') : LamOK E Λ n c := by
  intro j body hj σ e σ' hg
  have := h j (by have := loopAt_lt c j body hj; omega) σ e σ' hg
  rw [hj] at this
  exact this
theorem LamOK.of {Λ : Lam E} {n m : Nat} {c : Code} (hm : (loops c, ranges c) = (m, false)) (h : ∀ j, j < m → ∀ σ e σ', (Λ (n + j) σ).get = some (e, σ') → LoopOK E ((loopAt c j).getD .skip) σ e σ') : LamB E Λ n c := by
  injection hm with h1 h2
  exact ⟨lamOK_of h1 h, h2⟩
theorem LamOK.none {Λ : Lam E} {n : Nat} {c : Code} (hm : (loops c, ranges c) = (0, false)) : LamB E Λ n c := LamOK.of hm (fun j hj => by omega)
/-- the same with ranges: each number is a loop's, or a range's -/
def LamR (E : Env Key) (Λ : Lam E) (n : Nat) (c : Code) : Prop := LamOK E Λ n c ∧ RamOK E Λ n c
def lbc (c : Code) (j : Nat) : Code := (loopAt c j).getD .skip
def rfc (c : Code) (j : Nat) : Operand × Array Tmp × Code × Code := (rangeAt c j).getD (.tmp 0, #[], .skip, .skip)
theorem LamR.of {Λ : Lam E} {n m : Nat} {c : Code} (hm : loops c = m) (h : ∀ j, j < m → ((rangeAt c j).isNone = true ∧ ∀ σ e σ', (Λ (n + j) σ).get = some (e, σ') → LoopOK E (lbc c j) σ e σ') ∨ ((loopAt c j).isNone = true ∧ ∀ σ e σ', (Λ (n + j) σ).get = some (e, σ') → RangeOK E (rfc c j).1 (rfc c j).2.1 (rfc c j).2.2.1 (rfc c j).2.2.2 σ e σ')) : LamR E Λ n c := by
  refine ⟨fun j body hj σ e σ' hg => ?_, fun j f ps az b hj σ e σ' hg => ?_⟩
  · rcases h j (by have := loopAt_lt c j body hj; omega) with ⟨_, h⟩ | ⟨h, _⟩
    · have := h σ e σ' hg
      unfold lbc at this
      rw [hj] at this
      exact this
    · rw [hj] at h; cases h
  · rcases h j (by have := rangeAt_lt c j hj; omega) with ⟨h, _⟩ | ⟨_, h⟩
    · rw [hj] at h; cases h
    · have := h σ e σ' hg
      unfold rfc at this
      rw [hj] at this
      exact this
/-- the j-th loop's body -/
def lb (f : Func) (j : Nat) : Code := (loopAt (f.body.getD .skip) j).getD .skip
def rf (f : Func) (j : Nat) : Operand × Array Tmp × Code × Code := (rangeAt (f.body.getD .skip) j).getD (.tmp 0, #[], .skip, .skip)
theorem valid_of_body (hL : Laws E) {Γ : FuncId → Option (Spec E)} (hΓ : ∀ f spec, Γ f = some spec → Valid E f spec) {Λ : Lam E} {f : FuncId} {fn : Func} {spec : Spec E} {keep : Bool}
    (hf : E.P.funcs[f]? = some fn) (hb : fn.body = some (fn.body.getD .skip)) (hnm : (fn.name == "runtime.NumGoroutine") = false) (hΛ : LamB E Λ 0 (fn.body.getD .skip))
    (hrun : ∀ args os r os', (spec args os).get = some (r, os') → execFun E Γ Λ keep fn args os some = some (r, os')) : Valid E f spec :=
  valid_of_exec hL hΓ hf hb hnm hΛ.1 false (fun h => by cases h) (fun _ => hΛ.2) hrun
theorem valid_of_bodyR (hL : Laws E) {Γ : FuncId → Option (Spec E)} (hΓ : ∀ f spec, Γ f = some spec → Valid E f spec) {Λ : Lam E} {f : FuncId} {fn : Func} {spec : Spec E} {keep : Bool}
    (hf : E.P.funcs[f]? = some fn) (hb : fn.body = some (fn.body.getD .skip)) (hnm : (fn.name == "runtime.NumGoroutine") = false) (hΛ : LamR E Λ 0 (fn.body.getD .skip))
    (hrun : ∀ args os r os', (spec args os).get = some (r, os') → execFun E Γ Λ keep fn args os some = some (r, os')) : Valid E f spec :=
  valid_of_exec hL hΓ hf hb hnm hΛ.1 true (fun _ => hΛ.2) (fun h => by cases h) hrun
/-! ### lengths are never beyond what an int tells -/
def okLen : Leaf E.A → Bool
  | .str s => decide (s.length ≤ big)
  | .sl _ xs => decide (xs.length ≤ big)
  | .own _ _ _ xs => decide (xs.length ≤ big)
  | _ => true
def okLenR : RV E.A → Bool
  | .lf l => okLen l
  | .agg cs => cs.all okLen
  | _ => true
def okLenO : Obj E.A → Bool
  | .cells _ cs => cs.all okLen
  | .buf _ xs => decide (xs.length ≤ big)
  | .wb _ l => okLen l
  | _ => true
variable {G : Gh} {w : World}
theorem okLen_ok {l : Leaf E.A} {v : Value} (h : Rep E G w l v) : okLen l = true := by
  have sl : ∀ {k : Key} {xs : List (E.A k)} {v : Value}, Rep E G w (.sl k xs) v → xs.length ≤ big := by
    intro k xs v h
    cases h with
    | sl0 => simp
    | sl k xs b off cap vals h1 h2 => omega
  cases h with
  | str s h => simpa [okLen] using h
  | sl0 k a cap h => simp [okLen]
  | sl k xs b off cap vals h1 h2 hc hr => simp only [okLen, decide_eq_true_eq]; omega
  | own h _ _ => simpa [okLen] using sl h
  | _ => rfl
theorem okLens_ok {cs : List (Leaf E.A)} {vs : Array Value} (h : Reps E G w cs vs) : cs.all okLen = true := by
  rw [List.all_eq_true]
  intro l hl
  obtain ⟨j, hj, rfl⟩ := List.getElem_of_mem hl
  exact okLen_ok (h.2 j _ (List.getElem?_eq_getElem hj))
theorem okLenR_ok {r : RV E.A} {v : Value} (h : RRep E G w r v) : okLenR r = true := by
  cases r with
  | lf l => exact okLen_ok h.lf_inv
  | agg cs => obtain ⟨vs, _, hv⟩ := h.agg_inv; exact okLens_ok hv
  | _ => rfl
theorem okLenO_ok {o : Obj E.A} {b : Nat} (h : ORep E G w o b) : okLenO o = true := by
  cases h with
  | cells h1 h2 => exact okLens_ok h2
  | map => rfl
  | buf h1 h2 h3 h4 => simp only [okLenO, decide_eq_true_eq]; omega
  | wb _ h2 => exact okLen_ok h2
theorem HRel.okLen {ob : Nat → Option (Obj E.A)} (h : HRel E ob G w) {i : Nat} {o : Obj E.A} (ho : ob i = some o) : okLenO o = true := by
  rcases h.ob i o ho with ⟨b, _, hb⟩ | ⟨⟨k, rfl⟩, _⟩
  · exact okLenO_ok hb
  · rfl
theorem LoopOK.lens {body : Code} {σ σ' : St E.A} {e : Ex} (i : Nat) (h : okLenR (σ.sl.getD i .undef) = true → LoopOK E body σ e σ') : LoopOK E body σ e σ' := by
  intro S G w a hr
  refine h ?_ S G w a hr
  rw [List.getD]
  cases hs : σ.sl[i]? with
  | none => rfl
  | some r => exact okLenR_ok (hr.s.2 i r hs)
theorem LoopOK.lensO {body : Code} {σ σ' : St E.A} {e : Ex} (i : Nat) (h : (∀ o, σ.ob i = some o → okLenO o = true) → LoopOK E body σ e σ') : LoopOK E body σ e σ' := by
  intro S G w a hr
  refine h (fun o ho => ?_) S G w a hr
  exact hr.h.okLen ho
theorem Valid.never {f : FuncId} {spec : Spec E} (h : ∀ args os, (spec args os).get = none) : Valid E f spec := by
  unfold Valid
  intro args os r os' hx
  rw [h] at hx; cases hx
/-- for each call a number that is enough -/
theorem Valid.forN {f : FuncId} {spec : Spec E} {N : Nat → Spec E} (h : ∀ n, Valid E f (N n)) (hn : ∀ args os x, (spec args os).get = some x → ∃ n, (N n args os).get = some x) : Valid E f spec := by
  unfold Valid at h ⊢
  intro args os r os' hx
  obtain ⟨n, hn⟩ := hn args os _ hx
  exact h n args os r os' hn
/-- a spec that tells less, or the same in other words -/
theorem Valid.less {f : FuncId} {spec spec' : Spec E} (h : Valid E f spec) (hs : ∀ args os x, args.all okLenR = true → os.all okLenO = true → (spec' args os).get = some x → (spec args os).get = some x) : Valid E f spec' := by
  unfold Valid at h ⊢
  intro args os r os' hx G w vals ha hh hv hc
  refine h args os r os' (hs args os _ ?_ ?_ hx) G w vals ha hh hv hc
  · rw [List.all_eq_true]
    intro r hr
    obtain ⟨j, hj, rfl⟩ := List.getElem_of_mem hr
    exact okLenR_ok (ha.2 j _ (List.getElem?_eq_getElem hj))
  · rw [List.all_eq_true]
    intro o ho
    obtain ⟨j, hj, rfl⟩ := List.getElem_of_mem ho
    exact hh.okLen (List.getElem?_eq_getElem hj)
end
end Go.Vx
namespace Go.Vx
open Go
@[simp] theorem Tree.get_leaf {α : Type} (a : α) : (Tree.leaf a).get = some a := rfl
@[simp] theorem Tree.get_fail {α : Type} : (Tree.fail : Tree α).get = none := rfl
@[simp] theorem Tree.get_ite {α : Type} (b : Bool) (t e : Tree α) : (Tree.ite b t e).get = cond b t.get e.get := rfl
theorem Tree.get_ite_some {α : Type} {b : Bool} {t e : Tree α} {x : α} (h : (Tree.ite b t e).get = some x) : (b = true ∧ t.get = some x) ∨ (b = false ∧ e.get = some x) := by
  cases b with
  | true => exact .inl ⟨rfl, h⟩
  | false => exact .inr ⟨rfl, h⟩
theorem wi64 (n : Int) (h0 : -9223372036854775808 ≤ n) (h1 : n ≤ 9223372036854775807) : IntKind.i64.wrap n = n := by
  simp only [IntKind.wrap, IntKind.bits, IntKind.signed]; simp; omega
theorem wi32 (n : Int) (h0 : -2147483648 ≤ n) (h1 : n ≤ 2147483647) : IntKind.i32.wrap n = n := by
  simp only [IntKind.wrap, IntKind.bits, IntKind.signed]; simp; omega
theorem wu8 (n : Int) (h0 : 0 ≤ n) (h1 : n ≤ 255) : IntKind.u8.wrap n = n := by
  simp only [IntKind.wrap, IntKind.bits, IntKind.signed]; simp; omega
theorem wu16 (n : Int) (h0 : 0 ≤ n) (h1 : n ≤ 65535) : IntKind.u16.wrap n = n := by
  simp only [IntKind.wrap, IntKind.bits, IntKind.signed]; simp; omega
theorem wu32 (n : Int) (h0 : 0 ≤ n) (h1 : n ≤ 4294967295) : IntKind.u32.wrap n = n := by
  simp only [IntKind.wrap, IntKind.bits, IntKind.signed]; simp; omega
theorem wu64 (n : Int) (h0 : 0 ≤ n) (h1 : n ≤ 18446744073709551615) : IntKind.u64.wrap n = n := by
  simp only [IntKind.wrap, IntKind.bits, IntKind.signed]; simp; omega
theorem inB_true {i : Int} {n : Nat} : inB i n = true ↔ 0 ≤ i ∧ i < (n : Int) := inB_iff
theorem drop_cons {α : Type} (l : List α) (d : α) (i : Nat) (h : i < l.length) : l.drop i = l.getD i d :: l.drop (i + 1) := by
  have : l.getD i d = l[i] := by simp [List.getD, h]
  rw [this]; exact List.drop_eq_getElem_cons h
theorem cond_dec {α : Type} {p : Prop} [Decidable p] (t e : α) : cond (decide p) t e = if p then t else e := by
  by_cases h : p <;> simp [h]
end Go.Vx
namespace Go.Vx
open Go
/-- a value of the file's -/
inductive Val where
  | mk (kind num gen : Int) (text : List UInt8) (list : List Val) (keys : List (List UInt8))
end Go.Vx
namespace Px
open Go.Vx
def vk : Val → Int | .mk a _ _ _ _ _ => a
def vn : Val → Int | .mk _ a _ _ _ _ => a
def vg : Val → Int | .mk _ _ a _ _ _ => a
def vt : Val → List UInt8 | .mk _ _ _ a _ _ => a
def vl : Val → List Val | .mk _ _ _ _ a _ => a
def vs : Val → List (List UInt8) | .mk _ _ _ _ _ a => a
theorem v_eta (v : Val) : Val.mk (vk v) (vn v) (vg v) (vt v) (vl v) (vs v) = v := by cases v; rfl
def v0 : Val := .mk 0 0 0 [] [] []
end Px
namespace Go.Vx
open Go
inductive K
  | u8 | i64 | u64 | bool | str | val | bytes | bit
  deriving DecidableEq
abbrev Bit := Int × Int × Int × List UInt8 × Int × Bool
@[reducible] def KA : K → Type
  | .u8 => UInt8
  | .i64 | .u64 => Int
  | .bool => Bool
  | .str | .bytes => List UInt8
  | .val => Val
  | .bit => Int × Int × Int × List UInt8 × Int × Bool
def Kz : (k : K) → KA k
  | .u8 => (0 : UInt8)
  | .i64 => (0 : Int) | .u64 => (0 : Int)
  | .bool => false
  | .str => ([] : List UInt8) | .bytes => ([] : List UInt8)
  | .val => Val.mk 0 0 0 [] [] []
  | .bit => ((0, 0, 0, [], 0, false) : Int × Int × Int × List UInt8 × Int × Bool)
def Kenc : (k : K) → KA k → List (Leaf KA)
  | .u8, (x : UInt8) => [.int .u8 (x.toNat : Int)]
  | .i64, (x : Int) => [.int .i64 x] | .u64, (x : Int) => [.int .u64 x]
  | .bool, (x : Bool) => [.bool x]
  | .str, (x : List UInt8) => [.str x]
  | .bytes, (x : List UInt8) => [.sl .u8 x]
  | .val, (v : Val) => [.int .u8 (Px.vk v), .int .i64 (Px.vn v), .int .i64 (Px.vg v), .str (Px.vt v), .sl .val (Px.vl v), .sl .str (Px.vs v)]
  | .bit, (x : Int × Int × Int × List UInt8 × Int × Bool) => [.int .u8 x.1, .int .i64 x.2.1, .int .u8 x.2.2.1, .str x.2.2.2.1, .int .u8 x.2.2.2.2.1, .bool x.2.2.2.2.2]
def dInt (k : IntKind) : Leaf KA → Option Int
  | .int k' n => if k' = k then some n else none
  | _ => none
def dBool : Leaf KA → Option Bool | .bool b => some b | _ => none
def dStr : Leaf KA → Option (List UInt8) | .str s => some s | _ => none
def dBytes : Leaf KA → Option (List UInt8) | .sl .u8 (x : List UInt8) => some x | _ => none
def dVals : Leaf KA → Option (List Val) | .sl .val (x : List Val) => some x | .nil => some [] | _ => none
def dStrs : Leaf KA → Option (List (List UInt8)) | .sl .str (x : List (List UInt8)) => some x | .nil => some [] | _ => none
def d1 {α : Type} (f : Leaf KA → Option α) : List (Leaf KA) → Option α | [l] => f l | _ => none
def decVal : List (Leaf KA) → Option Val
  | [a, b, c, d, e, f] => match dInt .u8 a, dInt .i64 b, dInt .i64 c, dStr d, dVals e, dStrs f with
    | some a, some b, some c, some d, some e, some f => some (Val.mk a b c d e f)
    | _, _, _, _, _, _ => none
  | _ => none
def decBit : List (Leaf KA) → Option (Int × Int × Int × List UInt8 × Int × Bool)
  | [a, b, c, d, e, f] => match dInt .u8 a, dInt .i64 b, dInt .u8 c, dStr d, dInt .u8 e, dBool f with
    | some a, some b, some c, some d, some e, some f => some (a, b, c, d, e, f)
    | _, _, _, _, _, _ => none
  | _ => none
def Kdec : (k : K) → List (Leaf KA) → Option (KA k)
  | .u8, cs => (d1 (dInt .u8) cs).map fun n => UInt8.ofNat n.toNat
  | .i64, cs => d1 (dInt .i64) cs | .u64, cs => d1 (dInt .u64) cs
  | .bool, cs => d1 dBool cs
  | .str, cs => d1 dStr cs
  | .bytes, cs => d1 dBytes cs
  | .val, cs => decVal cs
  | .bit, cs => decBit cs
def Kagg : K → Bool | .val | .bit => true | _ => false
def Ksz : K → Nat | .val | .bit => 6 | _ => 1
def Kbeq : (k : K) → KA k → KA k → Bool
  | .u8, (x : UInt8), (y : UInt8) => decide (x = y)
  | .i64, (x : Int), (y : Int) => decide (x = y) | .u64, (x : Int), (y : Int) => decide (x = y)
  | .bool, (x : Bool), (y : Bool) => x == y
  | .str, (x : List UInt8), (y : List UInt8) => decide (x = y)
  | _, _, _ => false
def tyKey : TypeId → Option K
  | 5 => some .u8 | 2 => some .i64 | 3 => some .i64 | 54 => some .u64 | 4 => some .bool | 9 => some .str | 22 => some .bytes
  | 30 => some .val | 36 => some .val | 99 => some .bit
  | _ => none
noncomputable def E : Env K where
  A := KA
  z := Kz
  enc := Kenc
  dec := Kdec
  agg := Kagg
  sz := Ksz
  beq := Kbeq
  kb := .u8
  toB := fun (x : List UInt8) => x
  ofB := fun (x : List UInt8) => x
  P := Go.Proofs.Tryz.prog
  key := tyKey
  gl := fun g => match g with
    | 1 => some [.dead]
    | 2 => some ((Go.Lib.pow10Tab).map fun z => .int .u64 z)
    | 3 => some ((List.range 256).map fun c => .int .u8 (Go.Lib.firstT c : Int))
    | 4 => some ((List.range 32).map fun c => .int .u8 (if c % 2 = 0 then (Go.Lib.accLo (c / 2) : Int) else (Go.Lib.accHi (c / 2) : Int)))
    | 5 => some [.ifc 181 .dead]
    | 6 => some [.ifc 181 .dead]
    | _ => none
  ga := fun g => if g = 1 then some .i64 else none
  wb := fun t => t == 80
end Go.Vx
namespace Go.Vx
open Go
theorem one_inv {G : Gh} {w : World} {l : Leaf E.A} {v : Value} (h : SRep E G w false [l] v) : Rep E G w l v := by
  obtain ⟨l', e, h⟩ := h
  injection e with e _; subst e; exact h
theorem int_inv {G : Gh} {w : World} {k : IntKind} {n : Int} {v : Value} (h : SRep E G w false [.int k n] v) : v = .int k n ∧ inRb k n = true := by
  have := one_inv h
  cases this with
  | int hk => exact ⟨rfl, hk⟩
theorem sone {G : Gh} {w : World} {l : Leaf E.A} {v : Value} (h : Rep E G w l v) : SRep E G w false [l] v := ⟨l, rfl, h⟩
theorem infoK (t : TypeId) (k : K) (z : Value) (sz : Nat) (hi : (E.P.info? t).isSome = true) (hs : ((E.P.info? t).map (·.size)) = some sz) (hz : ((E.P.info? t).bind (·.zero)) = some z) (hsz : sz = Ksz k) (hc : z.cells.size = sz) (ha : isAg E t = Kagg k) (hu : (E.P.underlying t).isSome = true)
    (hr : ∀ G w, SRep E G w (Kagg k) (Kenc k (Kz k)) z) : ∃ i z, E.P.info? t = some i ∧ i.size = E.sz k ∧ i.zero = some z ∧ z.cells.size = i.size ∧ isAg E t = E.agg k ∧ (E.P.underlying t).isSome = true ∧ ∀ G w, SRep E G w (E.agg k) (E.enc k (E.z k)) z := by
  cases hx : E.P.info? t with
  | none => rw [hx] at hi; cases hi
  | some i =>
    rw [hx] at hs hz
    simp only [Option.map_some, Option.some.injEq, Option.bind_some] at hs hz
    exact ⟨i, z, rfl, hs.trans hsz, hz, hc.trans hs.symm, ha, hu, hr⟩
theorem zsl {G : Gh} {w : World} {k : K} : Rep E G w (.sl k []) (.slice none 0 0) := .sl0 k none 0 (by decide)
theorem zstr {G : Gh} {w : World} : Rep E G w (.str []) (.string ⟨#[]⟩) := .str ⟨#[]⟩ (by decide)
theorem reps2 {G : Gh} {w : World} {a b : Leaf E.A} {x y : Value} (h1 : Rep E G w a x) (h2 : Rep E G w b y) : Reps E G w [a, b] #[x, y] := by
  refine ⟨rfl, fun j l hj => ?_⟩
  match j with
  | 0 => injection hj with hj; subst hj; exact h1
  | 1 => injection hj with hj; subst hj; exact h2
  | j + 2 => cases hj
theorem reps3 {G : Gh} {w : World} {a b c : Leaf E.A} {x y z : Value} (h1 : Rep E G w a x) (h2 : Rep E G w b y) (h3 : Rep E G w c z) : Reps E G w [a, b, c] #[x, y, z] := by
  refine ⟨rfl, fun j l hj => ?_⟩
  match j with
  | 0 => injection hj with hj; subst hj; exact h1
  | 1 => injection hj with hj; subst hj; exact h2
  | 2 => injection hj with hj; subst hj; exact h3
  | j + 3 => cases hj
theorem reps6 {G : Gh} {w : World} {a b c d e f : Leaf E.A} {x y z u v t : Value} (h1 : Rep E G w a x) (h2 : Rep E G w b y) (h3 : Rep E G w c z) (h4 : Rep E G w d u) (h5 : Rep E G w e v) (h6 : Rep E G w f t) : Reps E G w [a, b, c, d, e, f] #[x, y, z, u, v, t] := by
  refine ⟨rfl, fun j l hj => ?_⟩
  match j with
  | 0 => injection hj with hj; subst hj; exact h1
  | 1 => injection hj with hj; subst hj; exact h2
  | 2 => injection hj with hj; subst hj; exact h3
  | 3 => injection hj with hj; subst hj; exact h4
  | 4 => injection hj with hj; subst hj; exact h5
  | 5 => injection hj with hj; subst hj; exact h6
  | j + 6 => cases hj
theorem Einfo : ∀ t k, E.key t = some k → ∃ i z, E.P.info? t = some i ∧ i.size = E.sz k ∧ i.zero = some z ∧ z.cells.size = i.size ∧ isAg E t = E.agg k ∧ (E.P.underlying t).isSome = true ∧ ∀ G w, SRep E G w (E.agg k) (E.enc k (E.z k)) z := by
  intro t k h
  change tyKey t = some k at h
  unfold tyKey at h
  split at h
  · injection h with h; subst h
    exact infoK 5 .u8 (.int .u8 0) 1 (by kernel_rfl) (by kernel_rfl) (by kernel_rfl) (by kernel_rfl) (by kernel_rfl) (by kernel_rfl) (by kernel_rfl) (fun G w => sone (.int rfl))
  · injection h with h; subst h
    exact infoK 2 .i64 (.int .i64 0) 1 (by kernel_rfl) (by kernel_rfl) (by kernel_rfl) (by kernel_rfl) (by kernel_rfl) (by kernel_rfl) (by kernel_rfl) (fun G w => sone (.int rfl))
  · injection h with h; subst h
    exact infoK 3 .i64 (.int .i64 0) 1 (by kernel_rfl) (by kernel_rfl) (by kernel_rfl) (by kernel_rfl) (by kernel_rfl) (by kernel_rfl) (by kernel_rfl) (fun G w => sone (.int rfl))
  · injection h with h; subst h
    exact infoK 54 .u64 (.int .u64 0) 1 (by kernel_rfl) (by kernel_rfl) (by kernel_rfl) (by kernel_rfl) (by kernel_rfl) (by kernel_rfl) (by kernel_rfl) (fun G w => sone (.int rfl))
  · injection h with h; subst h
    exact infoK 4 .bool (.bool false) 1 (by kernel_rfl) (by kernel_rfl) (by kernel_rfl) (by kernel_rfl) (by kernel_rfl) (by kernel_rfl) (by kernel_rfl) (fun G w => sone (.bool false))
  · injection h with h; subst h
    exact infoK 9 .str (.string ⟨#[]⟩) 1 (by kernel_rfl) (by kernel_rfl) (by kernel_rfl) (by kernel_rfl) (by kernel_rfl) (by kernel_rfl) (by kernel_rfl) (fun G w => sone zstr)
  · injection h with h; subst h
    exact infoK 22 .bytes (.slice none 0 0) 1 (by kernel_rfl) (by kernel_rfl) (by kernel_rfl) (by kernel_rfl) (by kernel_rfl) (by kernel_rfl) (by kernel_rfl) (fun G w => sone zsl)
  · injection h with h; subst h
    exact infoK 30 .val (.agg #[.int .u8 0, .int .i64 0, .int .i64 0, .string ⟨#[]⟩, .slice none 0 0, .slice none 0 0]) 6 (by kernel_rfl) (by kernel_rfl) (by kernel_rfl) (by kernel_rfl) (by kernel_rfl) (by kernel_rfl) (by kernel_rfl) (fun G w => ⟨_, rfl, reps6 (.int rfl) (.int rfl) (.int rfl) zstr zsl zsl⟩)
  · injection h with h; subst h
    exact infoK 36 .val (.agg #[.int .u8 0, .int .i64 0, .int .i64 0, .string ⟨#[]⟩, .slice none 0 0, .slice none 0 0]) 6 (by kernel_rfl) (by kernel_rfl) (by kernel_rfl) (by kernel_rfl) (by kernel_rfl) (by kernel_rfl) (by kernel_rfl) (fun G w => ⟨_, rfl, reps6 (.int rfl) (.int rfl) (.int rfl) zstr zsl zsl⟩)
  · injection h with h; subst h
    exact infoK 99 .bit (.agg #[.int .u8 0, .int .i64 0, .int .u8 0, .string ⟨#[]⟩, .int .u8 0, .bool false]) 6 (by kernel_rfl) (by kernel_rfl) (by kernel_rfl) (by kernel_rfl) (by kernel_rfl) (by kernel_rfl) (by kernel_rfl) (fun G w => ⟨_, rfl, reps6 (.int rfl) (.int rfl) (.int rfl) zstr (.int rfl) (.bool false)⟩)
  · cases h
theorem undEq {t : TypeId} {d d' : TypeDesc} (e : E.P.underlying t = some d') (hd : E.P.underlying t = some d) : d = d' := Option.some.inj (hd.symm.trans e)
theorem rep_int {G : Gh} {w : World} {k : IntKind} {n : Int} {v : Value} (h : Rep E G w (.int k n) v) : inRb k n = true := by
  cases h with
  | int hk => exact hk
theorem beq_u8 (a b : UInt8) : (((UInt8.toNat a : Nat) : Int) == ((UInt8.toNat b : Nat) : Int)) = decide (a = b) := by
  rw [Bool.eq_iff_iff]
  simp only [beq_iff_eq, decide_eq_true_eq, Int.natCast_inj]
  exact ⟨fun h => UInt8.toNat_inj.1 h, fun h => by rw [h]⟩
theorem str_inv' {G : Gh} {w : World} {x : List UInt8} {v : Value} (h : Rep E G w (.str x) v) : ∃ s : ByteArray, v = .string s ∧ s.data.toList = x := by
  cases h with
  | str s hs => exact ⟨s, rfl, rfl⟩
theorem same_int (k : IntKind) (a b : Int) : Instr.sameNow (.int k) (.int k a) (.int k b) = some (decide (a = b)) := by
  simp only [Instr.sameNow, if_true]; rfl
theorem same_str (s u : ByteArray) : (s == u) = decide (s.data.toList = u.data.toList) := by
  have h1 : (s == u) = (s.data == u.data) := by cases s; cases u; rfl
  rw [h1, Bool.eq_iff_iff, beq_iff_eq, decide_eq_true_eq]
  exact ⟨fun h => by rw [h], fun h => Array.toList_inj.1 h⟩
theorem same_u8 (a b : UInt8) : Instr.sameNow (.int .u8) (.int .u8 ((a.toNat : Nat) : Int)) (.int .u8 ((b.toNat : Nat) : Int)) = some (decide (a = b)) := by
  simp only [Instr.sameNow, if_true, beq_u8]
theorem bool_inv' {G : Gh} {w : World} {x : Bool} {v : Value} (h : Rep E G w (.bool x) v) : v = .bool x := by
  cases h with
  | bool b => rfl
theorem noKey {t : TypeId} {d : TypeDesc} (hf : keyOk (E.P.underlying t) = false) (hd : E.P.underlying t = some d) (hk : keyOk (some d) = true) : False := by
  rw [hd, hk] at hf; cases hf
theorem Ebeq : ∀ t k d, E.key t = some k → E.P.underlying t = some d → keyOk (some d) = true → ∀ G w a b va vb, SRep E G w (E.agg k) (E.enc k a) va → SRep E G w (E.agg k) (E.enc k b) vb → Instr.sameNow d va vb = some (E.beq k a b) := by
  intro t k d h hd hk
  change tyKey t = some k at h
  unfold tyKey at h
  split at h
  · injection h with h; subst h
    intro G w a b va vb ha hb
    have hd := undEq (t := 5) (d' := (.int .u8)) (by kernel_rfl) hd
    subst hd
    obtain ⟨rfl, _⟩ := int_inv ha
    obtain ⟨rfl, _⟩ := int_inv hb
    exact same_u8 a b
  · injection h with h; subst h
    intro G w a b va vb ha hb
    have hd := undEq (t := 2) (d' := (.int .i64)) (by kernel_rfl) hd
    subst hd
    obtain ⟨rfl, _⟩ := int_inv ha
    obtain ⟨rfl, _⟩ := int_inv hb
    exact same_int .i64 a b
  · injection h with h; subst h
    intro G w a b va vb ha hb
    have hd := undEq (t := 3) (d' := (.int .i64)) (by kernel_rfl) hd
    subst hd
    obtain ⟨rfl, _⟩ := int_inv ha
    obtain ⟨rfl, _⟩ := int_inv hb
    exact same_int .i64 a b
  · injection h with h; subst h
    intro G w a b va vb ha hb
    have hd := undEq (t := 54) (d' := (.int .u64)) (by kernel_rfl) hd
    subst hd
    obtain ⟨rfl, _⟩ := int_inv ha
    obtain ⟨rfl, _⟩ := int_inv hb
    exact same_int .u64 a b
  · injection h with h; subst h
    intro G w a b va vb ha hb
    have hd := undEq (t := 4) (d' := .bool) (by kernel_rfl) hd
    subst hd
    rw [bool_inv' (one_inv ha), bool_inv' (one_inv hb)]
    rfl
  · injection h with h; subst h
    intro G w a b va vb ha hb
    have hd := undEq (t := 9) (d' := .string) (by kernel_rfl) hd
    subst hd
    have ha := one_inv ha
    have hb := one_inv hb
    obtain ⟨s, rfl, rfl⟩ := str_inv' ha
    obtain ⟨u, rfl, rfl⟩ := str_inv' hb
    exact congrArg some (same_str s u)
  · exact (noKey (t := 22) (by kernel_rfl) hd hk).elim
  · exact (noKey (t := 30) (by kernel_rfl) hd hk).elim
  · exact (noKey (t := 36) (by kernel_rfl) hd hk).elim
  · exact (noKey (t := 99) (by kernel_rfl) hd hk).elim
  · cases h
theorem dInt_inv {k : IntKind} {l : Leaf KA} {n : Int} (h : dInt k l = some n) : l = .int k n := by
  unfold dInt at h
  split at h
  · split at h
    · rename_i e; subst e; injection h with h; subst h; rfl
    · cases h
  · cases h
theorem dBool_inv {l : Leaf KA} {n : Bool} (h : dBool l = some n) : l = .bool n := by
  unfold dBool at h
  split at h
  · injection h with h; subst h; rfl
  · cases h
theorem dStr_inv {l : Leaf KA} {n : List UInt8} (h : dStr l = some n) : l = .str n := by
  unfold dStr at h
  split at h
  · injection h with h; subst h; rfl
  · cases h
theorem dBytes_inv {l : Leaf KA} {n : List UInt8} (h : dBytes l = some n) : l = .sl .u8 n := by
  unfold dBytes at h
  split at h
  · injection h with h; subst h; rfl
  · cases h
theorem d1_inv {α : Type} {f : Leaf KA → Option α} {cs : List (Leaf KA)} {x : α} (h : d1 f cs = some x) : ∃ l, cs = [l] ∧ f l = some x := by
  unfold d1 at h
  split at h
  · exact ⟨_, rfl, h⟩
  · cases h
theorem nil_inv' {G : Gh} {w : World} {v : Value} (h : Rep E G w .nil v) : v = .slice none 0 0 := by
  cases h with
  | nil => rfl
theorem dVals_inv {l : Leaf KA} {n : List Val} (h : dVals l = some n) {G : Gh} {w : World} {v : Value} (hr : Rep E G w l v) : Rep E G w (.sl .val n) v := by
  unfold dVals at h
  split at h
  · injection h with h; subst h; exact hr
  · injection h with h; subst h; rw [nil_inv' hr]; exact zsl
  · cases h
theorem dStrs_inv {l : Leaf KA} {n : List (List UInt8)} (h : dStrs l = some n) {G : Gh} {w : World} {v : Value} (hr : Rep E G w l v) : Rep E G w (.sl .str n) v := by
  unfold dStrs at h
  split at h
  · injection h with h; subst h; exact hr
  · injection h with h; subst h; rw [nil_inv' hr]; exact zsl
  · cases h
theorem decVal_inv {cs : List (Leaf KA)} {x : Val} (h : decVal cs = some x) : cs.length = 6 ∧ ∀ G w (vs : Array Value), Reps E G w cs vs → Reps E G w (Kenc .val x) vs := by
  unfold decVal at h
  split at h
  · split at h
    · rename_i a' b' c' d' e' f' h1 h2 h3 h4 h5 h6
      injection h with h; subst h
      have h1 := dInt_inv h1; have h2 := dInt_inv h2; have h3 := dInt_inv h3; have h4 := dStr_inv h4
      subst h1; subst h2; subst h3; subst h4
      refine ⟨rfl, fun G w vs hv => ⟨hv.1, fun j l hj => ?_⟩⟩
      match j, hj with
      | 0, hj => injection hj with hj; subst hj; exact hv.2 0 _ rfl
      | 1, hj => injection hj with hj; subst hj; exact hv.2 1 _ rfl
      | 2, hj => injection hj with hj; subst hj; exact hv.2 2 _ rfl
      | 3, hj => injection hj with hj; subst hj; exact hv.2 3 _ rfl
      | 4, hj => injection hj with hj; subst hj; exact dVals_inv h5 (hv.2 4 _ rfl)
      | 5, hj => injection hj with hj; subst hj; exact dStrs_inv h6 (hv.2 5 _ rfl)
      | j + 6, hj => cases hj
    · cases h
  · cases h
theorem decBit_inv {cs : List (Leaf KA)} {x : Int × Int × Int × List UInt8 × Int × Bool} (h : decBit cs = some x) : cs.length = 6 ∧ ∀ G w (vs : Array Value), Reps E G w cs vs → Reps E G w (Kenc .bit x) vs := by
  unfold decBit at h
  split at h
  · split at h
    · rename_i a' b' c' d' e' f' h1 h2 h3 h4 h5 h6
      injection h with h; subst h
      have h1 := dInt_inv h1; have h2 := dInt_inv h2; have h3 := dInt_inv h3; have h4 := dStr_inv h4; have h5 := dInt_inv h5; have h6 := dBool_inv h6
      subst h1; subst h2; subst h3; subst h4; subst h5; subst h6
      exact ⟨rfl, fun G w vs hv => hv⟩
    · cases h
  · cases h
theorem decOne {k : K} {cs : List (Leaf KA)} {y : KA k} (hs : cs.length = Ksz k) (he : ∀ G w (vs : Array Value), Reps E G w cs vs → Reps E G w (Kenc k y) vs) : cs.length = E.sz k ∧ ∀ G w (vs : Array Value), Reps E G w cs vs → Reps E G w (E.enc k y) vs := ⟨hs, he⟩
theorem Edec : ∀ k cs x, E.dec k cs = some x → cs.length = E.sz k ∧ ∀ G w (vs : Array Value), Reps E G w cs vs → Reps E G w (E.enc k x) vs := by
  intro k cs x h
  change Kdec k cs = some x at h
  cases k
  case u8 =>
    obtain ⟨n, hn, h⟩ := Option.map_eq_some_iff.1 h
    subst h
    obtain ⟨l, rfl, hl⟩ := d1_inv hn
    have hl := dInt_inv hl
    subst hl
    refine decOne rfl (fun G w vs hv => ⟨hv.1, fun j l hj => ?_⟩)
    match j with
    | 0 =>
      have h0 := hv.2 0 _ rfl
      injection hj with hj; subst hj
      have hr : inRb .u8 n = true := rep_int h0
      have e : (((UInt8.ofNat n.toNat).toNat : Nat) : Int) = n := by
        simp only [inRb, IntKind.min, IntKind.max, IntKind.bits, IntKind.signed, Bool.and_eq_true, decide_eq_true_eq] at hr
        simp at hr
        rw [UInt8.toNat_ofNat']
        omega
      show Rep E G w (.int .u8 (((UInt8.ofNat n.toNat).toNat : Nat) : Int)) _
      rw [e]; exact h0
    | j + 1 => cases hj
  case bool => obtain ⟨l, rfl, hl⟩ := d1_inv h; have hl := dBool_inv hl; subst hl; exact decOne rfl (fun G w vs hv => hv)
  case str => obtain ⟨l, rfl, hl⟩ := d1_inv h; have hl := dStr_inv hl; subst hl; exact decOne rfl (fun G w vs hv => hv)
  case bytes => obtain ⟨l, rfl, hl⟩ := d1_inv h; have hl := dBytes_inv hl; subst hl; exact decOne rfl (fun G w vs hv => hv)
  case val => exact decVal_inv h
  case bit => exact decBit_inv h
  all_goals obtain ⟨l, rfl, hl⟩ := d1_inv h; have hl := dInt_inv hl; subst hl; exact decOne rfl (fun G w vs hv => hv)
theorem key_u8 (t : TypeId) (h : tyKey t = some .u8) : t = 5 := by
  unfold tyKey at h
  split at h <;> first | rfl | (injection h with h; cases h) | cases h
theorem u8_int : E.P.underlying 5 = some (.int .u8) := by kernel_rfl
theorem laws : Laws E where
  mixed := by kernel_rfl
  encLen k x := by cases k <;> first | rfl | (cases x; rfl)
  encPure k x := by cases k <;> first | rfl | (cases x; rfl)
  szPos k := by cases k <;> decide
  kb1 := rfl
  kbU8 t h := by rw [key_u8 t h]; exact u8_int
  agg1 k h := by cases k <;> first | rfl | cases h
  info := Einfo
  beq := Ebeq
  dec := Edec
  toB xs := ⟨rfl, fun i x h => ⟨x, h, rfl⟩⟩
  ofB s := ⟨rfl, fun i x h => ⟨x, h, rfl⟩⟩
end Go.Vx
namespace Px
/-- is it a scalar? -/
def scalar (a : Int) : Bool := Go.Vx.leI 0 a && Go.Vx.ltI a 1114112 && !(Go.Vx.leI 55296 a && Go.Vx.leI a 57343)
theorem scalar_iff (a : Int) : scalar a = true ↔ 0 ≤ a ∧ a < 1114112 ∧ ¬ (55296 ≤ a ∧ a ≤ 57343) := by
  simp only [scalar, Go.Vx.leI_eq, Go.Vx.ltI_eq, Bool.and_eq_true, Bool.not_eq_true', Bool.and_eq_false_iff, decide_eq_true_eq, decide_eq_false_iff_not]; omega
/-- two bytes at a place, as a number -/
def n2 (p : List UInt8) (i : Nat) : Int := 256 * ((p.getD i 0).toNat : Int) + ((p.getD (i + 1) 0).toNat : Int)
theorem n2_nonneg (p : List UInt8) (i : Nat) : 0 ≤ n2 p i := by unfold n2; omega
theorem n2_lt (p : List UInt8) (i : Nat) : n2 p i < 65536 := by
  unfold n2
  have h1 := (p.getD i 0).toNat_lt
  have h2 := (p.getD (i + 1) 0).toNat_lt
  omega
/-- a number's two last bytes -/
def b2 (n : Nat) : List UInt8 := [UInt8.ofNat (n / 256 % 256), UInt8.ofNat (n % 256)]
/-- a scalar's bytes in UTF-16, the first one ahead -/
def utf16 (c : Int) : List UInt8 := cond (Go.Vx.ltI c 65536) (b2 c.toNat) (b2 (55296 + (c - 65536) / 1024).toNat ++ b2 (56320 + (c - 65536) % 1024).toNat)
def utf16s (c : Int) : List UInt8 := cond (scalar c) (utf16 c) []
theorem utf16s_no {c : Int} (h : scalar c = false) : utf16s c = [] := by unfold utf16s; rw [h]; rfl
theorem utf16s_low {c : Nat} (h : scalar (c : Int) = true) (hc : c < 65536) : utf16s c = b2 c := by
  have e : Go.Vx.ltI (c : Int) 65536 = true := by rw [Go.Vx.ltI_eq]; exact decide_eq_true (by omega)
  unfold utf16s utf16; rw [h, e, Int.toNat_natCast]; rfl
theorem utf16s_high {m : Nat} (h : scalar ((m : Int) + 65536) = true) : utf16s ((m : Int) + 65536) = b2 (55296 + m / 1024) ++ b2 (56320 + m % 1024) := by
  have e : Go.Vx.ltI ((m : Int) + 65536) 65536 = false := by rw [Go.Vx.ltI_eq]; exact decide_eq_false (by omega)
  have e1 : (55296 + ((m : Int) + 65536 - 65536) / 1024).toNat = 55296 + m / 1024 := by omega
  have e2 : (56320 + ((m : Int) + 65536 - 65536) % 1024).toNat = 56320 + m % 1024 := by omega
  unfold utf16s utf16; rw [h, e, e1, e2]; rfl
def same (a b : List UInt8) : Bool := decide (a = b)
theorem same_iff (a b : List UInt8) : same a b = true ↔ a = b := decide_eq_true_iff
/-- bytes' scalar; below 0: they are none's -/
def rune (p : List UInt8) : Int :=
  cond (Go.Vx.eqI p.length 2 && scalar (n2 p 0)) (n2 p 0)
   (cond (Go.Vx.eqI p.length 4 && Go.Vx.leI 55296 (n2 p 0) && Go.Vx.ltI (n2 p 0) 56320 && Go.Vx.leI 56320 (n2 p 2) && Go.Vx.ltI (n2 p 2) 57344) (65536 + 1024 * (n2 p 0 - 55296) + n2 p 2 - 56320) (-1))
theorem b2_two (x y : UInt8) : b2 (256 * x.toNat + y.toNat) = [x, y] := by
  have hx := x.toNat_lt
  have hy := y.toNat_lt
  unfold b2
  rw [show (256 * x.toNat + y.toNat) / 256 % 256 = x.toNat by omega, show (256 * x.toNat + y.toNat) % 256 = y.toNat by omega]
  simp
theorem n2_two (x y : UInt8) (r : List UInt8) : n2 (x :: y :: r) 0 = ((256 * x.toNat + y.toNat : Nat) : Int) := by
  show 256 * (x.toNat : Int) + (y.toNat : Int) = _
  omega
theorem n2_four (x y z u : UInt8) (r : List UInt8) : n2 (x :: y :: z :: u :: r) 2 = ((256 * z.toNat + u.toNat : Nat) : Int) := by
  show 256 * (z.toNat : Int) + (u.toNat : Int) = _
  omega
theorem utf16s_len (c : Int) : (utf16s c).length = 0 ∨ (utf16s c).length = 2 ∨ (utf16s c).length = 4 := by
  unfold utf16s utf16
  cases scalar c <;> cases Go.Vx.ltI c 65536 <;> simp [b2]
theorem b2_inj {a b : Nat} (ha : a < 65536) (hb : b < 65536) (h : b2 a = b2 b) : a = b := by
  unfold b2 at h
  injection h with h1 h2
  injection h2 with h2 _
  have h1 := congrArg UInt8.toNat h1
  have h2 := congrArg UInt8.toNat h2
  simp only [UInt8.toNat_ofNat'] at h1 h2
  omega
end Px
namespace Go.Vx
open Go
theorem someB {x y : Bool} {os : List (Obj E.A)} (h : x = y) : some ((.lf (.bool x) : RV E.A), os) = some (.lf (.bool y), os) := by rw [h]
theorem someI {k : IntKind} {x y : Int} {os : List (Obj E.A)} (h : x = y) : some ((.lf (.int k x) : RV E.A), os) = some (.lf (.int k y), os) := by rw [h]
/-! ### loops over a row, by index -/
def rangeRun {α A O : Type} (step : Nat → A → α → A ⊕ O) (fin : A → O) : Nat → A → List α → O
  | _, a, [] => fin a
  | i, a, x :: r => match step i a x with | .inl a' => rangeRun step fin (i + 1) a' r | .inr o => o
theorem range_iter {α A O X : Type} {t : X → Tree (X ⊕ O)} {l : List α} (d : α) (mk : A → Int → X) (step : Nat → A → α → A ⊕ O) (fin : A → O) (ok : Nat → A → Prop)
    (hs : ∀ (i : Nat) (a : A), i < l.length → ok i a → (t (mk a (i : Int))).get = some (match step i a (l.getD i d) with | .inl a' => .inl (mk a' ((i + 1 : Nat) : Int)) | .inr o => .inr o) ∧ ∀ a', step i a (l.getD i d) = .inl a' → ok (i + 1) a')
    (hf : ∀ a, ok l.length a → (t (mk a (l.length : Int))).get = some (.inr (fin a))) :
    ∀ (k i : Nat) (a : A), k + i = l.length → ok i a → iter t (k + 1) (mk a (i : Int)) = some (rangeRun step fin i a (l.drop i))
  | 0, i, a, hk, ho => by
    have hi : i = l.length := by omega
    subst hi
    simp only [iter, hf a ho, List.drop_length, rangeRun]
  | k + 1, i, a, hk, ho => by
    have hi : i < l.length := by omega
    obtain ⟨h1, h2⟩ := hs i a hi ho
    rw [drop_cons l d i hi]
    simp only [iter, h1, rangeRun]
    cases hst : step i a (l.getD i d) with
    | inl a' => exact range_iter d mk step fin ok hs hf k (i + 1) a' (by omega) (h2 a' hst)
    | inr o => rfl
theorem i64_succ {i n : Nat} (h : i < n) (hn : n ≤ big) : IntKind.i64.wrap ((i : Int) + 1) = ((i + 1 : Nat) : Int) := by
  unfold big at hn
  rw [wi64] <;> omega
theorem inB_nat {i n : Nat} (h : i < n) : inB (i : Int) n = true := inB_true.2 ⟨by omega, by omega⟩
theorem ltI_nat {i n : Nat} (h : i < n) : ltI (i : Int) (n : Int) = true := by rw [ltI_eq]; exact decide_eq_true (by omega)
theorem ltI_self (n : Nat) : ltI (n : Int) (n : Int) = false := by rw [ltI_eq]; exact decide_eq_false (by omega)
theorem u8_rt (b : UInt8) : UInt8.ofNat ((b.toNat : Int)).toNat = b := by simp
theorem u8_eq (a b : UInt8) : eqI (a.toNat : Int) (b.toNat : Int) = decide (a = b) := by
  rw [eqI_eq]
  have : ((a.toNat : Int) = (b.toNat : Int)) ↔ a = b := by
    constructor
    · intro h; exact UInt8.toNat_inj.1 (by omega)
    · rintro rfl; rfl
  exact decide_eq_decide.2 this
/-! ### bits of small numbers -/
theorem vbits_or (k : IntKind) (x y : Nat) (hx : x < 2 ^ k.bits) (hy : y < 2 ^ k.bits) : vbits .or k (x : Int) (y : Int) = k.wrap ((x ||| y : Nat) : Int) := by
  unfold vbits
  simp only [BitVec.ofInt_natCast, BitVec.toNat_or, BitVec.toNat_ofNat, Nat.mod_eq_of_lt hx, Nat.mod_eq_of_lt hy]
theorem vbits_and (k : IntKind) (x y : Nat) (hx : x < 2 ^ k.bits) (hy : y < 2 ^ k.bits) : vbits .and k (x : Int) (y : Int) = k.wrap ((x &&& y : Nat) : Int) := by
  unfold vbits
  simp only [BitVec.ofInt_natCast, BitVec.toNat_and, BitVec.toNat_ofNat, Nat.mod_eq_of_lt hx, Nat.mod_eq_of_lt hy]
theorem or_low (x y n : Nat) (hy : y < 2 ^ n) : (x * 2 ^ n) ||| y = x * 2 ^ n + y := by
  rw [← Nat.shiftLeft_eq, Nat.shiftLeft_add_eq_or_of_lt hy]
theorem run_any {α O : Type} (q : α → Bool) (r fin : O) : ∀ (l : List α) (i : Nat), rangeRun (fun _ (_ : Unit) b => (cond (q b) (.inr r) (.inl ()) : Unit ⊕ O)) (fun _ => fin) i () l = cond (l.any q) r fin
  | [], _ => rfl
  | b :: l, i => by
    simp only [rangeRun, List.any_cons]
    cases q b with
    | true => rfl
    | false => exact run_any q r fin l (i + 1)
/-- the first place from i on at which it holds; -1: nowhere -/
def findI {α : Type} (q : α → Bool) : Nat → List α → Int
  | _, [] => -1
  | i, b :: l => cond (q b) (i : Int) (findI q (i + 1) l)
theorem findI_ge {α : Type} (q : α → Bool) : ∀ (l : List α) (i : Nat), findI q i l = -1 ∨ ((i : Int) ≤ findI q i l ∧ findI q i l < (i + l.length : Nat))
  | [], i => .inl rfl
  | b :: l, i => by
    simp only [findI, List.length_cons]
    cases q b with
    | true => right; simp only [cond_true]; omega
    | false =>
      simp only [cond_false]
      rcases findI_ge q l (i + 1) with h | h
      · exact .inl h
      · right; omega
theorem run_find {α O : Type} (q : α → Bool) (r : Int → O) (fin : O) : ∀ (l : List α) (i : Nat), rangeRun (fun i (_ : Unit) b => (cond (q b) (.inr (r (i : Int))) (.inl ()) : Unit ⊕ O)) (fun _ => fin) i () l = cond (leI 0 (findI q i l)) (r (findI q i l)) fin
  | [], _ => rfl
  | b :: l, i => by
    simp only [rangeRun, findI]
    cases q b with
    | true =>
      simp only [cond_true]
      have : leI 0 (i : Int) = true := by rw [leI_eq]; exact decide_eq_true (by omega)
      rw [this]; rfl
    | false => exact run_find q r fin l (i + 1)
end Go.Vx
namespace Px
/-- a blank, or a mark -/
def brk (c : Int) : Bool := ([0, 9, 10, 12, 13, 32, 40, 41, 60, 62, 91, 93, 123, 125, 47, 37] : List UInt8).any (fun b => Go.Vx.eqI (b.toNat : Int) c)
/-- a digit to the base 16; below 0: it is none -/
def digit (c : Int) : Int :=
  cond (Go.Vx.leI 0 (Go.Vx.findI (fun b : UInt8 => Go.Vx.eqI (b.toNat : Int) c) 0 [48, 49, 50, 51, 52, 53, 54, 55, 56, 57, 97, 98, 99, 100, 101, 102, 48, 49, 50, 51, 52, 53, 54, 55, 56, 57, 65, 66, 67, 68, 69, 70]))
    ((Go.Vx.findI (fun b : UInt8 => Go.Vx.eqI (b.toNat : Int) c) 0 [48, 49, 50, 51, 52, 53, 54, 55, 56, 57, 97, 98, 99, 100, 101, 102, 48, 49, 50, 51, 52, 53, 54, 55, 56, 57, 65, 66, 67, 68, 69, 70]).tmod 16) (-1)
end Px
namespace Go.Vx
open Go
end Go.Vx
namespace Px
/-- a blank of the document -/
def blank (a : Int) : Bool := Go.Vx.eqI a 0 || Go.Vx.eqI a 9 || Go.Vx.eqI a 10 || Go.Vx.eqI a 12 || Go.Vx.eqI a 13 || Go.Vx.eqI a 32
def nl (b : UInt8) : Bool := Go.Vx.eqI (b.toNat : Int) 10 || Go.Vx.eqI (b.toNat : Int) 13
/-- how many bytes of a comment are left -/
def lineN : List UInt8 → Nat
  | [] => 0
  | b :: r => cond (nl b) 0 (lineN r + 1)
/-- blanks and comments; 'true': in a comment -/
def skipN : Bool → List UInt8 → Nat
  | _, [] => 0
  | true, b :: r => skipN (!nl b) r + 1
  | false, b :: r => cond (Go.Vx.eqI (b.toNat : Int) 37) (skipN true r + 1) (cond (blank (b.toNat : Int)) (skipN false r + 1) 0)
theorem lineN_le : ∀ l, lineN l ≤ l.length
  | [] => Nat.le_refl _
  | b :: r => by
    have := lineN_le r
    simp only [lineN, List.length_cons]
    cases nl b <;> simp only [cond_true, cond_false] <;> omega
theorem skipN_le : ∀ (l : List UInt8) (c : Bool), skipN c l ≤ l.length
  | [], c => by cases c <;> exact Nat.le_refl _
  | b :: r, true => by
    have := skipN_le r (!nl b)
    simp only [skipN, List.length_cons]; omega
  | b :: r, false => by
    have h1 := skipN_le r true
    have h2 := skipN_le r false
    simp only [skipN, List.length_cons]
    cases Go.Vx.eqI (b.toNat : Int) 37 <;> cases blank (b.toNat : Int) <;> simp only [cond_true, cond_false] <;> omega
theorem nl_blank {b : UInt8} (h : nl b = true) : blank (b.toNat : Int) = true ∧ Go.Vx.eqI (b.toNat : Int) 37 = false := by
  unfold nl at h
  unfold blank
  simp only [Go.Vx.eqI_eq, Bool.or_eq_true, decide_eq_true_eq, decide_eq_false_iff_not] at h ⊢
  omega
/-- a comment: its line, and what is behind -/
theorem skipN_line : ∀ l, skipN true l = lineN l + skipN false (l.drop (lineN l))
  | [] => rfl
  | b :: r => by
    simp only [skipN, lineN]
    cases h : nl b with
    | true =>
      obtain ⟨h1, h2⟩ := nl_blank h
      simp only [cond_true, List.drop_zero, skipN, h1, h2, cond_false, Bool.not_true]
      omega
    | false =>
      simp only [cond_false, Bool.not_false, List.drop_succ_cons]
      rw [skipN_line r]; omega
end Px
namespace Go.Vx
open Go
theorem run_line {O : Type} (f : Int → O) (n : Nat) : ∀ (l : List UInt8) (i : Nat), i + l.length = n →
    rangeRun (fun i (_ : Unit) b => (cond (Px.nl b) (.inr (f (i : Int))) (.inl ()) : Unit ⊕ O)) (fun _ => f (n : Int)) i () l = f ((i + Px.lineN l : Nat) : Int)
  | [], i, h => by simp only [rangeRun, Px.lineN]; simp at h; subst h; rfl
  | b :: l, i, h => by
    simp only [rangeRun, Px.lineN]
    cases Px.nl b with
    | true => rfl
    | false =>
      simp only [cond_false]
      rw [run_line f n l (i + 1) (by simp at h; omega)]
      congr 2; omega
theorem indexByte_any (c : UInt8) : ∀ l : List UInt8, leI 0 (Lib.indexByte l c) = l.any (fun b => decide (b = c))
  | [] => rfl
  | b :: l => by
    have ih := indexByte_any c l
    have hge := Lib.indexByte_ge l c
    simp only [Lib.indexByte, List.any_cons]
    by_cases hb : b = c
    · subst hb; simp [leI]
    · have h1 : (b == c) = false := by simpa using hb
      rw [h1, decide_eq_false hb, Bool.false_or, ← ih, leI_eq, leI_eq]
      refine decide_eq_decide.2 ?_
      simp only [Bool.false_eq_true, if_false, beq_iff_eq]
      split <;> omega
theorem eqI_lit (b c : UInt8) (n : Int) (h : (c.toNat : Int) = n) : eqI (b.toNat : Int) n = decide (b = c) := by rw [← h]; exact u8_eq b c
theorem nl_any (b : UInt8) : leI 0 (Lib.indexByte [10, 13] b) = Px.nl b := by
  rw [indexByte_any]
  unfold Px.nl
  rw [eqI_lit b 10 10 rfl, eqI_lit b 13 13 rfl]
  simp only [List.any_cons, List.any_nil, Bool.or_false, eq_comm (b := b)]
theorem blank_any (b : UInt8) : leI 0 (Lib.indexByte [0, 9, 10, 12, 13, 32] b) = Px.blank (b.toNat : Int) := by
  rw [indexByte_any]
  unfold Px.blank
  rw [eqI_lit b 0 0 rfl, eqI_lit b 9 9 rfl, eqI_lit b 10 10 rfl, eqI_lit b 12 12 rfl, eqI_lit b 13 13 rfl, eqI_lit b 32 32 rfl]
  simp only [List.any_cons, List.any_nil, Bool.or_false, eq_comm (b := b), Bool.or_assoc]
end Go.Vx
namespace Px
/-- a hex digit -/
def hd (n : Nat) : UInt8 := [(48 : UInt8), 49, 50, 51, 52, 53, 54, 55, 56, 57, 97, 98, 99, 100, 101, 102].getD n 0
/-- bytes' digits -/
def hexs : List UInt8 → List UInt8
  | [] => []
  | b :: r => hd (b.toNat / 16) :: hd (b.toNat % 16) :: hexs r
theorem hexs_len : ∀ p, (hexs p).length = 2 * p.length
  | [] => rfl
  | b :: r => by simp only [hexs, List.length_cons, hexs_len r]; omega
end Px
namespace Go.Vx
open Go
theorem vshr_u8 (b : UInt8) : vshr IntKind.u8 (b.toNat : Int) 4 = ((b.toNat / 16 : Nat) : Int) := by
  unfold vshr
  have : min (Int.toNat 4) (IntKind.u8.bits) = 4 := by decide
  rw [this]
  show ((b.toNat : Int)).fdiv 16 = _
  rw [Int.fdiv_eq_ediv_of_nonneg _ (by omega)]
  omega
theorem and_u8 (b : UInt8) : vbits Go.BinOp.and IntKind.u8 (b.toNat : Int) 15 = ((b.toNat % 16 : Nat) : Int) := by
  have hb := b.toNat_lt
  have := vbits_and IntKind.u8 b.toNat 15 hb (by decide)
  rw [show ((15 : Nat) : Int) = 15 from rfl] at this
  rw [this, show (15 : Nat) = 2 ^ 4 - 1 from rfl, Nat.and_two_pow_sub_one_eq_mod, wu8] <;> omega
end Go.Vx
