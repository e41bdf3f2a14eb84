/-
  Part 2 of the proof: the second reading of the model, its laws, and the functions' contracts. Lemmas alone.
-/
import Derived.Lib.BytesEntry
import Derived.Lib.Builder
import Derived.Below
import Derived.Test.YtjnmckakmljejaaGreatDoorA1
set_option linter.unusedSectionVars false
set_option linter.unusedVariables false
set_option linter.unusedSimpArgs false
noncomputable section
namespace Go.Vx
open Go
theorem extern_run {P : Program} {f : FuncId} {fn : Func} {e : Array Value → Sem Value} {vals : Array Value} {w w' : World} {v : Value} (hf : P.funcs[f]? = some fn) (hn : (fn.name == "runtime.NumGoroutine") = false) (hb : fn.body.isNone = true)
  (h1 : (Extern.findNext fn).isNone = true) (h2 : Extern.find fn = some e) (hrun : (e vals).run P w = .ok v w') : (callFunc f vals).run P w = .ok (.value v) w' := by
 have hne : ¬ fn.name = "runtime.NumGoroutine" := by simpa using hn
 have h1' : Extern.findNext fn = none := by simpa using h1
 have hb' : fn.body = none := by simpa using hb
 have hm : ∀ (m : Mark), (Sem.mark m (Sem.pure ())).run P w = .ok () w := fun _ => rfl
 unfold callFunc
 simp [hf, hne, hb', h1', h2, hrun, mark, hm]
theorem valid_extern {Key : Type} [DecidableEq Key] {E : Env Key} {f : FuncId} {fn : Func} {e : Array Value → Sem Value} {spec : Spec E} (hf : E.P.funcs[f]? = some fn) (hn : (fn.name == "runtime.NumGoroutine") = false) (hb : fn.body.isNone = true)
  (h1 : (Extern.findNext fn).isNone = true) (h2 : Extern.find fn = some e)
  (h : ∀ args os r os', (spec args os).get = some (r, os') → os' = os ∧ ∀ (G : Gh) (w : World) (vals : Array Value), ARel E G w args vals → ∃ v, (e vals).run E.P w = .ok v w ∧ RRep E G w r v) : Valid E f spec := by
 unfold Valid
 intro args os r os' hs G w vals ha hh hv hc
 obtain ⟨rfl, h⟩ := h args os r os' hs
 obtain ⟨v, hrun, hrep⟩ := h G w vals ha
 rw [extern_run hf hn hb h1 h2 hrun]
 exact ⟨v, G, rfl, hrep, hh, hv, hc, fun _ _ => rfl, Fr.refl G w⟩
theorem arel_one {Key : Type} [DecidableEq Key] {E : Env Key} {G : Gh} {w : World} {r : RV E.A} {vals : Array Value} (h : ARel E G w [r] vals) : ∃ v, vals = #[v] ∧ RRep E G w r v := by
 obtain ⟨h1, h2⟩ := h
 match vals, h1 with
 | ⟨[v]⟩, _ => exact ⟨v, rfl, h2 0 r rfl⟩
theorem arel_two {Key : Type} [DecidableEq Key] {E : Env Key} {G : Gh} {w : World} {r s : RV E.A} {vals : Array Value} (h : ARel E G w [r, s] vals) : ∃ v u, vals = #[v, u] ∧ RRep E G w r v ∧ RRep E G w s u := by
 obtain ⟨h1, h2⟩ := h
 match vals, h1 with
 | ⟨[v, u]⟩, _ => exact ⟨v, u, rfl, h2 0 r rfl, h2 1 s rfl⟩
theorem below_ext {G : Gh} {w w' : World} (h : RowKit.Below w.heap.size w w') : Ext G w G w' := by
 refine ⟨fun b o v hc hf => ⟨?_, hf⟩, fun _ => Nat.le_refl _, fun _ _ => ⟨rfl, fun _ _ => rfl⟩, fun _ => Nat.le_refl _, fun _ _ _ h => h, fun b s hs => ?_, rfl, fun _ b _ _ o _ _ ho => by rw [h.block b (lt_of_heap ho)]; exact ho⟩
 ·rw [World.cell?_of_block (w := w) (h.block b (lt_of_cell hc))]; exact hc
 ·have := h.block b (shape_lt hs)
  unfold World.shape? at *
  rw [this]; exact hs
theorem below_fr {G : Gh} {w w' : World} (h : RowKit.Below w.heap.size w w') : Fr G w G w' :=
 ⟨h.os, h.tape, h.output, h.size, (below_ext h).fcell, fun b hb hf => ⟨h.block b hb, hf, rfl⟩, (below_ext (G := G) h).shape, rfl⟩
theorem below_h {Key : Type} [DecidableEq Key] {E : Env Key} {ob : Nat → Option (Obj E.A)} {G : Gh} {w w' : World} (h : HRel E ob G w) (hg : RowKit.Below w.heap.size w w') : HRel E ob G w' where
 ob i o ho := (h.ob i o ho).imp (fun ⟨b, hb⟩ => ⟨b, hb.1, hb.2.mono (below_ext hg) (hg.block b (h.lt i b hb.1)) rfl⟩) id
 lt i b hb := Nat.lt_of_lt_of_le (h.lt i b hb) hg.size
 inj := h.inj
 tokb u b lo' hi' hu := by
  obtain ⟨h1, h2, h3⟩ := h.tokb u b lo' hi' hu
  refine ⟨Nat.lt_of_lt_of_le h1 hg.size, h2, fun o ho1 ho2 => ?_⟩
  rw [World.cell?_of_block (w := w) (hg.block b h1), World.frozen?_of_block (w := w) (hg.block b h1)]
  exact h3 o ho1 ho2
 tokj := h.tokj
 gl g cs hg' := (h.gl g cs hg').mono (below_ext hg)
 othf b o ho := ⟨Nat.lt_of_lt_of_le (h.othf b o ho).1 hg.size, (h.othf b o ho).2⟩
end Go.Vx
end
