/-
  TouniRows holds: the table of up to 349 codes is told in rows of a hundred at most, each with its count ahead, and it is read again whole.
  Conditions: those of the given statement alone (its listed library variables read as their initialisers lay them).
-/
import Derived.Test.YtmllilgelombiaaDoorA2
import Derived.Test.YtmllilgelombiaaDoorA8
import Derived.Test.YtmllilgelombiaaDoorTie
import Derived.Test.YtmllilgelombiaaDoorCards
import Derived.LaidMore
import Derived.Lay
import Derived.SevenTiedAt
import Derived.Stop.Joined
set_option linter.unusedSectionVars false
set_option linter.unusedSimpArgs false
namespace Go.Proofs.YtmllilgelombiaaDoor.touniRows
open Go.ChangeShapes Go.WideShapes Go.ChangeAt Go.RowKit
open Go.ChangeMaps (open_string shut_string)
set_option linter.unusedVariables false
theorem own : ownKnob Tryd.prog.godebug = none := by kernel_rfl
theorem laidOut : laidOutB Tryd.prog = true := by kernel_rfl
/-- what the walk and the plain law say together -/
def Goal : Prop := ∃ spec : Go.Vx.Spec Go.Vx.E, Go.Vx.Valid Go.Vx.E 8 spec ∧ ∀ (a0 : Int), True ∧ Go.Vx.inRb .u16 a0 = true → (spec [Go.Vx.RV.lf (.int .u16 a0)] []).get = some (Go.Vx.RV.lf (.bool true), [])
set_option maxRecDepth 100000 in
theorem lifted (G : Goal) (os : Os) (started : os.Started) (H : Type) (enc : TypeId × Value → H) :
    ReturnsInHanded {} Tryd.checked os 8 .any (fun w args => (Rows.touniRowsSpec.pre enc Tryd.prog Tryd.f8 Rows.touniRowsRow.domain false w args ∧ laidMetH Tryd.prog Rows.touniRowsRow.laid w) ∧ sizedMet enc Tryd.prog Tryd.f8 (OpenSpec.ofChange Rows.touniRowsSpec) false w args)
      (Rows.touniRowsSpec.post enc Tryd.prog Tryd.f8 false true false false) := by
  obtain ⟨fspec, hV, hspec⟩ := G
  refine returnsInHanded_of_change_and (C := Tryd.checked) (X := fun w _ => laidMetH Tryd.prog Rows.touniRowsRow.laid w) (fun _ _ _ hh h => h.of_heap hh) own started (by kernel_rfl) Tryd.func8
    (ChangeSpec.witness_shaped (enc := enc) (C := Tryd.checked) (os := os) (X := fun w _ => laidMetH Tryd.prog Rows.touniRowsRow.laid w) false (World.laidAll Tryd.prog os Rows.touniRowsRow.laid) #[.int .u16 0] 8 (World.laidAll_os _ _ _)
      (World.shaped_of_ZipB (by kernel_rfl) (by kernel_rfl)) (by kernel_rfl) (by kernel_rfl) (by kernel_rfl)
      (by rw [MakeChecks.laidMetH_plain _ _ _ (by kernel_rfl)]; exact laidMet_laidAll _ (by kernel_rfl) (by kernel_rfl))) ?_
  intro W base args ds gs before hval0 hW hcnd hsz0 hL _
  have hsz : (DataW.weightsEach Tryd.prog (Tryd.f8.params.toList ++ Rows.touniRowsSpec.plain.varTypes Tryd.prog) (ds ++ gs)).all (· ≤ reachBytes) = true := hsz0
  have hval : ∀ (j : Nat) t v, Tryd.f8.params[j]? = some t → args[j]? = some v → Value.okWide Tryd.prog W .any base t v := hval0
  have hW' := hW
  obtain ⟨p, q, hA0, hV', rfl, hfz, hnd⟩ := hW
  have hA : DataW.TrodAll enc Tryd.prog W 0 (fun _ => true) true Tryd.f8.params.toList args.toList ds p := hA0
  rw [Tryd.params8] at hA hval hsz
  obtain ⟨v0, vs0, d0, ds0, p0, q0, hargs, rfl, rfl, h0, r0⟩ := trodAll_cons hA
  obtain ⟨rfl, rfl, rfl⟩ := trodAll_nil r0
  obtain rfl : args = #[v0] := by cases args; simp_all
  obtain ⟨rfl, rfl⟩ := trodVars_none hV'
  obtain ⟨a0, rfl, rfl, rfl, w0⟩ := open_int Tryd.underlying24 (hval 0 24 v0 rfl rfl) h0
  clear hA0 hval0 hsz0 hsz
  have rp0 : Go.Vx.Rep Go.Vx.E Go.Vx.Gh.none W (.int .u16 a0) _ := .int (Go.Vx.wf_inRb w0)
  refine (Go.Vx.calls_of_valid hV Tryd.func8 (by kernel_rfl) (by kernel_rfl) (hspec a0 ⟨trivial, Go.Vx.wf_inRb w0⟩) (Go.Vx.arel1 rp0) (Go.Vx.gl_of_laid (by kernel_rfl) hL)).mono fun e W' ⟨he, bel⟩ => ?_
  subst he
  exact ⟨_, rfl, _, _, _, [], _, [], hW', trodAll_mk1 (shut_bool Tryd.underlying4 _), (trodAll_cons_mk (shut_int Tryd.underlying24 w0) trodAll_mk0), rfl, bel.frame _, fun h => by cases h⟩
theorem over (G : Goal) : Rows.touniRowsRow.holds Tryd.pinned (OpenSpec.ofChange Rows.touniRowsSpec) :=
  OpenClaim.holds_of_wide 8 Tryd.f8 rfl rfl rfl rfl rfl rfl rfl ⟨rfl, rfl, rfl, rfl, rfl⟩ rfl rfl rfl rfl rfl (by kernel_rfl) Tryd.func8 (by kernel_rfl)
    (of_decide_eq_true (by kernel_rfl)) (by unfold Func.isWrapper; first | (rw [if_pos (by decide +kernel)]; kernel_rfl) | (rw [if_neg (by decide +kernel)]; exact ⟨rfl, rfl⟩))
    (fun os started H enc _ => lifted G os started H enc)
theorem card (G : Goal) : Rows.TouniRowsCardSaid :=
  Claim7.holds_tied_plain_at .later [] [.data, .data, .data, .data, .pinned] true (true, "c11d0e65724cd67ed412f56d4b216f6afac96cb924b4e1eeebe816362014b305") false (over G) (fun _ h => by cases h) (by kernel_rfl) (fun _ h => by cases h) touniRows_row_tie rfl ⟨rfl, rfl⟩ (by kernel_rfl) rfl
    (fun f fn hf hfn => by
      obtain rfl : f = 8 := Option.some.inj ((show Tryd.prog.funcNamed Rows.touniRowsRow.func = some 8 by kernel_rfl).symm.trans hf) |>.symm
      obtain rfl : fn = Tryd.f8 := (Option.some.inj (Tryd.func8.symm.trans hfn)).symm
      exact ⟨by kernel_rfl, fun j t ht => by
        rw [Tryd.params8] at ht
        have hm : t ∈ [24] := by simpa using Array.mem_of_getElem? ht
        have hall : ([24].all fun u => !Tryd.prog.wantsStandIn u) = true := by kernel_rfl
        exact (show Tryd.prog.wantsStandIn t = false by simpa using List.all_eq_true.1 hall t hm)⟩)
    (by kernel_rfl)
theorem goal : Goal := ⟨Go.Vx.spec8s, Go.Vx.valid8s Go.Vx.laws, fun a0 ⟨_, h0⟩ => Go.Vx.sp8 a0 h0⟩
theorem done : Rows.TouniRowsCardSaid := card goal
end Go.Proofs.YtmllilgelombiaaDoor.touniRows
