/-
  ObjectDeep holds: values are laid and read as deep as may be, and no deeper.
  Conditions: those of the given statement alone (its listed library variables read as their initialisers lay them).
-/
import Derived.Test.YtjnmckakmljejaaGreatDoorA9
import Derived.Test.YtjnmckakmljejaaGreatDoorTie
import Derived.Test.YtjnmckakmljejaaGreatDoorCards
import Derived.LaidMore
import Derived.Lay
import Derived.SevenTiedAt
import Derived.Stop.Joined
set_option linter.unusedSectionVars false
set_option linter.unusedSimpArgs false
namespace Go.Proofs.YtjnmckakmljejaaGreatDoor.objectDeep
open Go.ChangeShapes Go.WideShapes Go.ChangeAt Go.RowKit
open Go.ChangeMaps (open_string shut_string)
set_option linter.unusedVariables false
theorem own : ownKnob Tryz.prog.godebug = none := by kernel_rfl
theorem laidOut : laidOutB Tryz.prog = true := by kernel_rfl
/-- what the walk and the plain law say together -/
def Goal : Prop := ∃ spec : Go.Vx.Spec Go.Vx.E, Go.Vx.Valid Go.Vx.E 7 spec ∧ ∀ (a0 : Int) (a1 : Bool), True ∧ Go.Vx.inRb .u8 a0 = true → (spec [Go.Vx.RV.lf (.int .u8 a0), Go.Vx.RV.lf (.bool a1)] []).get = some (Go.Vx.RV.lf (.bool true), [])
set_option maxRecDepth 100000 in
theorem lifted (G : Goal) (os : Os) (started : os.Started) (H : Type) (enc : TypeId × Value → H) :
    ReturnsInHanded {} Tryz.checked os 7 .any (fun w args => (Rows.objectDeepSpec.pre enc Tryz.prog Tryz.f7 Rows.objectDeepRow.domain false w args ∧ laidMetH Tryz.prog Rows.objectDeepRow.laid w) ∧ sizedMet enc Tryz.prog Tryz.f7 (OpenSpec.ofChange Rows.objectDeepSpec) false w args)
      (Rows.objectDeepSpec.post enc Tryz.prog Tryz.f7 false true false false) := by
  obtain ⟨fspec, hV, hspec⟩ := G
  refine Go.Vx.returns_shaped (C := Tryz.checked) (X := fun w _ => laidMetH Tryz.prog Rows.objectDeepRow.laid w) (fun _ _ _ hh h => h.of_heap hh) own started (by kernel_rfl) Tryz.func7
    (ChangeSpec.witness_shaped (enc := enc) (C := Tryz.checked) (os := os) (X := fun w _ => laidMetH Tryz.prog Rows.objectDeepRow.laid w) false (World.laidAll Tryz.prog os Rows.objectDeepRow.laid) #[.int .u8 0, .bool false] 8 (World.laidAll_os _ _ _)
      (World.shaped_of_ZipB (by kernel_rfl) (by kernel_rfl)) (by kernel_rfl) (by kernel_rfl) (by kernel_rfl)
      (by rw [MakeChecks.laidMetH_plain _ _ _ (by kernel_rfl)]; exact laidMet_laidAll _ (by kernel_rfl) (by kernel_rfl))) ?_
  intro W base args ds gs before hval0 hW hcnd hsz0 hL hSh
  have hsz : (DataW.weightsEach Tryz.prog (Tryz.f7.params.toList ++ Rows.objectDeepSpec.plain.varTypes Tryz.prog) (ds ++ gs)).all (· ≤ reachBytes) = true := hsz0
  have hval : ∀ (j : Nat) t v, Tryz.f7.params[j]? = some t → args[j]? = some v → Value.okWide Tryz.prog W .any base t v := hval0
  have hW' := hW
  obtain ⟨p, q, hA0, hV', rfl, hfz, hnd⟩ := hW
  have hA : DataW.TrodAll enc Tryz.prog W 0 (fun _ => true) true Tryz.f7.params.toList args.toList ds p := hA0
  rw [Tryz.params7] at hA hval hsz
  obtain ⟨v0, vs0, d0, ds0, p0, q0, hargs, rfl, rfl, h0, r0⟩ := trodAll_cons hA
  obtain ⟨v1, vs1, d1, ds1, p1, q1, rfl, rfl, rfl, h1, r1⟩ := trodAll_cons r0
  obtain ⟨rfl, rfl, rfl⟩ := trodAll_nil r1
  obtain rfl : args = #[v0, v1] := by cases args; simp_all
  obtain ⟨rfl, rfl⟩ := trodVars_none hV'
  obtain ⟨a0, rfl, rfl, rfl, w0⟩ := open_int Tryz.underlying5 (hval 0 5 v0 rfl rfl) h0
  obtain ⟨a1, rfl, rfl, rfl⟩ := open_bool Tryz.underlying4 (hval 1 4 v1 rfl rfl) h1
  clear hA0 hval0 hsz0 hsz
  have rp0 : Go.Vx.Rep Go.Vx.E Go.Vx.Gh.none W (.int .u8 a0) _ := .int (Go.Vx.wf_inRb w0)
  have rp1 : Go.Vx.Rep Go.Vx.E Go.Vx.Gh.none W (.bool a1) _ := .bool a1
  refine (Go.Vx.calls_of_valid hV Tryz.func7 (by kernel_rfl) (by kernel_rfl) (hspec a0 a1 ⟨trivial, Go.Vx.wf_inRb w0⟩) (Go.Vx.arel2 rp0 rp1) (Go.Vx.gl_of_laid (by kernel_rfl) (by kernel_rfl) (by kernel_rfl) (by kernel_rfl) (by kernel_rfl)  hL hSh)).mono fun e W' ⟨he, bel⟩ => ?_
  subst he
  exact ⟨_, rfl, _, _, _, [], _, [], hW', trodAll_mk1 (shut_bool Tryz.underlying4 _), (trodAll_cons_mk (shut_int Tryz.underlying5 w0) (trodAll_cons_mk (shut_bool Tryz.underlying4 _) trodAll_mk0)), rfl, bel.frame _, fun h => by cases h⟩
theorem over (G : Goal) : Rows.objectDeepRow.holds Tryz.pinned (OpenSpec.ofChange Rows.objectDeepSpec) :=
  OpenClaim.holds_of_wide 7 Tryz.f7 rfl rfl rfl rfl rfl rfl rfl ⟨rfl, rfl, rfl, rfl, rfl⟩ rfl rfl rfl rfl rfl (by kernel_rfl) Tryz.func7 (by kernel_rfl)
    (of_decide_eq_true (by kernel_rfl)) (by unfold Func.isWrapper; first | (rw [if_pos (by decide +kernel)]; kernel_rfl) | (rw [if_neg (by decide +kernel)]; exact ⟨rfl, rfl⟩))
    (fun os started H enc _ => lifted G os started H enc)
theorem card (G : Goal) : Rows.ObjectDeepCardSaid :=
  Claim7.holds_tied_plain_at .later [] [.data, .data, .data, .data, .sentinel, .sentinel, .sentinel, .pinned] true (true, "04ef72269dc33af4a6c0f6a34426ccb988280e28580e8ccd8691a0c79023b1ec") true (over G) (fun _ h => by cases h) (by kernel_rfl) (fun _ h => by cases h) objectDeep_row_tie rfl ⟨rfl, rfl⟩ (by kernel_rfl) rfl
    (fun f fn hf hfn => by
      obtain rfl : f = 7 := Option.some.inj ((show Tryz.prog.funcNamed Rows.objectDeepRow.func = some 7 by kernel_rfl).symm.trans hf) |>.symm
      obtain rfl : fn = Tryz.f7 := (Option.some.inj (Tryz.func7.symm.trans hfn)).symm
      exact ⟨by kernel_rfl, fun j t ht => by
        rw [Tryz.params7] at ht
        have hm : t ∈ [5, 4] := by simpa using Array.mem_of_getElem? ht
        have hall : ([5, 4].all fun u => !Tryz.prog.wantsStandIn u) = true := by kernel_rfl
        exact (show Tryz.prog.wantsStandIn t = false by simpa using List.all_eq_true.1 hall t hm)⟩)
    (by kernel_rfl)
theorem goal : Goal := ⟨Go.Vx.spec7, Go.Vx.valid7 Go.Vx.laws, fun a0 a1 h => Go.Vx.sp7 a0 a1 h.2⟩
theorem done : Rows.ObjectDeepCardSaid := card goal
end Go.Proofs.YtjnmckakmljejaaGreatDoor.objectDeep
