/-
  ObjectGets holds: of a Dict each key's value is told, of others nothing; maps of names and values are made so.
  Conditions: those of the given statement alone (its listed library variables read as their initialisers lay them).
-/
import Derived.Test.YtjnmckakmljejaaGreatDoorA6
import Derived.Test.YtjnmckakmljejaaGreatDoorTie
import Derived.Test.YtjnmckakmljejaaGreatDoorCards
import Derived.LaidMore
import Derived.Lay
import Derived.SevenTiedAt
import Derived.Stop.Joined
set_option linter.unusedSectionVars false
set_option linter.unusedSimpArgs false
namespace Go.Proofs.YtjnmckakmljejaaGreatDoor.objectGets
open Go.ChangeShapes Go.WideShapes Go.ChangeAt Go.RowKit
open Go.ChangeMaps (open_string shut_string)
set_option linter.unusedVariables false
theorem own : ownKnob Tryz.prog.godebug = none := by kernel_rfl
theorem laidOut : laidOutB Tryz.prog = true := by kernel_rfl
/-- what the walk and the plain law say together -/
def Goal : Prop := ∃ spec : Go.Vx.Spec Go.Vx.E, Go.Vx.Valid Go.Vx.E 5 spec ∧ ∀ (x0 : List Go.Vx.Bit) (a1 : List UInt8), True → (spec [Go.Vx.RV.lf (.sl .bit x0), Go.Vx.RV.lf (.str a1)] []).get = some (Go.Vx.RV.lf (.bool true), [])
set_option maxRecDepth 100000 in
theorem lifted (G : Goal) (os : Os) (started : os.Started) (H : Type) (enc : TypeId × Value → H) :
    ReturnsInHanded {} Tryz.checked os 5 .any (fun w args => (Rows.objectGetsSpec.pre enc Tryz.prog Tryz.f5 Rows.objectGetsRow.domain false w args ∧ laidMetH Tryz.prog Rows.objectGetsRow.laid w) ∧ sizedMet enc Tryz.prog Tryz.f5 (OpenSpec.ofChange Rows.objectGetsSpec) false w args)
      (Rows.objectGetsSpec.post enc Tryz.prog Tryz.f5 false true false false) := by
  obtain ⟨fspec, hV, hspec⟩ := G
  refine Go.Vx.returns_shaped (C := Tryz.checked) (X := fun w _ => laidMetH Tryz.prog Rows.objectGetsRow.laid w) (fun _ _ _ hh h => h.of_heap hh) own started (by kernel_rfl) Tryz.func5
    (ChangeSpec.witness_shaped (enc := enc) (C := Tryz.checked) (os := os) (X := fun w _ => laidMetH Tryz.prog Rows.objectGetsRow.laid w) false (World.laidAll Tryz.prog os Rows.objectGetsRow.laid) #[.slice none 0 0, .string ByteArray.empty] 8 (World.laidAll_os _ _ _)
      (World.shaped_of_ZipB (by kernel_rfl) (by kernel_rfl)) (by kernel_rfl) (by kernel_rfl) (by kernel_rfl)
      (by rw [MakeChecks.laidMetH_plain _ _ _ (by kernel_rfl)]; exact laidMet_laidAll _ (by kernel_rfl) (by kernel_rfl))) ?_
  intro W base args ds gs before hval0 hW hcnd hsz0 hL hSh
  have hsz : (DataW.weightsEach Tryz.prog (Tryz.f5.params.toList ++ Rows.objectGetsSpec.plain.varTypes Tryz.prog) (ds ++ gs)).all (· ≤ reachBytes) = true := hsz0
  have hval : ∀ (j : Nat) t v, Tryz.f5.params[j]? = some t → args[j]? = some v → Value.okWide Tryz.prog W .any base t v := hval0
  have hW' := hW
  obtain ⟨p, q, hA0, hV', rfl, hfz, hnd⟩ := hW
  have hA : DataW.TrodAll enc Tryz.prog W 0 (fun _ => true) true Tryz.f5.params.toList args.toList ds p := hA0
  rw [Tryz.params5] at hA hval hsz
  obtain ⟨v0, vs0, d0, ds0, p0, q0, hargs, rfl, rfl, h0, r0⟩ := trodAll_cons hA
  obtain ⟨v1, vs1, d1, ds1, p1, q1, rfl, rfl, rfl, h1, r1⟩ := trodAll_cons r0
  obtain ⟨rfl, rfl, rfl⟩ := trodAll_nil r1
  obtain rfl : args = #[v0, v1] := by cases args; simp_all
  obtain ⟨rfl, rfl⟩ := trodVars_none hV'
  obtain ⟨a0, len0, cap0, rfl⟩ := okWide_slice Tryz.underlying43 (hval 0 43 v0 rfl rfl)
  have k0 := h0
  have lt0 : ∀ x ∈ p0, x.block < W.heap.size := by obtain ⟨m, hm⟩ := k0; exact DataW.trod_lt m _ _ _ hm
  obtain ⟨z0, rp0⟩ : ∃ xs : List Go.Vx.Bit, Go.Vx.Rep Go.Vx.E Go.Vx.Gh.none W (.sl .bit xs) (.slice a0 len0 cap0) := by
    obtain ⟨fuel, hf⟩ := h0
    obtain ⟨a, len, cap, xs, hcs, hr⟩ := Go.Vx.open_bits hf
    simp [Value.cells] at hcs
    obtain ⟨rfl, rfl, rfl⟩ := hcs
    exact ⟨xs, hr⟩
  obtain ⟨a1, rfl, rfl, rfl, y1⟩ := open_string Tryz.underlying9 (hval 1 9 v1 rfl rfl) h1
  have w1 : a1.size ≤ 140737488355328 := by
    have z := sized_string hsz (j := 1) (t := 9) rfl rfl
    rw [Array.length_toList] at z
    have h2 := reachBytes_lt
    show a1.data.size ≤ _
    omega
  clear hA0 hval0 hsz0 hsz
  have rp1 : Go.Vx.Rep Go.Vx.E Go.Vx.Gh.none W (.str a1.data.toList) _ := .str a1 (by rw [Array.length_toList]; exact Nat.le_trans w1 (by decide))
  refine (Go.Vx.calls_of_valid hV Tryz.func5 (by kernel_rfl) (by kernel_rfl) (hspec z0 a1.data.toList trivial) (Go.Vx.arel2 rp0 rp1) (Go.Vx.gl_of_laid (by kernel_rfl) (by kernel_rfl) (by kernel_rfl) (by kernel_rfl) (by kernel_rfl)  hL hSh)).mono fun e W' ⟨he, bel⟩ => ?_
  subst he
  exact ⟨_, rfl, _, _, _, [], _, [], hW', trodAll_mk1 (shut_bool Tryz.underlying4 _), (trodAll_cons_mk (Below.trod laidOut (by kernel_rfl) (of_decide_eq_true (by kernel_rfl)) k0 bel lt0) (trodAll_cons_mk (shut_string Tryz.underlying9 y1) trodAll_mk0)), rfl, bel.frame _, fun h => by cases h⟩
theorem over (G : Goal) : Rows.objectGetsRow.holds Tryz.pinned (OpenSpec.ofChange Rows.objectGetsSpec) :=
  OpenClaim.holds_of_wide 5 Tryz.f5 rfl rfl rfl rfl rfl rfl rfl ⟨rfl, rfl, rfl, rfl, rfl⟩ rfl rfl rfl rfl rfl (by kernel_rfl) Tryz.func5 (by kernel_rfl)
    (of_decide_eq_true (by kernel_rfl)) (by unfold Func.isWrapper; first | (rw [if_pos (by decide +kernel)]; kernel_rfl) | (rw [if_neg (by decide +kernel)]; exact ⟨rfl, rfl⟩))
    (fun os started H enc _ => lifted G os started H enc)
theorem card (G : Goal) : Rows.ObjectGetsCardSaid :=
  Claim7.holds_tied_plain_at .later [] [.data, .data, .data, .data, .sentinel, .sentinel, .pinned] true (true, "04ef72269dc33af4a6c0f6a34426ccb988280e28580e8ccd8691a0c79023b1ec") true (over G) (fun _ h => by cases h) (by kernel_rfl) (fun _ h => by cases h) objectGets_row_tie rfl ⟨rfl, rfl⟩ (by kernel_rfl) rfl
    (fun f fn hf hfn => by
      obtain rfl : f = 5 := Option.some.inj ((show Tryz.prog.funcNamed Rows.objectGetsRow.func = some 5 by kernel_rfl).symm.trans hf) |>.symm
      obtain rfl : fn = Tryz.f5 := (Option.some.inj (Tryz.func5.symm.trans hfn)).symm
      exact ⟨by kernel_rfl, fun j t ht => by
        rw [Tryz.params5] at ht
        have hm : t ∈ [43, 9] := by simpa using Array.mem_of_getElem? ht
        have hall : ([43, 9].all fun u => !Tryz.prog.wantsStandIn u) = true := by kernel_rfl
        exact (show Tryz.prog.wantsStandIn t = false by simpa using List.all_eq_true.1 hall t hm)⟩)
    (by kernel_rfl)
theorem goal : Goal := ⟨Go.Vx.spec5, Go.Vx.valid5 Go.Vx.laws, fun x0 a1 _ => Go.Vx.sp5 x0 a1⟩
theorem done : Rows.ObjectGetsCardSaid := card goal
end Go.Proofs.YtjnmckakmljejaaGreatDoor.objectGets
