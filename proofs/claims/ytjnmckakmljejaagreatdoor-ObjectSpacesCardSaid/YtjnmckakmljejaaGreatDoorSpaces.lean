/-
  ObjectSpaces holds: blanks and comments, anywhere between a value's parts, say nothing.
  Conditions: those of the given statement alone (its listed library variables read as their initialisers lay them).
-/
import Derived.Test.YtjnmckakmljejaaGreatDoorA9
import Derived.Test.YtjnmckakmljejaaGreatDoorTie
import Derived.Test.YtjnmckakmljejaaGreatDoorCards
import Derived.LaidMore
import Derived.Lay
import Derived.SevenTiedAt
import Derived.Stop.Joined
set_option linter.unusedSectionVars false
set_option linter.unusedSimpArgs false
namespace Go.Proofs.YtjnmckakmljejaaGreatDoor.objectSpaces
open Go.ChangeShapes Go.WideShapes Go.ChangeAt Go.RowKit
open Go.ChangeMaps (open_string shut_string)
set_option linter.unusedVariables false
theorem own : ownKnob Tryz.prog.godebug = none := by kernel_rfl
theorem laidOut : laidOutB Tryz.prog = true := by kernel_rfl
/-- what the walk and the plain law say together -/
def Goal : Prop := ∃ spec : Go.Vx.Spec Go.Vx.E, Go.Vx.Valid Go.Vx.E 9 spec ∧ ∀ (x0 : List Go.Vx.Bit) (x1 : List (Go.Vx.KA .u8)), True ∧ (x1.length ≤ Go.Vx.big ∧ x1.length * 1 ≤ 140737488355328) ∧ (∀ z ∈ x0, Px.BitIn z) → (spec [Go.Vx.RV.lf (.sl .bit x0), Go.Vx.RV.lf (.sl .u8 (x1))] []).get = some (Go.Vx.RV.lf (.bool true), [])
set_option maxRecDepth 100000 in
theorem lifted (G : Goal) (os : Os) (started : os.Started) (H : Type) (enc : TypeId × Value → H) :
    ReturnsInHanded {} Tryz.checked os 9 .any (fun w args => (Rows.objectSpacesSpec.pre enc Tryz.prog Tryz.f9 Rows.objectSpacesRow.domain false w args ∧ laidMetH Tryz.prog Rows.objectSpacesRow.laid w) ∧ sizedMet enc Tryz.prog Tryz.f9 (OpenSpec.ofChange Rows.objectSpacesSpec) false w args)
      (Rows.objectSpacesSpec.post enc Tryz.prog Tryz.f9 false true false false) := by
  obtain ⟨fspec, hV, hspec⟩ := G
  refine Go.Vx.returns_shaped (C := Tryz.checked) (X := fun w _ => laidMetH Tryz.prog Rows.objectSpacesRow.laid w) (fun _ _ _ hh h => h.of_heap hh) own started (by kernel_rfl) Tryz.func9
    (ChangeSpec.witness_shaped (enc := enc) (C := Tryz.checked) (os := os) (X := fun w _ => laidMetH Tryz.prog Rows.objectSpacesRow.laid w) false (World.laidAll Tryz.prog os Rows.objectSpacesRow.laid) #[.slice none 0 0, .slice none 0 0] 8 (World.laidAll_os _ _ _)
      (World.shaped_of_ZipB (by kernel_rfl) (by kernel_rfl)) (by kernel_rfl) (by kernel_rfl) (by kernel_rfl)
      (by rw [MakeChecks.laidMetH_plain _ _ _ (by kernel_rfl)]; exact laidMet_laidAll _ (by kernel_rfl) (by kernel_rfl))) ?_
  intro W base args ds gs before hval0 hW hcnd hsz0 hL hSh
  have hsz : (DataW.weightsEach Tryz.prog (Tryz.f9.params.toList ++ Rows.objectSpacesSpec.plain.varTypes Tryz.prog) (ds ++ gs)).all (· ≤ reachBytes) = true := hsz0
  have hval : ∀ (j : Nat) t v, Tryz.f9.params[j]? = some t → args[j]? = some v → Value.okWide Tryz.prog W .any base t v := hval0
  have hW' := hW
  obtain ⟨p, q, hA0, hV', rfl, hfz, hnd⟩ := hW
  have hA : DataW.TrodAll enc Tryz.prog W 0 (fun _ => true) true Tryz.f9.params.toList args.toList ds p := hA0
  rw [Tryz.params9] at hA hval hsz
  obtain ⟨v0, vs0, d0, ds0, p0, q0, hargs, rfl, rfl, h0, r0⟩ := trodAll_cons hA
  obtain ⟨v1, vs1, d1, ds1, p1, q1, rfl, rfl, rfl, h1, r1⟩ := trodAll_cons r0
  obtain ⟨rfl, rfl, rfl⟩ := trodAll_nil r1
  obtain rfl : args = #[v0, v1] := by cases args; simp_all
  obtain ⟨rfl, rfl⟩ := trodVars_none hV'
  obtain ⟨a0, len0, cap0, rfl⟩ := okWide_slice Tryz.underlying43 (hval 0 43 v0 rfl rfl)
  have k0 := h0
  have lt0 : ∀ x ∈ p0, x.block < W.heap.size := by obtain ⟨m, hm⟩ := k0; exact DataW.trod_lt m _ _ _ hm
  obtain ⟨z0, rp0⟩ : ∃ xs : List Go.Vx.Bit, Go.Vx.Rep Go.Vx.E Go.Vx.Gh.none W (.sl .bit xs) (.slice a0 len0 cap0) := by
    obtain ⟨fuel, hf⟩ := h0
    obtain ⟨a, len, cap, xs, hcs, hr⟩ := Go.Vx.open_bits hf
    simp [Value.cells] at hcs
    obtain ⟨rfl, rfl, rfl⟩ := hcs
    exact ⟨xs, hr⟩
  obtain ⟨a1, len1, cap1, rfl⟩ := okWide_slice Tryz.underlying22 (hval 1 22 v1 rfl rfl)
  have k1 := h1
  have lt1 : ∀ x ∈ p1, x.block < W.heap.size := by obtain ⟨m, hm⟩ := k1; exact DataW.trod_lt m _ _ _ hm
  obtain ⟨z1, w1, y1⟩ : ∃ zs, Go.Vx.IsRow .u8 W a1 len1 cap1 zs ∧ len1 * 1 ≤ 140737488355328 := by
    obtain ⟨fuel, hf⟩ := h1
    rcases open_ints Tryz.underlying22 Tryz.underlying5 (by kernel_rfl) hf with ⟨hcs, _⟩ | ⟨x, l, c, zs, hcs, _, hl, hm, hz, hx, hcell, hwz⟩
    · simp [Value.cells] at hcs
      obtain ⟨rfl, rfl, rfl⟩ := hcs
      exact ⟨[], .inl ⟨rfl, rfl, rfl, rfl⟩, by omega⟩
    · simp [Value.cells] at hcs
      obtain ⟨rfl, rfl, rfl⟩ := hcs
      have hz' : zs.length = cap1 := by simpa using hz
      obtain ⟨rfl, _⟩ := Prod.mk.inj hx
      exact ⟨zs, .inr ⟨_, rfl, hl, hm, hz', hcell, hwz⟩, Go.Vx.sized_row hsz (j := 1) (t := 22) rfl rfl Tryz.underlying22 (by kernel_rfl) (by omega)⟩
  have e1 := Go.Vx.IsRow.len w1
  clear hA0 hval0 hsz0 hsz
  have rp1 := Go.Vx.rep_row (K0 := .u8) (fun z : Int => UInt8.ofNat z.toNat) rfl Go.Vx.enc_u8 w1
  refine (Go.Vx.calls_of_valid hV Tryz.func9 (by kernel_rfl) (by kernel_rfl) (hspec z0 _ ⟨trivial, (Go.Vx.row_ok _ e1 y1), (Go.Vx.bits_in rp0)⟩) (Go.Vx.arel2 rp0 rp1) (Go.Vx.gl_of_laid (by kernel_rfl) (by kernel_rfl) (by kernel_rfl) (by kernel_rfl) (by kernel_rfl)  hL hSh)).mono fun e W' ⟨he, bel⟩ => ?_
  subst he
  exact ⟨_, rfl, _, _, _, [], _, [], hW', trodAll_mk1 (shut_bool Tryz.underlying4 _), (trodAll_cons_mk (Below.trod laidOut (by kernel_rfl) (of_decide_eq_true (by kernel_rfl)) k0 bel lt0) (trodAll_cons_mk (Below.trod laidOut (by kernel_rfl) (of_decide_eq_true (by kernel_rfl)) k1 bel lt1) trodAll_mk0)), rfl, bel.frame _, fun h => by cases h⟩
theorem over (G : Goal) : Rows.objectSpacesRow.holds Tryz.pinned (OpenSpec.ofChange Rows.objectSpacesSpec) :=
  OpenClaim.holds_of_wide 9 Tryz.f9 rfl rfl rfl rfl rfl rfl rfl ⟨rfl, rfl, rfl, rfl, rfl⟩ rfl rfl rfl rfl rfl (by kernel_rfl) Tryz.func9 (by kernel_rfl)
    (of_decide_eq_true (by kernel_rfl)) (by unfold Func.isWrapper; first | (rw [if_pos (by decide +kernel)]; kernel_rfl) | (rw [if_neg (by decide +kernel)]; exact ⟨rfl, rfl⟩))
    (fun os started H enc _ => lifted G os started H enc)
theorem card (G : Goal) : Rows.ObjectSpacesCardSaid :=
  Claim7.holds_tied_plain_at .later [] [.data, .data, .data, .data, .sentinel, .sentinel, .sentinel, .pinned] true (true, "04ef72269dc33af4a6c0f6a34426ccb988280e28580e8ccd8691a0c79023b1ec") true (over G) (fun _ h => by cases h) (by kernel_rfl) (fun _ h => by cases h) objectSpaces_row_tie rfl ⟨rfl, rfl⟩ (by kernel_rfl) rfl
    (fun f fn hf hfn => by
      obtain rfl : f = 9 := Option.some.inj ((show Tryz.prog.funcNamed Rows.objectSpacesRow.func = some 9 by kernel_rfl).symm.trans hf) |>.symm
      obtain rfl : fn = Tryz.f9 := (Option.some.inj (Tryz.func9.symm.trans hfn)).symm
      exact ⟨by kernel_rfl, fun j t ht => by
        rw [Tryz.params9] at ht
        have hm : t ∈ [43, 22] := by simpa using Array.mem_of_getElem? ht
        have hall : ([43, 22].all fun u => !Tryz.prog.wantsStandIn u) = true := by kernel_rfl
        exact (show Tryz.prog.wantsStandIn t = false by simpa using List.all_eq_true.1 hall t hm)⟩)
    (by kernel_rfl)
theorem goal : Goal := ⟨Go.Vx.spec9, Go.Vx.valid9 Go.Vx.laws, fun x0 x1 h => Go.Vx.sp9 x0 x1 h.2.2⟩
theorem done : Rows.ObjectSpacesCardSaid := card goal
end Go.Proofs.YtjnmckakmljejaaGreatDoor.objectSpaces
