/-
  TouniParses holds: of any bytes (the first 600) the program and the document tell the same codes and scalars, or none; and each code is there in both or in none.
  Conditions: those of the given statement alone (its listed library variables read as their initialisers lay them).
-/
import Derived.Test.YtmllilgelombiaaDoorA12
import Derived.Test.YtmllilgelombiaaDoorTie
import Derived.Test.YtmllilgelombiaaDoorCards
import Derived.LaidMore
import Derived.Lay
import Derived.SevenTiedAt
import Derived.Stop.Joined
set_option linter.unusedSectionVars false
set_option linter.unusedSimpArgs false
namespace Go.Proofs.YtmllilgelombiaaDoor.touniParses
open Go.ChangeShapes Go.WideShapes Go.ChangeAt Go.RowKit
open Go.ChangeMaps (open_string shut_string)
set_option linter.unusedVariables false
theorem own : ownKnob Tryd.prog.godebug = none := by kernel_rfl
theorem laidOut : laidOutB Tryd.prog = true := by kernel_rfl
/-- what the walk and the plain law say together -/
def Goal : Prop := ∃ spec : Go.Vx.Spec Go.Vx.E, Go.Vx.Valid Go.Vx.E 4 spec ∧ ∀ (x0 : List (Go.Vx.KA .u8)) (a1 : Int), True ∧ Go.Vx.inRb .u16 a1 = true ∧ (x0.length ≤ Go.Vx.big ∧ x0.length * 1 ≤ 140737488355328) → (spec [Go.Vx.RV.lf (.sl .u8 (x0)), Go.Vx.RV.lf (.int .u16 a1)] []).get = some (Go.Vx.RV.lf (.bool true), [])
set_option maxRecDepth 100000 in
theorem lifted (G : Goal) (os : Os) (started : os.Started) (H : Type) (enc : TypeId × Value → H) :
    ReturnsInHanded {} Tryd.checked os 4 .any (fun w args => (Rows.touniParsesSpec.pre enc Tryd.prog Tryd.f4 Rows.touniParsesRow.domain false w args ∧ laidMetH Tryd.prog Rows.touniParsesRow.laid w) ∧ sizedMet enc Tryd.prog Tryd.f4 (OpenSpec.ofChange Rows.touniParsesSpec) false w args)
      (Rows.touniParsesSpec.post enc Tryd.prog Tryd.f4 false true false false) := by
  obtain ⟨fspec, hV, hspec⟩ := G
  refine Go.Vx.returns_shaped (C := Tryd.checked) (X := fun w _ => laidMetH Tryd.prog Rows.touniParsesRow.laid w) (fun _ _ _ hh h => h.of_heap hh) own started (by kernel_rfl) Tryd.func4
    (ChangeSpec.witness_shaped (enc := enc) (C := Tryd.checked) (os := os) (X := fun w _ => laidMetH Tryd.prog Rows.touniParsesRow.laid w) false (World.laidAll Tryd.prog os Rows.touniParsesRow.laid) #[.slice none 0 0, .int .u16 0] 8 (World.laidAll_os _ _ _)
      (World.shaped_of_ZipB (by kernel_rfl) (by kernel_rfl)) (by kernel_rfl) (by kernel_rfl) (by kernel_rfl)
      (by rw [MakeChecks.laidMetH_plain _ _ _ (by kernel_rfl)]; exact laidMet_laidAll _ (by kernel_rfl) (by kernel_rfl))) ?_
  intro W base args ds gs before hval0 hW hcnd hsz0 hL hSh
  have hsz : (DataW.weightsEach Tryd.prog (Tryd.f4.params.toList ++ Rows.touniParsesSpec.plain.varTypes Tryd.prog) (ds ++ gs)).all (· ≤ reachBytes) = true := hsz0
  have hval : ∀ (j : Nat) t v, Tryd.f4.params[j]? = some t → args[j]? = some v → Value.okWide Tryd.prog W .any base t v := hval0
  have hW' := hW
  obtain ⟨p, q, hA0, hV', rfl, hfz, hnd⟩ := hW
  have hA : DataW.TrodAll enc Tryd.prog W 0 (fun _ => true) true Tryd.f4.params.toList args.toList ds p := hA0
  rw [Tryd.params4] at hA hval hsz
  obtain ⟨v0, vs0, d0, ds0, p0, q0, hargs, rfl, rfl, h0, r0⟩ := trodAll_cons hA
  obtain ⟨v1, vs1, d1, ds1, p1, q1, rfl, rfl, rfl, h1, r1⟩ := trodAll_cons r0
  obtain ⟨rfl, rfl, rfl⟩ := trodAll_nil r1
  obtain rfl : args = #[v0, v1] := by cases args; simp_all
  obtain ⟨rfl, rfl⟩ := trodVars_none hV'
  obtain ⟨a0, len0, cap0, rfl⟩ := okWide_slice Tryd.underlying30 (hval 0 30 v0 rfl rfl)
  have k0 := h0
  have lt0 : ∀ x ∈ p0, x.block < W.heap.size := by obtain ⟨m, hm⟩ := k0; exact DataW.trod_lt m _ _ _ hm
  obtain ⟨z0, w0, y0⟩ : ∃ zs, Go.Vx.IsRow .u8 W a0 len0 cap0 zs ∧ len0 * 1 ≤ 140737488355328 := by
    obtain ⟨fuel, hf⟩ := h0
    rcases open_ints Tryd.underlying30 Tryd.underlying5 (by kernel_rfl) hf with ⟨hcs, _⟩ | ⟨x, l, c, zs, hcs, _, hl, hm, hz, hx, hcell, hwz⟩
    · simp [Value.cells] at hcs
      obtain ⟨rfl, rfl, rfl⟩ := hcs
      exact ⟨[], .inl ⟨rfl, rfl, rfl, rfl⟩, by omega⟩
    · simp [Value.cells] at hcs
      obtain ⟨rfl, rfl, rfl⟩ := hcs
      have hz' : zs.length = cap0 := by simpa using hz
      obtain ⟨rfl, _⟩ := Prod.mk.inj hx
      exact ⟨zs, .inr ⟨_, rfl, hl, hm, hz', hcell, hwz⟩, Go.Vx.sized_row hsz (j := 0) (t := 30) rfl rfl Tryd.underlying30 (by kernel_rfl) (by omega)⟩
  have e0 := Go.Vx.IsRow.len w0
  obtain ⟨a1, rfl, rfl, rfl, w1⟩ := open_int Tryd.underlying24 (hval 1 24 v1 rfl rfl) h1
  clear hA0 hval0 hsz0 hsz
  have rp0 := Go.Vx.rep_row (K0 := .u8) (fun z : Int => UInt8.ofNat z.toNat) rfl Go.Vx.enc_u8 w0
  have rp1 : Go.Vx.Rep Go.Vx.E Go.Vx.Gh.none W (.int .u16 a1) _ := .int (Go.Vx.wf_inRb w1)
  refine (Go.Vx.calls_of_valid hV Tryd.func4 (by kernel_rfl) (by kernel_rfl) (hspec _ a1 ⟨trivial, Go.Vx.wf_inRb w1, (Go.Vx.row_ok _ e0 y0)⟩) (Go.Vx.arel2 rp0 rp1) (Go.Vx.gl_of_laid (by kernel_rfl) (by kernel_rfl) (by kernel_rfl) hL hSh)).mono fun e W' ⟨he, bel⟩ => ?_
  subst he
  exact ⟨_, rfl, _, _, _, [], _, [], hW', trodAll_mk1 (shut_bool Tryd.underlying4 _), (trodAll_cons_mk (Below.trod laidOut (by kernel_rfl) (of_decide_eq_true (by kernel_rfl)) k0 bel lt0) (trodAll_cons_mk (shut_int Tryd.underlying24 w1) trodAll_mk0)), rfl, bel.frame _, fun h => by cases h⟩
theorem over (G : Goal) : Rows.touniParsesRow.holds Tryd.pinned (OpenSpec.ofChange Rows.touniParsesSpec) :=
  OpenClaim.holds_of_wide 4 Tryd.f4 rfl rfl rfl rfl rfl rfl rfl ⟨rfl, rfl, rfl, rfl, rfl⟩ rfl rfl rfl rfl rfl (by kernel_rfl) Tryd.func4 (by kernel_rfl)
    (of_decide_eq_true (by kernel_rfl)) (by unfold Func.isWrapper; first | (rw [if_pos (by decide +kernel)]; kernel_rfl) | (rw [if_neg (by decide +kernel)]; exact ⟨rfl, rfl⟩))
    (fun os started H enc _ => lifted G os started H enc)
theorem card (G : Goal) : Rows.TouniParsesCardSaid :=
  Claim7.holds_tied_plain_at .later [] [.data, .data, .data, .data, .pinned] true (true, "c11d0e65724cd67ed412f56d4b216f6afac96cb924b4e1eeebe816362014b305") false (over G) (fun _ h => by cases h) (by kernel_rfl) (fun _ h => by cases h) touniParses_row_tie rfl ⟨rfl, rfl⟩ (by kernel_rfl) rfl
    (fun f fn hf hfn => by
      obtain rfl : f = 4 := Option.some.inj ((show Tryd.prog.funcNamed Rows.touniParsesRow.func = some 4 by kernel_rfl).symm.trans hf) |>.symm
      obtain rfl : fn = Tryd.f4 := (Option.some.inj (Tryd.func4.symm.trans hfn)).symm
      exact ⟨by kernel_rfl, fun j t ht => by
        rw [Tryd.params4] at ht
        have hm : t ∈ [30, 24] := by simpa using Array.mem_of_getElem? ht
        have hall : ([30, 24].all fun u => !Tryd.prog.wantsStandIn u) = true := by kernel_rfl
        exact (show Tryd.prog.wantsStandIn t = false by simpa using List.all_eq_true.1 hall t hm)⟩)
    (by kernel_rfl)
theorem goal : Goal := ⟨Go.Vx.spec4, Go.Vx.valid4 Go.Vx.laws, fun x0 a1 ⟨_, h1, h0⟩ => Go.Vx.sp4 x0 a1 h1 h0⟩
theorem done : Rows.TouniParsesCardSaid := card goal
end Go.Proofs.YtmllilgelombiaaDoor.touniParses
