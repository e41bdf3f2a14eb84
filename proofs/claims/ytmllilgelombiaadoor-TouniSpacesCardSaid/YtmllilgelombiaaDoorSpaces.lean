/-
  TouniSpaces holds: blanks, comments, and other words, anywhere between, say nothing.
  Conditions: those of the given statement alone (its listed library variables read as their initialisers lay them).
-/
import Derived.Test.YtmllilgelombiaaDoorA2
import Derived.Test.YtmllilgelombiaaDoorA8
import Derived.Test.YtmllilgelombiaaDoorTie
import Derived.Test.YtmllilgelombiaaDoorCards
import Derived.LaidMore
import Derived.Lay
import Derived.SevenTiedAt
import Derived.Stop.Joined
set_option linter.unusedSectionVars false
set_option linter.unusedSimpArgs false
namespace Go.Proofs.YtmllilgelombiaaDoor.touniSpaces
open Go.ChangeShapes Go.WideShapes Go.ChangeAt Go.RowKit
open Go.ChangeMaps (open_string shut_string)
set_option linter.unusedVariables false
theorem own : ownKnob Tryd.prog.godebug = none := by kernel_rfl
theorem laidOut : laidOutB Tryd.prog = true := by kernel_rfl
/-- what the walk and the plain law say together -/
def Goal : Prop := ∃ spec : Go.Vx.Spec Go.Vx.E, Go.Vx.Valid Go.Vx.E 6 spec ∧ ∀ (x0 : List (Go.Vx.KA .u32)) (x1 : List (Go.Vx.KA .u16)) (x2 : List (Go.Vx.KA .u8)), True ∧ (x0.length ≤ Go.Vx.big ∧ x0.length * 4 ≤ 140737488355328 ∧ ∀ z ∈ x0, Go.Vx.inRb .u32 z = true) ∧ (x1.length ≤ Go.Vx.big ∧ x1.length * 2 ≤ 140737488355328 ∧ ∀ z ∈ x1, Go.Vx.inRb .u16 z = true) ∧ (x2.length ≤ Go.Vx.big ∧ x2.length * 1 ≤ 140737488355328) → (spec [Go.Vx.RV.lf (.sl .u32 (x0)), Go.Vx.RV.lf (.sl .u16 (x1)), Go.Vx.RV.lf (.sl .u8 (x2))] []).get = some (Go.Vx.RV.lf (.bool true), [])
set_option maxRecDepth 100000 in
theorem lifted (G : Goal) (os : Os) (started : os.Started) (H : Type) (enc : TypeId × Value → H) :
    ReturnsInHanded {} Tryd.checked os 6 .any (fun w args => (Rows.touniSpacesSpec.pre enc Tryd.prog Tryd.f6 Rows.touniSpacesRow.domain false w args ∧ laidMetH Tryd.prog Rows.touniSpacesRow.laid w) ∧ sizedMet enc Tryd.prog Tryd.f6 (OpenSpec.ofChange Rows.touniSpacesSpec) false w args)
      (Rows.touniSpacesSpec.post enc Tryd.prog Tryd.f6 false true false false) := by
  obtain ⟨fspec, hV, hspec⟩ := G
  refine returnsInHanded_of_change_and (C := Tryd.checked) (X := fun w _ => laidMetH Tryd.prog Rows.touniSpacesRow.laid w) (fun _ _ _ hh h => h.of_heap hh) own started (by kernel_rfl) Tryd.func6
    (ChangeSpec.witness_shaped (enc := enc) (C := Tryd.checked) (os := os) (X := fun w _ => laidMetH Tryd.prog Rows.touniSpacesRow.laid w) false (World.laidAll Tryd.prog os Rows.touniSpacesRow.laid) #[.slice none 0 0, .slice none 0 0, .slice none 0 0] 8 (World.laidAll_os _ _ _)
      (World.shaped_of_ZipB (by kernel_rfl) (by kernel_rfl)) (by kernel_rfl) (by kernel_rfl) (by kernel_rfl)
      (by rw [MakeChecks.laidMetH_plain _ _ _ (by kernel_rfl)]; exact laidMet_laidAll _ (by kernel_rfl) (by kernel_rfl))) ?_
  intro W base args ds gs before hval0 hW hcnd hsz0 hL _
  have hsz : (DataW.weightsEach Tryd.prog (Tryd.f6.params.toList ++ Rows.touniSpacesSpec.plain.varTypes Tryd.prog) (ds ++ gs)).all (· ≤ reachBytes) = true := hsz0
  have hval : ∀ (j : Nat) t v, Tryd.f6.params[j]? = some t → args[j]? = some v → Value.okWide Tryd.prog W .any base t v := hval0
  have hW' := hW
  obtain ⟨p, q, hA0, hV', rfl, hfz, hnd⟩ := hW
  have hA : DataW.TrodAll enc Tryd.prog W 0 (fun _ => true) true Tryd.f6.params.toList args.toList ds p := hA0
  rw [Tryd.params6] at hA hval hsz
  obtain ⟨v0, vs0, d0, ds0, p0, q0, hargs, rfl, rfl, h0, r0⟩ := trodAll_cons hA
  obtain ⟨v1, vs1, d1, ds1, p1, q1, rfl, rfl, rfl, h1, r1⟩ := trodAll_cons r0
  obtain ⟨v2, vs2, d2, ds2, p2, q2, rfl, rfl, rfl, h2, r2⟩ := trodAll_cons r1
  obtain ⟨rfl, rfl, rfl⟩ := trodAll_nil r2
  obtain rfl : args = #[v0, v1, v2] := by cases args; simp_all
  obtain ⟨rfl, rfl⟩ := trodVars_none hV'
  obtain ⟨a0, len0, cap0, rfl⟩ := okWide_slice Tryd.underlying22 (hval 0 22 v0 rfl rfl)
  have k0 := h0
  have lt0 : ∀ x ∈ p0, x.block < W.heap.size := by obtain ⟨m, hm⟩ := k0; exact DataW.trod_lt m _ _ _ hm
  obtain ⟨z0, w0, y0⟩ : ∃ zs, Go.Vx.IsRow .u32 W a0 len0 cap0 zs ∧ len0 * 4 ≤ 140737488355328 := by
    obtain ⟨fuel, hf⟩ := h0
    rcases open_ints Tryd.underlying22 Tryd.underlying70 (by kernel_rfl) hf with ⟨hcs, _⟩ | ⟨x, l, c, zs, hcs, _, hl, hm, hz, hx, hcell, hwz⟩
    · simp [Value.cells] at hcs
      obtain ⟨rfl, rfl, rfl⟩ := hcs
      exact ⟨[], .inl ⟨rfl, rfl, rfl, rfl⟩, by omega⟩
    · simp [Value.cells] at hcs
      obtain ⟨rfl, rfl, rfl⟩ := hcs
      have hz' : zs.length = cap0 := by simpa using hz
      obtain ⟨rfl, _⟩ := Prod.mk.inj hx
      exact ⟨zs, .inr ⟨_, rfl, hl, hm, hz', hcell, hwz⟩, Go.Vx.sized_row hsz (j := 0) (t := 22) rfl rfl Tryd.underlying22 (by kernel_rfl) (by omega)⟩
  have e0 := Go.Vx.IsRow.len w0
  obtain ⟨a1, len1, cap1, rfl⟩ := okWide_slice Tryd.underlying23 (hval 1 23 v1 rfl rfl)
  have k1 := h1
  have lt1 : ∀ x ∈ p1, x.block < W.heap.size := by obtain ⟨m, hm⟩ := k1; exact DataW.trod_lt m _ _ _ hm
  obtain ⟨z1, w1, y1⟩ : ∃ zs, Go.Vx.IsRow .u16 W a1 len1 cap1 zs ∧ len1 * 2 ≤ 140737488355328 := by
    obtain ⟨fuel, hf⟩ := h1
    rcases open_ints Tryd.underlying23 Tryd.underlying24 (by kernel_rfl) hf with ⟨hcs, _⟩ | ⟨x, l, c, zs, hcs, _, hl, hm, hz, hx, hcell, hwz⟩
    · simp [Value.cells] at hcs
      obtain ⟨rfl, rfl, rfl⟩ := hcs
      exact ⟨[], .inl ⟨rfl, rfl, rfl, rfl⟩, by omega⟩
    · simp [Value.cells] at hcs
      obtain ⟨rfl, rfl, rfl⟩ := hcs
      have hz' : zs.length = cap1 := by simpa using hz
      obtain ⟨rfl, _⟩ := Prod.mk.inj hx
      exact ⟨zs, .inr ⟨_, rfl, hl, hm, hz', hcell, hwz⟩, Go.Vx.sized_row hsz (j := 1) (t := 23) rfl rfl Tryd.underlying23 (by kernel_rfl) (by omega)⟩
  have e1 := Go.Vx.IsRow.len w1
  obtain ⟨a2, len2, cap2, rfl⟩ := okWide_slice Tryd.underlying30 (hval 2 30 v2 rfl rfl)
  have k2 := h2
  have lt2 : ∀ x ∈ p2, x.block < W.heap.size := by obtain ⟨m, hm⟩ := k2; exact DataW.trod_lt m _ _ _ hm
  obtain ⟨z2, w2, y2⟩ : ∃ zs, Go.Vx.IsRow .u8 W a2 len2 cap2 zs ∧ len2 * 1 ≤ 140737488355328 := by
    obtain ⟨fuel, hf⟩ := h2
    rcases open_ints Tryd.underlying30 Tryd.underlying5 (by kernel_rfl) hf with ⟨hcs, _⟩ | ⟨x, l, c, zs, hcs, _, hl, hm, hz, hx, hcell, hwz⟩
    · simp [Value.cells] at hcs
      obtain ⟨rfl, rfl, rfl⟩ := hcs
      exact ⟨[], .inl ⟨rfl, rfl, rfl, rfl⟩, by omega⟩
    · simp [Value.cells] at hcs
      obtain ⟨rfl, rfl, rfl⟩ := hcs
      have hz' : zs.length = cap2 := by simpa using hz
      obtain ⟨rfl, _⟩ := Prod.mk.inj hx
      exact ⟨zs, .inr ⟨_, rfl, hl, hm, hz', hcell, hwz⟩, Go.Vx.sized_row hsz (j := 2) (t := 30) rfl rfl Tryd.underlying30 (by kernel_rfl) (by omega)⟩
  have e2 := Go.Vx.IsRow.len w2
  clear hA0 hval0 hsz0 hsz
  have rp0 := Go.Vx.rep_row (K0 := .u32) (fun z : Int => z) rfl (fun _ _ => rfl) w0
  have rp1 := Go.Vx.rep_row (K0 := .u16) (fun z : Int => z) rfl (fun _ _ => rfl) w1
  have rp2 := Go.Vx.rep_row (K0 := .u8) (fun z : Int => UInt8.ofNat z.toNat) rfl Go.Vx.enc_u8 w2
  refine (Go.Vx.calls_of_valid hV Tryd.func6 (by kernel_rfl) (by kernel_rfl) (hspec _ _ _ ⟨trivial, (⟨(Go.Vx.row_ok _ e0 y0).1, (Go.Vx.row_ok _ e0 y0).2, Go.Vx.row_in w0⟩), (⟨(Go.Vx.row_ok _ e1 y1).1, (Go.Vx.row_ok _ e1 y1).2, Go.Vx.row_in w1⟩), (Go.Vx.row_ok _ e2 y2)⟩) (Go.Vx.arel3 rp0 rp1 rp2) (Go.Vx.gl_of_laid (by kernel_rfl) hL)).mono fun e W' ⟨he, bel⟩ => ?_
  subst he
  exact ⟨_, rfl, _, _, _, [], _, [], hW', trodAll_mk1 (shut_bool Tryd.underlying4 _), (trodAll_cons_mk (Below.trod laidOut (by kernel_rfl) (of_decide_eq_true (by kernel_rfl)) k0 bel lt0) (trodAll_cons_mk (Below.trod laidOut (by kernel_rfl) (of_decide_eq_true (by kernel_rfl)) k1 bel lt1) (trodAll_cons_mk (Below.trod laidOut (by kernel_rfl) (of_decide_eq_true (by kernel_rfl)) k2 bel lt2) trodAll_mk0))), rfl, bel.frame _, fun h => by cases h⟩
theorem over (G : Goal) : Rows.touniSpacesRow.holds Tryd.pinned (OpenSpec.ofChange Rows.touniSpacesSpec) :=
  OpenClaim.holds_of_wide 6 Tryd.f6 rfl rfl rfl rfl rfl rfl rfl ⟨rfl, rfl, rfl, rfl, rfl⟩ rfl rfl rfl rfl rfl (by kernel_rfl) Tryd.func6 (by kernel_rfl)
    (of_decide_eq_true (by kernel_rfl)) (by unfold Func.isWrapper; first | (rw [if_pos (by decide +kernel)]; kernel_rfl) | (rw [if_neg (by decide +kernel)]; exact ⟨rfl, rfl⟩))
    (fun os started H enc _ => lifted G os started H enc)
theorem card (G : Goal) : Rows.TouniSpacesCardSaid :=
  Claim7.holds_tied_plain_at .later [] [.data, .data, .data, .data, .pinned] true (true, "c11d0e65724cd67ed412f56d4b216f6afac96cb924b4e1eeebe816362014b305") false (over G) (fun _ h => by cases h) (by kernel_rfl) (fun _ h => by cases h) touniSpaces_row_tie rfl ⟨rfl, rfl⟩ (by kernel_rfl) rfl
    (fun f fn hf hfn => by
      obtain rfl : f = 6 := Option.some.inj ((show Tryd.prog.funcNamed Rows.touniSpacesRow.func = some 6 by kernel_rfl).symm.trans hf) |>.symm
      obtain rfl : fn = Tryd.f6 := (Option.some.inj (Tryd.func6.symm.trans hfn)).symm
      exact ⟨by kernel_rfl, fun j t ht => by
        rw [Tryd.params6] at ht
        have hm : t ∈ [22, 23, 30] := by simpa using Array.mem_of_getElem? ht
        have hall : ([22, 23, 30].all fun u => !Tryd.prog.wantsStandIn u) = true := by kernel_rfl
        exact (show Tryd.prog.wantsStandIn t = false by simpa using List.all_eq_true.1 hall t hm)⟩)
    (by kernel_rfl)
theorem goal : Goal := ⟨Go.Vx.spec6, Go.Vx.valid6 Go.Vx.laws, fun x0 x1 x2 ⟨_, h0, h1, _⟩ => Go.Vx.sp6 x0 x1 x2 h0.2.2 h1.2.1⟩
theorem done : Rows.TouniSpacesCardSaid := card goal
end Go.Proofs.YtmllilgelombiaaDoor.touniSpaces
