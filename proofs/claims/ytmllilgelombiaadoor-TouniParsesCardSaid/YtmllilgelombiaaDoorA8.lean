/-
  Part 8 of the proof: the second reading of the model, its laws, and the functions' contracts. Lemmas alone.
-/
import Derived.Lib.OthersKept
import Derived.Deep.LoopGhost
import Derived.Lib.SlBuf
import Derived.Test.YtmllilgelombiaaDoorA7
set_option linter.unusedSectionVars false
set_option linter.unusedVariables false
set_option linter.unusedSimpArgs false
namespace Go.Vx
open Go Go.Shelf Go.RowKit Go.Lib Go.Proofs
variable {P : Program}
theorem get_drop (s : List UInt8) (i j : Nat) : (⟨(s.drop i).toArray⟩ : ByteArray).get! j = s.getD (i + j) 0 := by
  show (s.drop i).toArray.getD j default = _
  simp [List.getD, Array.getD_eq_getD_getElem?, List.getElem?_drop]
  rfl
theorem size_drop (s : List UInt8) (i : Nat) : (⟨(s.drop i).toArray⟩ : ByteArray).size = s.length - i := by
  show (s.drop i).toArray.size = _
  simp
theorem get_of_lt (s : ByteArray) (i : Nat) (h : i < s.size) : s.data.toList[i]? = some (s[i]'h) := by
  have h2 : i < s.data.size := h
  rw [Array.getElem?_toList, Array.getElem?_eq_getElem h2]; rfl
attribute [local irreducible] Utf8.encode Utf8.valid Utf8.decode decodeGo
theorem block_lt {w : World} {b o : Nat} {v : Value} (h : w.cell? ⟨b, o, none⟩ = some v) : b < w.heap.size := block_lt_of_cell h
set_option maxHeartbeats 8000000 in
set_option maxRecDepth 1000000 in
/-- at most eight bytes, whichever they be -/
theorem calls64_shortU (L : Lay64 P)
    (hD : ∀ (s : ByteArray) (b off cap : Nat) (w : World), Utf8Tabs 2 3 w → (∀ j, j < s.size → w.cell? ⟨b, off + j, none⟩ = some (.int .u8 (s.get! j).toNat)) →
      Calls P 78 #[.slice (some ⟨b, off, none⟩) s.size cap] w fun e w' => e = .returned (.tuple #[.int .i32 (decodeGo s).1, .int .i64 (decodeGo s).2]) ∧ Below w.heap.size w w')
    (e78 : ∀ args w, (callFunc 78 args).run P w = .ok (.enter 78 args) w)
    (r79 : ∀ (x y : ByteArray) (m : Int) (w : World), w.cell? ⟨0, 0, none⟩ = some (.int .i64 m) → 2 ≤ y.size → (y.size : Int) ≤ m → x.size < 4294967281 → (callFunc 79 #[.string x, .string y]).run P w = .ok (.value (.int .i64 (Lib.index x.data.toList y.data.toList))) w)
    (b o cap : Nat) (s : List UInt8) (chars : ByteArray) (w : World) (m : Int) (h5 : 5 ≤ chars.size) (hcs : chars.size < 4294967281) (h1 : 2 ≤ s.length) (h8 : s.length ≤ 8) (hsc : s.length ≤ cap) (_ : cap ≤ 9223372036854775807)
    (hch : ∀ (j : Nat) b, chars.data.toList[j]? = some b → b.toNat < 128) (hT : Utf8Tabs 2 3 w) (hm : w.cell? ⟨0, 0, none⟩ = some (.int .i64 m))
    (hcell : ∀ i, i < s.length → w.cell? ⟨b, o + i, none⟩ = some (.int .u8 (s.getD i 0).toNat)) :
    Calls P 64 #[.slice (some ⟨b, o, none⟩) s.length cap, .string chars] w fun e w' => e = .returned (.int .i64 (Lib.indexAny s chars.data.toList)) ∧ Below w.heap.size w w' := by
  have hemp : chars.toList.isEmpty = false := by
    rw [Lib.toList_data]
    cases h : chars.data.toList with
    | nil => have := Lib.size_eq chars; rw [h, List.length_nil] at this; omega
    | cons _ _ => rfl
  have hn1 : ((chars.size : Int) == 1) = false := beq_eq_false_iff_ne.2 (by omega)
  have hs1 : ((s.length : Int) == 1) = false := beq_eq_false_iff_ne.2 (by omega)
  have h8z : decide ((8 : Int) < (s.length : Int)) = false := decide_eq_false (by omega)
  have h0w : 0 < w.heap.size := block_lt hm
  have hbw0 : b < w.heap.size := block_lt (hcell 0 (by omega))
  have HD : Aside (∀ (s : ByteArray) (b off cap : Nat) (w : World), Utf8Tabs 2 3 w → (∀ j, j < s.size → w.cell? ⟨b, off + j, none⟩ = some (.int .u8 (s.get! j).toNat)) →
      Calls P 78 #[.slice (some ⟨b, off, none⟩) s.size cap] w fun e w' => e = .returned (.tuple #[.int .i32 (decodeGo s).1, .int .i64 (decodeGo s).2]) ∧ Below w.heap.size w w') := hD
  clear hD
  have HR : Aside (∀ (x y : ByteArray) (m : Int) (w : World), w.cell? ⟨0, 0, none⟩ = some (.int .i64 m) → 2 ≤ y.size → (y.size : Int) ≤ m → x.size < 4294967281 → (callFunc 79 #[.string x, .string y]).run P w = .ok (.value (.int .i64 (Lib.index x.data.toList y.data.toList))) w) := r79
  clear r79
  have HC : Aside (∀ (j : Nat) b, chars.data.toList[j]? = some b → b.toNat < 128) := hch
  clear hch
  have HT : Aside (Utf8Tabs 2 3 w) := hT
  clear hT
  have HM : Aside (w.cell? ⟨0, 0, none⟩ = some (.int .i64 m)) := hm
  clear hm
  have HL : Aside (∀ i, i < s.length → w.cell? ⟨b, o + i, none⟩ = some (.int .u8 (s.getD i 0).toNat)) := hcell
  clear hcell
  have mixed := L.mixed
  have t0 := L.t0; have a0 := L.a0; have z0 := L.z0; have v0 := L.v0
  have t3 := L.t3; have a3 := L.a3; have z3 := L.z3; have v3 := L.v3
  have t4 := L.t4; have a4 := L.a4; have z4 := L.z4; have v4 := L.v4
  have t5 := L.t5; have a5 := L.a5; have z5 := L.z5; have v5 := L.v5
  have t9 := L.t9; have a9 := L.a9; have z9 := L.z9; have v9 := L.v9
  have t21 := L.t21; have a21 := L.a21; have z21 := L.z21; have v21 := L.v21
  have t30 := L.t30; have a30 := L.a30; have z30 := L.z30
  have u3 := run_underlying L.t3; have u4 := run_underlying L.t4; have u5 := run_underlying L.t5; have u30 := run_underlying L.t30
  have e73 := run73 L
  have e75 : ∀ args w, (callFunc 75 args).run P w = .ok (.enter 75 args) w := enters_of L.f75 (by kernel_rfl) rfl
  go_enter L.f64, (show Go.Proofs.Tryd.f64.ntmps = 129 from by kernel_rfl)
  go_wp2_with (go_at_fn 75; refine (calls75 L _ _).mono ?_; rintro e w' ⟨rfl, hw⟩; rw [hw, h8z])
  go_loopg [11, 12, 13, 15] s.length (fun g _ s12 _ _ wx => ∃ i : Nat, s.length ≤ i + g ∧ i ≤ s.length ∧ s12 = .int .i64 i ∧ Below w.heap.size w wx ∧ Lib.NoAny s chars.data.toList i)
  case atStart => exact ⟨0, by omega, by omega, rfl, Below.refl _ _, Lib.NoAny.zero _ _⟩
  case round =>
    obtain ⟨i, hig, his, rfl, hbw, hno⟩ := hrel
    have HN : Aside (Lib.NoAny s chars.data.toList i) := hno
    clear hno
    by_cases hi : i < s.length
    case neg =>
      obtain rfl : i = s.length := by omega
      have hiz : ¬ ((s.length : Int) < (s.length : Int)) := by omega
      go_wp2
      go_ret
      exact ⟨by rw [Lib.indexAny_none HN.out]; rfl, hbw⟩
    case pos =>
      obtain ⟨g, rfl⟩ : ∃ g, gk = g + 1 := ⟨gk - 1, by omega⟩
      have hiz : (i : Int) < (s.length : Int) := by omega
      have hlc : wr.cell? ⟨b, o + i, none⟩ = some (.int .u8 (s.getD i 0).toNat) := (hbw.cell hbw0).trans (HL.out i hi)
      obtain ⟨x, hx⟩ : ∃ x : UInt8, s.getD i 0 = x := ⟨_, rfl⟩
      rw [hx] at hlc
      have hxl : s[i]? = some x := by rw [← hx, List.getD_eq_getElem?_getD]; simp [hi]
      have hxu := x.toNat_lt
      have hwr : IntKind.i32.wrap (x.toNat : Int) = (x.toNat : Int) := by rw [wi32] <;> omega
      have Hx : Aside (s[i]? = some x) := hxl
      clear hxl hx
      have hcon := Lib.contains_iff_indexByte chars.data.toList x
      have hback : ((x.toNat : Int)).toNat.toUInt8 = x := by simp
      by_cases hx128 : (x.toNat : Int) < 128
      case pos =>
        cases hin : chars.data.toList.contains x
        · rw [hin] at hcon
          have hlt : ¬ ((0 : Int) ≤ Lib.indexByte chars.data.toList x) := of_decide_eq_false hcon.symm
          clear hcon
          go_wp2
          go_roundg g
          case measure => omega
          case rel => exact ⟨i + 1, by omega, by omega, by first | rfl | simp, hbw, HN.out.succ Hx.out hin⟩
        · rw [hin] at hcon
          have hge : (0 : Int) ≤ Lib.indexByte chars.data.toList x := of_decide_eq_true hcon.symm
          clear hcon
          go_wp2
          go_ret
          exact ⟨by rw [Lib.indexAny_hit HN.out Hx.out hin]; rfl, hbw⟩
      case neg =>
        have hx128' : 128 ≤ x.toNat := by omega
        have hTw := Utf8Tabs_below HT.out hbw
        have cD := HD.out ⟨(s.drop i).toArray⟩ b (o + i) (cap - i) wr hTw (fun j hj => by
          rw [size_drop] at hj
          rw [get_drop, Nat.add_assoc]
          exact (hbw.cell hbw0).trans (HL.out (i + j) (by omega)))
        have hW := wide_of ⟨(s.drop i).toArray⟩ (by rw [size_drop]; omega) (by
          rw [get_drop, Nat.add_zero]
          have := Hx.out
          rw [List.getD, this]; exact hx128')
        rw [size_drop] at cD
        have hkn := hW.kn
        rw [size_drop] at hkn
        obtain ⟨R, hR⟩ : ∃ R, (decodeGo ⟨(s.drop i).toArray⟩).1 = R := ⟨_, rfl⟩
        obtain ⟨K, hK⟩ : ∃ K, (decodeGo ⟨(s.drop i).toArray⟩).2 = K := ⟨_, rfl⟩
        rw [hR, hK] at cD hW
        rw [hK] at hkn
        have hk1 := hW.k1
        have hk4 := hW.k4
        have hr1 := hW.r1
        have hr2 := hW.r2
        have hno2 : Lib.NoAny s chars.data.toList (i + K) := fun j bb hj hb => by
          by_cases hji : j < i
          · exact HN.out j bb hji hb
          · have hf := hW.far (j - i) (by omega)
            rw [get_drop, show i + (j - i) = j by omega, List.getD, hb] at hf
            exact contains_far hf HC.out
        have HN2 : Aside (Lib.NoAny s chars.data.toList (i + K)) := hno2
        clear hno2
        have HE : Aside (R ≠ 65533 → 2 ≤ K ∧ (Utf8.encode (R : Int)).size = K ∧ ∃ c l, (Utf8.encode (R : Int)).data.toList = c :: l ∧ 128 ≤ c.toNat) := hW.enc
        clear hW
        have hnK : ((chars.size : Int) == (K : Int)) = false := beq_eq_false_iff_ne.2 (by omega)
        by_cases hRE : R = 65533
        case pos =>
          have hRz : ((R : Int) == 65533) = true := by rw [hRE]; rfl
          go_wp2_with (go_at_fn 78; go_fit cD; rintro e w' ⟨rfl, hb⟩)
          have hbo : Below w.heap.size w w' := hbw.trans (hb.mono hbw.size)
          obtain ⟨wo, hwo⟩ : ∃ wo : World, wo = wr := ⟨_, rfl⟩
          rw [← hwo] at hb hbw hlc
          clear hwo
          go_loopg [15] chars.size (fun g _ wx => ∃ pos : Nat, wx.heap[w'.heap.size]? = some (.stringIter chars pos) ∧ Below w.heap.size w wx ∧ chars.size ≤ pos + g)
          case atStart => exact ⟨0, World.iter_heap w' chars 0, hbo.alloc hbo.size _, by omega⟩
          case round =>
            obtain ⟨pos, hit, hbx, hfu⟩ := hrel
            have hszI : w'.heap.size < wr.heap.size := (Array.getElem?_eq_some_iff.1 hit).1
            by_cases hp : pos < chars.size
            case pos =>
              obtain ⟨g2, rfl⟩ : ∃ g2, gk = g2 + 1 := ⟨gk - 1, by omega⟩
              have hxa : (chars[pos]'hp).toNat < 128 := HC.out pos (chars[pos]'hp) (get_of_lt chars pos hp)
              have hnx : ∀ ty, (Instr.next (.pointer (some ⟨w'.heap.size, 0, none⟩)) true ty).run P wr = _ := fun ty => Lib.run_next_ascii_at wr w'.heap.size chars pos ty hit hp hxa
              obtain ⟨y, hy⟩ : ∃ y, (chars[pos]'hp).toNat = y := ⟨_, rfl⟩
              rw [hy] at hnx hxa
              have hne : ((65533 : Int) == (y : Int)) = false := beq_eq_false_iff_ne.2 (by omega)
              have hit2 := Lib.iterAt_heap wr w'.heap.size chars pos (pos + 1) hit
              have hbw2 := Lib.below_iterAt hbx (k := w'.heap.size) hbo.size chars (pos + 1)
              obtain ⟨W, hWd⟩ : ∃ W, wr.iterAt w'.heap.size chars (pos + 1) = W := ⟨_, rfl⟩
              rw [hWd] at hnx hit2 hbw2
              go_wp2
              go_roundg g2
              case measure => omega
              case rel => exact ⟨pos + 1, hit2, hbw2, by omega⟩
            case neg =>
              have hnx : ∀ ty, (Instr.next (.pointer (some ⟨w'.heap.size, 0, none⟩)) true ty).run P wr = _ := fun ty => Lib.run_next_end_at wr w'.heap.size chars pos ty hit hp
              go_wp2
              go_roundg g
              case measure => omega
              case rel => exact ⟨i + K, by omega, by omega, by first | rfl | simp, hbx, HN2.out⟩
        case neg =>
          have hRz : ((R : Int) == 65533) = false := beq_eq_false_iff_ne.2 (by omega)
          obtain ⟨k2, henc, c, l, hcl, hc⟩ := HE.out hRE
          have hix : Lib.index chars.data.toList (Utf8.encode (R : Int)).data.toList = -1 := by rw [hcl]; exact index_far hc _ HC.out
          by_cases hmK : (K : Int) ≤ m
          case pos =>
            have hr79 : ∀ w', Below w.heap.size w w' → (callFunc 79 #[.string chars, .string (Utf8.encode (R : Int))]).run P w' = .ok (.value (.int .i64 (-1))) w' := fun w' hb' => by
              have := HR.out chars (Utf8.encode (R : Int)) m w' ((hb'.cell h0w).trans HM.out) (by omega) (by omega) hcs
              rw [hix] at this
              exact this
            clear hix hcl
            go_wp2_with (go_at_fn 78; go_fit cD; rintro e w' ⟨rfl, hb⟩; have hbo : Below w.heap.size w w' := hbw.trans (hb.mono hbw.size); have hm' := (hbo.cell h0w).trans HM.out; have e79 := hr79 w' hbo)
            go_roundg g
            case measure => omega
            case rel => exact ⟨i + K, by omega, by omega, by first | rfl | simp, hbo, HN2.out⟩
          case neg =>
            clear hix hcl
            go_wp2_with (go_at_fn 78; go_fit cD; rintro e w' ⟨rfl, hb⟩; have hm' := ((hbw.trans (hb.mono hbw.size)).cell h0w).trans HM.out)
            have hbo : Below w.heap.size w w' := hbw.trans (hb.mono hbw.size)
            obtain ⟨wo, hwo⟩ : ∃ wo : World, wo = wr := ⟨_, rfl⟩
            rw [← hwo] at hb hbw hlc
            clear hwo
            go_loopg [15] chars.size (fun g _ wx => ∃ pos : Nat, wx.heap[w'.heap.size]? = some (.stringIter chars pos) ∧ Below w.heap.size w wx ∧ chars.size ≤ pos + g)
            case atStart => exact ⟨0, World.iter_heap w' chars 0, hbo.alloc hbo.size _, by omega⟩
            case round =>
              obtain ⟨pos, hit, hbx, hfu⟩ := hrel
              have hszI : w'.heap.size < wr.heap.size := (Array.getElem?_eq_some_iff.1 hit).1
              by_cases hp : pos < chars.size
              case pos =>
                obtain ⟨g2, rfl⟩ : ∃ g2, gk = g2 + 1 := ⟨gk - 1, by omega⟩
                have hxa : (chars[pos]'hp).toNat < 128 := HC.out pos (chars[pos]'hp) (get_of_lt chars pos hp)
                have hnx : ∀ ty, (Instr.next (.pointer (some ⟨w'.heap.size, 0, none⟩)) true ty).run P wr = _ := fun ty => Lib.run_next_ascii_at wr w'.heap.size chars pos ty hit hp hxa
                obtain ⟨y, hy⟩ : ∃ y, (chars[pos]'hp).toNat = y := ⟨_, rfl⟩
                rw [hy] at hnx hxa
                have hne : ((R : Int) == (y : Int)) = false := beq_eq_false_iff_ne.2 (by omega)
                have hit2 := Lib.iterAt_heap wr w'.heap.size chars pos (pos + 1) hit
                have hbw2 := Lib.below_iterAt hbx (k := w'.heap.size) hbo.size chars (pos + 1)
                obtain ⟨W, hWd⟩ : ∃ W, wr.iterAt w'.heap.size chars (pos + 1) = W := ⟨_, rfl⟩
                rw [hWd] at hnx hit2 hbw2
                go_wp2
                go_roundg g2
                case measure => omega
                case rel => exact ⟨pos + 1, hit2, hbw2, by omega⟩
              case neg =>
                have hnx : ∀ ty, (Instr.next (.pointer (some ⟨w'.heap.size, 0, none⟩)) true ty).run P wr = _ := fun ty => Lib.run_next_end_at wr w'.heap.size chars pos ty hit hp
                go_wp2
                go_roundg g
                case measure => omega
                case rel => exact ⟨i + K, by omega, by omega, by first | rfl | simp, hbx, HN2.out⟩
end Go.Vx
