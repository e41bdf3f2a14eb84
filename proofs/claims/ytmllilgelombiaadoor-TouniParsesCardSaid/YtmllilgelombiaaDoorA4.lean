/-
  Part 4 of the proof: the second reading of the model, its laws, and the functions' contracts. Lemmas alone.
-/
import Derived.RangeFuncNested
import Derived.RangeFuncLeaves
import Derived.Shelf.RegionOpen
import Derived.WalkKit
import Derived.OwnWalkIn
import Derived.TacticsInMore
import Derived.LoopNIn
import Derived.LoopIn
import Derived.Test.YtmllilgelombiaaDoorA1
import Derived.Test.YtmllilgelombiaaDoorA3
set_option linter.unusedSectionVars false
set_option linter.unusedVariables false
set_option linter.unusedSimpArgs false
namespace Go.Vx
open Go Go.RowKit Go.Shelf Go.Proofs
attribute [local go_sem] Oper.semAt_some
set_option maxRecDepth 100000 in
set_option maxHeartbeats 2000000 in
theorem chunk_walk (l b1 b2 b off len cap N : Nat) (hN : 1 ≤ N) (hN2 : N ≤ 4294967296) (hlen : len ≤ 4611686018427387904) (hcap : len ≤ cap) (w0 : World) (J : Nat → World → Prop) (Jx : World → Prop) (Kp : World → Prop)
    (hK1 : ∀ W, Kp W → W.cell? ⟨b1, 0, none⟩ = some (.slice (some ⟨b, off, none⟩) len cap)) (hK2 : ∀ W, Kp W → W.cell? ⟨b2, 0, none⟩ = some (.int .i64 N)) (hKd : ∀ W, Kp W → Kp W.drew) (hJd : ∀ k W, J k W → J k W.drew)
    (hY : ∀ k q W, J k W → q = N * k → q < len → ∀ n, YieldAt Fence.wide n Tryd.prog l #[.slice (some ⟨b, off + q * 2, none⟩) (min N (len - q)) (min N (len - q))] W fun e W' => (e = .returned (.bool true) ∧ J (k + 1) W' ∧ Kp W') ∨ (e = .returned (.bool false) ∧ Jx W'))
    (W : World) (hW : Kp W) (h0 : J 0 W) :
    Calls Tryd.prog 47 #[.func (.yield l) #[] #[], .pointer (some ⟨b1, 0, none⟩), .pointer (some ⟨b2, 0, none⟩)] W fun e W' => (∃ v, e = .returned v) ∧ ((∃ k, len ≤ N * k ∧ (k = 0 ∨ N * (k - 1) < len) ∧ J k W') ∨ Jx W') := by
  refine (callsIn_wide (n := 3)).1 ?_
  refine callsIn_of_wp Tryd.func47 rfl trivial ?_ rfl
  simp only [Tryd.ntmps47, List.size_toArray, List.length_cons, List.length_nil, Nat.reduceAdd, Nat.reduceSub, Array.replicate_succ, Array.replicate_zero, List.push_toArray, List.append_toArray, List.nil_append, List.cons_append]
  have hmix : Tryd.prog.follows .mixedOrders = true := by kernel_rfl
  gi_wp2
  gi_loopw [4] (fun i wr => ∃ k q : Nat, (q ≤ N * k ∧ N * k ≤ q) ∧ i = .int .i64 q ∧ (k = 0 ∨ N * (k - 1) < len) ∧ J k wr ∧ Kp wr)
    (fun i _ => len + N - (intOf i).toNat)
  case atStart => exact ⟨0, 0, ⟨by simp, by simp⟩, rfl, .inl rfl, h0, hW⟩
  case round =>
    obtain ⟨k, q, hq, rfl, hk, hJs, hKs⟩ := hrel
    have c1 := hK1 _ hKs
    have c2 := hK2 _ hKs
    by_cases hlt : q < len
    · have hJd := hJd _ _ hJs
      have hKd := hKd _ hKs
      obtain ⟨fn, tmps, assign, body, hy, hR⟩ := hY k q _ hJd (by omega) hlt 2
      gi_wp2
      gi_region
      all_goals gi_wp2
      all_goals (first | rw [show ((q : Int) + (N : Int)).toNat - q = min N (len - q) from by omega] | rw [show ((q : Int) + ((len - q : Nat) : Int)).toNat - q = min N (len - q) from by omega])
      all_goals simp only [hy]
      all_goals (refine ⟨by simp, hR.mono ?_⟩)
      all_goals rintro e W3 (⟨rfl, hJ3, hk3⟩ | ⟨rfl, hJx3⟩)
      all_goals first
        | (have c3 := hK2 _ hk3
           gi_wp2
           go_roundw
           case rel => exact ⟨k + 1, q + N, ⟨by rw [Nat.mul_succ]; omega, by rw [Nat.mul_succ]; omega⟩, by simp, .inr (by rw [Nat.add_sub_cancel]; omega), hJ3, hk3⟩
           case measure => simp [intOf]; omega)
        | (gi_wp2
           refine bodyPost_ret (results_none rfl _ _ _) rfl ?_
           exact ⟨⟨_, rfl⟩, .inr hJx3⟩)
    · gi_wp2
      go_end0
      exact ⟨⟨_, rfl⟩, .inl ⟨k, by have := hq.1; have := hq.2; omega, hk, hJs⟩⟩
set_option maxRecDepth 100000 in
set_option maxHeartbeats 2000000 in
theorem chunk_walk0 (l b1 b2 cap : Nat) (a : Option Addr) (J : Nat → World → Prop) (Jx : World → Prop)
    (W : World) (hK1 : W.cell? ⟨b1, 0, none⟩ = some (.slice a 0 cap)) (h0 : J 0 W) :
    Calls Tryd.prog 47 #[.func (.yield l) #[] #[], .pointer (some ⟨b1, 0, none⟩), .pointer (some ⟨b2, 0, none⟩)] W fun e W' => (∃ v, e = .returned v) ∧ (J 0 W' ∨ Jx W') := by
  refine (callsIn_wide (n := 3)).1 ?_
  refine callsIn_of_wp Tryd.func47 rfl trivial ?_ rfl
  simp only [Tryd.ntmps47, List.size_toArray, List.length_cons, List.length_nil, Nat.reduceAdd, Nat.reduceSub, Array.replicate_succ, Array.replicate_zero, List.push_toArray, List.append_toArray, List.nil_append, List.cons_append]
  gi_wp2
  gi_loopw [4] (fun i wr => i = .int .i64 0 ∧ J 0 wr ∧ wr.cell? ⟨b1, 0, none⟩ = some (.slice a 0 cap)) (fun _ _ => 0)
  case atStart => exact ⟨rfl, h0, hK1⟩
  case round =>
    obtain ⟨rfl, hJs, hc⟩ := hrel
    gi_wp2
    go_end0
    exact ⟨⟨_, rfl⟩, .inl hJs⟩
/-- rows of so many, the last one maybe of fewer -/
def chunks {α : Type} (n : Nat) (xs : List α) : List (List α) := (List.range ((xs.length + n - 1) / n)).map fun k => (xs.drop (n * k)).take n
theorem rep_part {G G0 : Gh} {w : World} {k : K} {xs : List (E.A k)} {b off cap : Nat} {vals : Nat → Nat → Value}
    (h3 : ∀ i j, i < xs.length → j < E.sz k → w.cell? ⟨b, off + i * E.sz k + j, none⟩ = some (vals i j) ∧ G.pur b (off + i * E.sz k + j))
    (h4 : ∀ i x, xs[i]? = some x → ∀ j l, (E.enc k x)[j]? = some l → Rep E G w l (vals i j)) (hcap : xs.length ≤ cap) (hbig : cap ≤ big) (i m : Nat) (hm : i + m ≤ xs.length) (hp : ∀ b o, G.pur b o → G0.pur b o) :
    Rep E G0 w (.sl k ((xs.drop i).take m)) (.slice (some ⟨b, off + i * E.sz k, none⟩) m m) := by
  have hl : ((xs.drop i).take m).length = m := by simp; omega
  have := Rep.sl (E := E) (G := G) (w := w) k ((xs.drop i).take m) b (off + i * E.sz k) m (fun a j => vals (i + a) j) (by omega) (by omega) (fun a j ha hj => by
    have := h3 (i + a) j (by omega) hj
    rw [Nat.add_mul, ← Nat.add_assoc] at this
    exact this) (fun a x hx j l hl' => by
    rw [List.getElem?_take_of_lt (by have := lt_of_get hx; omega), List.getElem?_drop] at hx
    exact h4 (i + a) x hx j l hl')
  rw [hl] at this
  exact this.plain laws (fun b o v h hf => ⟨h, hp b o hf⟩) rfl
theorem drew_grown (W : World) : W.grownBy W.drew none := ⟨rfl, rfl, rfl, Nat.le_refl _, fun _ _ _ => rfl⟩
theorem chunk_count {len N k : Nat} (hN : 1 ≤ N) (h1 : len ≤ N * k) (h2 : k = 0 ∨ N * (k - 1) < len) : k = (len + N - 1) / N := by
  symm
  rcases h2 with rfl | h2
  · have : len = 0 := by omega
    subst this
    exact Nat.div_eq_of_lt (by omega)
  · refine Nat.div_eq_of_lt_le ?_ ?_
    · have : N * k = N * (k - 1) + N := by
        cases k with
        | zero => simp at h1; omega
        | succ k => rw [Nat.add_sub_cancel, Nat.mul_succ]
      rw [Nat.mul_comm k N]; omega
    · rw [Nat.succ_mul, Nat.mul_comm k N]; omega
theorem cell_of_heap {W : World} {b : Nat} {vs : Array Value} {ty : TypeId} {fz : Nat × Nat} {v : Value} (h : W.heap[b]? = some (.cells vs ty fz)) (hv : vs[0]? = some v) : W.cell? ⟨b, 0, none⟩ = some v := by
  unfold World.cell?
  simp [h, hv]
theorem chunk_it {xs : List (E.A .pair)} {N : Nat} (hN : 1 ≤ N) (hN2 : N ≤ 4294967296) (hlen : xs.length ≤ 4611686018427387904) {i v j u t1 t2 : Nat} :
    ItOK E 47 [.ptr i v 0, .ptr j u 0] [some (.cells t1 [.sl .pair xs]), some (.cells t2 [.int .i64 (N : Int)])] ((chunks N xs).map fun c => [.lf (.sl .pair c)]) := by
  refine ⟨fun args w => rfl, fun G G0 w lb hsz hcap hob hp => ?_⟩
  obtain ⟨b1, e1, o1, lt1, cl1⟩ := hob 0 _ rfl
  obtain ⟨b2, e2, o2, lt2, cl2⟩ := hob 1 _ rfl
  have hlb : lb = #[.pointer (some ⟨b1, 0, none⟩), .pointer (some ⟨b2, 0, none⟩)] := by
    apply Array.ext
    · exact hsz
    · intro q h1 h2
      match q, h2 with
      | 0, _ => rw [Array.getD_eq_getD_getElem?, Array.getElem?_eq_getElem h1] at e1; exact e1
      | 1, _ => rw [Array.getD_eq_getD_getElem?, Array.getElem?_eq_getElem h1] at e2; exact e2
  subst hlb
  cases o1 with
  | @cells _ vs1 _ _ g1 r1 =>
  cases o2 with
  | @cells _ vs2 _ _ g2 r2 =>
  have hv1 : vs1[0]? = some (vs1.getD 0 undef) := by
    have : 0 < vs1.size := by rw [r1.1]; exact Nat.one_pos
    simp [this]
  have hv2 : vs2[0]? = some (vs2.getD 0 undef) := by
    have : 0 < vs2.size := by rw [r2.1]; exact Nat.one_pos
    simp [this]
  have q1 := r1.2 0 _ rfl
  have q2 := (RRep.lf (r2.2 0 _ rfl)).int_inv.1
  rw [q2] at hv2
  generalize vs1.getD 0 undef = x1 at hv1 q1
  have hk1 : ∀ W, Kept G0 w W → W.cell? ⟨b1, 0, none⟩ = some x1 := fun W hW => cell_of_heap ((hW.2 b1 lt1 cl1).trans g1) hv1
  have hk2 : ∀ W, Kept G0 w W → W.cell? ⟨b2, 0, none⟩ = some (.int .i64 N) := fun W hW => cell_of_heap ((hW.2 b2 lt2 cl2).trans g2) hv2
  cases q1 with
  | sl0 _ a cap hc =>
    refine ⟨[], fun l J Jx W hW hJ hJx hY h0 => ?_, ?_, fun j x v hx hv => by cases hv⟩
    · exact chunk_walk0 l b1 b2 cap a J Jx W (hk1 W hW) h0
    · have : (([] : List (E.A .pair)).length + N - 1) / N = 0 := Nat.div_eq_of_lt (by simp; omega)
      simp only [chunks, this]; rfl
  | sl _ _ b off cap vals h1 h2 h3 h4 =>
    let enc : Nat → Array Value := fun k => #[.slice (some ⟨b, off + N * k * 2, none⟩) (min N (xs.length - N * k)) (min N (xs.length - N * k))]
    refine ⟨(List.range ((xs.length + N - 1) / N)).map enc, fun l J Jx W hW hJ hJx hY h0 => ?_, by simp [chunks], fun j x v hx hv => ?_⟩
    · refine (chunk_walk l b1 b2 b off xs.length cap N hN hN2 hlen h1 w J Jx (Kept G0 w) hk1 hk2 (fun W h => h) (fun k W h => hJ k _ _ h (drew_grown W)) ?_ W hW h0).mono ?_
      · rintro k q W1 hj rfl hlt n
        have hkn : k < (xs.length + N - 1) / N := by
          rw [Nat.lt_iff_add_one_le, Nat.le_div_iff_mul_le (by omega), Nat.succ_mul, Nat.mul_comm]; omega
        exact hY k (enc k) W1 hj (by rw [List.getElem?_map, List.getElem?_range hkn]; rfl) n
      · rintro e W' ⟨he, ⟨k, g1, g2, g3⟩ | hx⟩
        · refine ⟨he, .inl ?_⟩
          rw [List.length_map, List.length_range, ← chunk_count hN g1 g2]
          exact g3
        · exact ⟨he, .inr hx⟩
    · have hj := lt_of_get hv
      rw [List.length_map, List.length_range] at hj
      rw [List.getElem?_map, List.getElem?_range hj] at hv
      simp only [chunks, List.map_map, List.getElem?_map, List.getElem?_range hj, Option.map_some, Option.some.injEq, Function.comp] at hx hv
      subst hx; subst hv
      have hjl : N * j < xs.length := by
        rw [Nat.lt_iff_add_one_le, Nat.le_div_iff_mul_le (by omega), Nat.succ_mul, Nat.mul_comm] at hj; omega
      refine ⟨rfl, fun q r hq => ?_⟩
      match q, hq with
      | 0, hq =>
        injection hq with hq; subst hq
        refine ⟨rfl, .lf ?_⟩
        have := rep_part (G := G) (G0 := G0) (w := w) (k := .pair) h3 h4 h1 h2 (N * j) (min N (xs.length - N * j)) (by omega) hp
        have e : ((xs.drop (N * j)).take (min N (xs.length - N * j))) = (xs.drop (N * j)).take N := by
          rcases Nat.le_total N (xs.length - N * j) with h | h
          · rw [Nat.min_eq_left h]
          · rw [Nat.min_eq_right h, List.take_of_length_le (by simp), List.take_of_length_le (by simp; omega)]
        rw [e] at this
        exact this
end Go.Vx
