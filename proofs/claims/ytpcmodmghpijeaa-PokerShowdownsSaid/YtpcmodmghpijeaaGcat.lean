import Derived.Test.YtpcmodmghpijeaaQ0
import Derived.Shelf.Spec.SlicesGrow
import Derived.RegionTactic
import Derived.ChangeAlike
namespace Go.Proofs
open Go.Shelf Go.RowKit Go.Lib
def Try.growL_ren : Go.Shelf.Ren := ⟨fun | 4 => 18 | n => n, fun | 25 => 3 | n => n, fun | n => n⟩
theorem Try.growL : Go.Proofs.Lays8.n4 Try.prog Try.growL_ren := {
  mixed := by kernel_rfl
  f4 := ⟨Try.f18.name, by decide, Try.func18.trans (congrArg some (by kernel_rfl))⟩
  t0 := Try.underlying0
  a0 := Try.isAgg0
  z0 := Try.sizeOf0
  v0 := Try.zeroValue0
  t3 := Try.underlying3
  a3 := Try.isAgg3
  z3 := Try.sizeOf3
  v3 := Try.zeroValue3
  t4 := Try.underlying4
  a4 := Try.isAgg4
  z4 := Try.sizeOf4
  v4 := Try.zeroValue4
  t9 := Try.underlying9
  a9 := Try.isAgg9
  z9 := Try.sizeOf9
  v9 := Try.zeroValue9
  t20 := Try.underlying20
  a20 := Try.isAgg20
  z20 := Try.sizeOf20
  v20 := Try.zeroValue20
  t22 := Try.underlying22
  a22 := Try.isAgg22
  z22 := Try.sizeOf22
  v22 := Try.zeroValue22 }
end Go.Proofs
namespace Go.Proofs.Ytpcmodmghpijeaa.Q
open Go.RowKit Go.Shelf Go.Lib Go.Proofs.YtpcmodmghpijeaaW.PrintWords Go.Proofs.YtpcmodmghpijeaaW.PrintLast Go.Proofs.YtpcmodmghpijeaaW.PrintMore
set_option linter.unusedVariables false
attribute [local go_sem] Oper.semAt_some
theorem zeroCells_size (z : Array Value) (n : Nat) : (Builtin.zeroCells z n).size = n * z.size := by
  simp [Builtin.zeroCells]
/-- slices.Grow of nil: a new row with no element. -/
theorem grow_nil (n : Nat) (hn : 0 < n) (hb : n ≤ 1000) (w : World) : Calls Try.prog 18 #[.slice none 0 0, .int .i64 n] w fun e w' => ∃ v : Value, e = .returned v ∧ Kd.R (Kd.int .i64) 3 w' w.heap.size (fun _ => True) v [] ∧ Below w.heap.size w w' := by
  obtain ⟨i0, hi0, hz0, hs1, hb1⟩ := info_parts info3
  have hc := Any8.slices_Grow_grow Try.growL i0 (.int .i64 0) hi0 hz0 (by omega) none 0 0 n [] w (by omega) (by omega) (by rw [hb1]; omega) (by omega) (by simp) (fun _ => rfl) (fun a h => by cases h)
  refine Calls.mono hc ?_
  rintro e w' ⟨rfl, rfl⟩
  refine ⟨_, rfl, ?_, ?_⟩
  · have hG := grownCap_ge w (0 + n) 0 (Try.growL_ren.t 25)
    have hG2 := grownCap_le_maxLen w (0 + n) 0 (Try.growL_ren.t 25) (by unfold maxLen; omega)
    generalize grownCap w (0 + n) 0 (Try.growL_ren.t 25) = G at *
    refine Kd.R_of_own (h1 := fun _ => rfl) ⟨rfl, .inr ⟨w.heap.size, _, _, rfl, Nat.le_refl _, blk_new w.drew _, by simp, hG2, ?_, rfl⟩⟩ (fun _ _ => trivial)
    have h1 : (Value.int IntKind.i64 0).cells.size = 1 := rfl
    simp only [Array.size_append, zeroCells_size, h1, List.size_toArray, List.length_nil]
    omega
  · exact below_alloc (below_drew (Below.refl _ _)) _

def IdxPost (l : List Int) (x : Int) (w : World) (e : Ending) (w' : World) : Prop := ∃ r : Int, e = .returned (.int .i64 r) ∧ (0 ≤ r ↔ x ∈ l) ∧ w = w'
theorem rd_get (l : List Int) (k : Nat) (h : k < l.length) : rd l k = l[k] := by
  simp [rd, List.getD_eq_getElem?_getD, List.getElem?_eq_getElem h]
theorem take_mem (l : List Int) (x : Int) (k : Nat) (h : k < l.length) (hn : x ∉ l.take k) (hx : rd l k ≠ x) : x ∉ l.take (k + 1) := by
  rw [List.take_succ_eq_append_getElem h]
  simp only [List.mem_append, List.mem_singleton, not_or]
  exact ⟨hn, fun e => hx (by rw [rd_get l k h]; exact e.symm)⟩
theorem mem_rd (l : List Int) (k : Nat) (h : k < l.length) : rd l k ∈ l := by rw [rd_get l k h]; exact List.getElem_mem h
set_option maxHeartbeats 1000000 in
theorem index_any (A0 : Option Addr) (c0 : Nat) (l0 : List Int) (x : Int) (w : World) (hr0 : Kd.C (Kd.int .i64) w A0 l0.length l0) : Calls Try.prog 21 #[.slice A0 l0.length c0, .int .i64 x] w (IdxPost l0 x w) := by
  have hm := hr0.2.1
  have HR0 := Aside0.mk hr0
  clear hr0
  go_enter Try.func21, Try.ntmps21
  go_wp2
  go_loop [8] (fun i => ∃ k : Nat, k ≤ l0.length ∧ i = .int .i64 k ∧ Aside0 (x ∉ l0.take k)) (fun i => l0.length - (Go.RowKit.intOf i).toNat)
  case atStart => exact ⟨0, Nat.zero_le _, rfl, ⟨by simp⟩⟩
  case round =>
    obtain ⟨k, hk, rfl, HN⟩ := hrel
    by_cases hlt : k < l0.length
    · obtain ⟨ad, rfl, hx⟩ := Kd.at_int HR0.out k (by omega) (by omega)
      simp only [Int.toNat_natCast] at hx
      have HM := Aside0.mk (mem_rd l0 k hlt)
      have HT := Aside0.mk (take_mem l0 x k hlt HN.out)
      generalize rd l0 k = c at *
      by_cases he : x = c
      · subst he
        go_wp2
        go_ret
        exact ⟨_, rfl, ⟨fun _ => HM.out, fun _ => by omega⟩, rfl⟩
      · have HE := Aside0.mk (HT.out (fun e => he e.symm))
        go_wp2
        go_round
        case rel => exact ⟨k + 1, by omega, by go_num, HE⟩
        case measure => simp [Go.RowKit.intOf]; omega
    · obtain rfl : k = l0.length := by omega
      have HE := Aside0.mk (show x ∉ l0 by simpa using HN.out)
      clear HN
      go_wp2
      go_ret
      exact ⟨_, rfl, ⟨fun h => by omega, fun h => absurd h HE.out⟩, rfl⟩
theorem contains_any (A0 : Option Addr) (c0 : Nat) (l0 : List Int) (x : Int) (w : World) (hr0 : Kd.C (Kd.int .i64) w A0 l0.length l0) : Calls Try.prog 12 #[.slice A0 l0.length c0, .int .i64 x] w fun e w' => e = .returned (.bool (decide (x ∈ l0))) ∧ w = w' := by
  have HC := Aside0.mk (index_any A0 c0 l0 x w hr0)
  clear hr0
  go_enter Try.func12, Try.ntmps12
  go_wp2_with (go_at_call 21; refine HC.out.mono ?_; rintro e w' ⟨r, rfl, hr, rfl⟩; have HR := Aside0.mk hr; clear hr)
  go_ret
  exact ⟨by simp [← HR.out], rfl⟩
end Go.Proofs.Ytpcmodmghpijeaa.Q
namespace Go.Proofs.Ytpcmodmghpijeaa.Q
open Go.RowKit Go.Shelf Go.Proofs.YtpcmodmghpijeaaW.PrintWords Go.Proofs.YtpcmodmghpijeaaW.PrintLast Go.Proofs.YtpcmodmghpijeaaW.PrintMore
set_option linter.unusedVariables false
set_option linter.unusedSimpArgs false
attribute [local go_sem] Oper.semAt_some
set_option maxHeartbeats 2000000 in
set_option maxRecDepth 100000 in
theorem concat2 (B : Nat) (A0 A1 : Option Addr) (c0 c1 : Nat) (l0 l1 : List Int) (w : World) (hB : w.heap[B]? = some (.cells #[.slice A0 l0.length c0, .slice A1 l1.length c1] 22 (0, 0)))
    (h0 : Kd.C (Kd.int .i64) w A0 l0.length l0) (h1 : Kd.C (Kd.int .i64) w A1 l1.length l1) (hp : 0 < l0.length + l1.length) (hb : l0.length + l1.length ≤ 1000) :
    Calls Try.prog 8 #[.slice (some ⟨B, 0, none⟩) 2 2] w fun e w' => ∃ v : Value, e = .returned v ∧ Kd.R (Kd.int .i64) 3 w' w.heap.size (fun _ => True) v (l0 ++ l1) ∧ Below w.heap.size w w' := by
  have k0 := blk_cell hB 0
  have k1 := blk_cell hB 1
  simp only [List.getElem?_toArray, List.getElem?_cons_zero, List.getElem?_cons_succ] at k0 k1
  have H0 := Aside0.mk h0
  have H1 := Aside0.mk h1
  have HB := Aside0.mk hB
  clear h0 h1 hB
  have HG := Aside0.mk (grow_nil (l0.length + l1.length) hp hb w)
  simp only [Int.natCast_add] at HG
  go_enter Try.func8, Try.ntmps8
  go_wp2
  refine wp_loop_rounds 3 ?_
  rw [rounds_succ]
  go_wp2
  rw [rounds_succ]
  go_wp2
  rw [rounds_succ]
  go_wp2_with (go_at_call 18; refine HG.out.mono ?_; rintro e w1 ⟨v0, rfl, hr1, hb1⟩; have HR0 := Aside0.mk hr1; have HB0 := Aside0.mk hb1; have HS0 := Aside0.mk (hb1.size); clear hr1 hb1)
  clear k0 k1 HG
  refine wp_loop_rounds 3 ?_
  have hq := blk_cell (blk_below HB.out HB0.out) 0
  simp only [List.getElem?_toArray, List.getElem?_cons_zero, List.getElem?_cons_succ] at hq
  rw [rounds_succ]
  go_wp2_with (at_builtin; go_loud (refine Kd.R_append_rows (Kd.int .i64) (w0 := w) w.heap.size rfl (.tmp 31) (.tmp 32) 22 3 (.int .i64 0) 8 rfl Try.underlying22 info3 rfl (by decide) (by omega) v0 ([] : List Int) l0 _ _ _ (fun _ => True) (fun _ => False) rfl rfl ?aO ?aR (fun _ _ h => h) (fun _ h => h.elim) ?aF ?aB ?aS ?aL ?_; (case aO => exact HR0.out); (case aR => exact Kd.C_below H0.out HB0.out); (case aF => exact (fun _ _ => trivial)); (case aB => exact HB0.out); (case aS => exact HS0.out); (case aL => simp; omega); intro v1 w2 ho hb2 hg hat; have HR1 := Aside0.mk ho; have HB1 := Aside0.mk hb2; have HS1 := Aside0.mk hb2.size; clear ho hb2 hg hat))
  clear hq
  have hq := blk_cell (blk_below HB.out HB1.out) 1
  simp only [List.getElem?_toArray, List.getElem?_cons_zero, List.getElem?_cons_succ] at hq
  rw [rounds_succ]
  go_wp2_with (at_builtin; go_loud (refine Kd.R_append_rows (Kd.int .i64) (w0 := w) w.heap.size rfl (.tmp 31) (.tmp 32) 22 3 (.int .i64 0) 8 rfl Try.underlying22 info3 rfl (by decide) (by omega) v1 (([] : List Int) ++ l0) l1 _ _ _ (fun _ => True) (fun _ => False) rfl rfl ?aO ?aR (fun _ _ h => h) (fun _ h => h.elim) ?aF ?aB ?aS ?aL ?_; (case aO => exact HR1.out); (case aR => exact Kd.C_below H1.out HB1.out); (case aF => exact (fun _ _ => trivial)); (case aB => exact HB1.out); (case aS => exact HS1.out); (case aL => simp; omega); intro v2 w3 ho hb2 hg hat; have HR2 := Aside0.mk ho; have HB2 := Aside0.mk hb2; have HS2 := Aside0.mk hb2.size; clear ho hb2 hg hat))
  clear hq
  rw [rounds_succ]
  go_wp2
  go_ret
  exact ⟨_, rfl, by simpa using HR2.out, HB2.out⟩
set_option maxHeartbeats 2000000 in
set_option maxRecDepth 100000 in
theorem concat3 (B : Nat) (A0 A1 A2 : Option Addr) (c0 c1 c2 : Nat) (l0 l1 l2 : List Int) (w : World) (hB : w.heap[B]? = some (.cells #[.slice A0 l0.length c0, .slice A1 l1.length c1, .slice A2 l2.length c2] 22 (0, 0)))
    (h0 : Kd.C (Kd.int .i64) w A0 l0.length l0) (h1 : Kd.C (Kd.int .i64) w A1 l1.length l1) (h2 : Kd.C (Kd.int .i64) w A2 l2.length l2) (hp : 0 < l0.length + l1.length + l2.length) (hb : l0.length + l1.length + l2.length ≤ 1000) :
    Calls Try.prog 8 #[.slice (some ⟨B, 0, none⟩) 3 3] w fun e w' => ∃ v : Value, e = .returned v ∧ Kd.R (Kd.int .i64) 3 w' w.heap.size (fun _ => True) v (l0 ++ l1 ++ l2) ∧ Below w.heap.size w w' := by
  have k0 := blk_cell hB 0
  have k1 := blk_cell hB 1
  have k2 := blk_cell hB 2
  simp only [List.getElem?_toArray, List.getElem?_cons_zero, List.getElem?_cons_succ] at k0 k1 k2
  have H0 := Aside0.mk h0
  have H1 := Aside0.mk h1
  have H2 := Aside0.mk h2
  have HB := Aside0.mk hB
  clear h0 h1 h2 hB
  have HG := Aside0.mk (grow_nil (l0.length + l1.length + l2.length) hp hb w)
  simp only [Int.natCast_add] at HG
  go_enter Try.func8, Try.ntmps8
  go_wp2
  refine wp_loop_rounds 4 ?_
  rw [rounds_succ]
  go_wp2
  rw [rounds_succ]
  go_wp2
  rw [rounds_succ]
  go_wp2
  rw [rounds_succ]
  go_wp2_with (go_at_call 18; refine HG.out.mono ?_; rintro e w1 ⟨v0, rfl, hr1, hb1⟩; have HR0 := Aside0.mk hr1; have HB0 := Aside0.mk hb1; have HS0 := Aside0.mk (hb1.size); clear hr1 hb1)
  clear k0 k1 k2 HG
  refine wp_loop_rounds 4 ?_
  have hq := blk_cell (blk_below HB.out HB0.out) 0
  simp only [List.getElem?_toArray, List.getElem?_cons_zero, List.getElem?_cons_succ] at hq
  rw [rounds_succ]
  go_wp2_with (at_builtin; go_loud (refine Kd.R_append_rows (Kd.int .i64) (w0 := w) w.heap.size rfl (.tmp 31) (.tmp 32) 22 3 (.int .i64 0) 8 rfl Try.underlying22 info3 rfl (by decide) (by omega) v0 ([] : List Int) l0 _ _ _ (fun _ => True) (fun _ => False) rfl rfl ?aO ?aR (fun _ _ h => h) (fun _ h => h.elim) ?aF ?aB ?aS ?aL ?_; (case aO => exact HR0.out); (case aR => exact Kd.C_below H0.out HB0.out); (case aF => exact (fun _ _ => trivial)); (case aB => exact HB0.out); (case aS => exact HS0.out); (case aL => simp; omega); intro v1 w2 ho hb2 hg hat; have HR1 := Aside0.mk ho; have HB1 := Aside0.mk hb2; have HS1 := Aside0.mk hb2.size; clear ho hb2 hg hat))
  clear hq
  have hq := blk_cell (blk_below HB.out HB1.out) 1
  simp only [List.getElem?_toArray, List.getElem?_cons_zero, List.getElem?_cons_succ] at hq
  rw [rounds_succ]
  go_wp2_with (at_builtin; go_loud (refine Kd.R_append_rows (Kd.int .i64) (w0 := w) w.heap.size rfl (.tmp 31) (.tmp 32) 22 3 (.int .i64 0) 8 rfl Try.underlying22 info3 rfl (by decide) (by omega) v1 (([] : List Int) ++ l0) l1 _ _ _ (fun _ => True) (fun _ => False) rfl rfl ?aO ?aR (fun _ _ h => h) (fun _ h => h.elim) ?aF ?aB ?aS ?aL ?_; (case aO => exact HR1.out); (case aR => exact Kd.C_below H1.out HB1.out); (case aF => exact (fun _ _ => trivial)); (case aB => exact HB1.out); (case aS => exact HS1.out); (case aL => simp; omega); intro v2 w3 ho hb2 hg hat; have HR2 := Aside0.mk ho; have HB2 := Aside0.mk hb2; have HS2 := Aside0.mk hb2.size; clear ho hb2 hg hat))
  clear hq
  have hq := blk_cell (blk_below HB.out HB2.out) 2
  simp only [List.getElem?_toArray, List.getElem?_cons_zero, List.getElem?_cons_succ] at hq
  rw [rounds_succ]
  go_wp2_with (at_builtin; go_loud (refine Kd.R_append_rows (Kd.int .i64) (w0 := w) w.heap.size rfl (.tmp 31) (.tmp 32) 22 3 (.int .i64 0) 8 rfl Try.underlying22 info3 rfl (by decide) (by omega) v2 ((([] : List Int) ++ l0) ++ l1) l2 _ _ _ (fun _ => True) (fun _ => False) rfl rfl ?aO ?aR (fun _ _ h => h) (fun _ h => h.elim) ?aF ?aB ?aS ?aL ?_; (case aO => exact HR2.out); (case aR => exact Kd.C_below H2.out HB2.out); (case aF => exact (fun _ _ => trivial)); (case aB => exact HB2.out); (case aS => exact HS2.out); (case aL => simp; omega); intro v3 w4 ho hb2 hg hat; have HR3 := Aside0.mk ho; have HB3 := Aside0.mk hb2; have HS3 := Aside0.mk hb2.size; clear ho hb2 hg hat))
  clear hq
  rw [rounds_succ]
  go_wp2
  go_ret
  exact ⟨_, rfl, by simpa using HR3.out, HB3.out⟩
end Go.Proofs.Ytpcmodmghpijeaa.Q
