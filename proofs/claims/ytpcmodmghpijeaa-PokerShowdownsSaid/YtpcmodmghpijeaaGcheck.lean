import Derived.Test.YtpcmodmghpijeaaQ0
namespace Go.Proofs.Ytpcmodmghpijeaa.Q
open Go.RowKit Go.Proofs.YtpcmodmghpijeaaW.PrintWords Go.Proofs.YtpcmodmghpijeaaW.PrintLast Go.Proofs.YtpcmodmghpijeaaW.PrintMore
set_option linter.unusedVariables false
def poker_check.ok (c : Int) : Bool := decide (0 ≤ c) && decide (c < 52)
def poker_check.f (l : List Int) : Option Int := some (if l.all poker_check.ok = true then (if l.Nodup then 0 else 6) else 3)
def poker_check.seen (l : List Int) : List Bool := (List.range 52).map fun (i : Nat) => decide ((i : Int) ∈ l)
theorem poker_check.take_succ (l : List Int) (k : Nat) (h : k < l.length) : l.take (k + 1) = l.take k ++ [rd l k] := by
  rw [List.take_succ_eq_append_getElem h]
  simp [rd, List.getD_eq_getElem?_getD, List.getElem?_eq_getElem h]
theorem poker_check.rd_mem (l : List Int) (k : Nat) (h : k < l.length) : rd l k ∈ l := by
  simp [rd, List.getD_eq_getElem?_getD, List.getElem?_eq_getElem h]
theorem poker_check.bad (l : List Int) (c : Int) (h : c ∈ l) (hb : poker_check.ok c = false) : poker_check.f l = some 3 := by
  unfold poker_check.f
  rw [if_neg]
  intro ha
  rw [List.all_eq_true.1 ha c h] at hb
  cases hb
theorem poker_check.seen_at (l : List Int) (c : Int) (h0 : 0 ≤ c) (h1 : c < 52) : (bools (poker_check.seen l)).toArray[c.toNat]? = some (.bool (decide (c ∈ l))) := by
  have : c.toNat < 52 := by omega
  simp [bools, poker_check.seen, this]
  rw [Int.max_eq_left h0]
theorem poker_check.seen_nil : poker_check.seen [] = List.replicate 52 false := by decide
theorem poker_check.seen_put (l : List Int) (c : Int) (h0 : 0 ≤ c) (h1 : c < 52) : (bools (poker_check.seen l)).toArray.setIfInBounds c.toNat (.bool true) = (bools (poker_check.seen (l ++ [c]))).toArray := by
  apply Array.ext
  · simp [bools, poker_check.seen]
  · intro i hi1 hi2
    simp [bools, poker_check.seen]
    by_cases e : c.toNat = i
    · have : (i : Int) = c := by omega
      simp [e, this]
    · have : ¬ (i : Int) = c := by omega
      simp [e, this]
theorem poker_check.twice (l : List Int) (k : Nat) (h : k < l.length) (hm : rd l k ∈ l.take k) : ¬ l.Nodup := by
  intro hn
  have := poker_check.take_succ l k h
  have h2 : (l.take (k + 1)).Nodup := hn.sublist (List.take_sublist _ _)
  rw [this, List.nodup_append] at h2
  exact h2.2.2 _ hm _ (by simp) rfl
theorem poker_check.once (l : List Int) (k : Nat) (h : k < l.length) (hm : ¬ rd l k ∈ l.take k) (hn : (l.take k).Nodup) : (l.take (k + 1)).Nodup := by
  rw [poker_check.take_succ l k h, List.nodup_append]
  refine ⟨hn, by simp, ?_⟩
  intro a ha b hb
  simp at hb
  rintro rfl
  exact hm (hb ▸ ha)
set_option maxHeartbeats 1000000 in
set_option maxRecDepth 100000 in
theorem poker_check.calls (A0 : Option Addr) (c0 : Nat) (l0 : List Int) (r : Int) (w : World) (hr0 : Kd.C (Kd.int .i64) w A0 l0.length l0) (hc0 : l0.length ≤ c0) (h : poker_check.f l0 = some r) :
    Calls Try.prog 9 #[.slice A0 l0.length c0] w fun e w' => e = .returned (.int .i64 r) ∧ Below w.heap.size w w' := by
  have hm := hr0.2.1
  have HR0 := Aside0.mk hr0
  have H := Aside0.mk h
  clear hr0 h
  go_enter Try.func9, Try.ntmps9
  go_wp2
  generalize hW : w.alloc _ = W1
  have HB := Aside0.mk (show Below w.heap.size w W1 from by rw [← hW]; exact (Below.refl _ _).alloc (Nat.le_refl _) _)
  have HS := Aside0.mk (show W1.heap[w.heap.size]? = some (.cells (bools (poker_check.seen (l0.take 0))).toArray 40 (0, 0)) from by rw [← hW, List.take_zero, poker_check.seen_nil]; exact blk_new w (.cells (bools (List.replicate 52 false)).toArray 40))
  have HR1 := Aside0.mk (Kd.C_below HR0.out HB.out)
  clear hW
  go_loop [10] (fun i => ∃ k : Nat, k ≤ l0.length ∧ i = .int .i64 k ∧ Aside0 ((l0.take k).all poker_check.ok = true)) (fun i => l0.length - (intOf i).toNat)
  case atStart => exact ⟨0, Nat.zero_le _, rfl, ⟨by simp⟩⟩
  case round =>
    obtain ⟨k, hk, rfl, HA⟩ := hrel
    by_cases hlt : k < l0.length
    · obtain ⟨ad, rfl, hx⟩ := Kd.at_int HR1.out k (by omega) (by omega)
      simp only [Int.toNat_natCast] at hx
      have HN := Aside0.mk (poker_check.take_succ l0 k hlt)
      have HM := Aside0.mk (poker_check.rd_mem l0 k hlt)
      generalize rd l0 k = c at *
      by_cases h1 : c < 0
      · have HE := Aside0.mk (poker_check.bad l0 c HM.out (by simp [poker_check.ok]; omega))
        obtain rfl : r = 3 := by have := H.out; rw [HE.out] at this; injection this with this; exact this.symm
        go_wp2
        go_ret
        exact ⟨rfl, HB.out⟩
      · by_cases h2 : c ≥ 52
        · have HE := Aside0.mk (poker_check.bad l0 c HM.out (by simp [poker_check.ok]; omega))
          obtain rfl : r = 3 := by have := H.out; rw [HE.out] at this; injection this with this; exact this.symm
          go_wp2
          go_ret
          exact ⟨rfl, HB.out⟩
        · go_wp2
          go_round
          case rel => exact ⟨k + 1, by omega, by go_num, ⟨by rw [HN.out, List.all_append, HA.out]; simp [poker_check.ok]; omega⟩⟩
          case measure => simp [intOf]; omega
    · obtain rfl : k = l0.length := by omega
      have HA2 := Aside0.mk (show l0.all poker_check.ok = true by simpa using HA.out)
      clear HA hlt hk
      go_wp2
      go_loopw [23] (fun i wr => ∃ k : Nat, k ≤ l0.length ∧ i = .int .i64 k ∧ Aside0 ((l0.take k).Nodup) ∧ Aside0 (wr.heap[w.heap.size]? = some (.cells (bools (poker_check.seen (l0.take k))).toArray 40 (0, 0))) ∧ Aside0 (Below w.heap.size w wr)) (fun i _ => l0.length - (intOf i).toNat)
      case atStart => exact ⟨0, Nat.zero_le _, rfl, ⟨by simp⟩, HS, HB⟩
      case round =>
        clear HS HB HR1
        obtain ⟨k, hk, rfl, HD, HS, HB⟩ := hrel
        have HR1 := Aside0.mk (Kd.C_below HR0.out HB.out)
        by_cases hlt : k < l0.length
        · obtain ⟨ad, rfl, hx⟩ := Kd.at_int HR1.out k (by omega) (by omega)
          simp only [Int.toNat_natCast] at hx
          have HN := Aside0.mk (poker_check.take_succ l0 k hlt)
          have HO := Aside0.mk (poker_check.once l0 k hlt)
          have HT := Aside0.mk (poker_check.twice l0 k hlt)
          have hok := List.all_eq_true.1 HA2.out _ (poker_check.rd_mem l0 k hlt)
          generalize rd l0 k = c at *
          simp only [poker_check.ok, Bool.and_eq_true, decide_eq_true_eq] at hok
          obtain ⟨h1, h2⟩ := hok
          have hs := (blk_cell HS.out c.toNat).trans (poker_check.seen_at _ c h1 h2)
          have hf := blk_frozen HS.out c.toNat
          by_cases hin : c ∈ l0.take k
          · have HE := Aside0.mk (HT.out hin)
            rw [decide_eq_true hin] at hs
            obtain rfl : r = 6 := by have := H.out; unfold poker_check.f at this; rw [if_pos HA2.out, if_neg HE.out] at this; injection this with this; exact this.symm
            go_wp2
            go_ret
            exact ⟨rfl, HB.out⟩
          · have HE := Aside0.mk (HO.out hin HD.out)
            rw [decide_eq_false hin] at hs
            have HS2 := Aside0.mk (blk_put HS.out c.toNat (.bool true) (poker_check.seen_put _ c h1 h2))
            go_wp2
            go_roundw
            case rel => exact ⟨k + 1, by omega, by go_num, HE, ⟨by rw [HN.out]; exact HS2.out⟩, ⟨HB.out.setCell (Nat.le_refl _) _⟩⟩
            case measure => simp [intOf]; omega
        · obtain rfl : k = l0.length := by omega
          have HE := Aside0.mk (show l0.Nodup by simpa using HD.out)
          obtain rfl : r = 0 := by have := H.out; unfold poker_check.f at this; rw [if_pos HA2.out, if_pos HE.out] at this; injection this with this; exact this.symm
          go_wp2
          go_ret
          exact ⟨rfl, HB.out⟩
end Go.Proofs.Ytpcmodmghpijeaa.Q
