import Derived.Test.YtpcmodmghpijeaaGval1
namespace Go.Proofs.Ytpcmodmghpijeaa.Q
open Go.RowKit Go.Proofs.YtpcmodmghpijeaaW.PrintWords Go.Proofs.YtpcmodmghpijeaaW.PrintLast Go.Proofs.YtpcmodmghpijeaaW.PrintMore
set_option linter.unusedVariables false
def cnt (l : List Int) : List Int := (List.range 13).map fun (r : Nat) => ((l.countP fun c => c / 4 == (r : Int)) : Int)
def fl (a : Int) (l : List Int) : Bool := l.all fun c => c % 4 == a % 4
def sgD (m : List Int) : Nat → List Int
  | 0 => []
  | k + 1 => sgD m k ++ (if rd m (12 - (k : Int)) > 0 then [12 - (k : Int)] else [])
theorem nums_at (m : List Int) (r : Int) (h0 : 0 ≤ r) (h1 : r < m.length) : (nums .i64 m).toArray[r.toNat]? = some (.int .i64 (rd m r)) := by
  have h : r.toNat < m.length := by omega
  simp [nums, rd, List.getD_eq_getElem?_getD, List.getElem?_eq_getElem h]
theorem cnt_len (l : List Int) : (cnt l).length = 13 := by simp [cnt]
theorem cnt_at (l : List Int) (r : Int) (h0 : 0 ≤ r) (h1 : r < 13) : rd (cnt l) r = ((l.countP fun c => c / 4 == r) : Int) := by
  have : r.toNat < 13 := by omega
  simp [rd, cnt, List.getD_eq_getElem?_getD, this]
  rw [Int.max_eq_left h0]
theorem cnt_put (l : List Int) (c : Int) (h0 : 0 ≤ c) (h1 : c < 52) : (nums .i64 (cnt l)).toArray.setIfInBounds (c / 4).toNat (.int .i64 (rd (cnt l) (c / 4) + 1)) = (nums .i64 (cnt (l ++ [c]))).toArray := by
  rw [cnt_at l (c / 4) (by omega) (by omega)]
  apply Array.ext
  · simp [nums, cnt]
  · intro i hi1 hi2
    have hi : i < 13 := by simpa [nums, cnt] using hi2
    by_cases e : (c / 4).toNat = i
    · have e' : c / 4 = (i : Int) := by omega
      simp [nums, cnt, e', List.countP_append, List.countP_cons]
    · have e' : ¬ c / 4 = (i : Int) := by omega
      simp [nums, cnt, e, e', List.countP_append, List.countP_cons]
theorem cnt_bd (l : List Int) (r : Int) (h0 : 0 ≤ r) (h1 : r < 13) : 0 ≤ rd (cnt l) r ∧ rd (cnt l) r ≤ l.length := by
  rw [cnt_at l r h0 h1]
  have := List.countP_le_length (p := fun c => c / 4 == r) (l := l)
  omega
theorem val_idx (a b c d e : Int) (k : Nat) (hk : k < 5) : ∀ w, (Instr.index 43 (.agg #[.int .i64 a, .int .i64 b, .int .i64 c, .int .i64 d, .int .i64 e]) (.int .i64 k)).run Try.prog w = .ok (.int .i64 (rd [a, b, c, d, e] k)) w := by
  intro w
  rcases (show k = 0 ∨ k = 1 ∨ k = 2 ∨ k = 3 ∨ k = 4 by omega) with rfl | rfl | rfl | rfl | rfl <;> kernel_rfl
theorem take_rd (l : List Int) (k : Nat) (h : k < l.length) : l.take (k + 1) = l.take k ++ [rd l k] := by
  rw [List.take_succ_eq_append_getElem h]
  simp [rd, List.getD_eq_getElem?_getD, List.getElem?_eq_getElem h]
theorem fl_snoc (a x : Int) (l : List Int) : fl a (l ++ [x]) = (fl a l && (x % 4 == a % 4)) := by simp [fl, List.all_append]
theorem sgD_len (m : List Int) : ∀ k, (sgD m k).length ≤ k
  | 0 => Nat.le_refl _
  | k + 1 => by have := sgD_len m k; simp only [sgD, List.length_append]; split <;> simp <;> omega
theorem sgD_bd (m : List Int) : ∀ k, k ≤ 13 → ∀ x ∈ sgD m k, 0 ≤ x ∧ x < 13
  | 0, _, x, hx => by simp [sgD] at hx
  | k + 1, hk, x, hx => by
    simp only [sgD, List.mem_append] at hx
    rcases hx with hx | hx
    · exact sgD_bd m k (by omega) x hx
    · split at hx
      · simp at hx; omega
      · simp at hx
theorem sgD_mem (m : List Int) (r : Int) (hr : 0 ≤ r) (hp : rd m r > 0) : ∀ k : Nat, 12 - r < k → k ≤ 13 → r ≤ 12 → r ∈ sgD m k
  | 0, h, _, _ => by omega
  | k + 1, h, hk, h12 => by
    simp only [sgD, List.mem_append]
    by_cases e : 12 - r < k
    · exact .inl (sgD_mem m r hr hp k e (by omega) h12)
    · have : r = 12 - (k : Int) := by omega
      right
      rw [← this, if_pos hp]
      simp
theorem sgD_ne (l : List Int) (h : l ≠ []) (hl : ∀ x ∈ l, 0 ≤ x ∧ x < 52) : sgD (cnt l) 13 ≠ [] := by
  obtain ⟨c, t, rfl⟩ := List.exists_cons_of_ne_nil h
  have hc := hl c (by simp)
  have : c / 4 ∈ sgD (cnt (c :: t)) 13 := by
    refine sgD_mem _ _ (by omega) ?_ 13 (by omega) (by omega) (by omega)
    rw [cnt_at _ _ (by omega) (by omega)]
    simp
  intro e
  rw [e] at this
  simp at this
theorem srt_bd (m s : List Int) : ∀ x ∈ srt m s, 0 ≤ x ∧ x < 13 := by
  intro x hx
  simp only [srt, List.mem_map] at hx
  obtain ⟨y, _, rfl⟩ := hx
  exact y.2
theorem rd_mem (s : List Int) (i : Int) (h0 : 0 ≤ i) (h1 : i < s.length) : rd s i ∈ s := by
  have h : i.toNat < s.length := by omega
  simp [rd, List.getD_eq_getElem?_getD, List.getElem?_eq_getElem h]
def row0 (s : List Int) : Bool := decide (s.length = 5) && (rd s 0 - rd s 4 == 4)
def low (s : List Int) : Bool := (decide (s.length = 5) && (rd s 0 == 12)) && (rd s 1 == 3)
def tail2 (s : List Int) : List Int := if low s = true then [rd s 1] else if row0 s = true then [rd s 0] else s
def rowF (s : List Int) : Bool := low s || row0 s
def cls (y : Int) (f row : Bool) (n : Nat) : Int :=
  if (row && f) = true then 8 else if y = 4 then 7 else if y = 3 ∧ n = 2 then 6 else if f = true then 5 else if row = true then 4
  else if y = 3 then 3 else if y = 2 ∧ n = 3 then 2 else if y = 2 then 1 else 0
theorem cls_bd (y : Int) (f row : Bool) (n : Nat) : 0 ≤ cls y f row n ∧ cls y f row n ≤ 8 := by
  unfold cls
  repeat' split
  all_goals omega
def vf (t : List Int) (v : Int) : Nat → Int
  | 0 => v
  | k + 1 => if k < t.length then vf t v k * 13 + rd t k else vf t v k * 13
def progV (m : List Int) (f : Bool) (s : List Int) : Int := vf (tail2 s) (cls (rd m (rd (tail2 s) 0)) f (rowF s) (tail2 s).length) 5
theorem vf_bd (t : List Int) (c : Int) (hc : 0 ≤ c ∧ c ≤ 8) (ht : ∀ x ∈ t, 0 ≤ x ∧ x < 13) : ∀ k : Nat, 0 ≤ vf t c k ∧ vf t c k < 9 * 13 ^ k
  | 0 => by simp only [vf]; omega
  | k + 1 => by
    have h := vf_bd t c hc ht k
    have e : (13 : Int) ^ (k + 1) = 13 ^ k * 13 := Int.pow_succ 13 k
    simp only [vf]
    split
    · have := ht (rd t k) (rd_mem t k (by omega) (by omega))
      omega
    · omega
theorem vf_small (t : List Int) (c : Int) (hc : 0 ≤ c ∧ c ≤ 8) (ht : ∀ x ∈ t, 0 ≤ x ∧ x < 13) (k : Nat) (hk : k < 5) : 0 ≤ vf t c k ∧ vf t c k ≤ 257049 := by
  have h := vf_bd t c hc ht k
  rcases (show k = 0 ∨ k = 1 ∨ k = 2 ∨ k = 3 ∨ k = 4 by omega) with rfl | rfl | rfl | rfl | rfl <;> omega
theorem row0_len (s : List Int) (h : row0 s = true) : 5 ≤ s.length := by
  unfold row0 at h
  simp at h
  omega
theorem low_len (s : List Int) (h : low s = true) : 5 ≤ s.length := by
  unfold low at h
  simp at h
  omega
theorem tail2_bd (s : List Int) (hs : ∀ x ∈ s, 0 ≤ x ∧ x < 13) : ∀ x ∈ tail2 s, 0 ≤ x ∧ x < 13 := by
  intro x hx
  unfold tail2 at hx
  split at hx
  · rename_i h
    have := low_len s h
    simp at hx
    subst hx
    exact hs _ (rd_mem s 1 (by omega) (by omega))
  · split at hx
    · rename_i h
      have := row0_len s h
      simp at hx
      subst hx
      exact hs _ (rd_mem s 0 (by omega) (by omega))
    · exact hs x hx
theorem add_nil (a : Addr) : a.add 0 = a := by
  obtain ⟨b, o, i⟩ := a
  unfold Addr.add
  split <;> simp_all
theorem cnt_nil : cnt [] = List.replicate 13 0 := by decide
def pval (l : List Int) : Int := progV (cnt l) (fl (rd l 0) l) (srt (cnt l) (sgD (cnt l) 13))
set_option maxHeartbeats 8000000 in
set_option maxRecDepth 100000 in
theorem value_any (a b c d e : Int) (w : World) (hl : ∀ x ∈ [a, b, c, d, e], 0 ≤ x ∧ x < 52) :
    Calls Try.prog 20 #[.agg #[.int .i64 a, .int .i64 b, .int .i64 c, .int .i64 d, .int .i64 e]] w fun E w' => E = .returned (.int .i64 (pval [a, b, c, d, e])) ∧ Below w.heap.size w w' := by
  have hidx := val_idx a b c d e
  have ha0 := (hl a (by simp)).1
  go_enter Try.func20, Try.ntmps20
  go_wp2
  generalize hW : (w.alloc _).alloc _ = W1
  obtain ⟨B, hBB⟩ : ∃ B, B = w.heap.size := ⟨_, rfl⟩
  have HB := Aside0.mk (show Below w.heap.size w W1 from by rw [← hW]; exact ((Below.refl _ _).alloc (Nat.le_refl _) _).alloc (by simp) _)
  have HL := Aside0.mk (show W1.heap[w.heap.size]? = some (.cells #[.int .i64 a, .int .i64 b, .int .i64 c, .int .i64 d, .int .i64 e] 43 (0, 0)) from by rw [← hW]; exact blk_alloc (blk_new w _) _)
  have HM := Aside0.mk (show W1.heap[w.heap.size + 1]? = some (.cells (nums .i64 (cnt ([a, b, c, d, e].take 0))).toArray 48 (0, 0)) from by rw [← hW, List.take_zero, cnt_nil]; have := blk_new (w.alloc (.cells #[.int .i64 a, .int .i64 b, .int .i64 c, .int .i64 d, .int .i64 e] 43)) (.cells (nums .i64 (List.replicate 13 0)).toArray 48); rw [World.size_alloc] at this; exact this)
  clear hW
  go_loopw [4, 14] (fun f i wr => ∃ k : Nat, k ≤ 5 ∧ i = .int .i64 k ∧ f = .bool (fl a ([a, b, c, d, e].take k)) ∧ Aside0 (wr.heap[w.heap.size]? = some (.cells #[.int .i64 a, .int .i64 b, .int .i64 c, .int .i64 d, .int .i64 e] 43 (0, 0))) ∧ Aside0 (wr.heap[w.heap.size + 1]? = some (.cells (nums .i64 (cnt ([a, b, c, d, e].take k))).toArray 48 (0, 0))) ∧ Aside0 (Below w.heap.size w wr)) (fun _ i _ => 5 - (intOf i).toNat)
  case atStart => exact ⟨0, Nat.zero_le _, rfl, rfl, HL, HM, HB⟩
  case round =>
    clear HL HM HB
    obtain ⟨k, hk, rfl, rfl, HL, HM, HB⟩ := hrel
    by_cases hlt : k < 5
    · have hi := hidx k hlt
      have HN := Aside0.mk (take_rd [a, b, c, d, e] k (by simpa using hlt))
      have hx := hl (rd [a, b, c, d, e] k) (by simp [rd, List.getD_eq_getElem?_getD, List.getElem?_eq_getElem (show k < [a, b, c, d, e].length by simpa using hlt)])
      clear hidx
      generalize rd [a, b, c, d, e] k = x at *
      generalize hT : [a, b, c, d, e].take k = T at *
      have hT5 : T.length ≤ 5 := by rw [← hT]; simp; omega
      have HT := Aside0.mk hT
      clear hT
      have hbd := cnt_bd T (x / 4) (by omega) (by omega)
      have hs := (blk_cell HM.out (x / 4).toNat).trans (show (nums .i64 (cnt T)).toArray[(x / 4).toNat]? = some (.int .i64 (rd (cnt T) (x / 4))) from nums_at _ _ (by omega) (by rw [cnt_len]; omega))
      have hf := blk_frozen HM.out (x / 4).toNat
      have ha := blk_cell HL.out 0
      simp only [List.getElem?_toArray, List.getElem?_cons_zero] at ha
      have hx0 := hx.1
      have hx1 := hx.2
      clear hx hl
      have HL0 := Aside0.mk (fun (u : Value) (v : Nat) => fun (h : wr.heap[w.heap.size]? = some (.cells #[.int .i64 a, .int .i64 b, .int .i64 c, .int .i64 d, .int .i64 e] 43 (0, 0))) => Aside0.mk (blk_far h (p := ⟨w.heap.size + 1, v, none⟩) (by simp) u))
      have HM2 := Aside0.mk (blk_put HM.out (x / 4).toNat (.int .i64 (rd (cnt T) (x / 4) + 1)) (cnt_put T x hx0 hx1))
      generalize rd (cnt T) (x / 4) = y at *
      cases hfl : fl a T with
      | false =>
        have HFL := Aside0.mk hfl
        clear hfl
        have HF2 := Aside0.mk (show fl a (T ++ [x]) = false by rw [fl_snoc, HFL.out]; rfl)
        go_wp2
        go_roundw
        case rel => exact ⟨k + 1, by omega, by go_num, by rw [HN.out, HF2.out]; try rfl, HL0.out _ _ HL.out, ⟨by rw [HN.out]; exact HM2.out⟩, ⟨HB.out.setCell (by simp) _⟩⟩
        case measure => simp [intOf]; omega
      | true =>
        have HFL := Aside0.mk hfl
        clear hfl
        have HF2 := Aside0.mk (show fl a (T ++ [x]) = (x % 4 == a % 4) by rw [fl_snoc, HFL.out]; rfl)
        go_wp2
        go_roundw
        case rel => exact ⟨k + 1, by omega, by go_num, by rw [HN.out, HF2.out]; try rfl, HL0.out _ _ HL.out, ⟨by rw [HN.out]; exact HM2.out⟩, ⟨HB.out.setCell (by simp) _⟩⟩
        case measure => simp [intOf]; omega
    · obtain rfl : k = 5 := by omega
      rw [show ((5 : Nat) : Int) = 5 from rfl]
      clear hlt hk
      clear hidx ha0
      have HMB := Aside0.mk (show ∀ r, 0 ≤ r → r < 13 → 0 ≤ rd (cnt ([a, b, c, d, e].take 5)) r ∧ rd (cnt ([a, b, c, d, e].take 5)) r ≤ 5 from fun r h0 h1 => cnt_bd _ r h0 h1)
      have HM13 := Aside0.mk (cnt_len ([a, b, c, d, e].take 5))
      have HNE := Aside0.mk (sgD_ne [a, b, c, d, e] (by simp) hl)
      rw [show [a, b, c, d, e].take 5 = [a, b, c, d, e] from rfl] at *
      generalize hm : cnt [a, b, c, d, e] = m at *
      generalize hf : fl a [a, b, c, d, e] = f at *
      clear hl
      have HFE := Aside0.mk hf
      have HME := Aside0.mk hm
      clear hf hm
      go_wp2
      go_loopw [7, 8] (fun v i wr => ∃ k : Nat, k ≤ 13 ∧ i = .int .i64 (12 - (k : Int)) ∧ Aside0 (Kd.R (Kd.int .i64) 3 wr w.heap.size (fun _ => True) v (sgD m k)) ∧ Aside0 (wr.heap[w.heap.size + 1]? = some (.cells (nums .i64 m).toArray 48 (0, 0))) ∧ Aside0 (Below w.heap.size w wr)) (fun _ i _ => (intOf i + 1).toNat)
      case atStart => exact ⟨0, Nat.zero_le _, rfl, ⟨Kd.R_nil _ _ _ _ _⟩, HM, HB⟩
      case round =>
        clear HL HM HB
        obtain ⟨k, hk, rfl, HO, HM, HB⟩ := hrel
        obtain ⟨A, cp, hv, hlc, hC⟩ := Kd.R_reads HO.out
        subst hv
        have HC := Aside0.mk hC
        clear hC
        by_cases hlt : k < 13
        · have hs := (blk_cell HM.out (12 - (k : Int)).toNat).trans (show (nums .i64 m).toArray[(12 - (k : Int)).toNat]? = some (.int .i64 (rd m (12 - (k : Int)))) from nums_at m _ (by omega) (by have := HM13.out; omega))
          rw [show (12 - (k : Int)).toNat = 12 - k by omega] at hs
          have HN := Aside0.mk (show sgD m (k + 1) = sgD m k ++ (if rd m (12 - (k : Int)) > 0 then [12 - (k : Int)] else []) from rfl)
          have hlen := sgD_len m k
          generalize rd m (12 - (k : Int)) = x at *
          by_cases hp : 0 < x
          · have HN2 := Aside0.mk (show sgD m (k + 1) = sgD m k ++ [12 - (k : Int)] by rw [HN.out, if_pos hp])
            clear HN
            have HNB := Aside0.mk (Kd.R_ne HO.out HM.out (by decide))
            go_wp2_with (at_builtin; refine Kd.R_append (Kd.int .i64) (w0 := w) w.heap.size rfl (.tmp 41) (.tmp 43) 22 3 (.int .i64 0) 8 rfl Try.underlying22 info3 rfl (by decide) (by omega) (.slice A (sgD m k).length cp) (sgD m k) (12 - (k : Int)) [.int .i64 (12 - (k : Int))] (fun _ => True) (fun _ => False) rfl rfl ?aP (fun _ hk => hk.elim) ?aF ?aO ?aB ?aS ?aL ?_; (case aP => exact rfl); (case aB => exact HB.out); (case aF => exact (fun _ _ => trivial)); (case aO => exact HO.out); (case aS => exact below_size HB.out); (case aL => omega); intro v1 w1 ho hb hg hat; have HO1 := Aside0.mk ho; have HB1 := Aside0.mk hb; have HM1 := Aside0.mk (blk_grown HM.out hg HNB.out); clear ho hb hg hat)
            go_roundw
            case rel => exact ⟨k + 1, by omega, by go_num, ⟨by rw [HN2.out]; exact HO1.out⟩, HM1, HB1⟩
            case measure => simp [intOf]; omega
          · have HN2 := Aside0.mk (show sgD m (k + 1) = sgD m k by rw [HN.out, if_neg hp, List.append_nil])
            clear HN
            go_wp2
            go_roundw
            case rel => exact ⟨k + 1, by omega, by go_num, ⟨by rw [HN2.out]; exact HO.out⟩, HM, HB⟩
            case measure => simp [intOf]; omega
        · obtain rfl : k = 13 := by omega
          rw [show (12 - ((13 : Nat) : Int)) = -1 from rfl]
          go_wp2_with fail
          have HSB := Aside0.mk (sgD_bd m 13 (by omega))
          have HSN := Aside0.mk (HNE.out)
          go_wp2_with (go_at_call 25; refine (sortStable_own m (w.heap.size + 1) w.heap.size _ (sgD m 13) w _ HM13.out HM.out HSB.out HSN.out (Nat.le_trans (sgD_len m 13) (by omega)) HO.out HB.out (below_size HB.out)).mono ?_; rintro e w2 ⟨rfl, ho, hm2, hb⟩; have HO2 := Aside0.mk ho; have HM2 := Aside0.mk hm2; have HB2 := Aside0.mk hb; clear ho hm2 hb)
          obtain ⟨hn, hcap, hC⟩ := Kd.R_reads' HO2.out
          have hge : 1 ≤ (srt m (sgD m 13)).length := by rw [srt_len]; exact List.length_pos_iff.2 HSN.out
          have HSR := Aside0.mk (srt_bd m (sgD m 13))
          rw [hn]
          have hc2 := hcap
          rw [hn] at hc2
          have HC2 := Aside0.mk hC
          rw [hn] at HO2
          clear hn hcap hC
          generalize hse : srt m (sgD m 13) = s at *
          have HSE := Aside0.mk hse
          clear hse
          obtain ⟨inner, hown⟩ := Kd.R_own HO2.out
          obtain ⟨g, cp', he, hg1, hg2⟩ := hown.form (by omega)
          injection he with he1 he2 he3
          subst he1
          clear hown he2 he3 hg1 hg2 cp'
          have hxi : ∀ i : Nat, i < s.length → w2.cell? ⟨g, i, none⟩ = some (.int .i64 (rd s i)) := fun i hi => by obtain ⟨ad', e', h'⟩ := Kd.at_int HC2.out i (by omega) (by omega); cases e'; simpa [add_plain] using h'
          have hx0 := hxi 0 (by omega)
          have HX := Aside0.mk hxi
          clear hxi
          go_upto_region 17 with (fail)
          go_cut [10] (fun s10 wc => s10 = .bool (row0 s) ∧ ∃ q, wc = w2.drewN q)
          case first =>
            by_cases h5 : s.length = 5
            · have h5b : ((s.length : Int) == 5) = true := beq_iff_eq.2 (by omega)
              have hx4 := HX.out 4 (by omega)
              have hr0 : row0 s = (rd s 0 - rd s 4 == 4) := by simp [row0, h5]
              have h5a : 5 ≤ s.length := by omega
              have h5c : s.length ≤ 5 := by omega
              clear h5
              have hR := HSR.out
              have hb0 := hR (rd s 0) (rd_mem s 0 (by omega) (by omega))
              have hb4 := hR (rd s 4) (rd_mem s 4 (by omega) (by omega))
              clear hR
              have HR0 := Aside0.mk hr0
              clear hr0
              rw [show ((0 : Nat) : Int) = 0 from rfl] at hx0
              generalize rd s 0 = x0 at *
              rw [show ((4 : Nat) : Int) = 4 from rfl] at hx4
              generalize rd s 4 = x4 at *
              obtain ⟨hb0a, hb0b⟩ := hb0
              obtain ⟨hb4a, hb4b⟩ := hb4
              go_quiet (fail)
              go_wp2_with fail
              go_meet
              exact ⟨by rw [HR0.out]; try rfl, _, rfl⟩
            · have h5b : ((s.length : Int) == 5) = false := beq_eq_false_iff_ne.2 (by omega)
              have HR0 := Aside0.mk (show row0 s = false by simp [row0, h5])
              go_quiet (fail)
              go_wp2_with fail
              go_meet
              exact ⟨by rw [HR0.out]; try rfl, _, rfl⟩
          case rest =>
            obtain ⟨rfl, q, rfl⟩ := hcut
            go_upto_region 18 with (fail)
            generalize hw3 : w2.drewN q = w3
            have HX3 := Aside0.mk (show ∀ i : Nat, i < s.length → w3.cell? ⟨g, i, none⟩ = some (.int .i64 (rd s i)) from by rw [← hw3]; exact HX.out)
            have HM3 := Aside0.mk (show w3.heap[w.heap.size + 1]? = some (.cells (nums .i64 m).toArray 48 (0, 0)) from by rw [← hw3]; exact HM2.out)
            have HB3 := Aside0.mk (show Below w.heap.size w w3 from by rw [← hw3]; exact pw_below_drewN HB2.out q)
            clear HO2 HC2 HX HM2 HB2 HO HM HB HC hw3 hx0
            go_cut [75] (fun s75 wc => s75 = .bool (low s) ∧ w3 = wc)
            case first =>
              have hx0 := HX3.out 0 (by omega)
              rw [show ((0 : Nat) : Int) = 0 from rfl] at hx0
              by_cases h5 : s.length = 5
              · have h5b : ((s.length : Int) == 5) = true := beq_iff_eq.2 (by omega)
                have hx1 := HX3.out 1 (by omega)
                rw [show ((1 : Nat) : Int) = 1 from rfl] at hx1
                have hl0 : low s = ((rd s 0 == 12) && (rd s 1 == 3)) := by simp [low, h5]
                have h5a : 5 ≤ s.length := by omega
                have h5c : s.length ≤ 5 := by omega
                clear h5
                have HL0 := Aside0.mk hl0
                clear hl0
                generalize rd s 0 = x0 at *
                generalize rd s 1 = x1 at *
                by_cases h12 : x0 = 12
                · have h12b : (x0 == 12) = true := beq_iff_eq.2 h12
                  clear h12
                  go_wp2_with fail
                  go_meet
                  exact ⟨by rw [HL0.out, h12b]; try rfl, rfl⟩
                · have h12b : (x0 == 12) = false := beq_eq_false_iff_ne.2 h12
                  clear h12
                  go_wp2_with fail
                  go_meet
                  exact ⟨by rw [HL0.out, h12b]; try rfl, rfl⟩
              · have h5b : ((s.length : Int) == 5) = false := beq_eq_false_iff_ne.2 (by omega)
                have HL0 := Aside0.mk (show low s = false by simp [low, h5])
                go_wp2_with fail
                go_meet
                exact ⟨by rw [HL0.out]; try rfl, rfl⟩
            case rest =>
              obtain ⟨rfl, rfl⟩ := hcut
              cases hlow : low s with
              | true =>
                have h5 : 5 ≤ s.length := low_len s hlow
                have HLW := Aside0.mk hlow
                clear hlow
                have HT := Aside0.mk (show tail2 s = [rd s 1] by unfold tail2; rw [if_pos HLW.out])
                have HRF := Aside0.mk (show rowF s = true by unfold rowF; rw [HLW.out]; rfl)
                have HTL := Aside0.mk (show (tail2 s).length = 1 by rw [HT.out]; rfl)
                have HTC := Aside0.mk (show ∀ i : Nat, i < 1 → w3.cell? ⟨g, 1 + i, none⟩ = some (.int .i64 (rd (tail2 s) i)) from by rw [HT.out]; intro i hi; obtain rfl : i = 0 := (by omega); exact HX3.out 1 (by omega))
                have HTB := Aside0.mk (tail2_bd s HSR.out)
                go_upto_block 4 with (fail)
                go_cut [9] (fun s9 wc => s9 = .int .i64 (cls (rd m (rd (tail2 s) 0)) f (rowF s) (tail2 s).length) ∧ w3 = wc)
                case first =>
                  have hx0 := HTC.out 0 (by omega)
                  rw [show ((0 : Nat) : Int) = 0 from rfl, show 1 + 0 = 1 from rfl] at hx0
                  have hb0 := HTB.out (rd (tail2 s) 0) (rd_mem _ 0 (by omega) (by rw [HTL.out]; omega))
                  obtain ⟨x0, hx0e⟩ : ∃ x, x = rd (tail2 s) 0 := ⟨_, rfl⟩
                  rw [← hx0e] at hx0 hb0
                  have HXE := Aside0.mk hx0e
                  clear hx0e
                  have hy := (blk_cell HM3.out x0.toNat).trans (nums_at m x0 hb0.1 (by rw [HM13.out]; omega))
                  obtain ⟨hb0a, hb0b⟩ := hb0
                  obtain ⟨y, hye⟩ : ∃ y, y = rd m x0 := ⟨_, rfl⟩
                  rw [← hye] at hy
                  have HYE := Aside0.mk hye
                  clear hye
                  have hyc : y = 4 ∨ y = 3 ∨ y = 2 ∨ ((y == 4) = false ∧ (y == 3) = false ∧ (y == 2) = false) := by simp; omega
                  rcases hyc with rfl | rfl | rfl | ⟨e4, e3, e2⟩ <;> cases f
                  all_goals (as_aux_lemma => (go_wp2_with fail; go_meet; exact ⟨by rw [← HXE.out, ← HYE.out, HRF.out, HTL.out]; first | rfl | (simp at e4 e3 e2; simp [cls, e4, e3]; done), rfl⟩))
                case rest => as_aux_lemma =>
                  obtain ⟨rfl, rfl⟩ := hcut
                  have HC8 := Aside0.mk (cls_bd (rd m (rd (tail2 s) 0)) f (rowF s) (tail2 s).length)
                  have HPV := Aside0.mk (show progV m f s = vf (tail2 s) (cls (rd m (rd (tail2 s) 0)) f (rowF s) (tail2 s).length) 5 from rfl)
                  generalize cls (rd m (rd (tail2 s) 0)) f (rowF s) (tail2 s).length = c0 at *
                  have HVS := Aside0.mk (vf_small (tail2 s) c0 HC8.out HTB.out)
                  go_wp2_with fail
                  go_loop [11, 136] (fun v i => ∃ k : Nat, k ≤ 5 ∧ i = .int .i64 k ∧ v = .int .i64 (vf (tail2 s) c0 k)) (fun _ i => 5 - (intOf i).toNat)
                  case atStart => exact ⟨0, Nat.zero_le _, rfl, rfl⟩
                  case round =>
                    obtain ⟨k, hk, rfl, rfl⟩ := hrel
                    by_cases hlt : k < 5
                    · obtain ⟨hv0, hv1⟩ := HVS.out k hlt
                      by_cases hin : k < 1
                      · have hxk := HTC.out k hin
                        have hbk := HTB.out (rd (tail2 s) k) (rd_mem _ k (by omega) (by rw [HTL.out]; omega))
                        have HVN := Aside0.mk (show vf (tail2 s) c0 (k + 1) = vf (tail2 s) c0 k * 13 + rd (tail2 s) k by simp only [vf]; rw [if_pos (by rw [HTL.out]; exact hin)])
                        obtain ⟨hbk0, hbk1⟩ := hbk
                        generalize rd (tail2 s) k = xk at *
                        generalize vf (tail2 s) c0 k = vk at *
                        go_wp2_with fail
                        go_round
                        case rel => exact ⟨k + 1, by omega, by go_num, by rw [HVN.out]; try rfl⟩
                        case measure => simp [intOf]; omega
                      · have HVN := Aside0.mk (show vf (tail2 s) c0 (k + 1) = vf (tail2 s) c0 k * 13 by simp only [vf]; rw [if_neg (by rw [HTL.out]; exact hin)])
                        generalize vf (tail2 s) c0 k = vk at *
                        go_wp2_with fail
                        go_round
                        case rel => exact ⟨k + 1, by omega, by go_num, by rw [HVN.out]; try rfl⟩
                        case measure => simp [intOf]; omega
                    · obtain rfl : k = 5 := by omega
                      go_wp2_with fail
                      go_ret
                      exact ⟨by rw [← HPV.out, ← HSE.out, ← HFE.out, ← HME.out]; rfl, HB3.out⟩
              | false =>
                have HLW := Aside0.mk hlow
                clear hlow
                cases hrow : row0 s with
                | true =>
                  have h5 : 5 ≤ s.length := row0_len s hrow
                  have HRW := Aside0.mk hrow
                  clear hrow
                  have HT := Aside0.mk (show tail2 s = [rd s 0] by unfold tail2; rw [if_neg (by rw [HLW.out]; simp), if_pos HRW.out])
                  have HRF := Aside0.mk (show rowF s = true by unfold rowF; rw [HLW.out, HRW.out]; rfl)
                  have HTL := Aside0.mk (show (tail2 s).length = 1 by rw [HT.out]; rfl)
                  have HTC := Aside0.mk (show ∀ i : Nat, i < 1 → w3.cell? ⟨g, 0 + i, none⟩ = some (.int .i64 (rd (tail2 s) i)) from by rw [HT.out]; intro i hi; obtain rfl : i = 0 := (by omega); exact HX3.out 0 (by omega))
                  have HTB := Aside0.mk (tail2_bd s HSR.out)
                  go_upto_block 4 with (fail)
                  go_cut [9] (fun s9 wc => s9 = .int .i64 (cls (rd m (rd (tail2 s) 0)) f (rowF s) (tail2 s).length) ∧ w3 = wc)
                  case first =>
                    have hx0 := HTC.out 0 (by omega)
                    rw [show ((0 : Nat) : Int) = 0 from rfl, Nat.zero_add] at hx0
                    have hb0 := HTB.out (rd (tail2 s) 0) (rd_mem _ 0 (by omega) (by rw [HTL.out]; omega))
                    obtain ⟨x0, hx0e⟩ : ∃ x, x = rd (tail2 s) 0 := ⟨_, rfl⟩
                    rw [← hx0e] at hx0 hb0
                    have HXE := Aside0.mk hx0e
                    clear hx0e
                    have hy := (blk_cell HM3.out x0.toNat).trans (nums_at m x0 hb0.1 (by rw [HM13.out]; omega))
                    obtain ⟨hb0a, hb0b⟩ := hb0
                    obtain ⟨y, hye⟩ : ∃ y, y = rd m x0 := ⟨_, rfl⟩
                    rw [← hye] at hy
                    have HYE := Aside0.mk hye
                    clear hye
                    have hyc : y = 4 ∨ y = 3 ∨ y = 2 ∨ ((y == 4) = false ∧ (y == 3) = false ∧ (y == 2) = false) := by simp; omega
                    rcases hyc with rfl | rfl | rfl | ⟨e4, e3, e2⟩ <;> cases f
                    all_goals (as_aux_lemma => (go_wp2_with fail; go_meet; exact ⟨by rw [← HXE.out, ← HYE.out, HRF.out, HTL.out]; first | rfl | (simp at e4 e3 e2; simp [cls, e4, e3]; done), rfl⟩))
                  case rest => as_aux_lemma =>
                    obtain ⟨rfl, rfl⟩ := hcut
                    have HC8 := Aside0.mk (cls_bd (rd m (rd (tail2 s) 0)) f (rowF s) (tail2 s).length)
                    have HPV := Aside0.mk (show progV m f s = vf (tail2 s) (cls (rd m (rd (tail2 s) 0)) f (rowF s) (tail2 s).length) 5 from rfl)
                    generalize cls (rd m (rd (tail2 s) 0)) f (rowF s) (tail2 s).length = c0 at *
                    have HVS := Aside0.mk (vf_small (tail2 s) c0 HC8.out HTB.out)
                    go_wp2_with fail
                    go_loop [11, 136] (fun v i => ∃ k : Nat, k ≤ 5 ∧ i = .int .i64 k ∧ v = .int .i64 (vf (tail2 s) c0 k)) (fun _ i => 5 - (intOf i).toNat)
                    case atStart => exact ⟨0, Nat.zero_le _, rfl, rfl⟩
                    case round =>
                      obtain ⟨k, hk, rfl, rfl⟩ := hrel
                      by_cases hlt : k < 5
                      · obtain ⟨hv0, hv1⟩ := HVS.out k hlt
                        by_cases hin : k < 1
                        · have hxk := HTC.out k hin
                          rw [Nat.zero_add] at hxk
                          have hbk := HTB.out (rd (tail2 s) k) (rd_mem _ k (by omega) (by rw [HTL.out]; omega))
                          have HVN := Aside0.mk (show vf (tail2 s) c0 (k + 1) = vf (tail2 s) c0 k * 13 + rd (tail2 s) k by simp only [vf]; rw [if_pos (by rw [HTL.out]; exact hin)])
                          obtain ⟨hbk0, hbk1⟩ := hbk
                          generalize rd (tail2 s) k = xk at *
                          generalize vf (tail2 s) c0 k = vk at *
                          go_wp2_with fail
                          go_round
                          case rel => exact ⟨k + 1, by omega, by go_num, by rw [HVN.out]; try rfl⟩
                          case measure => simp [intOf]; omega
                        · have HVN := Aside0.mk (show vf (tail2 s) c0 (k + 1) = vf (tail2 s) c0 k * 13 by simp only [vf]; rw [if_neg (by rw [HTL.out]; exact hin)])
                          generalize vf (tail2 s) c0 k = vk at *
                          go_wp2_with fail
                          go_round
                          case rel => exact ⟨k + 1, by omega, by go_num, by rw [HVN.out]; try rfl⟩
                          case measure => simp [intOf]; omega
                      · obtain rfl : k = 5 := by omega
                        go_wp2_with fail
                        go_ret
                        exact ⟨by rw [← HPV.out, ← HSE.out, ← HFE.out, ← HME.out]; rfl, HB3.out⟩
                | false =>
                  have HRW := Aside0.mk hrow
                  clear hrow
                  have HT := Aside0.mk (show tail2 s = s by unfold tail2; rw [if_neg (by rw [HLW.out]; simp), if_neg (by rw [HRW.out]; simp)])
                  have HRF := Aside0.mk (show rowF s = false by unfold rowF; rw [HLW.out, HRW.out]; rfl)
                  have HTL := Aside0.mk (show (tail2 s).length = s.length by rw [HT.out])
                  have HTC := Aside0.mk (show ∀ i : Nat, i < s.length → w3.cell? ⟨g, 0 + i, none⟩ = some (.int .i64 (rd (tail2 s) i)) from by rw [HT.out]; intro i hi; rw [Nat.zero_add]; exact HX3.out i hi)
                  have HTB := Aside0.mk (tail2_bd s HSR.out)
                  go_upto_block 4 with (fail)
                  go_cut [9] (fun s9 wc => s9 = .int .i64 (cls (rd m (rd (tail2 s) 0)) f (rowF s) (tail2 s).length) ∧ w3 = wc)
                  case first =>
                    have hx0 := HTC.out 0 (by omega)
                    rw [show ((0 : Nat) : Int) = 0 from rfl, Nat.zero_add] at hx0
                    have hb0 := HTB.out (rd (tail2 s) 0) (rd_mem _ 0 (by omega) (by rw [HTL.out]; omega))
                    obtain ⟨x0, hx0e⟩ : ∃ x, x = rd (tail2 s) 0 := ⟨_, rfl⟩
                    rw [← hx0e] at hx0 hb0
                    have HXE := Aside0.mk hx0e
                    clear hx0e
                    have hy := (blk_cell HM3.out x0.toNat).trans (nums_at m x0 hb0.1 (by rw [HM13.out]; omega))
                    obtain ⟨hb0a, hb0b⟩ := hb0
                    obtain ⟨y, hye⟩ : ∃ y, y = rd m x0 := ⟨_, rfl⟩
                    rw [← hye] at hy
                    have HYE := Aside0.mk hye
                    clear hye
                    have hyc : y = 4 ∨ y = 3 ∨ y = 2 ∨ ((y == 4) = false ∧ (y == 3) = false ∧ (y == 2) = false) := by simp; omega
                    have hlc : (((s.length : Int) == 2) = true ∧ ((s.length : Int) == 3) = false) ∨ (((s.length : Int) == 2) = false ∧ ((s.length : Int) == 3) = true) ∨ (((s.length : Int) == 2) = false ∧ ((s.length : Int) == 3) = false) := by simp; omega
                    have hl2 : ∀ n : Nat, (((n : Int) == 2) = (n == 2)) ∧ (((n : Int) == 3) = (n == 3)) := fun n => by constructor <;> (rw [Bool.eq_iff_iff]; simp; omega)
                    have HL2 := Aside0.mk (hl2 s.length)
                    clear hl2
                    rcases hyc with rfl | rfl | rfl | ⟨e4, e3, e2⟩ <;> cases f <;> rcases hlc with ⟨l2, l3⟩ | ⟨l2, l3⟩ | ⟨l2, l3⟩
                    all_goals (as_aux_lemma => (go_wp2_with fail; go_meet; exact ⟨by have q2 := HL2.out.1.symm.trans l2; have q3 := HL2.out.2.symm.trans l3; simp at q2 q3; rw [← HXE.out, ← HYE.out, HRF.out, HTL.out]; first | (simp [cls, q2, q3]; done) | (simp at e4 e3 e2; simp [cls, q2, q3, e4, e3, e2]; done), rfl⟩))
                  case rest => as_aux_lemma =>
                    obtain ⟨rfl, rfl⟩ := hcut
                    have HC8 := Aside0.mk (cls_bd (rd m (rd (tail2 s) 0)) f (rowF s) (tail2 s).length)
                    have HPV := Aside0.mk (show progV m f s = vf (tail2 s) (cls (rd m (rd (tail2 s) 0)) f (rowF s) (tail2 s).length) 5 from rfl)
                    generalize cls (rd m (rd (tail2 s) 0)) f (rowF s) (tail2 s).length = c0 at *
                    have HVS := Aside0.mk (vf_small (tail2 s) c0 HC8.out HTB.out)
                    go_wp2_with fail
                    go_loop [11, 136] (fun v i => ∃ k : Nat, k ≤ 5 ∧ i = .int .i64 k ∧ v = .int .i64 (vf (tail2 s) c0 k)) (fun _ i => 5 - (intOf i).toNat)
                    case atStart => exact ⟨0, Nat.zero_le _, rfl, rfl⟩
                    case round =>
                      obtain ⟨k, hk, rfl, rfl⟩ := hrel
                      by_cases hlt : k < 5
                      · obtain ⟨hv0, hv1⟩ := HVS.out k hlt
                        by_cases hin : k < s.length
                        · have hxk := HTC.out k hin
                          rw [Nat.zero_add] at hxk
                          have hbk := HTB.out (rd (tail2 s) k) (rd_mem _ k (by omega) (by rw [HTL.out]; omega))
                          have HVN := Aside0.mk (show vf (tail2 s) c0 (k + 1) = vf (tail2 s) c0 k * 13 + rd (tail2 s) k by simp only [vf]; rw [if_pos (by rw [HTL.out]; exact hin)])
                          obtain ⟨hbk0, hbk1⟩ := hbk
                          generalize rd (tail2 s) k = xk at *
                          generalize vf (tail2 s) c0 k = vk at *
                          go_wp2_with fail
                          go_round
                          case rel => exact ⟨k + 1, by omega, by go_num, by rw [HVN.out]; try rfl⟩
                          case measure => simp [intOf]; omega
                        · have HVN := Aside0.mk (show vf (tail2 s) c0 (k + 1) = vf (tail2 s) c0 k * 13 by simp only [vf]; rw [if_neg (by rw [HTL.out]; exact hin)])
                          generalize vf (tail2 s) c0 k = vk at *
                          go_wp2_with fail
                          go_round
                          case rel => exact ⟨k + 1, by omega, by go_num, by rw [HVN.out]; try rfl⟩
                          case measure => simp [intOf]; omega
                      · obtain rfl : k = 5 := by omega
                        go_wp2_with fail
                        go_ret
                        exact ⟨by rw [← HPV.out, ← HSE.out, ← HFE.out, ← HME.out]; rfl, HB3.out⟩
end Go.Proofs.Ytpcmodmghpijeaa.Q
