import Derived.Test.YtpcmodmghpijeaaGshow1
import Derived.Test.YtpcmodmghpijeaaGcheck
import Derived.Laws.EntriesVeiled
namespace Go.Proofs.Ytpcmodmghpijeaa.Q
open Go.RowKit Go.Shelf Go.Proofs.YtpcmodmghpijeaaW.PrintWords Go.Proofs.YtpcmodmghpijeaaW.PrintLast Go.Proofs.YtpcmodmghpijeaaW.PrintMore
set_option linter.unusedVariables false
set_option linter.unusedSimpArgs false
attribute [local go_sem] Oper.semAt_some
def fillsTo (K : List Int) (left start j : Nat) : List (List Int) := (List.range' start (j - start)).flatMap fun (c : Nat) => if (c : Int) ∈ K then [] else (fillsF K left (c + 1)).map ((c : Int) :: ·)
theorem fillsTo_in (K : List Int) (left start j : Nat) (h1 : start ≤ j) (h : (j : Int) ∈ K) : fillsTo K left start (j + 1) = fillsTo K left start j := by
  unfold fillsTo
  rw [show j + 1 - start = (j - start) + 1 by omega, List.range'_concat, List.flatMap_append]
  simp [show start + (j - start) = j by omega, h]
theorem fillsTo_out (K : List Int) (left start j : Nat) (h1 : start ≤ j) (h : ¬ (j : Int) ∈ K) : fillsTo K left start (j + 1) = fillsTo K left start j ++ (fillsF K left (j + 1)).map ((j : Int) :: ·) := by
  unfold fillsTo
  rw [show j + 1 - start = (j - start) + 1 by omega, List.range'_concat, List.flatMap_append]
  simp [show start + (j - start) = j by omega, h]
def runS (a b t : List Int) (s : Int × Int × Int) (xs : List (List Int)) : Int × Int × Int := (xs.map (t ++ ·)).foldl (stepS a b) s
def inB (s : Int × Int × Int) (M : Nat) : Prop := (0 ≤ s.1 ∧ s.1 ≤ M) ∧ (0 ≤ s.2.1 ∧ s.2.1 ≤ M) ∧ (0 ≤ s.2.2 ∧ s.2.2 ≤ M)
theorem stepS_in (a b t : List Int) (s : Int × Int × Int) (M : Nat) (h : inB s M) : inB (stepS a b s t) (M + 1) := by
  obtain ⟨⟨h1, h2⟩, ⟨h3, h4⟩, h5, h6⟩ := h
  refine ⟨⟨?_, ?_⟩, ⟨?_, ?_⟩, ?_, ?_⟩ <;> simp only [stepS] <;> repeat' split
  all_goals omega
theorem runS_in (a b t : List Int) : ∀ (xs : List (List Int)) (s : Int × Int × Int) (M : Nat), inB s M → inB (runS a b t s xs) (M + xs.length)
  | [], s, M, h => by simpa [runS] using h
  | x :: xs, s, M, h => by
    have := runS_in a b t xs _ _ (stepS_in a b (t ++ x) s M h)
    rw [List.length_cons, show M + (xs.length + 1) = M + 1 + xs.length by omega]
    simpa [runS] using this
theorem runS_append (a b t : List Int) (s : Int × Int × Int) (xs ys : List (List Int)) : runS a b t s (xs ++ ys) = runS a b t (runS a b t s xs) ys := by simp [runS]
theorem runS_cons (a b t : List Int) (s : Int × Int × Int) (c : Int) (ys : List (List Int)) : runS a b t s (ys.map (c :: ·)) = runS a b (t ++ [c]) s ys := by simp [runS, Function.comp_def]
theorem fillsF_len (K : List Int) : ∀ (left start : Nat), (fillsF K left start).length ≤ 52 ^ left
  | 0, _ => by simp [fillsF]
  | left + 1, start => by
    have h : ∀ n s : Nat, ((List.range' s n).flatMap fun (c : Nat) => if (c : Int) ∈ K then [] else (fillsF K left (c + 1)).map ((c : Int) :: ·)).length ≤ n * 52 ^ left := by
      intro n
      induction n with
      | zero => intro s; simp
      | succ n ih =>
        intro s
        rw [List.range'_succ, List.flatMap_cons, List.length_append, Nat.succ_mul]
        have h1 := ih (s + 1)
        have h2 : (if (s : Int) ∈ K then [] else (fillsF K left (s + 1)).map ((s : Int) :: ·)).length ≤ 52 ^ left := by
          split
          · simp
          · simpa using fillsF_len K left (s + 1)
        omega
    have h3 := h (52 - start) start
    have h4 : (52 - start) * 52 ^ left ≤ 52 * 52 ^ left := Nat.mul_le_mul_right _ (by omega)
    unfold fillsF
    rw [Nat.pow_succ]
    omega
theorem fillsTo_len (K : List Int) (left start j : Nat) : (fillsTo K left start j).length ≤ (j - start) * 52 ^ left := by
  unfold fillsTo
  generalize j - start = n
  induction n generalizing start with
  | zero => simp
  | succ n ih =>
    rw [List.range'_succ, List.flatMap_cons, List.length_append, Nat.succ_mul]
    have h1 := ih (start + 1)
    have h2 : (if (start : Int) ∈ K then [] else (fillsF K left (start + 1)).map ((start : Int) :: ·)).length ≤ 52 ^ left := by
      split
      · simp
      · simpa using fillsF_len K left (start + 1)
    omega
theorem clone_at (wr X : World) (hX : Below wr.heap.size wr X) (A0 : Option Addr) (c0 : Nat) (h : List Int) (hC : Kd.C (Kd.int .i64) wr A0 h.length h) (hne : 0 < h.length) (hl : h.length ≤ 1000) :
    Calls Try.prog 13 #[.slice A0 h.length c0] X fun e w' => ∃ v : Value, e = .returned v ∧ Kd.R (Kd.int .i64) 3 w' wr.heap.size (fun _ => True) v h ∧ Below wr.heap.size wr w' ∧ Below X.heap.size X w' :=
  (clone_list A0 c0 h X (Kd.C_below hC hX) hne hl).mono fun e w' ⟨v, h1, h2, h3⟩ => ⟨v, h1, Kd.R_lower h2 hX.size, hX.trans (h3.mono hX.size), h3⟩
theorem C_one {W : World} {g : Nat} {x : Int} (h : W.heap[g]? = some (.cells #[.int .i64 x] 3 (0, 0))) : Kd.C (Kd.int .i64) W (some ⟨g, 0, none⟩) 1 [x] := by
  refine Kd.C_of_reads (d := 0) (h1 := fun _ => rfl) ⟨rfl, by decide, fun _ => ⟨⟨g, 0, none⟩, rfl, fun i hi => ?_⟩⟩
  obtain rfl : i = 0 := by omega
  have hc := blk_cell h 0
  rw [show (⟨g, 0, none⟩ : Addr).add 0 = ⟨g, 0, none⟩ by simp [Addr.add], hc]
  simp
theorem ad_new {W1 W : World} {A2 : Option Addr} {c2 n : Nat} {T2 : List Int} {bl bw bt : Nat} (h : Kd.R (Kd.int .i64) 3 W1 W.heap.size (fun _ => True) (.slice A2 n c2) T2) (hl : bl < W.heap.size ∧ bw < W.heap.size ∧ bt < W.heap.size) : ∀ ad, A2 = some ad → ad.block ∉ [bl, bw, bt] := by
  rintro ad rfl
  obtain ⟨g, rfl⟩ := Kd.R_head h
  have := Kd.R_base h g rfl
  simp; omega
set_option maxHeartbeats 2000000 in
set_option maxRecDepth 100000 in
theorem fill_succ (bl bw bt ba bb bk bf : Nat) (Aa Ab Ak : Option Addr) (ca cb ck : Nat) (a b K : List Int) (hd : bl ≠ bw ∧ bl ≠ bt ∧ bw ≠ bt)
    (left : Nat) (hl4 : left ≤ 4)
    (ih : ∀ (n : Nat) (At : Option Addr) (ct : Nat) (t : List Int) (s : Int × Int × Int) (M : Nat) (w : World), t.length + left = 5 → (∀ x ∈ t, 0 ≤ x ∧ x < 52) → n ≤ 52 → Kd.C (Kd.int .i64) w At t.length t → (∀ ad, At = some ad → ad.block ∉ [bl, bw, bt]) → FE bl bw bt ba bb bk bf Aa Ab Ak ca cb ck a b K w → CT bl bw bt s w → inB s M → M + 52 ^ left ≤ 1000000000 →
      Calls Try.prog 10 #[.int .i64 (n : Int), .slice At t.length ct, .pointer (some ⟨ba, 0, none⟩), .pointer (some ⟨bb, 0, none⟩), .pointer (some ⟨bl, 0, none⟩), .pointer (some ⟨bw, 0, none⟩), .pointer (some ⟨bt, 0, none⟩), .pointer (some ⟨bk, 0, none⟩), .pointer (some ⟨bf, 0, none⟩)] w
      (FillPost bl bw bt (runS a b t s (fillsF K left n)) w))
    (n : Nat) (At : Option Addr) (ct : Nat) (t : List Int) (s : Int × Int × Int) (M : Nat) (w : World) (ht : t.length + (left + 1) = 5) (hn : n ≤ 52) (ht1 : 1 ≤ t.length) (xrt : ∀ x ∈ t, 0 ≤ x ∧ x < 52) (hC : Kd.C (Kd.int .i64) w At t.length t) (hat : ∀ ad, At = some ad → ad.block ∉ [bl, bw, bt]) (he : FE bl bw bt ba bb bk bf Aa Ab Ak ca cb ck a b K w) (hs : CT bl bw bt s w)
    (hb : inB s M) (hM : M + 52 ^ (left + 1) ≤ 1000000000) :
    Calls Try.prog 10 #[.int .i64 (n : Int), .slice At t.length ct, .pointer (some ⟨ba, 0, none⟩), .pointer (some ⟨bb, 0, none⟩), .pointer (some ⟨bl, 0, none⟩), .pointer (some ⟨bw, 0, none⟩), .pointer (some ⟨bt, 0, none⟩), .pointer (some ⟨bk, 0, none⟩), .pointer (some ⟨bf, 0, none⟩)] w
      (FillPost bl bw bt (runS a b t s (fillsF K (left + 1) n)) w) := by
  have HIH := Aside0.mk ih
  have HT := Aside0.mk ht
  have HXT := Aside0.mk xrt
  have HC := Aside0.mk hC
  have HAT := Aside0.mk hat
  have HE := Aside0.mk he
  have HCT := Aside0.mk hs
  have HINB := Aside0.mk hb
  have HMM := Aside0.mk hM
  have HT1 := Aside0.mk ht1
  have HD := Aside0.mk hd
  have ht5 : ((t.length : Int) == 5) = false := by simp; omega
  clear ih ht xrt hC hat he hs hb hM ht1 hd
  go_enter Try.func10, Try.ntmps10
  go_wp2_with fail
  go_loopw [15] (fun i wr => ∃ j : Nat, n ≤ j ∧ j ≤ 52 ∧ i = .int .i64 j ∧ Aside0 (SameBut [bl, bw, bt] w wr ∧ CT bl bw bt (runS a b t s (fillsTo K left n j)) wr)) (fun i _ => 52 - (intOf i).toNat)
  case atStart => exact ⟨n, Nat.le_refl _, hn, rfl, ⟨SameBut.refl _ _, by simpa [fillsTo, runS] using HCT.out⟩⟩
  case round =>
    obtain ⟨j, hj1, hj2, rfl, HJ⟩ := hrel
    obtain ⟨hSB, hCT⟩ := HJ.out
    have hE2 := HE.out.same hSB
    have HE2 := Aside0.mk hE2
    have HSB := Aside0.mk hSB
    have HC2 := Aside0.mk hCT
    by_cases hlt : j < 52
    · have kk := blk_cell hE2.pk 0
      have kf := blk_cell hE2.pf 0
      simp only [List.getElem?_toArray, List.getElem?_cons_zero] at kk kf
      by_cases hin : (j : Int) ∈ K
      · have HCN := Aside0.mk (contains_any Ak ck K (j : Int) wr hE2.rk)
        rw [decide_eq_true hin] at HCN
        have HF := Aside0.mk (fillsTo_in K left n j hj1 hin)
        clear hin hSB hCT hE2 HJ kf
        go_wp2_with (go_at_call 12; refine HCN.out.mono ?_; rintro e w' ⟨rfl, rfl⟩)
        go_roundw
        case rel => exact ⟨j + 1, by omega, by omega, by go_num, ⟨HSB.out, by rw [HF.out]; exact HC2.out⟩⟩
        case measure => simp [intOf]; omega
      · have HCN := Aside0.mk (contains_any Ak ck K (j : Int) wr hE2.rk)
        rw [decide_eq_false hin] at HCN
        have HF := Aside0.mk (fillsTo_out K left n j hj1 hin)
        clear hin hSB hCT hE2 HJ
        go_wp2_with (go_at_call 12; refine HCN.out.mono ?_; rintro e w' ⟨rfl, rfl⟩)
        have HCwr := Aside0.mk (C_but HC.out HSB.out HAT.out)
        have HKB := Aside0.mk (blk_lt HE2.out.pf)
        have HBL := Aside0.mk (show bl < wr.heap.size ∧ bw < wr.heap.size ∧ bt < wr.heap.size from ⟨blk_lt HC2.out.l, blk_lt HC2.out.w, blk_lt HC2.out.t⟩)
        obtain ⟨T2, hT2⟩ : ∃ T2, t ++ [(j : Int)] = T2 := ⟨_, rfl⟩
        obtain ⟨q2, hq2⟩ : ∃ q2, runS a b T2 (runS a b t s (fillsTo K left n j)) (fillsF K left (j + 1)) = q2 := ⟨_, rfl⟩
        have HQ := Aside0.mk (show runS a b t s (fillsTo K left n (j + 1)) = q2 by rw [HF.out, runS_append, runS_cons, hT2, hq2])
        have HIH2 := Aside0.mk (show ∀ (A2 : Option Addr) (c2 : Nat) (W : World), Kd.C (Kd.int .i64) W A2 T2.length T2 → (∀ ad, A2 = some ad → ad.block ∉ [bl, bw, bt]) → FE bl bw bt ba bb bk bf Aa Ab Ak ca cb ck a b K W → CT bl bw bt (runS a b t s (fillsTo K left n j)) W →
            Calls Try.prog 10 #[.int .i64 ((j : Int) + 1), .slice A2 T2.length c2, .pointer (some ⟨ba, 0, none⟩), .pointer (some ⟨bb, 0, none⟩), .pointer (some ⟨bl, 0, none⟩), .pointer (some ⟨bw, 0, none⟩), .pointer (some ⟨bt, 0, none⟩), .pointer (some ⟨bk, 0, none⟩), .pointer (some ⟨bf, 0, none⟩)] W (FillPost bl bw bt q2 W) from fun A2 c2 W h1 h2 h3 h4 => by
          have e1 := runS_in a b t (fillsTo K left n j) s M HINB.out
          have e2 := fillsTo_len K left n j
          have e3 := HMM.out
          rw [Nat.pow_succ] at e3
          have e4 : (j - n + 1) * 52 ^ left ≤ 52 ^ left * 52 := by rw [Nat.mul_comm]; exact Nat.mul_le_mul_left _ (by omega)
          rw [Nat.succ_mul] at e4
          have e5 := HIH.out (j + 1) A2 c2 T2 _ _ W (by rw [← hT2]; have := HT.out; simp; omega) (by rw [← hT2]; intro x hx; simp at hx; rcases hx with hx | rfl; exact HXT.out x hx; omega) (by omega) h1 h2 h3 h4 e1 (by omega)
          rw [hq2, show ((j + 1 : Nat) : Int) = (j : Int) + 1 by omega] at e5
          exact e5)
        have HT2 := Aside0.mk hT2
        have HSL := Aside0.mk (show (t.length + 1) * 8 ≤ 140737488355328 by have := HT.out; omega)
        clear kk hT2 hq2
        have hwrap : IntKind.i64.wrap ((j : Int) + 1) = (j : Int) + 1 := IntWalk.i64_in _ (by omega)
        go_region_held3 (fun W' => W'.cell? ⟨bf, 0, none⟩ = some (Value.func (.func 10) #[] #[.pointer (some ⟨ba, 0, none⟩), .pointer (some ⟨bb, 0, none⟩), .pointer (some ⟨bl, 0, none⟩), .pointer (some ⟨bw, 0, none⟩), .pointer (some ⟨bt, 0, none⟩), .pointer (some ⟨bk, 0, none⟩), .pointer (some ⟨bf, 0, none⟩)]))
          (first | assumption | go_keep)
          (first
            | (refine Kd.R_append_rows_step (Kd.int .i64) (w0 := wr) wr.heap.size (by rfl) (.tmp 62) (.tmp 64) 22 3 (.int .i64 0) 8 (by rfl) Try.underlying22 info3 rfl (by decide) (by omega) v1 t [(j : Int)] _ _ _ (fun _ => True) (fun _ => False) (by rfl) (by rfl) ?aO ?aR (fun _ _ h => h) (fun _ h => h.elim) (fun _ _ => trivial) ?aB ?aS HSL.out ?_; (case aO => first | exact Kd.R_alloc HR1.out _ | exact HR1.out); (case aR => first | exact C_one (blk_new w1 _) | exact C_one (blk_below (blk_new wr.drew _) HX1.out)); (case aB => first | exact below_alloc HB1.out _ | exact HB1.out); (case aS => first | exact (below_alloc HB1.out _).size | exact HB1.out.size); intro v2 w2 ho2 hb2 hg2 hat2; rw [HT2.out] at ho2; have hk2 := (hb2.cell (p := ⟨bf, 0, none⟩) HKB.out).trans kf; obtain ⟨A2, c2, rfl, hc2, hC2⟩ := Kd.R_reads ho2; have HAD := Aside0.mk (ad_new ho2 HBL.out); have HB2 := Aside0.mk hb2; have HC2' := Aside0.mk hC2; clear ho2 hb2 hg2 hat2 hc2 hC2)
            | (go_at_call 13; refine (clone_at wr _ (by repeat (first | exact Below.refl _ _ | apply below_alloc | apply below_drew)) At ct t HCwr.out HT1.out (by have := HT.out; omega)).mono ?_; rintro e w1 ⟨v1, rfl, hr1, hb1, hx1⟩; have hk1 := (hb1.cell (p := ⟨bf, 0, none⟩) HKB.out).trans kf; have HR1 := Aside0.mk hr1; have HB1 := Aside0.mk hb1; have HX1 := Aside0.mk hx1; clear hr1 hb1 hx1)
            | (go_at_call 10; refine (HIH2.out A2 c2 w2 HC2'.out HAD.out (HE2.out.same ((SameBut.of_below HB2.out (Nat.le_refl _) _))) (HC2.out.same (SameBut.of_below HB2.out (Nat.le_refl _) _))).mono ?_; rintro e w5 ⟨rfl, hs5, hct5⟩; have hk5 := (blk_cell (hs5.blk (blk_below HE2.out.pf HB2.out) HE2.out.na.2.2.2) 0); simp only [List.getElem?_toArray, List.getElem?_cons_zero] at hk5; have HS5 := Aside0.mk hs5; have HCT5 := Aside0.mk hct5; clear hs5 hct5))
        all_goals
          clear hwrap
          go_wp2
          go_roundw
          case rel => exact ⟨j + 1, by omega, by omega, by go_num, ⟨(HSB.out.trans (SameBut.of_below HB2.out (Nat.le_refl _) _)).trans HS5.out, by rw [HQ.out]; exact HCT5.out⟩⟩
          case measure => simp [intOf]; omega
    · obtain rfl : j = 52 := by omega
      clear hCT hE2 HJ
      go_wp2
      go_end0
      exact ⟨rfl, HSB.out, HC2.out⟩
end Go.Proofs.Ytpcmodmghpijeaa.Q
namespace Go.Proofs.Ytpcmodmghpijeaa.Q
open Go.RowKit Go.Shelf Go.Proofs.YtpcmodmghpijeaaW.PrintWords Go.Proofs.YtpcmodmghpijeaaW.PrintLast Go.Proofs.YtpcmodmghpijeaaW.PrintMore
set_option linter.unusedVariables false
set_option linter.unusedSimpArgs false
attribute [local go_sem] Oper.semAt_some
theorem fill_any (bl bw bt ba bb bk bf : Nat) (Aa Ab Ak : Option Addr) (ca cb ck : Nat) (a b K : List Int) (hd : bl ≠ bw ∧ bl ≠ bt ∧ bw ≠ bt) (h2a : a.length = 2) (h2b : b.length = 2) (xra : ∀ x ∈ a, 0 ≤ x ∧ x < 52) (xrb : ∀ x ∈ b, 0 ≤ x ∧ x < 52) :
    ∀ (left : Nat), left ≤ 4 → ∀ (n : Nat) (At : Option Addr) (ct : Nat) (t : List Int) (s : Int × Int × Int) (M : Nat) (w : World), t.length + left = 5 → (∀ x ∈ t, 0 ≤ x ∧ x < 52) → n ≤ 52 → Kd.C (Kd.int .i64) w At t.length t → (∀ ad, At = some ad → ad.block ∉ [bl, bw, bt]) → FE bl bw bt ba bb bk bf Aa Ab Ak ca cb ck a b K w → CT bl bw bt s w → inB s M → M + 52 ^ left ≤ 1000000000 →
      Calls Try.prog 10 #[.int .i64 (n : Int), .slice At t.length ct, .pointer (some ⟨ba, 0, none⟩), .pointer (some ⟨bb, 0, none⟩), .pointer (some ⟨bl, 0, none⟩), .pointer (some ⟨bw, 0, none⟩), .pointer (some ⟨bt, 0, none⟩), .pointer (some ⟨bk, 0, none⟩), .pointer (some ⟨bf, 0, none⟩)] w
      (FillPost bl bw bt (runS a b t s (fillsF K left n)) w)
  | 0, _ => fun n At ct t s M w ht hx _ hC _ he hs hb hM => by
    have h := fill_zero bl bw bt ba bb bk bf Aa Ab Ak ca cb ck a b K hd h2a h2b xra xrb n At ct t s M w (by omega) hx hC he hs hb (by simpa using hM)
    simpa [runS, fillsF] using h
  | left + 1, h4 => fun n At ct t s M w ht hx hn hC hat he hs hb hM =>
    fill_succ bl bw bt ba bb bk bf Aa Ab Ak ca cb ck a b K hd left (by omega) (fill_any bl bw bt ba bb bk bf Aa Ab Ak ca cb ck a b K hd h2a h2b xra xrb left (by omega)) n At ct t s M w ht hn (by omega) hx hC hat he hs hb hM
def poker_Showdown.f (l0 l1 l2 : List Int) : Option (Int × Int × Int × Int) :=
  if l0.length = 2 ∧ l1.length = 2 ∧ 3 ≤ l2.length ∧ l2.length ≤ 5 then
    (poker_check.f (l0 ++ l1 ++ l2)).bind fun e =>
      if e = 0 then some ((runS l0 l1 l2 (0, 0, 0) (fillsF (l0 ++ l1 ++ l2) (5 - l2.length) 0)).2.1, (runS l0 l1 l2 (0, 0, 0) (fillsF (l0 ++ l1 ++ l2) (5 - l2.length) 0)).2.2, (runS l0 l1 l2 (0, 0, 0) (fillsF (l0 ++ l1 ++ l2) (5 - l2.length) 0)).1, 0)
      else some (0, 0, 0, e)
  else some (0, 0, 0, 11)
set_option maxHeartbeats 1000000 in
set_option maxRecDepth 100000 in
theorem show_bad (A0 : Option Addr) (c0 : Nat) (l0 : List Int) (A1 : Option Addr) (c1 : Nat) (l1 : List Int) (A2 : Option Addr) (c2 : Nat) (l2 : List Int) (w : World) (h : ¬ (l0.length = 2 ∧ l1.length = 2 ∧ 3 ≤ l2.length ∧ l2.length ≤ 5)) :
    Calls Try.prog 4 #[.slice A0 l0.length c0, .slice A1 l1.length c1, .slice A2 l2.length c2] w fun e w' => e = .returned (.tuple #[.int .i64 0, .int .i64 0, .int .i64 0, .int .i64 11]) ∧ Below w.heap.size w w' := by
  by_cases h0 : l0.length = 2
  · have e0 : ((l0.length : Int) != 2) = false := by simp; omega
    by_cases h1 : l1.length = 2
    · have e1 : ((l1.length : Int) != 2) = false := by simp; omega
      by_cases h2 : l2.length < 3
      · have e2 : decide ((l2.length : Int) < 3) = true := decide_eq_true (by omega)
        clear h h0 h1 h2
        go_enter Try.func4, Try.ntmps4
        go_wp2_with fail
        exact bodyPost_ret (v := .tuple #[.int .i64 0, .int .i64 0, .int .i64 0, .int .i64 11]) (by simp [results, Try.results4, go_sem]) rfl ⟨rfl, by repeat (first | exact Below.refl _ _ | apply below_alloc)⟩
      · have e2 : decide ((l2.length : Int) < 3) = false := decide_eq_false (by omega)
        have e3 : decide ((l2.length : Int) > 5) = true := decide_eq_true (by omega)
        have e4 : decide (5 < (l2.length : Int)) = true := decide_eq_true (by omega)
        clear h h0 h1 h2
        go_enter Try.func4, Try.ntmps4
        go_wp2_with fail
        exact bodyPost_ret (v := .tuple #[.int .i64 0, .int .i64 0, .int .i64 0, .int .i64 11]) (by simp [results, Try.results4, go_sem]) rfl ⟨rfl, by repeat (first | exact Below.refl _ _ | apply below_alloc)⟩
    · have e1 : ((l1.length : Int) != 2) = true := by simp; omega
      clear h h0 h1
      go_enter Try.func4, Try.ntmps4
      go_wp2_with fail
      exact bodyPost_ret (v := .tuple #[.int .i64 0, .int .i64 0, .int .i64 0, .int .i64 11]) (by simp [results, Try.results4, go_sem]) rfl ⟨rfl, by repeat (first | exact Below.refl _ _ | apply below_alloc)⟩
  · have e0 : ((l0.length : Int) != 2) = true := by simp; omega
    clear h h0
    go_enter Try.func4, Try.ntmps4
    go_wp2_with fail
    exact bodyPost_ret (v := .tuple #[.int .i64 0, .int .i64 0, .int .i64 0, .int .i64 11]) (by simp [results, Try.results4, go_sem]) rfl ⟨rfl, by repeat (first | exact Below.refl _ _ | apply below_alloc)⟩
theorem ad_old {W : World} {A : Option Addr} {l : List Int} (hC : Kd.C (Kd.int .i64) W A l.length l) (hp : 0 < l.length) {bl bw bt : Nat} (h : W.heap.size ≤ bl ∧ W.heap.size ≤ bw ∧ W.heap.size ≤ bt) : ∀ ad, A = some ad → ad.block ∉ [bl, bw, bt] := by
  rintro ad rfl
  obtain ⟨ad', e', hc⟩ := Kd.at_int hC 0 (by omega) (by omega)
  cases e'
  have := World.block_lt_of_cell? _ _ hc
  rw [show (ad.add (Int.toNat 0)).block = ad.block by unfold Addr.add; split <;> rfl] at this
  simp; omega
set_option maxHeartbeats 4000000 in
set_option maxRecDepth 100000 in
theorem show_good (A0 : Option Addr) (c0 : Nat) (l0 : List Int) (A1 : Option Addr) (c1 : Nat) (l1 : List Int) (A2 : Option Addr) (c2 : Nat) (l2 : List Int) (w : World) (h : l0.length = 2 ∧ l1.length = 2 ∧ 3 ≤ l2.length ∧ l2.length ≤ 5)
    (hr0 : Kd.C (Kd.int .i64) w A0 l0.length l0) (hr1 : Kd.C (Kd.int .i64) w A1 l1.length l1) (hr2 : Kd.C (Kd.int .i64) w A2 l2.length l2) (e : Int) (hck : poker_check.f (l0 ++ l1 ++ l2) = some e) (r1 r2 r3 : Int)
    (hbad : e ≠ 0 → r1 = 0 ∧ r2 = 0 ∧ r3 = 0) (hgood : e = 0 → (r3, r1, r2) = runS l0 l1 l2 (0, 0, 0) (fillsF (l0 ++ l1 ++ l2) (5 - l2.length) 0)) :
    Calls Try.prog 4 #[.slice A0 l0.length c0, .slice A1 l1.length c1, .slice A2 l2.length c2] w fun e' w' => e' = .returned (.tuple #[.int .i64 r1, .int .i64 r2, .int .i64 r3, .int .i64 e]) ∧ Below w.heap.size w w' := by
  obtain ⟨h0, h1, h2, h3⟩ := h
  have e0 : ((l0.length : Int) != 2) = false := by simp; omega
  have e1 : ((l1.length : Int) != 2) = false := by simp; omega
  have e2 : decide ((l2.length : Int) < 3) = false := decide_eq_false (by omega)
  have e3 : decide ((l2.length : Int) > 5) = false := decide_eq_false (by omega)
  have e4 : decide (5 < (l2.length : Int)) = false := decide_eq_false (by omega)
  have HL := Aside0.mk (show l0.length = 2 ∧ l1.length = 2 ∧ 3 ≤ l2.length ∧ l2.length ≤ 5 from ⟨h0, h1, h2, h3⟩)
  have HR0 := Aside0.mk hr0
  have HR1 := Aside0.mk hr1
  have HR2 := Aside0.mk hr2
  have HCK := Aside0.mk hck
  have HBAD := Aside0.mk hbad
  have HGOOD := Aside0.mk hgood
  obtain ⟨K, hK⟩ : ∃ K, l0 ++ l1 ++ l2 = K := ⟨_, rfl⟩
  have HK := Aside0.mk hK
  rw [hK] at HCK HGOOD
  clear h0 h1 h2 h3 hr0 hr1 hr2 hck hbad hgood hK
  have hcat := fun B W hB a0 a1 a2 => concat3 B A0 A1 A2 c0 c1 c2 l0 l1 l2 W hB a0 a1 a2 (by have := HL.out; omega) (by have := HL.out; omega)
  rw [HK.out] at hcat
  have HCAT := Aside0.mk hcat
  clear hcat
  go_enter Try.func4, Try.ntmps4
  go_wp2_with fail
  go_at_call 8
  obtain ⟨W5, hW⟩ : ∃ W5, (((((w.alloc (.cells #[.slice A0 l0.length c0] 22)).alloc (.cells #[.slice A1 l1.length c1] 22)).alloc (.cells #[.int .i64 0] 3)).alloc (.cells #[.int .i64 0] 3)).alloc (.cells #[.int .i64 0] 3)) = W5 := ⟨_, rfl⟩
  have hz5 : W5.heap.size = w.heap.size + 1 + 1 + 1 + 1 + 1 := by rw [← hW]; simp
  have HB5 := Aside0.mk (show Below w.heap.size w W5 by rw [← hW]; repeat (first | exact Below.refl _ _ | apply below_alloc))
  have ba : W5.heap[w.heap.size]? = some (.cells #[.slice A0 l0.length c0] 22 (0, 0)) := by rw [← hW]; exact blk_alloc (blk_alloc (blk_alloc (blk_alloc (blk_new _ _) _) _) _) _
  have bb : W5.heap[w.heap.size + 1]? = some (.cells #[.slice A1 l1.length c1] 22 (0, 0)) := by rw [← hW]; refine blk_alloc (blk_alloc (blk_alloc ?_ _) _) _; have := blk_new (w.alloc (.cells #[.slice A0 l0.length c0] 22)) (.cells #[.slice A1 l1.length c1] 22); simpa using this
  have bw : W5.heap[w.heap.size + 1 + 1]? = some (.cells #[.int .i64 0] 3 (0, 0)) := by rw [← hW]; refine blk_alloc (blk_alloc ?_ _) _; have := blk_new ((w.alloc (.cells #[.slice A0 l0.length c0] 22)).alloc (.cells #[.slice A1 l1.length c1] 22)) (.cells #[.int .i64 0] 3); simpa using this
  have bt : W5.heap[w.heap.size + 1 + 1 + 1]? = some (.cells #[.int .i64 0] 3 (0, 0)) := by rw [← hW]; refine blk_alloc ?_ _; have := blk_new (((w.alloc (.cells #[.slice A0 l0.length c0] 22)).alloc (.cells #[.slice A1 l1.length c1] 22)).alloc (.cells #[.int .i64 0] 3)) (.cells #[.int .i64 0] 3); simpa using this
  have bl : W5.heap[w.heap.size + 1 + 1 + 1 + 1]? = some (.cells #[.int .i64 0] 3 (0, 0)) := by rw [← hW]; have := blk_new ((((w.alloc (.cells #[.slice A0 l0.length c0] 22)).alloc (.cells #[.slice A1 l1.length c1] 22)).alloc (.cells #[.int .i64 0] 3)).alloc (.cells #[.int .i64 0] 3)) (.cells #[.int .i64 0] 3); simpa using this
  rw [hW, ← hz5]
  have HW5 := Aside0.mk (And.intro ba (And.intro bb (And.intro bw (And.intro bt bl))))
  clear hW ba bb bw bt bl
  refine (HCAT.out W5.heap.size _ (blk_new W5 _) (Kd.C_below HR0.out (below_alloc HB5.out _)) (Kd.C_below HR1.out (below_alloc HB5.out _)) (Kd.C_below HR2.out (below_alloc HB5.out _))).mono ?_
  rintro e' w1 ⟨v, rfl, hrk, hb1⟩
  obtain ⟨Ak, ck, rfl, hck, hCk⟩ := Kd.R_reads hrk
  have hSB1 := SameBut.trans ((SameBut.refl [] W5).alloc (.cells #[.slice A0 l0.length c0, .slice A1 l1.length c1, .slice A2 l2.length c2] 22)) (SameBut.of_below hb1 (by simp) [])
  have HSB1 := Aside0.mk hSB1
  have HCKK := Aside0.mk hck
  have HCk := Aside0.mk hCk
  have HAK := Aside0.mk (show ∀ ad, Ak = some ad → ad.block ∉ [w.heap.size + 1 + 1 + 1 + 1, w.heap.size + 1 + 1, w.heap.size + 1 + 1 + 1] from by
    rintro ad rfl
    obtain ⟨g, rfl⟩ := Kd.R_head hrk
    have := Kd.R_base hrk g rfl
    simp at this
    simp; omega)
  have hz1 : W5.heap.size ≤ w1.heap.size := hSB1.size
  clear hb1 hrk hck hCk hSB1
  go_wp2_with fail
  go_at_call 9
  refine (poker_check.calls Ak ck K e _ (Kd.C_below HCk.out (below_alloc (Below.refl _ _) _)) HCKK.out HCK.out).mono ?_
  rintro e' W7 ⟨rfl, hb7⟩
  have hSB7 := HSB1.out.trans (SameBut.trans ((SameBut.refl [] w1).alloc (.cells #[.slice Ak K.length ck] 22)) (SameBut.of_below hb7 (by simp) []))
  have hbk : W7.heap[w1.heap.size]? = some (.cells #[.slice Ak K.length ck] 22 (0, 0)) := blk_below (blk_new w1 _) hb7
  have HC7 := Aside0.mk (Kd.C_below (Kd.C_below HCk.out (below_alloc (Below.refl _ _) (.cells #[.slice Ak K.length ck] 22))) hb7)
  have HB7 := Aside0.mk (hSB7.below HB5.out (by simp) (by omega))
  have HSB7 := Aside0.mk hSB7
  have HBK := Aside0.mk hbk
  have ha7 := hSB7.blk HW5.out.1 (by simp)
  have hb7' := hSB7.blk HW5.out.2.1 (by simp)
  have hw7 := hSB7.blk HW5.out.2.2.1 (by simp)
  have ht7 := hSB7.blk HW5.out.2.2.2.1 (by simp)
  have hl7 := hSB7.blk HW5.out.2.2.2.2 (by simp)
  clear hb7 hSB7
  by_cases he : e = 0
  · subst he
    have HG := Aside0.mk (HGOOD.out rfl)
    clear HBAD HGOOD
    obtain ⟨W8, hW8⟩ : ∃ W8, W7.alloc (.cells #[.func (.func 10) #[] #[.pointer (some ⟨w.heap.size, 0, none⟩), .pointer (some ⟨w.heap.size + 1, 0, none⟩), .pointer (some ⟨w.heap.size + 1 + 1 + 1 + 1, 0, none⟩), .pointer (some ⟨w.heap.size + 1 + 1, 0, none⟩), .pointer (some ⟨w.heap.size + 1 + 1 + 1, 0, none⟩), .pointer (some ⟨w1.heap.size, 0, none⟩), .pointer (some ⟨W7.heap.size, 0, none⟩)]] 32) = W8 := ⟨_, rfl⟩
    have hbf : W8.heap[W7.heap.size]? = some (.cells #[.func (.func 10) #[] #[.pointer (some ⟨w.heap.size, 0, none⟩), .pointer (some ⟨w.heap.size + 1, 0, none⟩), .pointer (some ⟨w.heap.size + 1 + 1 + 1 + 1, 0, none⟩), .pointer (some ⟨w.heap.size + 1 + 1, 0, none⟩), .pointer (some ⟨w.heap.size + 1 + 1 + 1, 0, none⟩), .pointer (some ⟨w1.heap.size, 0, none⟩), .pointer (some ⟨W7.heap.size, 0, none⟩)]] 32 (0, 0)) := by rw [← hW8]; exact blk_new _ _
    have hB8 : Below w.heap.size w W8 := by rw [← hW8]; exact below_alloc HB7.out _
    have hz7 := HSB7.out.size
    have hk7 := blk_lt HBK.out
    have hS78 : SameBut [] W7 W8 := by rw [← hW8]; exact (SameBut.refl _ _).alloc _
    have HFE := Aside0.mk (show FE (w.heap.size + 1 + 1 + 1 + 1) (w.heap.size + 1 + 1) (w.heap.size + 1 + 1 + 1) w.heap.size (w.heap.size + 1) w1.heap.size W7.heap.size A0 A1 Ak c0 c1 ck l0 l1 K W8 from
      ⟨hS78.blk ha7 (by simp), hS78.blk hb7' (by simp), hS78.blk HBK.out (by simp), hbf, by refine ⟨?_, ?_, ?_, ?_⟩ <;> simp <;> omega, Kd.C_below HR0.out hB8, Kd.C_below HR1.out hB8, Kd.C_below HC7.out (by rw [← hW8]; exact below_alloc (Below.refl _ _) _),
        ad_old HR0.out (by have := HL.out; omega) (by omega), ad_old HR1.out (by have := HL.out; omega) (by omega), HAK.out⟩)
    have HCT := Aside0.mk (show CT (w.heap.size + 1 + 1 + 1 + 1) (w.heap.size + 1 + 1) (w.heap.size + 1 + 1 + 1) (0, 0, 0) W8 from ⟨hS78.blk hl7 (by simp), hS78.blk hw7 (by simp), hS78.blk ht7 (by simp)⟩)
    have hK2 : K = l0 ++ l1 ++ l2 := HK.out.symm
    have hrange : ∀ x ∈ K, 0 ≤ x ∧ x < 52 := by
      intro x hx
      have hc := HCK.out
      unfold poker_check.f at hc
      split at hc
      · rename_i ha
        have := List.all_eq_true.1 ha x hx
        simpa [poker_check.ok] using this
      · injection hc with hc; omega
    have HFILL := Aside0.mk (fill_any (w.heap.size + 1 + 1 + 1 + 1) (w.heap.size + 1 + 1) (w.heap.size + 1 + 1 + 1) w.heap.size (w.heap.size + 1) w1.heap.size W7.heap.size A0 A1 Ak c0 c1 ck l0 l1 K (by omega) HL.out.1 HL.out.2.1 (fun x hx => hrange x (by rw [hK2]; simp [hx])) (fun x hx => hrange x (by rw [hK2]; simp [hx]))
      (5 - l2.length) (by have := HL.out; omega) 0 A2 c2 l2 (0, 0, 0) 0 W8 (by have := HL.out; omega) (fun x hx => hrange x (by rw [hK2]; simp [hx])) (by omega) (Kd.C_below HR2.out hB8) (ad_old HR2.out (by have := HL.out; omega) (by omega)) HFE.out HCT.out (by simp [inB])
      (by have h5 : 52 ^ (5 - l2.length) ≤ 52 ^ 2 := Nat.pow_le_pow_right (by omega) (by have := HL.out; omega)
          omega))
    rw [← HG.out] at HFILL
    have HB8 := Aside0.mk hB8
    have HBF := Aside0.mk hbf
    have HW8 := Aside0.mk hW8
    have HZ := Aside0.mk (show w.heap.size + 1 + 1 + 1 + 1 < W8.heap.size from blk_lt HCT.out.l)
    clear ha7 hb7' hw7 ht7 hl7 hbk hbf hB8 hz7 hk7 hS78 hK2 hrange hz1 hW8 hz5
    go_wp2_with fail
    rw [HW8.out]
    go_at_call 10
    refine HFILL.out.mono ?_
    rintro e' W9 ⟨rfl, hs9, hct9⟩
    have l9 := blk_cell hct9.l 0
    have w9 := blk_cell hct9.w 0
    have t9 := blk_cell hct9.t 0
    have fl9 := blk_frozen hct9.l 0
    have fw9 := blk_frozen hct9.w 0
    have ft9 := blk_frozen hct9.t 0
    simp only [List.getElem?_toArray, List.getElem?_cons_zero] at l9 w9 t9
    have HB9 := Aside0.mk (hs9.below HB8.out (by intro k hk; simp at hk; omega) (by have := HZ.out; omega))
    clear hs9 hct9
    go_wp2_with fail
    go_region
    all_goals
      go_wp2_with fail
      exact bodyPost_ret (v := .tuple #[.int .i64 r1, .int .i64 r2, .int .i64 r3, .int .i64 0]) (by simp [results, Try.results4, go_sem, w9, t9, l9]) rfl ⟨rfl, below_drew (((HB9.out.setCell (by simp; omega) _).setCell (by simp; omega) _).setCell (by simp; omega) _)⟩
  · obtain ⟨rfl, rfl, rfl⟩ := HBAD.out he
    have hne : ((e : Int) != 0) = true := by simpa using he
    have cw7 := blk_cell hw7 0
    have ct7 := blk_cell ht7 0
    have cl7 := blk_cell hl7 0
    have fw7 := blk_frozen hw7 0
    have ft7 := blk_frozen ht7 0
    have fl7 := blk_frozen hl7 0
    simp only [List.getElem?_toArray, List.getElem?_cons_zero] at cw7 ct7 cl7
    clear HGOOD he
    go_wp2_with fail
    exact bodyPost_ret (v := .tuple #[.int .i64 0, .int .i64 0, .int .i64 0, .int .i64 e]) (by simp [results, Try.results4, go_sem, cw7, ct7, cl7]) rfl ⟨rfl, ((HB7.out.setCell (by simp; omega) _).setCell (by simp; omega) _).setCell (by simp; omega) _⟩
theorem poker_Showdown.calls (A0 : Option Addr) (c0 : Nat) (l0 : List Int) (A1 : Option Addr) (c1 : Nat) (l1 : List Int) (A2 : Option Addr) (c2 : Nat) (l2 : List Int) (r1 : Int) (r2 : Int) (r3 : Int) (r4 : Int) (w : World) (hr0 : Kd.C (Kd.int .i64) w A0 l0.length l0) (hc0 : l0.length ≤ c0) (hr1 : Kd.C (Kd.int .i64) w A1 l1.length l1) (hc1 : l1.length ≤ c1) (hr2 : Kd.C (Kd.int .i64) w A2 l2.length l2) (hc2 : l2.length ≤ c2) (h : poker_Showdown.f l0 l1 l2 = some (r1, r2, r3, r4)) :
    Calls Try.prog 4 #[.slice A0 l0.length c0, .slice A1 l1.length c1, .slice A2 l2.length c2] w fun e w' => e = .returned (.tuple #[.int .i64 r1, .int .i64 r2, .int .i64 r3, .int .i64 r4]) ∧ Below w.heap.size w w' := by
  unfold poker_Showdown.f at h
  split at h
  · rename_i hl
    obtain ⟨e, he, h2⟩ := Option.bind_eq_some_iff.1 h
    by_cases h0 : e = 0
    · rw [if_pos h0] at h2
      injection h2 with h2
      simp only [Prod.mk.injEq] at h2
      obtain ⟨e1, e2, e3, e4⟩ := h2
      subst h0
      subst e4
      exact show_good A0 c0 l0 A1 c1 l1 A2 c2 l2 w hl hr0 hr1 hr2 0 he r1 r2 r3 (fun h => absurd rfl h) (fun _ => by rw [← e1, ← e2, ← e3])
    · rw [if_neg h0] at h2
      injection h2 with h2
      simp only [Prod.mk.injEq] at h2
      obtain ⟨e1, e2, e3, e4⟩ := h2
      subst e4
      exact show_good A0 c0 l0 A1 c1 l1 A2 c2 l2 w hl hr0 hr1 hr2 e he r1 r2 r3 (fun _ => ⟨e1.symm, e2.symm, e3.symm⟩) (fun h => absurd h h0)
  · rename_i hl
    injection h with h
    simp only [Prod.mk.injEq] at h
    obtain ⟨rfl, rfl, rfl, rfl⟩ := h
    exact show_bad A0 c0 l0 A1 c1 l1 A2 c2 l2 w hl
end Go.Proofs.Ytpcmodmghpijeaa.Q
