import Derived.Test.YtpcmodmghpijeaaGcat
import Derived.Test.YtpcmodmghpijeaaGbest
namespace Go.Proofs.Ytpcmodmghpijeaa.Q
open Go.RowKit Go.Shelf Go.Proofs.YtpcmodmghpijeaaW.PrintWords Go.Proofs.YtpcmodmghpijeaaW.PrintLast Go.Proofs.YtpcmodmghpijeaaW.PrintMore
set_option linter.unusedVariables false
set_option linter.unusedSimpArgs false
attribute [local go_sem] Oper.semAt_some
theorem clone_list (A0 : Option Addr) (c0 : Nat) (h : List Int) (w : World) (hC : Kd.C (Kd.int .i64) w A0 h.length h) (hne : 0 < h.length) (hl : h.length ≤ 1000) :
    Calls Try.prog 13 #[.slice A0 h.length c0] w fun e w' => ∃ v : Value, e = .returned v ∧ Kd.R (Kd.int .i64) 3 w' w.heap.size (fun _ => True) v h ∧ Below w.heap.size w w' := by
  obtain ⟨ad, rfl, -⟩ := Kd.at_int hC 0 (by omega) (by omega)
  have HC := Aside0.mk hC
  clear hC
  have hq : ∀ w1, (binOp .eql 22 (.slice (some ad) h.length c0) (.slice none 0 0)).run Try.prog w1 = .ok (.bool false) w1 := fun w1 => Go.Lib.run_eql_slice_nil w1 22 3 (some ad) h.length c0 0 0 Try.underlying22
  go_enter Try.func13, Try.ntmps13
  have HE := Aside0.mk (show Kd.R (Kd.int .i64) 3 (w.alloc (.cells #[] 3)) w.heap.size (fun _ => True) (.slice (some ⟨w.heap.size, 0, none⟩) 0 0) [] from
    Kd.R_of_own (h1 := fun _ => rfl) (World.ownsRow_lit (e := 3) (size := 1) w #[] 0 (Nat.le_refl _) (by decide) rfl) (fun _ _ => trivial))
  have HB := Aside0.mk (show Below w.heap.size w (w.alloc (.cells #[] 3)) from below_alloc (Below.refl _ _) _)
  have HS := Aside0.mk (show w.heap.size ≤ (w.alloc (.cells #[] 3)).heap.size from by simp)
  go_wp2_with (at_builtin; go_loud (refine Kd.R_append_rows (Kd.int .i64) (w0 := w) w.heap.size rfl (.tmp 5) (.tmp 6) 22 3 (.int .i64 0) 8 rfl Try.underlying22 info3 rfl (by decide) (by omega) (.slice (some ⟨w.heap.size, 0, none⟩) 0 0) ([] : List Int) h _ _ _ (fun _ => True) (fun _ => False) rfl rfl ?aO ?aR (fun _ _ h => h) (fun _ h => h.elim) ?aF ?aB ?aS ?aL ?_; (case aO => exact HE.out); (case aR => exact (Kd.C_below HC.out HB.out)); (case aF => exact (fun _ _ => trivial)); (case aB => exact HB.out); (case aS => exact HS.out); (case aL => simp; omega); intro v1 w1 ho hb hg hat; have HO1 := Aside0.mk ho; have HB1 := Aside0.mk hb; clear ho hb hg hat))
  go_ret
  exact ⟨_, rfl, HO1.out, HB1.out⟩
theorem C_but {E : List Nat} {A B : World} {Ad : Option Addr} {l : List Int} (h : Kd.C (Kd.int .i64) A Ad l.length l) (hs : SameBut E A B) (hb : ∀ ad, Ad = some ad → ad.block ∉ E) : Kd.C (Kd.int .i64) B Ad l.length l := by
  refine ⟨h.1, h.2.1, fun hn => ?_⟩
  obtain ⟨ad, e, hc⟩ := h.2.2 hn
  refine ⟨ad, e, fun j p hj => ?_⟩
  obtain ⟨c, h1, h2, h3⟩ := hc j p hj
  refine ⟨c, h1, h2, fun i u hu => ?_⟩
  have h4 := h3 i u hu
  have hbk : ∀ q, (ad.add q).block = ad.block := fun q => by unfold Addr.add; split <;> rfl
  have hlt := World.block_lt_of_cell? _ _ h4
  have hh := hs.same _ hlt (by rw [hbk]; exact hb ad e)
  unfold World.cell? at h4 ⊢
  rw [hh]
  exact h4
def stepS (a b : List Int) (s : Int × Int × Int) (t : List Int) : Int × Int × Int :=
  (s.1 + 1, (if (bestF (a ++ t) (picks 7 5 0)).1 > (bestF (b ++ t) (picks 7 5 0)).1 then s.2.1 + 1 else s.2.1),
    (if (bestF (a ++ t) (picks 7 5 0)).1 > (bestF (b ++ t) (picks 7 5 0)).1 then s.2.2 else if (bestF (a ++ t) (picks 7 5 0)).1 = (bestF (b ++ t) (picks 7 5 0)).1 then s.2.2 + 1 else s.2.2))
def fillsF (K : List Int) : Nat → Nat → List (List Int)
  | 0, _ => [[]]
  | left + 1, start => (List.range' start (52 - start)).flatMap fun (c : Nat) => if (c : Int) ∈ K then [] else (fillsF K left (c + 1)).map ((c : Int) :: ·)
structure FE (bl bw bt ba bb bk bf : Nat) (Aa Ab Ak : Option Addr) (ca cb ck : Nat) (a b K : List Int) (W : World) : Prop where
  pa : W.heap[ba]? = some (.cells #[.slice Aa a.length ca] 22 (0, 0))
  pb : W.heap[bb]? = some (.cells #[.slice Ab b.length cb] 22 (0, 0))
  pk : W.heap[bk]? = some (.cells #[.slice Ak K.length ck] 22 (0, 0))
  pf : W.heap[bf]? = some (.cells #[.func (.func 10) #[] #[.pointer (some ⟨ba, 0, none⟩), .pointer (some ⟨bb, 0, none⟩), .pointer (some ⟨bl, 0, none⟩), .pointer (some ⟨bw, 0, none⟩), .pointer (some ⟨bt, 0, none⟩), .pointer (some ⟨bk, 0, none⟩), .pointer (some ⟨bf, 0, none⟩)]] 32 (0, 0))
  na : ba ∉ [bl, bw, bt] ∧ bb ∉ [bl, bw, bt] ∧ bk ∉ [bl, bw, bt] ∧ bf ∉ [bl, bw, bt]
  ra : Kd.C (Kd.int .i64) W Aa a.length a
  rb : Kd.C (Kd.int .i64) W Ab b.length b
  rk : Kd.C (Kd.int .i64) W Ak K.length K
  xa : ∀ ad, Aa = some ad → ad.block ∉ [bl, bw, bt]
  xb : ∀ ad, Ab = some ad → ad.block ∉ [bl, bw, bt]
  xk : ∀ ad, Ak = some ad → ad.block ∉ [bl, bw, bt]
theorem FE.same {bl bw bt ba bb bk bf : Nat} {Aa Ab Ak : Option Addr} {ca cb ck : Nat} {a b K : List Int} {A B : World} (h : FE bl bw bt ba bb bk bf Aa Ab Ak ca cb ck a b K A) (hs : SameBut [bl, bw, bt] A B) : FE bl bw bt ba bb bk bf Aa Ab Ak ca cb ck a b K B :=
  ⟨hs.blk h.pa h.na.1, hs.blk h.pb h.na.2.1, hs.blk h.pk h.na.2.2.1, hs.blk h.pf h.na.2.2.2, h.na, C_but h.ra hs h.xa, C_but h.rb hs h.xb, C_but h.rk hs h.xk, h.xa, h.xb, h.xk⟩
structure CT (bl bw bt : Nat) (s : Int × Int × Int) (W : World) : Prop where
  l : W.heap[bl]? = some (.cells #[.int .i64 s.1] 3 (0, 0))
  w : W.heap[bw]? = some (.cells #[.int .i64 s.2.1] 3 (0, 0))
  t : W.heap[bt]? = some (.cells #[.int .i64 s.2.2] 3 (0, 0))
theorem CT.same {bl bw bt : Nat} {s : Int × Int × Int} {A B : World} (h : CT bl bw bt s A) (hs : SameBut [] A B) : CT bl bw bt s B := ⟨hs.blk h.l (by simp), hs.blk h.w (by simp), hs.blk h.t (by simp)⟩
theorem best_val (l : List Int) (h7 : l.length = 7) (hr : ∀ x ∈ l, 0 ≤ x ∧ x < 52) : poker_best.f l = some ((bestF l (picks 7 5 0)).1, (bestF l (picks 7 5 0)).2) := by
  unfold poker_best.f
  rw [if_pos ⟨by omega, by omega, hr⟩, h7]
end Go.Proofs.Ytpcmodmghpijeaa.Q
namespace Go.Proofs.Ytpcmodmghpijeaa.Q
open Go.RowKit Go.Shelf Go.Proofs.YtpcmodmghpijeaaW.PrintWords Go.Proofs.YtpcmodmghpijeaaW.PrintLast Go.Proofs.YtpcmodmghpijeaaW.PrintMore
set_option linter.unusedVariables false
set_option linter.unusedSimpArgs false
attribute [local go_sem] Oper.semAt_some
def FillPost (bl bw bt : Nat) (s : Int × Int × Int) (w : World) (e : Ending) (w' : World) : Prop := e = .returned (.tuple #[]) ∧ SameBut [bl, bw, bt] w w' ∧ CT bl bw bt s w'
set_option maxHeartbeats 2000000 in
set_option maxRecDepth 100000 in
theorem fill_zero (bl bw bt ba bb bk bf : Nat) (Aa Ab Ak : Option Addr) (ca cb ck : Nat) (a b K : List Int) (hd : bl ≠ bw ∧ bl ≠ bt ∧ bw ≠ bt) (h2a : a.length = 2) (h2b : b.length = 2) (xra : ∀ x ∈ a, 0 ≤ x ∧ x < 52) (xrb : ∀ x ∈ b, 0 ≤ x ∧ x < 52)
    (n : Int) (At : Option Addr) (ct : Nat) (t : List Int) (s : Int × Int × Int) (M : Nat) (w : World) (ht : t.length = 5) (xrt : ∀ x ∈ t, 0 ≤ x ∧ x < 52) (hC : Kd.C (Kd.int .i64) w At t.length t) (he : FE bl bw bt ba bb bk bf Aa Ab Ak ca cb ck a b K w) (hs : CT bl bw bt s w)
    (hb : (0 ≤ s.1 ∧ s.1 ≤ M) ∧ (0 ≤ s.2.1 ∧ s.2.1 ≤ M) ∧ (0 ≤ s.2.2 ∧ s.2.2 ≤ M)) (hM : M + 1 ≤ 1000000000) :
    Calls Try.prog 10 #[.int .i64 n, .slice At t.length ct, .pointer (some ⟨ba, 0, none⟩), .pointer (some ⟨bb, 0, none⟩), .pointer (some ⟨bl, 0, none⟩), .pointer (some ⟨bw, 0, none⟩), .pointer (some ⟨bt, 0, none⟩), .pointer (some ⟨bk, 0, none⟩), .pointer (some ⟨bf, 0, none⟩)] w
      (FillPost bl bw bt (stepS a b s t) w) := by
  have ka := blk_cell he.pa 0
  have kb := blk_cell he.pb 0
  simp only [List.getElem?_toArray, List.getElem?_cons_zero] at ka kb
  have h7a : (a ++ t).length = 7 := by simp; omega
  have h7b : (b ++ t).length = 7 := by simp; omega
  have HFa := Aside0.mk (best_val (a ++ t) h7a (by intro x hx; simp at hx; rcases hx with h | h; exact xra x h; exact xrt x h))
  have HFb := Aside0.mk (best_val (b ++ t) h7b (by intro x hx; simp at hx; rcases hx with h | h; exact xrb x h; exact xrt x h))
  obtain ⟨q, hq⟩ : ∃ q, stepS a b s t = q := ⟨_, rfl⟩
  rw [hq]
  have HSt2 := Aside0.mk hq.symm
  unfold stepS at HSt2
  obtain ⟨x, hx⟩ : ∃ x, (bestF (a ++ t) (picks 7 5 0)).1 = x := ⟨_, rfl⟩
  obtain ⟨y, hy⟩ : ∃ y, (bestF (b ++ t) (picks 7 5 0)).1 = y := ⟨_, rfl⟩
  rw [hx] at HFa HSt2
  rw [hy] at HFb HSt2
  clear hx hy hq
  obtain ⟨s1, s2, s3⟩ := s
  have HE := Aside0.mk he
  have HC := Aside0.mk hC
  have HS := Aside0.mk hs
  have hcat := fun W hB h0 h1 => concat2 w.heap.size Aa At ca ct a t W hB h0 h1 (by omega) (by omega)
  have hcat2 := fun B W hB h0 h1 => concat2 B Ab At cb ct b t W hB h0 h1 (by omega) (by omega)
  have ht5 : ((t.length : Int) == 5) = true := by simp; omega
  have H7a := Aside0.mk h7a
  have H7b := Aside0.mk h7b
  obtain ⟨tl, htl⟩ : ∃ tl, t.length = tl := ⟨_, rfl⟩
  have HCat := Aside0.mk hcat
  have HCat2 := Aside0.mk hcat2
  obtain ⟨La, hLa⟩ : ∃ L, a ++ t = L := ⟨_, rfl⟩
  obtain ⟨Lb, hLb⟩ : ∃ L, b ++ t = L := ⟨_, rfl⟩
  rw [hLa] at HCat HFa
  rw [hLb] at HCat2 HFb
  clear he hC hs hcat hcat2 h7a h7b ht h2a h2b xra xrb xrt htl hLa hLb H7a H7b
  go_enter Try.func10, Try.ntmps10
  go_wp2_with fail
  go_at_call 8
  refine (HCat.out _ (blk_new w _) (Kd.C_below HE.out.ra (below_alloc (Below.refl _ _) _)) (Kd.C_below HC.out (below_alloc (Below.refl _ _) _))).mono ?_
  rintro e w1 ⟨v, rfl, hr1, hb1⟩
  obtain ⟨A1, c1, rfl, hc1, hC1⟩ := Kd.R_reads hr1
  have HB1 := Aside0.mk (SameBut.trans ((SameBut.refl [] w).alloc (.cells #[.slice Aa a.length ca, .slice At t.length ct] 22)) (SameBut.of_below hb1 (by simp) []))
  have HC1 := Aside0.mk hC1
  have HCC1 := Aside0.mk hc1
  clear hb1 hr1 hC1 hc1
  go_wp2_with fail
  go_at_call 11
  refine (poker_best.calls A1 c1 La _ _ w1 HC1.out HCC1.out HFa.out).mono ?_
  rintro e w2 ⟨v2, rfl, hr2, hb2⟩
  have HB2 := Aside0.mk (SameBut.trans HB1.out (SameBut.of_below hb2 (Nat.le_refl _) []))
  have kb2 := blk_cell (HB2.out.blk HE.out.pb (by simp)) 0
  simp only [List.getElem?_toArray, List.getElem?_cons_zero] at kb2
  obtain ⟨A2, c2, rfl, -, -⟩ := Kd.R_reads hr2
  clear hb2 hr2 ka kb
  go_wp2_with fail
  go_at_call 8
  refine (HCat2.out _ _ (blk_new w2 _) (Kd.C_below (C_but HE.out.rb HB2.out (by simp)) (below_alloc (Below.refl _ _) _)) (Kd.C_below (C_but HC.out HB2.out (by simp)) (below_alloc (Below.refl _ _) _))).mono ?_
  rintro e w3 ⟨v, rfl, hr1, hb1⟩
  obtain ⟨A3, c3, rfl, hc1, hC1⟩ := Kd.R_reads hr1
  have HB3 := Aside0.mk (HB2.out.trans (SameBut.trans ((SameBut.refl [] w2).alloc (.cells #[.slice Ab b.length cb, .slice At t.length ct] 22)) (SameBut.of_below hb1 (by simp) [])))
  have HC3 := Aside0.mk hC1
  have HCC3 := Aside0.mk hc1
  clear hb1 hr1 hC1 hc1
  go_wp2_with fail
  go_at_call 11
  refine (poker_best.calls A3 c3 Lb _ _ w3 HC3.out HCC3.out HFb.out).mono ?_
  rintro e w4 ⟨v2, rfl, hr2, hb2⟩
  have HB4 := Aside0.mk (HB3.out.trans (SameBut.of_below hb2 (Nat.le_refl _) []))
  obtain ⟨A4, c4, rfl, -, -⟩ := Kd.R_reads hr2
  have HS4 := Aside0.mk (HS.out.same HB4.out)
  have l4 := blk_cell HS4.out.l 0
  have f4 := blk_frozen HS4.out.l 0
  have lw := blk_cell (blk_far HS4.out.w (p := ⟨bl, 0, none⟩) (fun e => hd.1 e.symm) (.int .i64 (s1 + 1))) 0
  have fw := blk_frozen (blk_far HS4.out.w (p := ⟨bl, 0, none⟩) (fun e => hd.1 e.symm) (.int .i64 (s1 + 1))) 0
  have lt := blk_cell (blk_far HS4.out.t (p := ⟨bl, 0, none⟩) (fun e => hd.2.1 e.symm) (.int .i64 (s1 + 1))) 0
  have ft := blk_frozen (blk_far HS4.out.t (p := ⟨bl, 0, none⟩) (fun e => hd.2.1 e.symm) (.int .i64 (s1 + 1))) 0
  simp only [List.getElem?_toArray, List.getElem?_cons_zero] at l4 lw lt
  obtain ⟨⟨b1, b2⟩, ⟨b3, b4⟩, ⟨b5, b6⟩⟩ := hb
  have HD := Aside0.mk hd
  clear hb2 hr2 kb2 hd
  by_cases hxy : x > y
  · have HQ := Aside0.mk (show q = (s1 + 1, s2 + 1, s3) by rw [HSt2.out, if_pos hxy, if_pos hxy])
    go_wp2_with fail
    go_end0
    refine ⟨rfl, ?_, ?_⟩
    · exact ((HB4.out.mono (by simp)).setCell ⟨bl, 0, none⟩ (by simp) _).setCell ⟨bw, 0, none⟩ (by simp) _
    · rw [HQ.out]
      exact ⟨blk_far (blk_put HS4.out.l 0 _ rfl) HD.out.1 _, blk_put (blk_far HS4.out.w (fun e => HD.out.1 e.symm) _) 0 _ rfl, blk_far (blk_far HS4.out.t (fun e => HD.out.2.1 e.symm) _) (fun e => HD.out.2.2 e.symm) _⟩
  · by_cases hxy2 : x = y
    · have HQ := Aside0.mk (show q = (s1 + 1, s2, s3 + 1) by rw [HSt2.out, if_neg hxy, if_neg hxy, if_pos hxy2])
      subst hxy2
      go_wp2_with fail
      go_end0
      refine ⟨rfl, ?_, ?_⟩
      · exact ((HB4.out.mono (by simp)).setCell ⟨bl, 0, none⟩ (by simp) _).setCell ⟨bt, 0, none⟩ (by simp) _
      · rw [HQ.out]
        exact ⟨blk_far (blk_put HS4.out.l 0 _ rfl) HD.out.2.1 _, blk_far (blk_far HS4.out.w (fun e => HD.out.1 e.symm) _) HD.out.2.2 _, blk_put (blk_far HS4.out.t (fun e => HD.out.2.1 e.symm) _) 0 _ rfl⟩
    · have HQ := Aside0.mk (show q = (s1 + 1, s2, s3) by rw [HSt2.out, if_neg hxy, if_neg hxy, if_neg hxy2])
      go_wp2_with fail
      go_end0
      refine ⟨rfl, ?_, ?_⟩
      · exact (HB4.out.mono (by simp)).setCell ⟨bl, 0, none⟩ (by simp) _
      · rw [HQ.out]
        exact ⟨blk_put HS4.out.l 0 _ rfl, blk_far HS4.out.w (fun e => HD.out.1 e.symm) _, blk_far HS4.out.t (fun e => HD.out.2.1 e.symm) _⟩
end Go.Proofs.Ytpcmodmghpijeaa.Q
