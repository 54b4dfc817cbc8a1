import Derived.Test.YtpcmodmghpijeaaGpick
import Derived.Test.YtpcmodmghpijeaaGclone
namespace Go.Proofs.Ytpcmodmghpijeaa.Q
open Go.RowKit Go.Shelf Go.Proofs.YtpcmodmghpijeaaW.PrintWords Go.Proofs.YtpcmodmghpijeaaW.PrintLast Go.Proofs.YtpcmodmghpijeaaW.PrintMore
set_option linter.unusedVariables false
attribute [local go_sem] Oper.semAt_some
def stepB (s : Int × List Int) (h : List Int) : Int × List Int := if pval h > s.1 then (pval h, h) else s
def bestF (l : List Int) (xs : List (List Nat)) : Int × List Int := (xs.map (handOf l)).foldl stepB (-1, [])
theorem bestF_snoc (l : List Int) (xs : List (List Nat)) (x : List Nat) : bestF l (xs ++ [x]) = stepB (bestF l xs) (handOf l x) := by simp [bestF]
def poker_best.f (l : List Int) : Option (Int × List Int) := if 5 ≤ l.length ∧ l.length ≤ 7 ∧ ∀ x ∈ l, 0 ≤ x ∧ x < 52 then some (bestF l (picks l.length 5 0)) else none
theorem room_wide' (k : Nat) : Fence.wide.room k := fun d h => by cases h
theorem yield_any {m : Nat} (m' : Nat) {P : Program} {l : Nat} {args : Array Value} {W : World} {R : Ending → World → Prop} (h : YieldAt Fence.wide m P l args W R) : YieldAt Fence.wide m' P l args W R := by
  obtain ⟨fn, tmps, assign, body, hy, hR⟩ := h
  exact ⟨fn, tmps, assign, body, hy, hR.1, fun c cs _ => hR.2 c cs (room_wide' _)⟩
structure JB (w : World) (A0 : Option Addr) (c0 : Nat) (l0 : List Int) (pre : List (List Nat)) (W : World) : Prop where
  bel : Below w.heap.size w W
  size : w.heap.size + 9 ≤ W.heap.size
  env : EnvP W (w.heap.size + 5) (w.heap.size + 6) (w.heap.size + 7) (w.heap.size + 8) (w.heap.size + 2) (w.heap.size + 4) A0 c0 l0
  top : W.heap[w.heap.size]? = some (.cells #[.int .i64 (bestF l0 pre).1] 3 (0, 0))
  who : ∃ v, W.heap[w.heap.size + 1]? = some (.cells #[v] 22 (0, 0)) ∧ Kd.R (Kd.int .i64) 3 W (w.heap.size + 9) (fun _ => True) v (bestF l0 pre).2
theorem C_same {E : List Nat} {w A B : World} {A0 : Option Addr} {l0 : List Int} (hC : Kd.C (Kd.int .i64) w A0 l0.length l0) (hb : Below w.heap.size w A) (hs : SameBut E A B) (hE : ∀ k ∈ E, w.heap.size ≤ k) : Kd.C (Kd.int .i64) B A0 l0.length l0 :=
  Kd.C_below hC (hs.below hb hE hb.size)
theorem R_same {E : List Nat} {A B : World} {n : Nat} {v : Value} {xs : List Int} (h : Kd.R (Kd.int .i64) 3 A n (fun _ => True) v xs) (hs : SameBut E A B) (hE : ∀ k ∈ E, k < n) : Kd.R (Kd.int .i64) 3 B n (fun _ => True) v xs :=
  Kd.R_mono (Kd.R_move (Kd.R_bound h) (fun k hk => hs.same k hk.2.2.1 (fun hm => by have := hE k hm; have := hk.2.1; omega))) (fun _ _ => trivial)
theorem JB.same {w : World} {A0 : Option Addr} {c0 : Nat} {l0 : List Int} (hC : Kd.C (Kd.int .i64) w A0 l0.length l0) {pre : List (List Nat)} {A B : World} {E : List Nat} (h : JB w A0 c0 l0 pre A) (hs : SameBut E A B)
    (hE : ∀ k ∈ E, k = w.heap.size + 3 ∨ k = w.heap.size + 4 ∨ k = w.heap.size + 6 ∨ k = w.heap.size + 7) : JB w A0 c0 l0 pre B := by
  have hn : ∀ k, k ≠ w.heap.size + 3 → k ≠ w.heap.size + 4 → k ≠ w.heap.size + 6 → k ≠ w.heap.size + 7 → k ∉ E := fun k h1 h2 h3 h4 hm => by
    have := hE k hm; omega
  obtain ⟨v, hv, hr⟩ := h.who
  exact ⟨hs.below h.bel (fun k hk => by have := hE k hk; omega) h.bel.size, Nat.le_trans h.size hs.size,
    ⟨hs.blk h.env.y (hn _ (by omega) (by omega) (by omega) (by omega)), hs.blk h.env.k (hn _ (by omega) (by omega) (by omega) (by omega)), hs.blk h.env.b (hn _ (by omega) (by omega) (by omega) (by omega)), C_same hC h.bel hs (fun k hk => by have := hE k hk; omega)⟩,
    hs.blk h.top (hn _ (by omega) (by omega) (by omega) (by omega)), v, hs.blk hv (hn _ (by omega) (by omega) (by omega) (by omega)), R_same hr hs (fun k hk => by have := hE k hk; omega)⟩
theorem JB.step {w : World} {A0 : Option Addr} {c0 : Nat} {l0 : List Int} (hC : Kd.C (Kd.int .i64) w A0 l0.length l0) {pre pre' : List (List Nat)} {A B : World} (h : JB w A0 c0 l0 pre A) (hs : SameBut [w.heap.size, w.heap.size + 1] A B)
    (ht : B.heap[w.heap.size]? = some (.cells #[.int .i64 (bestF l0 pre').1] 3 (0, 0))) (hw : ∃ v, B.heap[w.heap.size + 1]? = some (.cells #[v] 22 (0, 0)) ∧ Kd.R (Kd.int .i64) 3 B (w.heap.size + 9) (fun _ => True) v (bestF l0 pre').2) : JB w A0 c0 l0 pre' B :=
  ⟨hs.below h.bel (fun k hk => by simp at hk; omega) h.bel.size, Nat.le_trans h.size hs.size,
    ⟨hs.blk h.env.y (by simp), hs.blk h.env.k (by simp), hs.blk h.env.b (by simp), C_same hC h.bel hs (fun k hk => by simp at hk; omega)⟩, ht, hw⟩
set_option maxHeartbeats 2000000 in
set_option maxRecDepth 100000 in
theorem best_in (n : Nat) (A0 : Option Addr) (c0 : Nat) (l0 : List Int) (w : World) (h5 : 5 ≤ l0.length) (hn7 : l0.length ≤ 7) (hc0 : l0.length ≤ c0) (hl0 : ∀ x ∈ l0, 0 ≤ x ∧ x < 52) (hC : Kd.C (Kd.int .i64) w A0 l0.length l0) :
    CallsIn Fence.wide (n + 1) Try.prog 11 #[.slice A0 l0.length c0] w fun e w' => ∃ v : Value, e = .returned (.tuple #[.int .i64 (bestF l0 (picks l0.length 5 0)).1, v]) ∧ Kd.R (Kd.int .i64) 3 w' w.heap.size (fun _ => True) v (bestF l0 (picks l0.length 5 0)).2 ∧ Below w.heap.size w w' := by
  refine callsIn_of_wp_marks Try.func11 rfl trivial ?_ rfl
  simp only [Try.ntmps11, List.size_toArray, List.length_cons, List.length_nil, Nat.reduceAdd, Nat.reduceSub, Array.replicate_succ, Array.replicate_zero, List.push_toArray, List.append_toArray, List.nil_append, List.cons_append]
  gi_wp2
  refine ⟨trivial, ?_⟩
  refine (fives_in _ A0 l0.length c0 _).mono ?_
  rintro e W1 ⟨rfl, hW1⟩
  gi_wp2
  rw [← hW1]
  have hlC := fun ad (e : A0 = some ad) => (show 0 < l0.length → ad.block < w.heap.size from fun h => by
    obtain ⟨ad', e', hc⟩ := Kd.at_int hC 0 (by omega) (by omega)
    rw [e] at e'; cases e'
    have := World.block_lt_of_cell? _ _ hc
    rwa [show (ad.add (Int.toNat 0)).block = ad.block by unfold Addr.add; split <;> rfl] at this)
  have hsz : W1.heap.size = w.heap.size + 3 := by rw [hW1]; simp
  have hS1 : SameBut [] w W1 := by rw [hW1]; exact (((SameBut.refl _ _).alloc _).alloc _).alloc _
  have b0 : W1.heap[w.heap.size]? = some (.cells #[.int .i64 (-1)] 3 (0, 0)) := by rw [hW1]; exact blk_alloc (blk_alloc (blk_new _ _) _) _
  have b1 : W1.heap[w.heap.size + 1]? = some (.cells #[.slice none 0 0] 22 (0, 0)) := by rw [hW1]; refine blk_alloc ?_ _; have := blk_new (w.alloc (.cells #[.int .i64 (-1)] 3)) (.cells #[.slice none 0 0] 22); rw [World.size_alloc] at this; exact this
  have b2 : W1.heap[w.heap.size + 2]? = some (.cells #[.slice A0 l0.length c0] 22 (0, 0)) := by rw [hW1]; have := blk_new ((w.alloc (.cells #[.int .i64 (-1)] 3)).alloc (.cells #[.slice none 0 0] 22)) (.cells #[.slice A0 l0.length c0] 22); rw [World.size_alloc, World.size_alloc] at this; exact this
  clear hW1
  refine rfC (gf := 23) (lb := #[.pointer (some ⟨w.heap.size + 2, 0, none⟩)]) rfl (enters_of Try.func23 (by kernel_rfl) rfl) (encP l0) (fun _ => rfl) (JB w A0 c0 l0) (okP l0.length) [w.heap.size, w.heap.size + 1] (fun k hk => by simp at hk; omega)
    (fun pre A B h hs => h.same hC hs (fun k hk => by simp at hk; omega)) ?round (picks l0.length 5 0) ?call ?done
  case call =>
    intro W2 Rec hS2 hz2 hR2 hRec hY
    rw [hsz] at hz2 hRec hY ⊢
    have e5 : W2.heap.size = w.heap.size + 5 := by omega
    have hS02 : SameBut [] w W2 := hS1.trans hS2
    have hbw : Below w.heap.size w W2 := hS02.below (Below.refl _ _) (by simp) (Nat.le_refl _)
    have hc := fives1_in l0.length n (w.heap.size + 4) (w.heap.size + 2) A0 c0 l0 rfl hn7 hc0 W2 (fun ad e => by have := hlC ad e (by omega); omega) (hS2.blk b2 (by simp)) (Kd.C_below hC hbw)
      (fun pre W => JB w A0 c0 l0 pre W ∧ Rec W)
      (fun W hs hz he => by
        rw [e5] at hz he
        have hs0 : SameBut [] w W := hS02.trans hs
        exact ⟨⟨hs0.below (Below.refl _ _) (by simp) (Nat.le_refl _), by omega, he, hs.blk (hS2.blk b0 (by simp)) (by simp), .slice none 0 0, hs.blk (hS2.blk b1 (by simp)) (by simp), Kd.R_nil _ _ _ _ _⟩,
          hRec W2 W hR2 (hs.same _ (by omega) (by simp)) (hs.same _ (by omega) (by simp))⟩)
      (fun pre W h => by rw [e5]; exact h.1.env)
      (fun pre A B h hs => by
        rw [e5] at hs
        have := h.1.size
        exact ⟨h.1.same hC hs (fun k hk => by simp at hk; omega), hRec A B h.2 (hs.same _ (by omega) (by simp)) (hs.same _ (by omega) (by simp))⟩)
      (fun m pre x W hok h => by
        have := h.1.size
        refine YieldAt.mono (yield_any m (hY pre x W hok h.1 h.2)) ?_
        rintro e W' ⟨he, hj, hr, hs⟩
        rw [e5]
        exact ⟨he, ⟨hj, hr⟩, hs.same _ (by omega) (by simp; omega), hs.same _ (by omega) (by simp; omega)⟩)
    exact hc.mono (fun e W' h => ⟨h.1, h.2.1, h.2.2⟩)
  case done =>
    intro W hj hk
    rw [hsz] at hk
    obtain ⟨v, hv, hr⟩ := hj.who
    have ht := blk_cell hj.top 0
    have hw := blk_cell hv 0
    simp only [List.getElem?_toArray, List.getElem?_cons_zero] at ht hw
    have HF := Aside0.mk (show ∀ W' o, SameBut [] W W' → Kd.R (Kd.int .i64) 3 (W'.putObj W1.heap.size o) w.heap.size (fun _ => True) v (bestF l0 (picks l0.length 5 0)).2 ∧ Below w.heap.size w (W'.putObj W1.heap.size o) from fun W' o h => by
      have hs : SameBut [w.heap.size + 3] W (W'.putObj W1.heap.size o) := by rw [hsz]; exact (h.mono (by simp)).putObj (by simp) _
      exact ⟨Kd.R_lower (R_same hr hs (fun k hk => by simp at hk; omega)) (by omega), hs.below hj.bel (fun k hk => by simp at hk; omega) hj.bel.size⟩)
    rw [← hsz] at hk
    have HK := Aside0.mk hk
    clear hj hk hv hr hS1 b0 b1 b2 hlC hC
    gi_wp2
    gi_region
    gi_wp2
    refine ⟨by simp, .inl ⟨_, _, rfl, run_takeDeferred HK.out, ?_⟩⟩
    exact ⟨_, results_tmp2 rfl _ _ _, v, rfl, HF.out _ _ (drew_same (SameBut.refl _ _))⟩
  case round =>
    intro l pre x W hl hok hj
    obtain ⟨hx5, hxn⟩ := hok
    obtain ⟨i0, i1, i2, i3, i4, rfl⟩ : ∃ i0 i1 i2 i3 i4, x = [i0, i1, i2, i3, i4] := by
      match x, hx5 with
      | [a, b, c, d, e], _ => exact ⟨a, b, c, d, e, rfl⟩
    have hr5 : ∀ y ∈ handOf l0 [i0, i1, i2, i3, i4], 0 ≤ y ∧ y < 52 := by
      intro y hy
      simp only [handOf, List.mem_map] at hy
      obtain ⟨i, hi, rfl⟩ := hy
      have := hxn i hi
      exact hl0 _ (by simp [rd, List.getD_eq_getElem?_getD, List.getElem?_eq_getElem this])
    have HN := Aside0.mk (bestF_snoc l0 pre [i0, i1, i2, i3, i4])
    simp only [handOf, List.map_cons, List.map_nil] at hr5 HN
    simp only [encP, handOf, ints, nums, List.map_cons, List.map_nil]
    generalize rd l0 (i0 : Int) = x0 at *
    generalize rd l0 (i1 : Int) = x1 at *
    generalize rd l0 (i2 : Int) = x2 at *
    generalize rd l0 (i3 : Int) = x3 at *
    generalize rd l0 (i4 : Int) = x4 at *
    gi_wp2
    refine ⟨(SameBut.refl _ _).alloc _, ?_⟩
    intro w₂ hs2
    rw [hsz] at hs2
    have hsW := hj.size
    have hj2 : JB w A0 c0 l0 pre w₂ := hj.same hC (E := [w.heap.size + 3, w.heap.size + 4]) (((SameBut.refl _ _).alloc _).trans hs2) (fun k hk => by simp at hk; omega)
    have hbx : w₂.heap[W.heap.size]? = some (.cells (nums .i64 [x0, x1, x2, x3, x4]).toArray 43 (0, 0)) := hs2.blk (blk_new W _) (by simp; omega)
    have hsz2 : W.heap.size < w₂.heap.size := blk_lt hbx
    obtain ⟨g, hgg⟩ : ∃ g, W.heap.size = g := ⟨_, rfl⟩
    rw [hgg] at hbx hsz2 hsW ⊢
    clear hs2 hj b0 b1 b2 hlC hgg hS1
    have a0 := blk_cell hbx 0
    have a1 := blk_cell hbx 1
    have a2 := blk_cell hbx 2
    have a3 := blk_cell hbx 3
    have a4 := blk_cell hbx 4
    simp only [nums, List.map_cons, List.map_nil, List.getElem?_toArray, List.getElem?_cons_zero, List.getElem?_cons_succ] at a0 a1 a2 a3 a4
    have HV := Aside0.mk (value_any x0 x1 x2 x3 x4 w₂ hr5)
    have HJ := Aside0.mk hj2
    have HX := Aside0.mk hbx
    clear hj2 hbx hr5
    gi_wp2
    refine ⟨trivial, (fun h => by cases h), ?_⟩
    refine (CallsIn.inRound (w.heap.size + 3 + 1) (callsIn_wide.2 HV.out)).mono ?_
    rintro e w3 ⟨rfl, hb3⟩
    clear HV a0 a1 a2 a3 a4
    have hs3 : SameBut [] w₂ w3 := SameBut.of_below hb3 (Nat.le_refl _) _
    have HS := Aside0.mk hs3
    have hj3 := HJ.out.same hC hs3 (fun k hk => by simp at hk)
    have hx3 := hs3.blk HX.out (by simp)
    obtain ⟨v0, hv0, hr0⟩ := hj3.who
    obtain ⟨t, ht⟩ : ∃ t, (bestF l0 pre).1 = t := ⟨_, rfl⟩
    obtain ⟨p, hp⟩ : ∃ p, pval [x0, x1, x2, x3, x4] = p := ⟨_, rfl⟩
    have htop := hj3.top
    rw [ht] at htop
    have ct := blk_cell htop 0
    simp only [List.getElem?_toArray, List.getElem?_cons_zero] at ct
    have HT := Aside0.mk htop
    have HW0 := Aside0.mk hv0
    have HR0 := Aside0.mk hr0
    have HX3 := Aside0.mk hx3
    have HJ3 := Aside0.mk hj3
    rw [hp]
    clear hb3 hs3 hj3 hx3 hv0 hr0 htop HX
    by_cases hgt : p > t
    · have hd : decide (t < p) = true := decide_eq_true hgt
      have HB2 := Aside0.mk (show bestF l0 (pre ++ [[i0, i1, i2, i3, i4]]) = (p, [x0, x1, x2, x3, x4]) by rw [HN.out]; unfold stepB; rw [hp, ht, if_pos hgt])
      clear hgt
      gi_wp2
      refine ⟨trivial, (fun h => by cases h), ?_⟩
      refine (CallsIn.inRound (w.heap.size + 3 + 1) (callsIn_wide.2 (clone_any g [x0, x1, x2, x3, x4] w3 rfl HX3.out))).mono ?_
      rintro e w4 ⟨v, rfl, hr4, hb4⟩
      have hs4 : SameBut [] w3 w4 := SameBut.of_below hb4 (Nat.le_refl _) _
      have ht4 := hs4.blk HT.out (by simp)
      have hw4 := hs4.blk HW0.out (by simp)
      have c4 := blk_cell ht4 0
      have f4 := blk_frozen ht4 0
      have c5 := blk_cell hw4 0
      have f5 := blk_frozen hw4 0
      simp only [List.getElem?_toArray, List.getElem?_cons_zero] at c4 c5
      obtain ⟨W5, hW5⟩ : ∃ W5, (w4.setCell ⟨w.heap.size, 0, none⟩ (.int .i64 p)).setCell ⟨w.heap.size + 1, 0, none⟩ v = W5 := ⟨_, rfl⟩
      have hs5 : SameBut [w.heap.size, w.heap.size + 1] w4 W5 := by rw [← hW5]; exact ((SameBut.refl _ _).setCell _ (by simp) _).setCell _ (by simp) _
      have ht5 : W5.heap[w.heap.size]? = some (.cells #[.int .i64 p] 3 (0, 0)) := by rw [← hW5]; exact blk_far (blk_put ht4 0 _ rfl) (by simp) _
      have hw5 : W5.heap[w.heap.size + 1]? = some (.cells #[v] 22 (0, 0)) := by rw [← hW5]; exact blk_put (blk_far hw4 (by simp) _) 0 _ rfl
      have hz3 := HJ3.out.size
      have hJ5 : JB w A0 c0 l0 (pre ++ [[i0, i1, i2, i3, i4]]) W5 :=
        HJ3.out.step hC ((hs4.mono (by simp)).trans hs5) (by rw [HB2.out]; exact ht5) ⟨v, hw5, by rw [HB2.out]; exact R_same (Kd.R_lower hr4 hz3) hs5 (fun k hk => by simp at hk; omega)⟩
      have HE := Aside0.mk (show SameBut [w.heap.size, w.heap.size + 1] w₂ W5 ∧ JB w A0 c0 l0 (pre ++ [[i0, i1, i2, i3, i4]]) W5 from ⟨((HS.out.mono (by simp)).trans (hs4.mono (by simp))).trans hs5, hJ5⟩)
      rw [← hW5] at HE
      obtain ⟨A4, cc4, rfl, -, -⟩ := Kd.R_reads hr4
      clear hs4 ht4 hw4 hW5 hs5 ht5 hw5 hz3 hJ5 hr4 hb4
      gi_wp2
      exact HE.out
    · have hd : decide (t < p) = false := decide_eq_false hgt
      have HB2 := Aside0.mk (show bestF l0 (pre ++ [[i0, i1, i2, i3, i4]]) = bestF l0 pre by rw [HN.out]; unfold stepB; rw [hp, ht, if_neg hgt])
      clear hgt
      gi_wp2
      refine ⟨HS.out.mono (by simp), HJ3.out.step hC (SameBut.refl _ _) ?_ ⟨v0, HW0.out, ?_⟩⟩
      · rw [HB2.out, ht]; exact HT.out
      · rw [HB2.out]; exact HR0.out
theorem poker_best.calls (A0 : Option Addr) (c0 : Nat) (l0 : List Int) (r1 : Int) (r2 : List Int) (w : World) (hr0 : Kd.C (Kd.int .i64) w A0 l0.length l0) (hc0 : l0.length ≤ c0) (h : poker_best.f l0 = some (r1, r2)) :
    Calls Try.prog 11 #[.slice A0 l0.length c0] w fun e w' => ∃ v0_ : Value, e = .returned (.tuple #[.int .i64 r1, v0_]) ∧ Kd.R (Kd.int .i64) 3 w' w.heap.size (fun _ => True) v0_ r2 ∧ Below w.heap.size w w' := by
  unfold poker_best.f at h
  split at h
  · rename_i hc
    have hb := best_in 0 A0 c0 l0 w hc.1 hc.2.1 hc0 hc.2.2 hr0
    injection h with h
    rw [h] at hb
    exact callsIn_wide.1 hb
  · cases h
end Go.Proofs.Ytpcmodmghpijeaa.Q
