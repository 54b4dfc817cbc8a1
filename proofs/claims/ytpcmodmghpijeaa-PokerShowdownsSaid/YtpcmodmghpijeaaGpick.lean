import Derived.Test.YtpcmodmghpijeaaGrf
import Derived.Test.YtpcmodmghpijeaaGval2
import Derived.RegionTactic
import Derived.ChangeAlike
namespace Go.Proofs.Ytpcmodmghpijeaa.Q
open Go.RowKit Go.Shelf Go.Proofs.YtpcmodmghpijeaaW.PrintWords Go.Proofs.YtpcmodmghpijeaaW.PrintLast Go.Proofs.YtpcmodmghpijeaaW.PrintMore
set_option linter.unusedVariables false
attribute [local go_sem] Oper.semAt_some
theorem run_store_func {P : Program} {w : World} {a : Addr} {m : Mode} (f : Fn) (ts : Array Value) (c : Array Value) : (store a (.func f ts c) m).run P w = stored P w a (.func f ts c) m := run_store P w a _ m rfl
attribute [local go_sem] run_store_func
/-- All choices of 'left' places from 'start' on. -/
def picks (n : Nat) : Nat → Nat → List (List Nat)
  | 0, _ => [[]]
  | left + 1, start => (List.range' start (n - start)).flatMap fun i => (picks n left (i + 1)).map (i :: ·)
def ints (x : List Nat) : List Int := x.map fun (i : Nat) => (i : Int)
def handOf (l : List Int) (x : List Nat) : List Int := x.map fun (i : Nat) => rd l i
def encP (l : List Int) (x : List Nat) : Array Value := #[.agg (nums .i64 (ints x)).toArray, .agg (nums .i64 (handOf l x)).toArray]
def okP (n : Nat) (x : List Nat) : Prop := x.length = 5 ∧ ∀ i ∈ x, i < n
theorem range'_split (a b c : Nat) (h1 : a ≤ b) (h2 : b < c) : List.range' a (b + 1 - a) = List.range' a (b - a) ++ [b] := by
  rw [show b + 1 - a = (b - a) + 1 by omega, List.range'_1_concat]
  congr 2
  omega
structure EnvP (W : World) (yb pb hb kb bl l : Nat) (A0 : Option Addr) (c0 : Nat) (l0 : List Int) : Prop where
  y : W.heap[yb]? = some (.cells #[.func (.yield l) #[] #[]] 46 (0, 0))
  k : W.heap[kb]? = some (.cells #[.func (.func 24) #[] #[.pointer (some ⟨yb, 0, none⟩), .pointer (some ⟨pb, 0, none⟩), .pointer (some ⟨hb, 0, none⟩), .pointer (some ⟨bl, 0, none⟩), .pointer (some ⟨kb, 0, none⟩)]] 47 (0, 0))
  b : W.heap[bl]? = some (.cells #[.slice A0 l0.length c0] 22 (0, 0))
  c : Kd.C (Kd.int .i64) W A0 l0.length l0
structure PH (W : World) (pb hb : Nat) (p h : List Int) : Prop where
  atP : W.heap[pb]? = some (.cells (nums .i64 p).toArray 43 (0, 0))
  atH : W.heap[hb]? = some (.cells (nums .i64 h).toArray 43 (0, 0))
  lp : p.length = 5
  lh : h.length = 5
theorem take5 {α : Type} {p q : List α} (hp : p.length = 5) (h : p.take 5 = q) : p = q := by
  rw [← h, List.take_of_length_le (by omega)]
theorem drew_same {E : List Nat} {A B : World} (h : SameBut E A B) : SameBut E A B.drew := ⟨h.os, h.tape, h.output, h.size, h.same⟩
theorem set_take0 (p : List Int) (k : Nat) (j : Int) : (p.set k j).take k = p.take k := by
  rw [List.take_set]
  exact List.set_eq_of_length_le (by simp; omega)
theorem set_take (p : List Int) (k : Nat) (j : Int) (h : k < p.length) : (p.set k j).take (k + 1) = p.take k ++ [j] := by
  rw [List.take_succ_eq_append_getElem (by simpa using h), set_take0]
  simp
theorem take_of_succ {p q : List Int} {k : Nat} (h : p.take (k + 1) = q.take (k + 1)) : p.take k = q.take k := by
  have := congrArg (List.take k) h
  simpa [List.take_take] using this
set_option maxHeartbeats 2000000 in
set_option maxRecDepth 100000 in
theorem pick_in (n m : Nat) (l yb pb hb kb bl : Nat) (A0 : Option Addr) (c0 : Nat) (l0 : List Int) (hn : l0.length = n) (hn7 : n ≤ 7) (hc0 : l0.length ≤ c0) (hne : pb ≠ hb) (hAd : ∀ ad, A0 = some ad → pb ≠ ad.block ∧ hb ≠ ad.block)
    (J : List (List Nat) → World → Prop) (hEnv : ∀ pre W, J pre W → EnvP W yb pb hb kb bl l A0 c0 l0)
    (hJ : ∀ pre A B, J pre A → SameBut [pb, hb] A B → J pre B)
    (hY : ∀ m pre x W, okP n x → J pre W → YieldAt Fence.wide m Try.prog l (encP l0 x) W fun e W' =>
        e = .returned (.bool true) ∧ J (pre ++ [x]) W' ∧ W'.heap[pb]? = W.heap[pb]? ∧ W'.heap[hb]? = W.heap[hb]?) :
    ∀ (left k : Nat) (hk : k + left = 5) (m start : Nat) (hs : start ≤ n) (ix : List Nat) (hix : ix.length = k) (hixn : ∀ i ∈ ix, i < n) (pre : List (List Nat)) (W : World) (p h : List Int),
      J pre W → PH W pb hb p h → p.take k = ints ix → h.take k = handOf l0 ix →
      CallsIn Fence.wide m Try.prog 24 #[.int .i64 start, .int .i64 k, .pointer (some ⟨yb, 0, none⟩), .pointer (some ⟨pb, 0, none⟩), .pointer (some ⟨hb, 0, none⟩), .pointer (some ⟨bl, 0, none⟩), .pointer (some ⟨kb, 0, none⟩)] W fun e W' =>
        e = .returned (.bool true) ∧ J (pre ++ (picks n left start).map (ix ++ ·)) W' ∧ ∃ p' h', PH W' pb hb p' h' ∧ p'.take k = p.take k ∧ h'.take k = h.take k := by
  intro left
  induction left with
  | zero =>
    intro k hk m start hs ix hix hixn pre W p h hj hph hp hh
    obtain rfl : k = 5 := by omega
    have hp5 := take5 hph.lp hp
    have hh5 := take5 hph.lh hh
    have he := hEnv _ _ hj
    subst hp5 hh5
    obtain ⟨i0, i1, i2, i3, i4, rfl⟩ : ∃ i0 i1 i2 i3 i4, ix = [i0, i1, i2, i3, i4] := by
      match ix, hix with
      | [a, b, c, d, e], _ => exact ⟨a, b, c, d, e, rfl⟩
    obtain ⟨fn, tmps, assign, body, hy, hR⟩ := hY (m - 1) pre [i0, i1, i2, i3, i4] W ⟨hix, hixn⟩ hj
    have e1 := blk_cell he.y 0
    have p0 := blk_cell hph.atP 0
    have p1 := blk_cell hph.atP 1
    have p2 := blk_cell hph.atP 2
    have p3 := blk_cell hph.atP 3
    have p4 := blk_cell hph.atP 4
    have h0 := blk_cell hph.atH 0
    have h1 := blk_cell hph.atH 1
    have h2 := blk_cell hph.atH 2
    have h3 := blk_cell hph.atH 3
    have h4 := blk_cell hph.atH 4
    simp only [ints, handOf, nums, encP, List.map_cons, List.map_nil, List.getElem?_toArray, List.getElem?_cons_zero, List.getElem?_cons_succ] at p0 p1 p2 p3 p4 h0 h1 h2 h3 h4 hy e1
    generalize rd l0 (i0 : Int) = x0 at *
    generalize rd l0 (i1 : Int) = x1 at *
    generalize rd l0 (i2 : Int) = x2 at *
    generalize rd l0 (i3 : Int) = x3 at *
    generalize rd l0 (i4 : Int) = x4 at *
    have HPH := Aside0.mk hph
    clear hph he hp hh
    refine callsIn_of_wp Try.func24 rfl trivial ?_ rfl
    simp only [Try.ntmps24, List.size_toArray, List.length_cons, List.length_nil, Nat.reduceAdd, Nat.reduceSub, Array.replicate_succ, Array.replicate_zero, List.push_toArray, List.append_toArray, List.nil_append, List.cons_append]
    have hdd : ∀ k : Nat, (Fence.wide.depth.isSome = true → 1 ≤ k) := fun k h => by cases h
    have fin : ∀ W2, J (pre ++ [[i0, i1, i2, i3, i4]]) W2 → W2.heap[pb]? = W.heap[pb]? → W2.heap[hb]? = W.heap[hb]? → J (pre ++ (picks n 0 start).map ([i0, i1, i2, i3, i4] ++ ·)) W2 ∧ ∃ p' h', PH W2 pb hb p' h' ∧ p'.take 5 = (ints [i0, i1, i2, i3, i4]).take 5 ∧ h'.take 5 = (handOf l0 [i0, i1, i2, i3, i4]).take 5 :=
      fun W2 h1 h2 h3 => ⟨by simpa [picks] using h1, _, _, ⟨h2.trans HPH.out.atP, h3.trans HPH.out.atH, HPH.out.lp, HPH.out.lh⟩, rfl, rfl⟩
    have FIN := Aside0.mk fin
    clear fin
    gi_wp2_with ((try refine ⟨hdd _, ?_⟩); refine hR.mono ?_; clear hR; rintro e W2 ⟨rfl, hJ2, hk1, hk2⟩; have HK := Aside0.mk (FIN.out W2 hJ2 hk1 hk2); clear hJ2 hk1 hk2)
    go_ret
    exact ⟨rfl, HK.out⟩
  | succ left ih =>
    intro k hk m start hs ix hix hixn pre W p h hj hph hp hh
    have hk5 : ((k : Int) == 5) = false := by simp; omega
    have hb0 := blk_cell (hEnv _ _ hj).b 0
    simp only [List.getElem?_toArray, List.getElem?_cons_zero] at hb0
    refine callsIn_of_wp Try.func24 rfl trivial ?_ rfl
    simp only [Try.ntmps24, List.size_toArray, List.length_cons, List.length_nil, Nat.reduceAdd, Nat.reduceSub, Array.replicate_succ, Array.replicate_zero, List.push_toArray, List.append_toArray, List.nil_append, List.cons_append]
    have ST := Aside0.mk (show J (pre ++ ((List.range' start (start - start)).flatMap fun i => (picks n left (i + 1)).map (i :: ·)).map (ix ++ ·)) W ∧ ∃ p' h', PH W pb hb p' h' ∧ p'.take k = p.take k ∧ h'.take k = h.take k from ⟨by simpa using hj, p, h, hph, rfl, rfl⟩)
    clear hj hph
    gi_wp2_with fail
    gi_loopw [10] (fun i wr => ∃ j : Nat, start ≤ j ∧ j ≤ n ∧ i = .int .i64 j ∧ Aside0 (J (pre ++ ((List.range' start (j - start)).flatMap fun i => (picks n left (i + 1)).map (i :: ·)).map (ix ++ ·)) wr ∧ ∃ p' h', PH wr pb hb p' h' ∧ p'.take k = p.take k ∧ h'.take k = h.take k)) (fun i _ => n - (intOf i).toNat)
    case atStart => exact ⟨start, Nat.le_refl _, hs, rfl, ST⟩
    case round =>
      clear ST
      obtain ⟨j, hj1, hj2, rfl, HJ⟩ := hrel
      obtain ⟨hj, p1, h1, hph, hp1, hh1⟩ := HJ.out
      have he := hEnv _ _ hj
      have hb1 := blk_cell he.b 0
      simp only [List.getElem?_toArray, List.getElem?_cons_zero] at hb1
      by_cases hlt : j < n
      · have hx := Kd.at_int he.c (j : Int) (by omega) (by omega)
        obtain ⟨ad, rfl, hx⟩ := hx
        simp only [Int.toNat_natCast] at hx
        have hlt0 : j < l0.length := by omega
        have hj7 : j < 7 := by omega
        have hkk : k < 5 := by omega
        obtain ⟨up, hup⟩ : ∃ u, (nums .i64 p1).toArray[k]? = some u := ⟨_, Array.getElem?_eq_getElem (by simp [nums]; have := hph.lp; omega)⟩
        obtain ⟨uh, huh⟩ : ∃ u, (nums .i64 h1).toArray[k]? = some u := ⟨_, Array.getElem?_eq_getElem (by simp [nums]; have := hph.lh; omega)⟩
        have cp := (blk_cell hph.atP k).trans hup
        have ch := (blk_cell hph.atH k).trans huh
        have fp := blk_frozen hph.atP k
        have fh := blk_frozen hph.atH k
        generalize hx0 : rd l0 (j : Int) = x at *
        have HX0 := Aside0.mk hx0
        have hblP : ¬ pb = bl := fun e => blk_ne hph.atP he.b (by decide) e
        have hblH : ¬ hb = bl := fun e => blk_ne hph.atH he.b (by decide) e
        have hadP : pb ≠ (ad.add j).block := fun e => (hAd ad rfl).1 (by rw [e]; unfold Addr.add; split <;> rfl)
        have hadH : hb ≠ (ad.add j).block := fun e => (hAd ad rfl).2 (by rw [e]; unfold Addr.add; split <;> rfl)
        clear hx0
        obtain ⟨W2, hW2⟩ : ∃ W2, ((wr.setCell ⟨pb, k, none⟩ (.int .i64 (j : Int))).setCell ⟨hb, k, none⟩ (.int .i64 x)).drew = W2 := ⟨_, rfl⟩
        have hS : SameBut [pb, hb] wr W2 := by rw [← hW2]; exact drew_same (((SameBut.refl _ _).setCell _ (by simp) _).setCell _ (by simp) _)
        have hj2' := hJ _ _ _ hj hS
        have he2 := hEnv _ _ hj2'
        have hk2 := blk_cell he2.k 0
        simp only [List.getElem?_toArray, List.getElem?_cons_zero] at hk2
        rw [← hW2] at hk2
        have hph2 : PH W2 pb hb (p1.set k (j : Int)) (h1.set k x) := by
          rw [← hW2]
          refine ⟨blk_drew (blk_far (blk_put hph.atP k _ (by simp [nums])) hne _), blk_drew (blk_put (blk_far hph.atH (fun e => hne e.symm) _) k _ (by simp [nums])), by simp [hph.lp], by simp [hph.lh]⟩
        have ihc := ih (k + 1) (by omega) (m - 1) (j + 1) (by omega) (ix ++ [j]) (by simp [hix]) (by intro i hi; simp at hi; rcases hi with hi | rfl; exact hixn i hi; exact hlt) _ W2 _ _ hj2' hph2
          (by rw [set_take _ _ _ (by rw [hph.lp]; omega), hp1, hp]; simp [ints]) (by rw [set_take _ _ _ (by rw [hph.lh]; omega), hh1, hh]; simp [handOf, HX0.out])
        have ihd := ihc.mono (R' := fun e W3 => e = .returned (.bool true) ∧ (J (pre ++ ((List.range' start (j + 1 - start)).flatMap fun i => (picks n left (i + 1)).map (i :: ·)).map (ix ++ ·)) W3 ∧ ∃ p' h', PH W3 pb hb p' h' ∧ p'.take k = p.take k ∧ h'.take k = h.take k))
          (fun e W3 ⟨he, hJ3, p3, h3, hph3, hp3, hh3⟩ => ⟨he, by
              rw [range'_split _ _ _ hj1 hlt, List.flatMap_append, List.map_append, ← List.append_assoc]
              simpa [List.map_map, Function.comp_def] using hJ3, p3, h3, hph3, by
              rw [take_of_succ hp3, set_take0, hp1], by rw [take_of_succ hh3, set_take0, hh1]⟩)
        clear ihc ih hY hEnv hJ
        rw [← hW2] at ihd
        have IH := Aside0.mk ihd
        clear ihd hph2 he2 hS hj2' hW2 hph he hj HJ hp1 hh1 hp hh hup huh
        have hlb : decide ((j : Int) < ((l0.length : Nat) : Int)) = true := decide_eq_true (by omega)
        have hdd : ∀ k : Nat, (Fence.wide.depth.isSome = true → 1 ≤ k) := fun k h => by cases h
        have hx1 : (wr.setCell ⟨pb, k, none⟩ (.int .i64 (j : Int))).cell? (ad.add j) = some (.int .i64 x) := by rw [World.cell?_setCell_far _ _ _ _ hadP]; exact hx
        have hx2 : (wr.setCell ⟨hb, k, none⟩ (.int .i64 x)).cell? (ad.add j) = some (.int .i64 x) := by rw [World.cell?_setCell_far _ _ _ _ hadH]; exact hx
        have hx3 : ((wr.setCell ⟨pb, k, none⟩ (.int .i64 (j : Int))).setCell ⟨hb, k, none⟩ (.int .i64 x)).cell? (ad.add j) = some (.int .i64 x) := by rw [World.cell?_setCell_far _ _ _ _ hadH]; exact hx1
        gi_wp2
        gi_region
        gi_wp2
        refine ⟨trivial, hdd _, ?_⟩
        refine IH.out.mono ?_
        rintro e W3 ⟨rfl, hq⟩
        have HQ := Aside0.mk hq
        clear hq
        gi_wp2
        go_roundw
        case rel => exact ⟨j + 1, by omega, by omega, by go_num, HQ⟩
        case measure => simp [intOf]; omega
      · obtain rfl : j = n := by omega
        have hlb : decide ((j : Int) < ((l0.length : Nat) : Int)) = false := decide_eq_false (by omega)
        have HQ := HJ
        clear HJ hj hph he
        gi_wp2
        go_ret
        exact ⟨rfl, HQ.out⟩
set_option maxHeartbeats 2000000 in
set_option maxRecDepth 100000 in
theorem fives1_in (n m : Nat) (l bl : Nat) (A0 : Option Addr) (c0 : Nat) (l0 : List Int) (hn : l0.length = n) (hn7 : n ≤ 7) (hc0 : l0.length ≤ c0) (W1 : World)
    (hAd : ∀ ad, A0 = some ad → ad.block < W1.heap.size) (hbl : W1.heap[bl]? = some (.cells #[.slice A0 l0.length c0] 22 (0, 0))) (hC : Kd.C (Kd.int .i64) W1 A0 l0.length l0)
    (J : List (List Nat) → World → Prop)
    (hJ0 : ∀ W, SameBut [] W1 W → W1.heap.size + 4 ≤ W.heap.size → EnvP W W1.heap.size (W1.heap.size + 1) (W1.heap.size + 2) (W1.heap.size + 3) bl l A0 c0 l0 → J [] W)
    (hEnv : ∀ pre W, J pre W → EnvP W W1.heap.size (W1.heap.size + 1) (W1.heap.size + 2) (W1.heap.size + 3) bl l A0 c0 l0)
    (hJ : ∀ pre A B, J pre A → SameBut [W1.heap.size + 1, W1.heap.size + 2] A B → J pre B)
    (hY : ∀ m pre x W, okP n x → J pre W → YieldAt Fence.wide m Try.prog l (encP l0 x) W fun e W' =>
        e = .returned (.bool true) ∧ J (pre ++ [x]) W' ∧ W'.heap[W1.heap.size + 1]? = W.heap[W1.heap.size + 1]? ∧ W'.heap[W1.heap.size + 2]? = W.heap[W1.heap.size + 2]?) :
    CallsIn Fence.wide m Try.prog 23 #[.func (.yield l) #[] #[], .pointer (some ⟨bl, 0, none⟩)] W1 fun e W' => (∃ v, e = .returned v) ∧ J (picks n 5 0) W' := by
  have hp := fun W p h hj hph => pick_in n m l W1.heap.size (W1.heap.size + 1) (W1.heap.size + 2) (W1.heap.size + 3) bl A0 c0 l0 hn hn7 hc0 (by omega) (fun ad e => by have := hAd ad e; constructor <;> omega) J hEnv hJ hY 5 0 rfl (m - 1) 0 (Nat.zero_le _) [] rfl (fun i hi => by cases hi) [] W p h hj hph rfl rfl
  have HP := Aside0.mk hp
  clear hp hJ hY
  have hdd : ∀ k : Nat, (Fence.wide.depth.isSome = true → 1 ≤ k) := fun k h => by cases h
  refine callsIn_of_wp Try.func23 rfl trivial ?_ rfl
  simp only [Try.ntmps23, List.size_toArray, List.length_cons, List.length_nil, Nat.reduceAdd, Nat.reduceSub, Array.replicate_succ, Array.replicate_zero, List.push_toArray, List.append_toArray, List.nil_append, List.cons_append]
  obtain ⟨W2, hW2⟩ : ∃ W2, ((((W1.alloc (.cells #[.func (.yield l) #[] #[]] 46)).alloc (.cells #[.int .i64 0, .int .i64 0, .int .i64 0, .int .i64 0, .int .i64 0] 43)).alloc (.cells #[.int .i64 0, .int .i64 0, .int .i64 0, .int .i64 0, .int .i64 0] 43)).alloc (.cells #[.func (.func 24) #[] #[.pointer (some ⟨W1.heap.size, 0, none⟩), .pointer (some ⟨W1.heap.size + 1, 0, none⟩), .pointer (some ⟨W1.heap.size + 2, 0, none⟩), .pointer (some ⟨bl, 0, none⟩), .pointer (some ⟨W1.heap.size + 3, 0, none⟩)]] 47)) = W2 := ⟨_, rfl⟩
  have b0 : W2.heap[W1.heap.size]? = some (.cells #[.func (.yield l) #[] #[]] 46 (0, 0)) := by rw [← hW2]; exact blk_alloc (blk_alloc (blk_alloc (blk_new _ _) _) _) _
  have b1 : W2.heap[W1.heap.size + 1]? = some (.cells (nums .i64 [0, 0, 0, 0, 0]).toArray 43 (0, 0)) := by rw [← hW2]; refine blk_alloc (blk_alloc ?_ _) _; have := blk_new (W1.alloc (.cells #[.func (.yield l) #[] #[]] 46)) (.cells (nums .i64 [0, 0, 0, 0, 0]).toArray 43); rw [World.size_alloc] at this; exact this
  have b2 : W2.heap[W1.heap.size + 2]? = some (.cells (nums .i64 [0, 0, 0, 0, 0]).toArray 43 (0, 0)) := by rw [← hW2]; refine blk_alloc ?_ _; have := blk_new ((W1.alloc (.cells #[.func (.yield l) #[] #[]] 46)).alloc (.cells #[.int .i64 0, .int .i64 0, .int .i64 0, .int .i64 0, .int .i64 0] 43)) (.cells (nums .i64 [0, 0, 0, 0, 0]).toArray 43); rw [World.size_alloc, World.size_alloc] at this; exact this
  have b3 : W2.heap[W1.heap.size + 3]? = some (.cells #[.func (.func 24) #[] #[.pointer (some ⟨W1.heap.size, 0, none⟩), .pointer (some ⟨W1.heap.size + 1, 0, none⟩), .pointer (some ⟨W1.heap.size + 2, 0, none⟩), .pointer (some ⟨bl, 0, none⟩), .pointer (some ⟨W1.heap.size + 3, 0, none⟩)]] 47 (0, 0)) := by rw [← hW2]; have := blk_new (((W1.alloc (.cells #[.func (.yield l) #[] #[]] 46)).alloc (.cells #[.int .i64 0, .int .i64 0, .int .i64 0, .int .i64 0, .int .i64 0] 43)).alloc (.cells #[.int .i64 0, .int .i64 0, .int .i64 0, .int .i64 0, .int .i64 0] 43)) (.cells #[.func (.func 24) #[] #[.pointer (some ⟨W1.heap.size, 0, none⟩), .pointer (some ⟨W1.heap.size + 1, 0, none⟩), .pointer (some ⟨W1.heap.size + 2, 0, none⟩), .pointer (some ⟨bl, 0, none⟩), .pointer (some ⟨W1.heap.size + 3, 0, none⟩)]] 47); rw [World.size_alloc, World.size_alloc, World.size_alloc] at this; exact this
  have hS : SameBut [] W1 W2 := by rw [← hW2]; exact ((((SameBut.refl _ _).alloc _).alloc _).alloc _).alloc _
  have hz : W1.heap.size + 4 ≤ W2.heap.size := by rw [← hW2]; simp
  have he3 : EnvP W2 W1.heap.size (W1.heap.size + 1) (W1.heap.size + 2) (W1.heap.size + 3) bl l A0 c0 l0 := ⟨b0, b3, hS.blk hbl (by simp), Kd.C_below hC (hS.below (Below.refl _ _) (by simp) (Nat.le_refl _))⟩
  have hp3 := HP.out W2 _ _ (hJ0 W2 hS hz he3) ⟨b1, b2, rfl, rfl⟩
  have HP3 := Aside0.mk hp3
  rw [← hW2] at HP3
  clear HP hp3 he3 hS hz b0 b1 b2 b3 hW2 hJ0 hEnv hC hbl hAd
  gi_wp2
  refine ⟨trivial, hdd _, ?_⟩
  refine HP3.out.mono ?_
  rintro e W3 ⟨rfl, hq, -⟩
  have HQ := Aside0.mk hq
  clear hq
  gi_wp2
  go_end0
  exact ⟨⟨_, rfl⟩, by have := HQ.out; simpa using this⟩
end Go.Proofs.Ytpcmodmghpijeaa.Q
