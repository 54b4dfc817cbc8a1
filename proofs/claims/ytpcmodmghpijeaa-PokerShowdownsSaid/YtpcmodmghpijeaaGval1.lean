import Derived.Test.YtpcmodmghpijeaaQ0
import Derived.Test.YtpcmodmghpijeaaGsortG
namespace Go.Proofs.Ytpcmodmghpijeaa.Q
open Go.RowKit Go.Proofs.YtpcmodmghpijeaaW.PrintWords Go.Proofs.YtpcmodmghpijeaaW.PrintLast Go.Proofs.YtpcmodmghpijeaaW.PrintMore
set_option linter.unusedVariables false
def cmpI (x y : Int) : Int := if x < y then -1 else if y < x then 1 else 0
theorem isnan_any (x : Int) (w : World) : Calls Try.prog 29 #[.int .i64 x] w fun e w' => e = .returned (.bool false) ∧ w = w' := by
  go_enter Try.func29, Try.ntmps29
  go_wp2
  go_ret
  exact ⟨by simp, rfl⟩
set_option maxHeartbeats 400000 in
theorem cmp_any (x y : Int) (w : World) : Calls Try.prog 27 #[.int .i64 x, .int .i64 y] w fun e w' => e = .returned (.int .i64 (cmpI x y)) ∧ w' = w := by
  by_cases h1 : x < y
  · have h : cmpI x y = -1 := by simp [cmpI, h1]
    rw [h]; clear h
    go_enter Try.func27, Try.ntmps27
    go_wp2_with (go_at_call 29; refine (isnan_any _ _).mono ?_; rintro e w' ⟨rfl, rfl⟩)
    go_ret
    exact ⟨rfl, rfl⟩
  · by_cases h2 : y < x
    · have h : cmpI x y = 1 := by simp [cmpI, h1, h2]
      rw [h]; clear h
      go_enter Try.func27, Try.ntmps27
      go_wp2_with (go_at_call 29; refine (isnan_any _ _).mono ?_; rintro e w' ⟨rfl, rfl⟩)
      go_ret
      exact ⟨rfl, rfl⟩
    · have h : cmpI x y = 0 := by simp [cmpI, h1, h2]
      rw [h]; clear h
      go_enter Try.func27, Try.ntmps27
      go_wp2_with (go_at_call 29; refine (isnan_any _ _).mono ?_; rintro e w' ⟨rfl, rfl⟩)
      go_ret
      exact ⟨rfl, rfl⟩
/-- 'func(a, b int) int { return cmp.Compare(many[b], many[a]) }', many in block B. -/
theorem by_many (m : List Int) (B : Nat) (a b : Int) (w : World) (hm : m.length = 13) (hB : w.heap[B]? = some (.cells (nums .i64 m).toArray 48 (0, 0))) (ha0 : 0 ≤ a) (ha1 : a < 13) (hb0 : 0 ≤ b) (hb1 : b < 13) :
    Calls Try.prog 26 #[.int .i64 a, .int .i64 b, .pointer (some ⟨B, 0, none⟩)] w fun e w' => e = .returned (.int .i64 (cmpI (rd m b) (rd m a))) ∧ ∃ q, w' = w.drewN q := by
  have h1 : w.cell? ⟨B, a.toNat, none⟩ = some (.int .i64 (rd m a)) := (blk_cell hB a.toNat).trans (by simp [nums, rd, List.getElem?_eq_getElem (show a.toNat < m.length by omega), List.getD_eq_getElem?_getD])
  have h2 : w.cell? ⟨B, b.toNat, none⟩ = some (.int .i64 (rd m b)) := (blk_cell hB b.toNat).trans (by simp [nums, rd, List.getElem?_eq_getElem (show b.toNat < m.length by omega), List.getD_eq_getElem?_getD])
  generalize rd m a = x at *
  generalize rd m b = y at *
  clear hB hm
  go_enter Try.func26, Try.ntmps26
  go_wp2
  go_quiet ((go_at_call 27; exact Calls.quiet_of_same (cmp_any _ _ _)))
  go_wp2
  go_ret
  exact ⟨rfl, _, rfl⟩

abbrev R13 := { x : Int // 0 ≤ x ∧ x < 13 }
instance : Inhabited R13 := ⟨⟨0, by omega⟩⟩
def encR (x : R13) : Value := .int .i64 x.1
def cfR (m : List Int) (x y : R13) : Int := cmpI (rd m y.1) (rd m x.1)

theorem cmpReads_many (m : List Int) (B g size : Nat) (w : World) (hm : m.length = 13) (hB : w.heap[B]? = some (.cells (nums .i64 m).toArray 48 (0, 0))) (hne : B ≠ g) :
    CmpReads Try.prog 26 #[.pointer (some ⟨B, 0, none⟩)] encR (cfR m) g 0 size w :=
  fun q os dk _ x y => by_many m B x.1 y.1 _ hm (sortWorld_blk encR hB hne) x.2.1 x.2.2 y.2.1 y.2.2
end Go.Proofs.Ytpcmodmghpijeaa.Q
namespace Go.Proofs
open Go.Shelf Go.RowKit Go.Lib Go.Sort
def Try.insL_ren : Go.Shelf.Ren := ⟨fun | 20 => 30 | n => n, fun | 24 => 3 | 22 => 22 | 3 => 3 | 25 => 50 | 4 => 4 | 0 => 0 | n => n, fun | n => n⟩
theorem Try.insL : Go.Proofs.SlLaysF.n20 Try.prog Try.insL_ren := {
  mixed := by kernel_rfl
  f20 := ⟨Try.f30.name, by decide, Try.func30.trans (congrArg some (by kernel_rfl))⟩
  t0 := Try.underlying0
  a0 := Try.isAgg0
  z0 := Try.sizeOf0
  v0 := Try.zeroValue0
  t3 := Try.underlying3
  a3 := Try.isAgg3
  z3 := Try.sizeOf3
  v3 := Try.zeroValue3
  t4 := Try.underlying4
  a4 := Try.isAgg4
  z4 := Try.sizeOf4
  v4 := Try.zeroValue4
  t22 := Try.underlying22
  a22 := Try.isAgg22
  z22 := Try.sizeOf22
  v22 := Try.zeroValue22
  a24 := Try.isAgg3
  z24 := Try.sizeOf3
  t25 := Try.underlying50
  a25 := Try.isAgg50
  z25 := Try.sizeOf50
  v25 := Try.zeroValue50 }
end Go.Proofs
namespace Go.Proofs.Ytpcmodmghpijeaa.Q
open Go.RowKit Go.Proofs.YtpcmodmghpijeaaW.PrintWords Go.Sort Go.Shelf
def stab (m : List Int) (d : Array R13) : Array R13 := Sort.insertionSort (ltOf (cfR m)) d 0 d.size
theorem stable_any (m : List Int) (B g cap : Nat) (d : Array R13) (w : World) (hm : m.length = 13) (hB : w.heap[B]? = some (.cells (nums .i64 m).toArray 48 (0, 0))) (hne : B ≠ g) (hH : Holds encR w g 0 d) (hd : d.size ≤ 19) :
    Calls Try.prog 28 #[.slice (some ⟨g, 0, none⟩) d.size cap, .int .i64 d.size, .func (.func 26) #[] #[.pointer (some ⟨B, 0, none⟩)]] w fun e w' => e = .returned (.tuple #[]) ∧ ∃ q, w' = (putRow encR w g 0 (stab m d)).drewN q := by
  have eg : ∀ args w, (callFunc 26 args).run Try.prog w = .ok (.enter 26 args) w := enters_of Try.func26 (by kernel_rfl) rfl
  have hcon := Any.insertionSortCmpFunc_one Try.insL encR (fun _ => rfl) (cfR m) 26 #[.pointer (some ⟨B, 0, none⟩)] g 0 cap 0 d.size d w eg (cmpReads_many m B g d.size w hm hB hne) hH (Nat.zero_le _) (Nat.le_refl _) (by omega)
  change Calls Try.prog 30 #[_, .int .i64 0, _, _] _ _ at hcon
  have HC := Aside0.mk hcon
  clear hcon hH hB eg
  have hstab : stab m d = Sort.insertionSort (ltOf (cfR m)) d 0 d.size := rfl
  rw [hstab]
  generalize Sort.insertionSort (ltOf (cfR m)) d 0 d.size = r at *
  go_enter Try.func28, Try.ntmps28
  go_wp2
  refine wp_loop_rounds 1 ?_
  rw [rounds_succ]
  go_wp2_with (go_at_call 30; refine HC.out.mono ?_; rintro e w' ⟨rfl, q, rfl⟩)
  refine wp_loop_rounds 1 ?_
  rw [rounds_succ]
  go_wp2
  go_end0
  exact ⟨rfl, q, rfl⟩
theorem sortStable_any (m : List Int) (B g cap : Nat) (d : Array R13) (w : World) (hm : m.length = 13) (hB : w.heap[B]? = some (.cells (nums .i64 m).toArray 48 (0, 0))) (hne : B ≠ g) (hH : Holds encR w g 0 d) (hd : d.size ≤ 19) :
    Calls Try.prog 25 #[.slice (some ⟨g, 0, none⟩) d.size cap, .func (.func 26) #[] #[.pointer (some ⟨B, 0, none⟩)]] w fun e w' => e = .returned (.tuple #[]) ∧ ∃ q, w' = (putRow encR w g 0 (stab m d)).drewN q := by
  have HC := Aside0.mk (stable_any m B g cap d w hm hB hne hH hd)
  clear hH hB hm
  generalize stab m d = r at *
  go_enter Try.func25, Try.ntmps25
  go_wp2_with (go_at_call 28; refine HC.out.mono ?_; rintro e w' ⟨rfl, q, rfl⟩)
  go_end0
  exact ⟨rfl, q, rfl⟩
end Go.Proofs.Ytpcmodmghpijeaa.Q
namespace Go.Proofs.Ytpcmodmghpijeaa.Q
open Go.RowKit Go.Proofs.YtpcmodmghpijeaaW.PrintWords Go.Sort Go.Shelf
set_option linter.unusedVariables false
def toR1 (x : Int) : R13 := if h : 0 ≤ x ∧ x < 13 then ⟨x, h⟩ else ⟨0, by omega⟩
def toR (s : List Int) : Array R13 := (s.map toR1).toArray
def srt (m s : List Int) : List Int := (stab m (toR s)).toList.map (·.1)
theorem toR_vals (s : List Int) (h : ∀ x ∈ s, 0 ≤ x ∧ x < 13) : (toR s).toList.map encR = nums .i64 s := by
  simp only [toR, nums, List.map_map]
  apply List.map_congr_left
  intro x hx
  simp [encR, toR1, h x hx]
theorem srt_vals (m s : List Int) : (stab m (toR s)).toList.map encR = nums .i64 (srt m s) := by
  simp [srt, nums, encR]
theorem swp_size {α : Type} [Inhabited α] (d : Array α) (i j : Nat) : (swp d i j).size = d.size := by simp [swp]
theorem insInner_size {α : Type} [Inhabited α] (lt : α → α → Bool) (a : Nat) : ∀ (j : Nat) (d : Array α), (insInner lt a j d).size = d.size
  | 0, d => rfl
  | j + 1, d => by
    simp only [insInner]
    split
    · rw [insInner_size lt a j, swp_size]
    · rfl
def insOuterF {α : Type} [Inhabited α] (lt : α → α → Bool) (a b : Nat) : Nat → Nat → Array α → Array α
  | 0, _, d => d
  | k + 1, i, d => if i < b then insOuterF lt a b k (i + 1) (insInner lt a i d) else d
theorem insOuter_F {α : Type} [Inhabited α] (lt : α → α → Bool) (a b : Nat) : ∀ (k i : Nat) (d : Array α), b ≤ i + k → insOuter lt a b i d = insOuterF lt a b k i d
  | 0, i, d, h => by rw [insOuter, if_neg (by omega)]; rfl
  | k + 1, i, d, h => by
    rw [insOuter]
    simp only [insOuterF]
    split
    · exact insOuter_F lt a b k (i + 1) _ (by omega)
    · rfl
theorem insOuterF_size {α : Type} [Inhabited α] (lt : α → α → Bool) (a b : Nat) : ∀ (k i : Nat) (d : Array α), (insOuterF lt a b k i d).size = d.size
  | 0, i, d => rfl
  | k + 1, i, d => by
    simp only [insOuterF]
    split
    · rw [insOuterF_size lt a b k, insInner_size]
    · rfl
theorem stab_F (m : List Int) (d : Array R13) : stab m d = insOuterF (ltOf (cfR m)) 0 d.size d.size 1 d := insOuter_F _ _ _ _ _ _ (by omega)
theorem stab_size (m : List Int) (d : Array R13) : (stab m d).size = d.size := by rw [stab_F, insOuterF_size]
theorem toR_size (s : List Int) : (toR s).size = s.length := by simp [toR]
theorem srt_len (m s : List Int) : (srt m s).length = s.length := by simp [srt, stab_size, toR_size]
theorem sortStable_own (m : List Int) (B base : Nat) (v : Value) (s : List Int) (w0 w : World) (hm : m.length = 13) (hB : w.heap[B]? = some (.cells (nums .i64 m).toArray 48 (0, 0))) (hs : ∀ x ∈ s, 0 ≤ x ∧ x < 13) (hne : s ≠ []) (hl : s.length ≤ 19)
    (HO : Kd.R (Kd.int .i64) 3 w base (fun _ => True) v s) (HB : Below base w0 w) (hbs : base ≤ w.heap.size) :
    Calls Try.prog 25 #[v, .func (.func 26) #[] #[.pointer (some ⟨B, 0, none⟩)]] w fun e w' => e = .returned (.tuple #[]) ∧ Kd.R (Kd.int .i64) 3 w' base (fun _ => True) v (srt m s) ∧ w'.heap[B]? = some (.cells (nums .i64 m).toArray 48 (0, 0)) ∧ Below base w0 w' := by
  have hown := Kd.own_of_R HO
  have hneB : some B ≠ v.ownBlock := Kd.R_ne HO hB (by decide)
  rcases hown.2 with ⟨rfl, h0⟩ | ⟨g, cap, cur, rfl, hbase, hb, h1, h2, h3, h4⟩
  · exact absurd (by simpa [encs] using h0) hne
  have hBg : B ≠ g := fun e => hneB (by rw [e]; rfl)
  have hH : Holds encR w g 0 (toR s) := holds_of_blockG encR hb (by rw [toR_vals s hs, toR_size]; simpa [nums, encs] using h4)
  have hc := sortStable_any m B g cap (toR s) w hm hB hBg hH (by rw [toR_size]; exact hl)
  rw [toR_size] at hc
  refine hc.mono ?_
  rintro e w' ⟨rfl, q, rfl⟩
  have he : (putRow encR w g 0 (stab m (toR s))).drewN q = grow (putRow encR (Sort.ahead w q) g 0 (stab m (toR s))) #[] := by rw [grow_empty]; rfl
  rw [he]
  refine ⟨rfl, ?_, ?_, ?_⟩
  · have := ownsRow_sortedG encR (w := w) (n := q) (os := #[]) (ts := stab m (toR s)) (m := s.length) (by rw [stab_size, toR_size]) hbase hb h1 h2 h3
    rw [srt_vals] at this
    rw [← srt_len m s] at this ⊢
    exact Kd.R_of_own (h1 := fun _ => rfl) this (fun _ _ => trivial)
  · exact blk_grown hB (grownBy_sortedG encR _) (fun e => hBg (by injection e))
  · exact HB.grown (grownBy_sortedG encR _) hbs (fun k hk => by cases hk; exact hbase)
end Go.Proofs.Ytpcmodmghpijeaa.Q
