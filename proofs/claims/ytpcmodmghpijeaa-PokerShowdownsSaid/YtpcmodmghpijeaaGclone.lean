import Derived.Test.YtpcmodmghpijeaaGrf
import Derived.Test.YtpcmodmghpijeaaGval2
import Derived.Lib.SliceRun
import Derived.RegionTactic
import Derived.ChangeAlike
namespace Go.Proofs.Ytpcmodmghpijeaa.Q
open Go.RowKit Go.Shelf Go.Proofs.YtpcmodmghpijeaaW.PrintWords Go.Proofs.YtpcmodmghpijeaaW.PrintLast Go.Proofs.YtpcmodmghpijeaaW.PrintMore
set_option linter.unusedVariables false
attribute [local go_sem] Oper.semAt_some
theorem fives_in (n : Nat) (A0 : Option Addr) (k c0 : Nat) (w : World) :
    CallsIn Fence.wide n Try.prog 19 #[.slice A0 k c0] w fun e w' => e = .returned (.func (.func 23) #[] #[.pointer (some ⟨w.heap.size, 0, none⟩)]) ∧ w' = w.alloc (.cells #[.slice A0 k c0] 22) := by
  refine callsIn_of_wp Try.func19 rfl trivial ?_ rfl
  simp only [Try.ntmps19, List.size_toArray, List.length_cons, List.length_nil, Nat.reduceAdd, Nat.reduceSub, Array.replicate_succ, Array.replicate_zero, List.push_toArray, List.append_toArray, List.nil_append, List.cons_append]
  gi_wp2
  go_ret
  exact ⟨rfl, rfl⟩
theorem clone_any (g : Nat) (h : List Int) (w : World) (hh : h.length = 5) (hg : w.heap[g]? = some (.cells (nums .i64 h).toArray 43 (0, 0))) :
    Calls Try.prog 13 #[.slice (some ⟨g, 0, none⟩) 5 5] w fun e w' => ∃ v : Value, e = .returned v ∧ Kd.R (Kd.int .i64) 3 w' w.heap.size (fun _ => True) v h ∧ Below w.heap.size w w' := by
  have HG := Aside0.mk hg
  clear hg
  have hq : ∀ w1, (binOp .eql 22 (.slice (some ⟨g, 0, none⟩) 5 5) (.slice none 0 0)).run Try.prog w1 = .ok (.bool false) w1 := fun w1 => Go.Lib.run_eql_slice_nil w1 22 3 (some ⟨g, 0, none⟩) 5 5 0 0 Try.underlying22
  go_enter Try.func13, Try.ntmps13
  have HC := Aside0.mk (show ∀ o, Kd.C (Kd.int .i64) (w.alloc o) (some ⟨g, 0, none⟩) 5 h from fun o => by
    refine Kd.C_of_reads (d := 0) (h1 := fun _ => rfl) ⟨hh, by decide, fun _ => ⟨⟨g, 0, none⟩, rfl, fun i hi => ?_⟩⟩
    have hc := blk_cell (blk_alloc HG.out o) i
    rw [show (⟨g, 0, none⟩ : Addr).add i = ⟨g, i, none⟩ by simp [Addr.add]; omega, hc]
    simp [nums, List.getD_eq_getElem?_getD, List.getElem?_eq_getElem (show i < h.length by omega)])
  have HE := Aside0.mk (show Kd.R (Kd.int .i64) 3 (w.alloc (.cells #[] 3)) w.heap.size (fun _ => True) (.slice (some ⟨w.heap.size, 0, none⟩) 0 0) [] from
    Kd.R_of_own (h1 := fun _ => rfl) (World.ownsRow_lit (e := 3) (size := 1) w #[] 0 (Nat.le_refl _) (by decide) rfl) (fun _ _ => trivial))
  have HB := Aside0.mk (show Below w.heap.size w (w.alloc (.cells #[] 3)) from below_alloc (Below.refl _ _) _)
  have HS := Aside0.mk (show w.heap.size ≤ (w.alloc (.cells #[] 3)).heap.size from by simp)
  go_wp2_with (at_builtin; go_loud (refine Kd.R_append_rows (Kd.int .i64) (w0 := w) w.heap.size rfl (.tmp 5) (.tmp 6) 22 3 (.int .i64 0) 8 rfl Try.underlying22 info3 rfl (by decide) (by omega) (.slice (some ⟨w.heap.size, 0, none⟩) 0 0) ([] : List Int) h _ _ _ (fun _ => True) (fun _ => False) rfl rfl ?aO ?aR (fun _ _ h => h) (fun _ h => h.elim) ?aF ?aB ?aS ?aL ?_; (case aO => exact HE.out); (case aR => exact (HC.out _)); (case aF => exact (fun _ _ => trivial)); (case aB => exact HB.out); (case aS => exact HS.out); (case aL => decide); intro v1 w1 ho hb hg hat; have HO1 := Aside0.mk ho; have HB1 := Aside0.mk hb; clear ho hb hg hat))
  go_ret
  exact ⟨_, rfl, HO1.out, HB1.out⟩
end Go.Proofs.Ytpcmodmghpijeaa.Q
