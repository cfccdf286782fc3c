/- Printed by this session's own program (wip/tools: a turn of the kit's print) out of the translation: each Go function that the law reaches as a Lean function, and that the machine's call comes to what that function tells; no condition but what each theorem names. -/
import Derived.Test.YthhlnhbmjkjmlaaPRelocMovesx0
import Derived.Test.YthhlnhbmjkjmlaaPRelocMovesx1
import Derived.Test.YthhlnhbmjkjmlaaPRelocMovesx2
namespace Go.Proofs.Ythhlnhbmjkjmlaa.PRelocMoves
open Go.RowKit Go.Proofs.YthhlnhbmjkjmlaaW.PrintWords Go.Proofs.YthhlnhbmjkjmlaaW.PrintLast Go.Proofs.YthhlnhbmjkjmlaaW.PrintMore Go.Proofs.YthhlnhbmjkjmlaaX
attribute [local go_sem] max2_int min2_int max_two min_two max_three min_three max_four min_four   -- for this text's walks alone
set_option linter.unusedVariables false
set_option linter.unusedSimpArgs false

/-! ### shacklelaw19_RelocMoves: function 4 -/
def shacklelaw19_RelocMoves.j0 : Nat → Int → Bool → Int → Int → Option Int → Int → Int → Option Int → Int → Bool → Option (Bool)
  | 0, _, _, _, _, _, _, _, _, _, _ => none
  | k + 1, x3, x9, x11, x12, x13, x14, x15, x16, x43, x44 => if x44 = true then (if x9 = true then (if x11 = x14 then (if x12 = x15 then ((shacklelaw00_Code.f x13).bind fun t146 => ((shacklelaw00_Code.f x16).bind fun t147 => (some (t146 == t147)))) else (some false)) else (some false)) else (some false)) else (if x43 = 1 then (if x9 = true then (if x14 = (IntKind.u64.wrap (x11 + x3)) then (if x12 = x15 then (if x13.isNone = true then (if x16.isNone = true then (some true) else (some false)) else (some false)) else (some false)) else (some false)) else (some false)) else (if x43 = 6 then (if x9 = true then (if x14 = (IntKind.u64.wrap (x11 + x3)) then (if x12 = x15 then (if x13.isNone = true then (if x16.isNone = true then (some true) else (some false)) else (some false)) else (some false)) else (some false)) else (some false)) else (if x43 = 7 then (if x9 = true then (if x14 = (IntKind.u64.wrap (x11 + x3)) then (if x12 = x15 then (if x13.isNone = true then (if x16.isNone = true then (some true) else (some false)) else (some false)) else (some false)) else (some false)) else (some false)) else (if x43 = 8 then (if x9 = true then (if x14 = (IntKind.u64.wrap (x11 + x3)) then (if x12 = x15 then (if x13.isNone = true then (if x16.isNone = true then (some true) else (some false)) else (some false)) else (some false)) else (some false)) else (some false)) else (if x43 = 37 then (if x9 = true then (if x14 = (IntKind.u64.wrap (x11 + x3)) then (if x12 = x15 then (if x13.isNone = true then (if x16.isNone = true then (some true) else (some false)) else (some false)) else (some false)) else (some false)) else (some false)) else (some x9))))))
def shacklelaw19_RelocMoves.f (k : Nat) (a0_0 : Int) (a0_1 : Int) (a0_2 : Int) (a0_3 : Int) (a1 : Int) (a2_0 : Int) (a2_1 : Int) (a2_2 : Int) (a2_3 : Int) (a2_4 : Bool) (a2_5 : Int) (a3 : Int) : Option (Bool) := (shacklelaw19_up.f k).bind fun t138 => ((reloc_Value.f k a0_0 a0_1 a0_2 a0_3 a1 a2_0 a2_1 a2_2 a2_3 a2_4 a2_5).bind fun bt140 => ((reloc_Value.f k a0_0 a0_1 a0_2 a0_3 (IntKind.u64.wrap (a1 + a3)) (IntKind.u64.wrap (a2_0 + a3)) a2_1 a2_2 a2_3 a2_4 a2_5).bind fun bt143 => (if a0_1 = 2 then (shacklelaw19_RelocMoves.j0 k a3 t138 bt140.1 bt140.2.1 bt140.2.2 bt143.1 bt143.2.1 bt143.2.2 a0_1 (a0_1 == 2)) else (if a0_1 = 24 then (shacklelaw19_RelocMoves.j0 k a3 t138 bt140.1 bt140.2.1 bt140.2.2 bt143.1 bt143.2.1 bt143.2.2 a0_1 (a0_1 == 24)) else (if a0_1 = 16 then (shacklelaw19_RelocMoves.j0 k a3 t138 bt140.1 bt140.2.1 bt140.2.2 bt143.1 bt143.2.1 bt143.2.2 a0_1 (a0_1 == 16)) else (if a0_1 = 17 then (shacklelaw19_RelocMoves.j0 k a3 t138 bt140.1 bt140.2.1 bt140.2.2 bt143.1 bt143.2.1 bt143.2.2 a0_1 (a0_1 == 17)) else (if a0_1 = 18 then (shacklelaw19_RelocMoves.j0 k a3 t138 bt140.1 bt140.2.1 bt140.2.2 bt143.1 bt143.2.1 bt143.2.2 a0_1 (a0_1 == 18)) else (if a0_1 = 32 then (shacklelaw19_RelocMoves.j0 k a3 t138 bt140.1 bt140.2.1 bt140.2.2 bt143.1 bt143.2.1 bt143.2.2 a0_1 (a0_1 == 32)) else (if a0_1 = 33 then (shacklelaw19_RelocMoves.j0 k a3 t138 bt140.1 bt140.2.1 bt140.2.2 bt143.1 bt143.2.1 bt143.2.2 a0_1 (a0_1 == 33)) else (shacklelaw19_RelocMoves.j0 k a3 t138 bt140.1 bt140.2.1 bt140.2.2 bt143.1 bt143.2.1 bt143.2.2 a0_1 (a0_1 == 0)))))))))))
theorem shacklelaw19_RelocMoves.mono_l : ∀ k, (∀ y0 y1 y2 y3 y4 y5 y6 y7 y8 y9, LeO (shacklelaw19_RelocMoves.j0 k y0 y1 y2 y3 y4 y5 y6 y7 y8 y9) (shacklelaw19_RelocMoves.j0 (k + 1) y0 y1 y2 y3 y4 y5 y6 y7 y8 y9))
  | 0 => fun _ _ _ _ _ _ _ _ _ _ r h => by simp [shacklelaw19_RelocMoves.j0] at h
  | k + 1 => by
    have ih0 := shacklelaw19_RelocMoves.mono_l k
    · intro y0 y1 y2 y3 y4 y5 y6 y7 y8 y9
      unfold shacklelaw19_RelocMoves.j0
      repeat' first
      | (with_reducible exact ih0 _ _ _ _ _ _ _ _ _ _)
      | (with_reducible exact reloc_Value.mono _ _ _ _ _ _ _ _ _ _ _ _)
      | (with_reducible exact shacklelaw19_up.mono _)
      | (with_reducible exact LeO.refl _)
      | (with_reducible exact LeO.none _)
      | (with_reducible refine LeO.ite ?_ ?_)
      | (with_reducible refine LeO.bind ?_ (fun _ => ?_))
      | exact ih0 _ _ _ _ _ _ _ _ _ _
      | exact reloc_Value.mono _ _ _ _ _ _ _ _ _ _ _ _
      | exact shacklelaw19_up.mono _
      | exact LeO.none _
      | refine LeO.ite ?_ ?_
      | refine LeO.bind ?_ (fun _ => ?_)
theorem shacklelaw19_RelocMoves.mono : ∀ a0 a1 a2 a3 a4 a5 a6 a7 a8 a9 a10 a11 k, LeO (shacklelaw19_RelocMoves.f k a0 a1 a2 a3 a4 a5 a6 a7 a8 a9 a10 a11) (shacklelaw19_RelocMoves.f (k + 1) a0 a1 a2 a3 a4 a5 a6 a7 a8 a9 a10 a11) := by
  intro a0 a1 a2 a3 a4 a5 a6 a7 a8 a9 a10 a11 k
  have ih0 := shacklelaw19_RelocMoves.mono_l k
  unfold shacklelaw19_RelocMoves.f
  repeat' first
      | (with_reducible exact ih0 _ _ _ _ _ _ _ _ _ _)
      | (with_reducible exact reloc_Value.mono _ _ _ _ _ _ _ _ _ _ _ _)
      | (with_reducible exact shacklelaw19_up.mono _)
      | (with_reducible exact LeO.refl _)
      | (with_reducible exact LeO.none _)
      | (with_reducible refine LeO.ite ?_ ?_)
      | (with_reducible refine LeO.bind ?_ (fun _ => ?_))
      | exact ih0 _ _ _ _ _ _ _ _ _ _
      | exact reloc_Value.mono _ _ _ _ _ _ _ _ _ _ _ _
      | exact shacklelaw19_up.mono _
      | exact LeO.none _
      | refine LeO.ite ?_ ?_
      | refine LeO.bind ?_ (fun _ => ?_)
set_option maxHeartbeats 8000000 in
set_option maxRecDepth 100000 in
theorem shacklelaw19_RelocMoves.calls (k : Nat) (a0_0 : Int) (a0_1 : Int) (a0_2 : Int) (a0_3 : Int) (a1 : Int) (a2_0 : Int) (a2_1 : Int) (a2_2 : Int) (a2_3 : Int) (a2_4 : Bool) (a2_5 : Int) (a3 : Int) (r : Bool) (w : World) (h : shacklelaw19_RelocMoves.f k a0_0 a0_1 a0_2 a0_3 a1 a2_0 a2_1 a2_2 a2_3 a2_4 a2_5 a3 = some r) :
    Calls Try.prog 4 #[.agg #[.int .u64 a0_0, .int .i64 a0_1, .int .i64 a0_2, .int .i64 a0_3], .int .u64 a1, .agg #[.int .u64 a2_0, .int .u64 a2_1, .int .i64 a2_2, .int .u64 a2_3, .bool a2_4, .int .u64 a2_5], .int .u64 a3] w fun e w' => e = .returned (.bool r) ∧ Below w.heap.size w w' := by
  have hu24 := Try.underlying24
  have hu26 := Try.underlying26
  have hu29 := Try.underlying29
  have hu49 := Try.underlying49
  have HB := Aside0.mk (Below.refl w.heap.size w)
  have H : ((shacklelaw19_up.f k).bind fun t138 => ((reloc_Value.f k a0_0 a0_1 a0_2 a0_3 a1 a2_0 a2_1 a2_2 a2_3 a2_4 a2_5).bind fun bt140 => ((reloc_Value.f k a0_0 a0_1 a0_2 a0_3 (IntKind.u64.wrap (a1 + a3)) (IntKind.u64.wrap (a2_0 + a3)) a2_1 a2_2 a2_3 a2_4 a2_5).bind fun bt143 => (if a0_1 = 2 then (shacklelaw19_RelocMoves.j0 k a3 t138 bt140.1 bt140.2.1 bt140.2.2 bt143.1 bt143.2.1 bt143.2.2 a0_1 (a0_1 == 2)) else (if a0_1 = 24 then (shacklelaw19_RelocMoves.j0 k a3 t138 bt140.1 bt140.2.1 bt140.2.2 bt143.1 bt143.2.1 bt143.2.2 a0_1 (a0_1 == 24)) else (if a0_1 = 16 then (shacklelaw19_RelocMoves.j0 k a3 t138 bt140.1 bt140.2.1 bt140.2.2 bt143.1 bt143.2.1 bt143.2.2 a0_1 (a0_1 == 16)) else (if a0_1 = 17 then (shacklelaw19_RelocMoves.j0 k a3 t138 bt140.1 bt140.2.1 bt140.2.2 bt143.1 bt143.2.1 bt143.2.2 a0_1 (a0_1 == 17)) else (if a0_1 = 18 then (shacklelaw19_RelocMoves.j0 k a3 t138 bt140.1 bt140.2.1 bt140.2.2 bt143.1 bt143.2.1 bt143.2.2 a0_1 (a0_1 == 18)) else (if a0_1 = 32 then (shacklelaw19_RelocMoves.j0 k a3 t138 bt140.1 bt140.2.1 bt140.2.2 bt143.1 bt143.2.1 bt143.2.2 a0_1 (a0_1 == 32)) else (if a0_1 = 33 then (shacklelaw19_RelocMoves.j0 k a3 t138 bt140.1 bt140.2.1 bt140.2.2 bt143.1 bt143.2.1 bt143.2.2 a0_1 (a0_1 == 33)) else (shacklelaw19_RelocMoves.j0 k a3 t138 bt140.1 bt140.2.1 bt140.2.2 bt143.1 bt143.2.1 bt143.2.2 a0_1 (a0_1 == 0)))))))))))) = some r := h
  clear h
  replace H := Option.bind_eq_some_iff.mp H
  obtain ⟨t138, A50, H⟩ := H
  replace H : ((reloc_Value.f k a0_0 a0_1 a0_2 a0_3 a1 a2_0 a2_1 a2_2 a2_3 a2_4 a2_5).bind fun bt140 => ((reloc_Value.f k a0_0 a0_1 a0_2 a0_3 (IntKind.u64.wrap (a1 + a3)) (IntKind.u64.wrap (a2_0 + a3)) a2_1 a2_2 a2_3 a2_4 a2_5).bind fun bt143 => (if a0_1 = 2 then (shacklelaw19_RelocMoves.j0 k a3 t138 bt140.1 bt140.2.1 bt140.2.2 bt143.1 bt143.2.1 bt143.2.2 a0_1 (a0_1 == 2)) else (if a0_1 = 24 then (shacklelaw19_RelocMoves.j0 k a3 t138 bt140.1 bt140.2.1 bt140.2.2 bt143.1 bt143.2.1 bt143.2.2 a0_1 (a0_1 == 24)) else (if a0_1 = 16 then (shacklelaw19_RelocMoves.j0 k a3 t138 bt140.1 bt140.2.1 bt140.2.2 bt143.1 bt143.2.1 bt143.2.2 a0_1 (a0_1 == 16)) else (if a0_1 = 17 then (shacklelaw19_RelocMoves.j0 k a3 t138 bt140.1 bt140.2.1 bt140.2.2 bt143.1 bt143.2.1 bt143.2.2 a0_1 (a0_1 == 17)) else (if a0_1 = 18 then (shacklelaw19_RelocMoves.j0 k a3 t138 bt140.1 bt140.2.1 bt140.2.2 bt143.1 bt143.2.1 bt143.2.2 a0_1 (a0_1 == 18)) else (if a0_1 = 32 then (shacklelaw19_RelocMoves.j0 k a3 t138 bt140.1 bt140.2.1 bt140.2.2 bt143.1 bt143.2.1 bt143.2.2 a0_1 (a0_1 == 32)) else (if a0_1 = 33 then (shacklelaw19_RelocMoves.j0 k a3 t138 bt140.1 bt140.2.1 bt140.2.2 bt143.1 bt143.2.1 bt143.2.2 a0_1 (a0_1 == 33)) else (shacklelaw19_RelocMoves.j0 k a3 t138 bt140.1 bt140.2.1 bt140.2.2 bt143.1 bt143.2.1 bt143.2.2 a0_1 (a0_1 == 0))))))))))) = some r := H
  have A5 := Aside0.mk A50
  clear A50
  replace H := Option.bind_eq_some_iff.mp H
  obtain ⟨⟨t140, t141, t142⟩, A60, H⟩ := H
  replace H : ((reloc_Value.f k a0_0 a0_1 a0_2 a0_3 (IntKind.u64.wrap (a1 + a3)) (IntKind.u64.wrap (a2_0 + a3)) a2_1 a2_2 a2_3 a2_4 a2_5).bind fun bt143 => (if a0_1 = 2 then (shacklelaw19_RelocMoves.j0 k a3 t138 t140 t141 t142 bt143.1 bt143.2.1 bt143.2.2 a0_1 (a0_1 == 2)) else (if a0_1 = 24 then (shacklelaw19_RelocMoves.j0 k a3 t138 t140 t141 t142 bt143.1 bt143.2.1 bt143.2.2 a0_1 (a0_1 == 24)) else (if a0_1 = 16 then (shacklelaw19_RelocMoves.j0 k a3 t138 t140 t141 t142 bt143.1 bt143.2.1 bt143.2.2 a0_1 (a0_1 == 16)) else (if a0_1 = 17 then (shacklelaw19_RelocMoves.j0 k a3 t138 t140 t141 t142 bt143.1 bt143.2.1 bt143.2.2 a0_1 (a0_1 == 17)) else (if a0_1 = 18 then (shacklelaw19_RelocMoves.j0 k a3 t138 t140 t141 t142 bt143.1 bt143.2.1 bt143.2.2 a0_1 (a0_1 == 18)) else (if a0_1 = 32 then (shacklelaw19_RelocMoves.j0 k a3 t138 t140 t141 t142 bt143.1 bt143.2.1 bt143.2.2 a0_1 (a0_1 == 32)) else (if a0_1 = 33 then (shacklelaw19_RelocMoves.j0 k a3 t138 t140 t141 t142 bt143.1 bt143.2.1 bt143.2.2 a0_1 (a0_1 == 33)) else (shacklelaw19_RelocMoves.j0 k a3 t138 t140 t141 t142 bt143.1 bt143.2.1 bt143.2.2 a0_1 (a0_1 == 0)))))))))) = some r := H
  have A6 := Aside0.mk A60
  clear A60
  replace H := Option.bind_eq_some_iff.mp H
  obtain ⟨⟨t143, t144, t145⟩, A70, H⟩ := H
  replace H : (if a0_1 = 2 then (shacklelaw19_RelocMoves.j0 k a3 t138 t140 t141 t142 t143 t144 t145 a0_1 (a0_1 == 2)) else (if a0_1 = 24 then (shacklelaw19_RelocMoves.j0 k a3 t138 t140 t141 t142 t143 t144 t145 a0_1 (a0_1 == 24)) else (if a0_1 = 16 then (shacklelaw19_RelocMoves.j0 k a3 t138 t140 t141 t142 t143 t144 t145 a0_1 (a0_1 == 16)) else (if a0_1 = 17 then (shacklelaw19_RelocMoves.j0 k a3 t138 t140 t141 t142 t143 t144 t145 a0_1 (a0_1 == 17)) else (if a0_1 = 18 then (shacklelaw19_RelocMoves.j0 k a3 t138 t140 t141 t142 t143 t144 t145 a0_1 (a0_1 == 18)) else (if a0_1 = 32 then (shacklelaw19_RelocMoves.j0 k a3 t138 t140 t141 t142 t143 t144 t145 a0_1 (a0_1 == 32)) else (if a0_1 = 33 then (shacklelaw19_RelocMoves.j0 k a3 t138 t140 t141 t142 t143 t144 t145 a0_1 (a0_1 == 33)) else (shacklelaw19_RelocMoves.j0 k a3 t138 t140 t141 t142 t143 t144 t145 a0_1 (a0_1 == 0))))))))) = some r := H
  have A7 := Aside0.mk A70
  clear A70
  have HC8 := Aside0.mk H
  clear H
  go_enter Try.func4, Try.ntmps4
  go_upto_if 44 with (first | ((with_reducible refine gate_dst (N := 4) rfl ?_); refine box_event ?hg (N := 4) ?hd (cs := #[.int .u64 a0_0, .int .i64 a0_1, .int .i64 a0_2, .int .i64 a0_3]) (t := 24) ?hr ?_; (case hd => rfl); (case hg => rfl); (case hr => first | (go_simp; done) | (go_simp; rfl)); intro gb136 hg w9 hbox hb; have n0_ := Aside0.mk (below_step (by repeat (first | (with_reducible first | exact HB.out | apply below_alloc | apply pw_below_drewN | apply below_drew1) | exact HB.out)) hb); have n1_ := Aside0.mk (hbox); have n2_ := Aside0.mk ((by rw [hg]; exact (below_size (by repeat (first | (with_reducible first | exact HB.out | apply below_alloc | apply pw_below_drewN | apply below_drew1) | exact HB.out))) : w.heap.size ≤ gb136)); have n3_ := Aside0.mk ((by rw [hg]; exact (below_size (by repeat (first | (with_reducible first | exact HB.out | apply below_alloc | apply pw_below_drewN | apply below_drew1) | exact HB.out))) : w.heap.size ≤ gb136)); clear HB; have HB := n0_; have BK136 := n1_; have GW136 := n2_; have GE136 := n3_; clear n0_ n1_ n2_ n3_; clear hb hbox hg) | ((with_reducible refine gate_dst (N := 6) rfl ?_); refine box_event ?hg (N := 6) ?hd (cs := #[.int .u64 a2_0, .int .u64 a2_1, .int .i64 a2_2, .int .u64 a2_3, .bool a2_4, .int .u64 a2_5]) (t := 26) ?hr ?_; (case hd => rfl); (case hg => rfl); (case hr => first | (go_simp; done) | (go_simp; rfl)); intro gb137 hg w10 hbox hb; have n0_ := Aside0.mk (blk_below (g := gb136) (o := .cells #[.int .u64 a0_0, .int .i64 a0_1, .int .i64 a0_2, .int .i64 a0_3] 24 (0, 0)) (by (with_reducible repeat (first | refine blk_drewN ?_ _ | refine blk_drew ?_ | refine blk_alloc ?_ _)); exact BK136.out) hb); have n1_ := Aside0.mk (below_step (by repeat (first | (with_reducible first | exact HB.out | apply below_alloc | apply pw_below_drewN | apply below_drew1 | refine below_set ?_ GE136.out) | exact HB.out)) hb); have n2_ := Aside0.mk (hbox); have n3_ := Aside0.mk ((by rw [hg]; exact (below_size (by repeat (first | (with_reducible first | exact HB.out | apply below_alloc | apply pw_below_drewN | apply below_drew1 | refine below_set ?_ GE136.out) | exact HB.out))) : w.heap.size ≤ gb137)); have n4_ := Aside0.mk ((by rw [hg]; exact (below_size (by repeat (first | (with_reducible first | exact HB.out | apply below_alloc | apply pw_below_drewN | apply below_drew1 | refine below_set ?_ GE136.out) | exact HB.out))) : w.heap.size ≤ gb137)); have n5_ := Aside0.mk ((by rw [hg]; exact Nat.ne_of_lt (blk_lt (g := gb136) (o := .cells #[.int .u64 a0_0, .int .i64 a0_1, .int .i64 a0_2, .int .i64 a0_3] 24 (0, 0)) (by (with_reducible repeat (first | refine blk_drewN ?_ _ | refine blk_drew ?_ | refine blk_alloc ?_ _)); exact BK136.out)) : gb136 ≠ gb137)); have n6_ := Aside0.mk ((by rw [hg]; exact Nat.ne_of_gt (blk_lt (g := gb136) (o := .cells #[.int .u64 a0_0, .int .i64 a0_1, .int .i64 a0_2, .int .i64 a0_3] 24 (0, 0)) (by (with_reducible repeat (first | refine blk_drewN ?_ _ | refine blk_drew ?_ | refine blk_alloc ?_ _)); exact BK136.out)) : gb137 ≠ gb136)); clear BK136; clear HB; have BK136 := n0_; have HB := n1_; have BK137 := n2_; have GW137 := n3_; have GE137 := n4_; have NB136_137 := n5_; have NB137_136 := n6_; clear n0_ n1_ n2_ n3_ n4_ n5_ n6_; clear hb hbox hg) | ((with_reducible refine gate_callee (f := 14) rfl ?_); refine goesL_ (some 17) rfl rfl Try.func14 (by kernel_rfl) rfl #[] rfl (by (try simp only [List.map_toArray, List.map_cons, List.map_nil]); first | done | rfl | (simp only [List.length_drop, List.length_take]; rfl)) ?_; (with_reducible refine (shacklelaw19_up.calls k  t138 _ A5.out).mono ?_); rintro e w11 ⟨rfl, hb⟩; refine ⟨_, rfl, ?_⟩; have n0_ := Aside0.mk (blk_below (g := gb136) (o := .cells #[.int .u64 a0_0, .int .i64 a0_1, .int .i64 a0_2, .int .i64 a0_3] 24 (0, 0)) (by (with_reducible repeat (first | refine blk_drewN ?_ _ | refine blk_drew ?_ | refine blk_alloc ?_ _)); exact BK136.out) hb); have n1_ := Aside0.mk (blk_below (g := gb137) (o := .cells #[.int .u64 a2_0, .int .u64 a2_1, .int .i64 a2_2, .int .u64 a2_3, .bool a2_4, .int .u64 a2_5] 26 (0, 0)) (by (with_reducible repeat (first | refine blk_drewN ?_ _ | refine blk_drew ?_ | refine blk_alloc ?_ _)); exact BK137.out) hb); have n2_ := Aside0.mk (below_step (by repeat (first | (with_reducible first | exact HB.out | apply below_alloc | apply pw_below_drewN | apply below_drew1 | refine below_set ?_ GE136.out | refine below_set ?_ GE137.out) | exact HB.out)) hb); clear BK136; clear BK137; clear HB; have BK136 := n0_; have BK137 := n1_; have HB := n2_; clear n0_ n1_ n2_; (try clear hb); (try clear hb2); (try clear hk); (try clear hi); have hnb12 := NB137_136.out; have hnc12 := NB136_137.out; have hcz13_0 : w11.cell? ⟨gb137, 0, none⟩ = some (.int .u64 a2_0) := (blk_cell BK137.out 0).trans rfl; have hcz13_1 : w11.cell? ⟨gb137, 1, none⟩ = some (.int .u64 a2_1) := (blk_cell BK137.out 1).trans rfl; have hcz13_2 : w11.cell? ⟨gb137, 2, none⟩ = some (.int .i64 a2_2) := (blk_cell BK137.out 2).trans rfl; have hcz13_3 : w11.cell? ⟨gb137, 3, none⟩ = some (.int .u64 a2_3) := (blk_cell BK137.out 3).trans rfl; have hcz13_4 : w11.cell? ⟨gb137, 4, none⟩ = some (.bool a2_4) := (blk_cell BK137.out 4).trans rfl; have hcz13_5 : w11.cell? ⟨gb137, 5, none⟩ = some (.int .u64 a2_5) := (blk_cell BK137.out 5).trans rfl; have hfz13_0 := blk_frozen BK137.out 0; have hfz13_1 := blk_frozen BK137.out 1; have hfz13_2 := blk_frozen BK137.out 2; have hfz13_3 := blk_frozen BK137.out 3; have hfz13_4 := blk_frozen BK137.out 4; have hfz13_5 := blk_frozen BK137.out 5) | ((with_reducible refine gate_dst (N := 10) rfl ?_); refine box_event ?hg (N := 10) ?hd (cs := #[.int .u64 0, .int .u64 0, .int .i64 0, .int .u64 0, .bool false, .int .u64 0]) (t := 26) ?hr ?_; (case hd => rfl); (case hg => rfl); (case hr => first | (go_simp; done) | (go_simp; rfl)); intro gb139 hg w14 hbox hb; have n0_ := Aside0.mk (blk_below (g := gb136) (o := .cells #[.int .u64 a0_0, .int .i64 a0_1, .int .i64 a0_2, .int .i64 a0_3] 24 (0, 0)) (by (with_reducible repeat (first | refine blk_drewN ?_ _ | refine blk_drew ?_ | refine blk_alloc ?_ _)); exact BK136.out) hb); have n1_ := Aside0.mk (blk_below (g := gb137) (o := .cells #[.int .u64 a2_0, .int .u64 a2_1, .int .i64 a2_2, .int .u64 a2_3, .bool a2_4, .int .u64 a2_5] 26 (0, 0)) (by (with_reducible repeat (first | refine blk_drewN ?_ _ | refine blk_drew ?_ | refine blk_alloc ?_ _)); exact BK137.out) hb); have n2_ := Aside0.mk (below_step (by repeat (first | (with_reducible first | exact HB.out | apply below_alloc | apply pw_below_drewN | apply below_drew1 | refine below_set ?_ GE136.out | refine below_set ?_ GE137.out) | exact HB.out)) hb); have n3_ := Aside0.mk (hbox); have n4_ := Aside0.mk ((by rw [hg]; exact (below_size (by repeat (first | (with_reducible first | exact HB.out | apply below_alloc | apply pw_below_drewN | apply below_drew1 | refine below_set ?_ GE136.out | refine below_set ?_ GE137.out) | exact HB.out))) : w.heap.size ≤ gb139)); have n5_ := Aside0.mk ((by rw [hg]; exact (below_size (by repeat (first | (with_reducible first | exact HB.out | apply below_alloc | apply pw_below_drewN | apply below_drew1 | refine below_set ?_ GE136.out | refine below_set ?_ GE137.out) | exact HB.out))) : w.heap.size ≤ gb139)); have n6_ := Aside0.mk ((by rw [hg]; exact Nat.ne_of_lt (blk_lt (g := gb136) (o := .cells #[.int .u64 a0_0, .int .i64 a0_1, .int .i64 a0_2, .int .i64 a0_3] 24 (0, 0)) (by (with_reducible repeat (first | refine blk_drewN ?_ _ | refine blk_drew ?_ | refine blk_alloc ?_ _)); exact BK136.out)) : gb136 ≠ gb139)); have n7_ := Aside0.mk ((by rw [hg]; exact Nat.ne_of_gt (blk_lt (g := gb136) (o := .cells #[.int .u64 a0_0, .int .i64 a0_1, .int .i64 a0_2, .int .i64 a0_3] 24 (0, 0)) (by (with_reducible repeat (first | refine blk_drewN ?_ _ | refine blk_drew ?_ | refine blk_alloc ?_ _)); exact BK136.out)) : gb139 ≠ gb136)); have n8_ := Aside0.mk ((by rw [hg]; exact Nat.ne_of_lt (blk_lt (g := gb137) (o := .cells #[.int .u64 a2_0, .int .u64 a2_1, .int .i64 a2_2, .int .u64 a2_3, .bool a2_4, .int .u64 a2_5] 26 (0, 0)) (by (with_reducible repeat (first | refine blk_drewN ?_ _ | refine blk_drew ?_ | refine blk_alloc ?_ _)); exact BK137.out)) : gb137 ≠ gb139)); have n9_ := Aside0.mk ((by rw [hg]; exact Nat.ne_of_gt (blk_lt (g := gb137) (o := .cells #[.int .u64 a2_0, .int .u64 a2_1, .int .i64 a2_2, .int .u64 a2_3, .bool a2_4, .int .u64 a2_5] 26 (0, 0)) (by (with_reducible repeat (first | refine blk_drewN ?_ _ | refine blk_drew ?_ | refine blk_alloc ?_ _)); exact BK137.out)) : gb139 ≠ gb137)); clear BK136; clear BK137; clear HB; have BK136 := n0_; have BK137 := n1_; have HB := n2_; have BK139 := n3_; have GW139 := n4_; have GE139 := n5_; have NB136_139 := n6_; have NB139_136 := n7_; have NB137_139 := n8_; have NB139_137 := n9_; clear n0_ n1_ n2_ n3_ n4_ n5_ n6_ n7_ n8_ n9_; clear hb hbox hg; have hnb15 := NB139_136.out; have hnc15 := NB136_139.out; have hnb16 := NB139_137.out; have hnc16 := NB137_139.out; have hcz17_0 : w14.cell? ⟨gb139, 0, none⟩ = some (.int .u64 0) := (blk_cell BK139.out 0).trans rfl; have hcz17_1 : w14.cell? ⟨gb139, 1, none⟩ = some (.int .u64 0) := (blk_cell BK139.out 1).trans rfl; have hcz17_2 : w14.cell? ⟨gb139, 2, none⟩ = some (.int .i64 0) := (blk_cell BK139.out 2).trans rfl; have hcz17_3 : w14.cell? ⟨gb139, 3, none⟩ = some (.int .u64 0) := (blk_cell BK139.out 3).trans rfl; have hcz17_4 : w14.cell? ⟨gb139, 4, none⟩ = some (.bool false) := (blk_cell BK139.out 4).trans rfl; have hcz17_5 : w14.cell? ⟨gb139, 5, none⟩ = some (.int .u64 0) := (blk_cell BK139.out 5).trans rfl; have hfz17_0 := blk_frozen BK139.out 0; have hfz17_1 := blk_frozen BK139.out 1; have hfz17_2 := blk_frozen BK139.out 2; have hfz17_3 := blk_frozen BK139.out 3; have hfz17_4 := blk_frozen BK139.out 4; have hfz17_5 := blk_frozen BK139.out 5; have hcz18_0 : w14.cell? ⟨gb137, 0, none⟩ = some (.int .u64 a2_0) := (blk_cell BK137.out 0).trans rfl; have hcz18_1 : w14.cell? ⟨gb137, 1, none⟩ = some (.int .u64 a2_1) := (blk_cell BK137.out 1).trans rfl; have hcz18_2 : w14.cell? ⟨gb137, 2, none⟩ = some (.int .i64 a2_2) := (blk_cell BK137.out 2).trans rfl; have hcz18_3 : w14.cell? ⟨gb137, 3, none⟩ = some (.int .u64 a2_3) := (blk_cell BK137.out 3).trans rfl; have hcz18_4 : w14.cell? ⟨gb137, 4, none⟩ = some (.bool a2_4) := (blk_cell BK137.out 4).trans rfl; have hcz18_5 : w14.cell? ⟨gb137, 5, none⟩ = some (.int .u64 a2_5) := (blk_cell BK137.out 5).trans rfl; have hfz18_0 := blk_frozen BK137.out 0; have hfz18_1 := blk_frozen BK137.out 1; have hfz18_2 := blk_frozen BK137.out 2; have hfz18_3 := blk_frozen BK137.out 3; have hfz18_4 := blk_frozen BK137.out 4; have hfz18_5 := blk_frozen BK137.out 5; have hcz19_0 : w14.cell? ⟨gb136, 0, none⟩ = some (.int .u64 a0_0) := (blk_cell BK136.out 0).trans rfl; have hcz19_1 : w14.cell? ⟨gb136, 1, none⟩ = some (.int .i64 a0_1) := (blk_cell BK136.out 1).trans rfl; have hcz19_2 : w14.cell? ⟨gb136, 2, none⟩ = some (.int .i64 a0_2) := (blk_cell BK136.out 2).trans rfl; have hcz19_3 : w14.cell? ⟨gb136, 3, none⟩ = some (.int .i64 a0_3) := (blk_cell BK136.out 3).trans rfl; have hfz19_0 := blk_frozen BK136.out 0; have hfz19_1 := blk_frozen BK136.out 1; have hfz19_2 := blk_frozen BK136.out 2; have hfz19_3 := blk_frozen BK136.out 3) | ((with_reducible refine gate_callee (f := 15) rfl ?_); refine goesL_ (some 28) rfl rfl Try.func15 (by kernel_rfl) rfl #[.agg #[.int .u64 a0_0, .int .i64 a0_1, .int .i64 a0_2, .int .i64 a0_3], .int .u64 a1, .agg #[.int .u64 a2_0, .int .u64 a2_1, .int .i64 a2_2, .int .u64 a2_3, .bool a2_4, .int .u64 a2_5]] rfl (by (try simp only [List.map_toArray, List.map_cons, List.map_nil]); first | done | rfl | (simp only [List.length_drop, List.length_take]; rfl)) ?_; (with_reducible refine (reloc_Value.calls k a0_0 a0_1 a0_2 a0_3 a1 a2_0 a2_1 a2_2 a2_3 a2_4 a2_5 t140 t141 t142 _ A6.out).mono ?_); rintro e w20 ⟨rfl, hb⟩; refine ⟨_, rfl, ?_⟩; have n0_ := Aside0.mk (blk_below (g := gb136) (o := .cells #[.int .u64 a0_0, .int .i64 a0_1, .int .i64 a0_2, .int .i64 a0_3] 24 (0, 0)) (by (with_reducible repeat (first | refine blk_drewN ?_ _ | refine blk_drew ?_ | refine blk_alloc ?_ _)); refine blk_far ?_ NB136_139.out _; (with_reducible repeat (first | refine blk_drewN ?_ _ | refine blk_drew ?_ | refine blk_alloc ?_ _)); refine blk_far ?_ NB136_139.out _; (with_reducible repeat (first | refine blk_drewN ?_ _ | refine blk_drew ?_ | refine blk_alloc ?_ _)); refine blk_far ?_ NB136_139.out _; (with_reducible repeat (first | refine blk_drewN ?_ _ | refine blk_drew ?_ | refine blk_alloc ?_ _)); refine blk_far ?_ NB136_139.out _; (with_reducible repeat (first | refine blk_drewN ?_ _ | refine blk_drew ?_ | refine blk_alloc ?_ _)); refine blk_far ?_ NB136_139.out _; (with_reducible repeat (first | refine blk_drewN ?_ _ | refine blk_drew ?_ | refine blk_alloc ?_ _)); refine blk_far ?_ NB136_139.out _; (with_reducible repeat (first | refine blk_drewN ?_ _ | refine blk_drew ?_ | refine blk_alloc ?_ _)); refine blk_far ?_ NB136_139.out _; (with_reducible repeat (first | refine blk_drewN ?_ _ | refine blk_drew ?_ | refine blk_alloc ?_ _)); exact BK136.out) hb); have n1_ := Aside0.mk (blk_below (g := gb137) (o := .cells #[.int .u64 a2_0, .int .u64 a2_1, .int .i64 a2_2, .int .u64 a2_3, .bool a2_4, .int .u64 a2_5] 26 (0, 0)) (by (with_reducible repeat (first | refine blk_drewN ?_ _ | refine blk_drew ?_ | refine blk_alloc ?_ _)); refine blk_far ?_ NB137_139.out _; (with_reducible repeat (first | refine blk_drewN ?_ _ | refine blk_drew ?_ | refine blk_alloc ?_ _)); refine blk_far ?_ NB137_139.out _; (with_reducible repeat (first | refine blk_drewN ?_ _ | refine blk_drew ?_ | refine blk_alloc ?_ _)); refine blk_far ?_ NB137_139.out _; (with_reducible repeat (first | refine blk_drewN ?_ _ | refine blk_drew ?_ | refine blk_alloc ?_ _)); refine blk_far ?_ NB137_139.out _; (with_reducible repeat (first | refine blk_drewN ?_ _ | refine blk_drew ?_ | refine blk_alloc ?_ _)); refine blk_far ?_ NB137_139.out _; (with_reducible repeat (first | refine blk_drewN ?_ _ | refine blk_drew ?_ | refine blk_alloc ?_ _)); refine blk_far ?_ NB137_139.out _; (with_reducible repeat (first | refine blk_drewN ?_ _ | refine blk_drew ?_ | refine blk_alloc ?_ _)); refine blk_far ?_ NB137_139.out _; (with_reducible repeat (first | refine blk_drewN ?_ _ | refine blk_drew ?_ | refine blk_alloc ?_ _)); exact BK137.out) hb); have n2_ := Aside0.mk (blk_below (g := gb139) (o := .cells #[.int .u64 (IntKind.u64.wrap (a2_0 + a3)), .int .u64 a2_1, .int .i64 a2_2, .int .u64 a2_3, .bool a2_4, .int .u64 a2_5] 26 (0, 0)) (by (with_reducible repeat (first | refine blk_drewN ?_ _ | refine blk_drew ?_ | refine blk_alloc ?_ _)); refine blk_put (cs := #[.int .u64 a2_0, .int .u64 a2_1, .int .i64 a2_2, .int .u64 a2_3, .bool a2_4, .int .u64 a2_5]) ?_ 0 _ rfl; (with_reducible repeat (first | refine blk_drewN ?_ _ | refine blk_drew ?_ | refine blk_alloc ?_ _)); refine blk_put (cs := #[.int .u64 a2_0, .int .u64 a2_1, .int .i64 a2_2, .int .u64 a2_3, .bool a2_4, .int .u64 0]) ?_ 5 _ rfl; (with_reducible repeat (first | refine blk_drewN ?_ _ | refine blk_drew ?_ | refine blk_alloc ?_ _)); refine blk_put (cs := #[.int .u64 a2_0, .int .u64 a2_1, .int .i64 a2_2, .int .u64 a2_3, .bool false, .int .u64 0]) ?_ 4 _ rfl; (with_reducible repeat (first | refine blk_drewN ?_ _ | refine blk_drew ?_ | refine blk_alloc ?_ _)); refine blk_put (cs := #[.int .u64 a2_0, .int .u64 a2_1, .int .i64 a2_2, .int .u64 0, .bool false, .int .u64 0]) ?_ 3 _ rfl; (with_reducible repeat (first | refine blk_drewN ?_ _ | refine blk_drew ?_ | refine blk_alloc ?_ _)); refine blk_put (cs := #[.int .u64 a2_0, .int .u64 a2_1, .int .i64 0, .int .u64 0, .bool false, .int .u64 0]) ?_ 2 _ rfl; (with_reducible repeat (first | refine blk_drewN ?_ _ | refine blk_drew ?_ | refine blk_alloc ?_ _)); refine blk_put (cs := #[.int .u64 a2_0, .int .u64 0, .int .i64 0, .int .u64 0, .bool false, .int .u64 0]) ?_ 1 _ rfl; (with_reducible repeat (first | refine blk_drewN ?_ _ | refine blk_drew ?_ | refine blk_alloc ?_ _)); refine blk_put (cs := #[.int .u64 0, .int .u64 0, .int .i64 0, .int .u64 0, .bool false, .int .u64 0]) ?_ 0 _ rfl; (with_reducible repeat (first | refine blk_drewN ?_ _ | refine blk_drew ?_ | refine blk_alloc ?_ _)); exact BK139.out) hb); have n3_ := Aside0.mk (below_step (by repeat (first | (with_reducible first | exact HB.out | apply below_alloc | apply pw_below_drewN | apply below_drew1 | refine below_set ?_ GE136.out | refine below_set ?_ GE137.out | refine below_set ?_ GE139.out) | exact HB.out)) hb); clear BK136; clear BK137; clear BK139; clear HB; have BK136 := n0_; have BK137 := n1_; have BK139 := n2_; have HB := n3_; clear n0_ n1_ n2_ n3_; (try clear hb); (try clear hb2); (try clear hk); (try clear hi); (try simp only [errW_none, errW_some]); have hcz21_0 : w20.cell? ⟨gb136, 0, none⟩ = some (.int .u64 a0_0) := (blk_cell BK136.out 0).trans rfl; have hcz21_1 : w20.cell? ⟨gb136, 1, none⟩ = some (.int .i64 a0_1) := (blk_cell BK136.out 1).trans rfl; have hcz21_2 : w20.cell? ⟨gb136, 2, none⟩ = some (.int .i64 a0_2) := (blk_cell BK136.out 2).trans rfl; have hcz21_3 : w20.cell? ⟨gb136, 3, none⟩ = some (.int .i64 a0_3) := (blk_cell BK136.out 3).trans rfl; have hfz21_0 := blk_frozen BK136.out 0; have hfz21_1 := blk_frozen BK136.out 1; have hfz21_2 := blk_frozen BK136.out 2; have hfz21_3 := blk_frozen BK136.out 3; have hcz22_0 : w20.cell? ⟨gb139, 0, none⟩ = some (.int .u64 (IntKind.u64.wrap (a2_0 + a3))) := (blk_cell BK139.out 0).trans rfl; have hcz22_1 : w20.cell? ⟨gb139, 1, none⟩ = some (.int .u64 a2_1) := (blk_cell BK139.out 1).trans rfl; have hcz22_2 : w20.cell? ⟨gb139, 2, none⟩ = some (.int .i64 a2_2) := (blk_cell BK139.out 2).trans rfl; have hcz22_3 : w20.cell? ⟨gb139, 3, none⟩ = some (.int .u64 a2_3) := (blk_cell BK139.out 3).trans rfl; have hcz22_4 : w20.cell? ⟨gb139, 4, none⟩ = some (.bool a2_4) := (blk_cell BK139.out 4).trans rfl; have hcz22_5 : w20.cell? ⟨gb139, 5, none⟩ = some (.int .u64 a2_5) := (blk_cell BK139.out 5).trans rfl; have hfz22_0 := blk_frozen BK139.out 0; have hfz22_1 := blk_frozen BK139.out 1; have hfz22_2 := blk_frozen BK139.out 2; have hfz22_3 := blk_frozen BK139.out 3; have hfz22_4 := blk_frozen BK139.out 4; have hfz22_5 := blk_frozen BK139.out 5) | ((with_reducible refine gate_callee (f := 15) rfl ?_); refine goesL_ (some 38) rfl rfl Try.func15 (by kernel_rfl) rfl #[.agg #[.int .u64 a0_0, .int .i64 a0_1, .int .i64 a0_2, .int .i64 a0_3], .int .u64 (IntKind.u64.wrap (a1 + a3)), .agg #[.int .u64 (IntKind.u64.wrap (a2_0 + a3)), .int .u64 a2_1, .int .i64 a2_2, .int .u64 a2_3, .bool a2_4, .int .u64 a2_5]] rfl (by (try simp only [List.map_toArray, List.map_cons, List.map_nil]); first | done | rfl | (simp only [List.length_drop, List.length_take]; rfl)) ?_; (with_reducible refine (reloc_Value.calls k a0_0 a0_1 a0_2 a0_3 (IntKind.u64.wrap (a1 + a3)) (IntKind.u64.wrap (a2_0 + a3)) a2_1 a2_2 a2_3 a2_4 a2_5 t143 t144 t145 _ A7.out).mono ?_); rintro e w23 ⟨rfl, hb⟩; refine ⟨_, rfl, ?_⟩; have n0_ := Aside0.mk (blk_below (g := gb136) (o := .cells #[.int .u64 a0_0, .int .i64 a0_1, .int .i64 a0_2, .int .i64 a0_3] 24 (0, 0)) (by (with_reducible repeat (first | refine blk_drewN ?_ _ | refine blk_drew ?_ | refine blk_alloc ?_ _)); exact BK136.out) hb); have n1_ := Aside0.mk (blk_below (g := gb137) (o := .cells #[.int .u64 a2_0, .int .u64 a2_1, .int .i64 a2_2, .int .u64 a2_3, .bool a2_4, .int .u64 a2_5] 26 (0, 0)) (by (with_reducible repeat (first | refine blk_drewN ?_ _ | refine blk_drew ?_ | refine blk_alloc ?_ _)); exact BK137.out) hb); have n2_ := Aside0.mk (blk_below (g := gb139) (o := .cells #[.int .u64 (IntKind.u64.wrap (a2_0 + a3)), .int .u64 a2_1, .int .i64 a2_2, .int .u64 a2_3, .bool a2_4, .int .u64 a2_5] 26 (0, 0)) (by (with_reducible repeat (first | refine blk_drewN ?_ _ | refine blk_drew ?_ | refine blk_alloc ?_ _)); exact BK139.out) hb); have n3_ := Aside0.mk (below_step (by repeat (first | (with_reducible first | exact HB.out | apply below_alloc | apply pw_below_drewN | apply below_drew1 | refine below_set ?_ GE136.out | refine below_set ?_ GE137.out | refine below_set ?_ GE139.out) | exact HB.out)) hb); clear BK136; clear BK137; clear BK139; clear HB; have BK136 := n0_; have BK137 := n1_; have BK139 := n2_; have HB := n3_; clear n0_ n1_ n2_ n3_; (try clear hb); (try clear hb2); (try clear hk); (try clear hi); (try simp only [errW_none, errW_some]); have hcz24_0 : w23.cell? ⟨gb136, 0, none⟩ = some (.int .u64 a0_0) := (blk_cell BK136.out 0).trans rfl; have hcz24_1 : w23.cell? ⟨gb136, 1, none⟩ = some (.int .i64 a0_1) := (blk_cell BK136.out 1).trans rfl; have hcz24_2 : w23.cell? ⟨gb136, 2, none⟩ = some (.int .i64 a0_2) := (blk_cell BK136.out 2).trans rfl; have hcz24_3 : w23.cell? ⟨gb136, 3, none⟩ = some (.int .i64 a0_3) := (blk_cell BK136.out 3).trans rfl; have hfz24_0 := blk_frozen BK136.out 0; have hfz24_1 := blk_frozen BK136.out 1; have hfz24_2 := blk_frozen BK136.out 2; have hfz24_3 := blk_frozen BK136.out 3))
  (try simp only [Act.put, List.setIfInBounds_toArray, List.set_cons_zero, List.set_cons_succ])
  go_cut [44] (fun v44 wc => ∃ (kq : Nat) (x44_7 : Bool), v44 = .bool x44_7 ∧ Aside0 (shacklelaw19_RelocMoves.j0 kq a3 t138 t140 t141 t142 t143 t144 t145 a0_1 x44_7 = some r) ∧ Aside0 (kq ≤ k) ∧ Aside0 (wc.heap[gb136]? = some (.cells #[.int .u64 a0_0, .int .i64 a0_1, .int .i64 a0_2, .int .i64 a0_3] 24 (0, 0))) ∧ Aside0 (wc.heap[gb137]? = some (.cells #[.int .u64 a2_0, .int .u64 a2_1, .int .i64 a2_2, .int .u64 a2_3, .bool a2_4, .int .u64 a2_5] 26 (0, 0))) ∧ Aside0 (wc.heap[gb139]? = some (.cells #[.int .u64 (IntKind.u64.wrap (a2_0 + a3)), .int .u64 a2_1, .int .i64 a2_2, .int .u64 a2_3, .bool a2_4, .int .u64 a2_5] 26 (0, 0))) ∧ Aside0 (Below w.heap.size w wc))
  case first =>
    have H := HC8.out
    clear HC8
    by_cases c25 : a0_1 = 2
    · rw [if_pos c25] at H
      have c25b0 : (a0_1 == 2) = true := beq_iff_eq.mpr c25
      have c25b1 : (a0_1 != 2) = false := bne_eq_false_iff_eq.mpr c25
      clear c25
      (first | rw [c25b0] | (simp only [i64_w, i32_w]; rw [c25b0]) | skip)
      have H' := Aside0.mk H
      clear H
      go_wp2
      go_meet
      case rel => exact ⟨_, ((a0_1 == 2)), (by first | rfl | (simp; done) | (simp [*]; done)), H', ⟨by first | omega | exact Nat.le_refl _⟩, ⟨by (with_reducible repeat (first | refine blk_drewN ?_ _ | refine blk_drew ?_ | refine blk_alloc ?_ _)); exact BK136.out⟩, ⟨by (with_reducible repeat (first | refine blk_drewN ?_ _ | refine blk_drew ?_ | refine blk_alloc ?_ _)); exact BK137.out⟩, ⟨by (with_reducible repeat (first | refine blk_drewN ?_ _ | refine blk_drew ?_ | refine blk_alloc ?_ _)); exact BK139.out⟩, ⟨by repeat (first | (with_reducible first | exact HB.out | apply below_alloc | apply pw_below_drewN | apply below_drew1 | refine below_set ?_ GE136.out | refine below_set ?_ GE137.out | refine below_set ?_ GE139.out) | exact HB.out)⟩⟩
    · rw [if_neg c25] at H
      have c25b0 : (a0_1 == 2) = false := beq_eq_false_iff_ne.mpr c25
      have c25b1 : (a0_1 != 2) = true := bne_iff_ne.mpr c25
      (first | rw [c25b0] | (simp only [i64_w, i32_w]; rw [c25b0]) | skip)
      by_cases c26 : a0_1 = 24
      · rw [if_pos c26] at H
        have c26b0 : (a0_1 == 24) = true := beq_iff_eq.mpr c26
        have c26b1 : (a0_1 != 24) = false := bne_eq_false_iff_eq.mpr c26
        clear c26
        have H' := Aside0.mk H
        clear H
        go_wp2
        go_meet
        case rel => exact ⟨_, ((a0_1 == 24)), (by first | rfl | (simp; done) | (simp [*]; done)), H', ⟨by first | omega | exact Nat.le_refl _⟩, ⟨by (with_reducible repeat (first | refine blk_drewN ?_ _ | refine blk_drew ?_ | refine blk_alloc ?_ _)); exact BK136.out⟩, ⟨by (with_reducible repeat (first | refine blk_drewN ?_ _ | refine blk_drew ?_ | refine blk_alloc ?_ _)); exact BK137.out⟩, ⟨by (with_reducible repeat (first | refine blk_drewN ?_ _ | refine blk_drew ?_ | refine blk_alloc ?_ _)); exact BK139.out⟩, ⟨by repeat (first | (with_reducible first | exact HB.out | apply below_alloc | apply pw_below_drewN | apply below_drew1 | refine below_set ?_ GE136.out | refine below_set ?_ GE137.out | refine below_set ?_ GE139.out) | exact HB.out)⟩⟩
      · rw [if_neg c26] at H
        have c26b0 : (a0_1 == 24) = false := beq_eq_false_iff_ne.mpr c26
        have c26b1 : (a0_1 != 24) = true := bne_iff_ne.mpr c26
        by_cases c27 : a0_1 = 16
        · rw [if_pos c27] at H
          have c27b0 : (a0_1 == 16) = true := beq_iff_eq.mpr c27
          have c27b1 : (a0_1 != 16) = false := bne_eq_false_iff_eq.mpr c27
          clear c27
          have H' := Aside0.mk H
          clear H
          go_wp2
          go_meet
          case rel => exact ⟨_, ((a0_1 == 16)), (by first | rfl | (simp; done) | (simp [*]; done)), H', ⟨by first | omega | exact Nat.le_refl _⟩, ⟨by (with_reducible repeat (first | refine blk_drewN ?_ _ | refine blk_drew ?_ | refine blk_alloc ?_ _)); exact BK136.out⟩, ⟨by (with_reducible repeat (first | refine blk_drewN ?_ _ | refine blk_drew ?_ | refine blk_alloc ?_ _)); exact BK137.out⟩, ⟨by (with_reducible repeat (first | refine blk_drewN ?_ _ | refine blk_drew ?_ | refine blk_alloc ?_ _)); exact BK139.out⟩, ⟨by repeat (first | (with_reducible first | exact HB.out | apply below_alloc | apply pw_below_drewN | apply below_drew1 | refine below_set ?_ GE136.out | refine below_set ?_ GE137.out | refine below_set ?_ GE139.out) | exact HB.out)⟩⟩
        · rw [if_neg c27] at H
          have c27b0 : (a0_1 == 16) = false := beq_eq_false_iff_ne.mpr c27
          have c27b1 : (a0_1 != 16) = true := bne_iff_ne.mpr c27
          by_cases c28 : a0_1 = 17
          · rw [if_pos c28] at H
            have c28b0 : (a0_1 == 17) = true := beq_iff_eq.mpr c28
            have c28b1 : (a0_1 != 17) = false := bne_eq_false_iff_eq.mpr c28
            clear c28
            have H' := Aside0.mk H
            clear H
            go_wp2
            go_meet
            case rel => exact ⟨_, ((a0_1 == 17)), (by first | rfl | (simp; done) | (simp [*]; done)), H', ⟨by first | omega | exact Nat.le_refl _⟩, ⟨by (with_reducible repeat (first | refine blk_drewN ?_ _ | refine blk_drew ?_ | refine blk_alloc ?_ _)); exact BK136.out⟩, ⟨by (with_reducible repeat (first | refine blk_drewN ?_ _ | refine blk_drew ?_ | refine blk_alloc ?_ _)); exact BK137.out⟩, ⟨by (with_reducible repeat (first | refine blk_drewN ?_ _ | refine blk_drew ?_ | refine blk_alloc ?_ _)); exact BK139.out⟩, ⟨by repeat (first | (with_reducible first | exact HB.out | apply below_alloc | apply pw_below_drewN | apply below_drew1 | refine below_set ?_ GE136.out | refine below_set ?_ GE137.out | refine below_set ?_ GE139.out) | exact HB.out)⟩⟩
          · rw [if_neg c28] at H
            have c28b0 : (a0_1 == 17) = false := beq_eq_false_iff_ne.mpr c28
            have c28b1 : (a0_1 != 17) = true := bne_iff_ne.mpr c28
            by_cases c29 : a0_1 = 18
            · rw [if_pos c29] at H
              have c29b0 : (a0_1 == 18) = true := beq_iff_eq.mpr c29
              have c29b1 : (a0_1 != 18) = false := bne_eq_false_iff_eq.mpr c29
              clear c29
              have H' := Aside0.mk H
              clear H
              go_wp2
              go_meet
              case rel => exact ⟨_, ((a0_1 == 18)), (by first | rfl | (simp; done) | (simp [*]; done)), H', ⟨by first | omega | exact Nat.le_refl _⟩, ⟨by (with_reducible repeat (first | refine blk_drewN ?_ _ | refine blk_drew ?_ | refine blk_alloc ?_ _)); exact BK136.out⟩, ⟨by (with_reducible repeat (first | refine blk_drewN ?_ _ | refine blk_drew ?_ | refine blk_alloc ?_ _)); exact BK137.out⟩, ⟨by (with_reducible repeat (first | refine blk_drewN ?_ _ | refine blk_drew ?_ | refine blk_alloc ?_ _)); exact BK139.out⟩, ⟨by repeat (first | (with_reducible first | exact HB.out | apply below_alloc | apply pw_below_drewN | apply below_drew1 | refine below_set ?_ GE136.out | refine below_set ?_ GE137.out | refine below_set ?_ GE139.out) | exact HB.out)⟩⟩
            · rw [if_neg c29] at H
              have c29b0 : (a0_1 == 18) = false := beq_eq_false_iff_ne.mpr c29
              have c29b1 : (a0_1 != 18) = true := bne_iff_ne.mpr c29
              by_cases c30 : a0_1 = 32
              · rw [if_pos c30] at H
                have c30b0 : (a0_1 == 32) = true := beq_iff_eq.mpr c30
                have c30b1 : (a0_1 != 32) = false := bne_eq_false_iff_eq.mpr c30
                clear c30
                have H' := Aside0.mk H
                clear H
                go_wp2
                go_meet
                case rel => exact ⟨_, ((a0_1 == 32)), (by first | rfl | (simp; done) | (simp [*]; done)), H', ⟨by first | omega | exact Nat.le_refl _⟩, ⟨by (with_reducible repeat (first | refine blk_drewN ?_ _ | refine blk_drew ?_ | refine blk_alloc ?_ _)); exact BK136.out⟩, ⟨by (with_reducible repeat (first | refine blk_drewN ?_ _ | refine blk_drew ?_ | refine blk_alloc ?_ _)); exact BK137.out⟩, ⟨by (with_reducible repeat (first | refine blk_drewN ?_ _ | refine blk_drew ?_ | refine blk_alloc ?_ _)); exact BK139.out⟩, ⟨by repeat (first | (with_reducible first | exact HB.out | apply below_alloc | apply pw_below_drewN | apply below_drew1 | refine below_set ?_ GE136.out | refine below_set ?_ GE137.out | refine below_set ?_ GE139.out) | exact HB.out)⟩⟩
              · rw [if_neg c30] at H
                have c30b0 : (a0_1 == 32) = false := beq_eq_false_iff_ne.mpr c30
                have c30b1 : (a0_1 != 32) = true := bne_iff_ne.mpr c30
                by_cases c31 : a0_1 = 33
                · rw [if_pos c31] at H
                  have c31b0 : (a0_1 == 33) = true := beq_iff_eq.mpr c31
                  have c31b1 : (a0_1 != 33) = false := bne_eq_false_iff_eq.mpr c31
                  clear c31
                  have H' := Aside0.mk H
                  clear H
                  go_wp2
                  go_meet
                  case rel => exact ⟨_, ((a0_1 == 33)), (by first | rfl | (simp; done) | (simp [*]; done)), H', ⟨by first | omega | exact Nat.le_refl _⟩, ⟨by (with_reducible repeat (first | refine blk_drewN ?_ _ | refine blk_drew ?_ | refine blk_alloc ?_ _)); exact BK136.out⟩, ⟨by (with_reducible repeat (first | refine blk_drewN ?_ _ | refine blk_drew ?_ | refine blk_alloc ?_ _)); exact BK137.out⟩, ⟨by (with_reducible repeat (first | refine blk_drewN ?_ _ | refine blk_drew ?_ | refine blk_alloc ?_ _)); exact BK139.out⟩, ⟨by repeat (first | (with_reducible first | exact HB.out | apply below_alloc | apply pw_below_drewN | apply below_drew1 | refine below_set ?_ GE136.out | refine below_set ?_ GE137.out | refine below_set ?_ GE139.out) | exact HB.out)⟩⟩
                · rw [if_neg c31] at H
                  have c31b0 : (a0_1 == 33) = false := beq_eq_false_iff_ne.mpr c31
                  have c31b1 : (a0_1 != 33) = true := bne_iff_ne.mpr c31
                  have H' := Aside0.mk H
                  clear H
                  go_wp2
                  go_meet
                  case rel => exact ⟨_, ((a0_1 == 0)), (by first | rfl | (simp; done) | (simp [*]; done)), H', ⟨by first | omega | exact Nat.le_refl _⟩, ⟨by (with_reducible repeat (first | refine blk_drewN ?_ _ | refine blk_drew ?_ | refine blk_alloc ?_ _)); exact BK136.out⟩, ⟨by (with_reducible repeat (first | refine blk_drewN ?_ _ | refine blk_drew ?_ | refine blk_alloc ?_ _)); exact BK137.out⟩, ⟨by (with_reducible repeat (first | refine blk_drewN ?_ _ | refine blk_drew ?_ | refine blk_alloc ?_ _)); exact BK139.out⟩, ⟨by repeat (first | (with_reducible first | exact HB.out | apply below_alloc | apply pw_below_drewN | apply below_drew1 | refine below_set ?_ GE136.out | refine below_set ?_ GE137.out | refine below_set ?_ GE139.out) | exact HB.out)⟩⟩
  case rest =>
    clear HC8
    try clear c1
    try clear c2
    try clear p2
    try clear c3
    try clear c4
    try clear c12
    try clear c14
    try clear c15
    try clear c16
    try clear c25
    try clear c25b0
    try clear c25b1
    try clear c26
    try clear c26b0
    try clear c26b1
    try clear c27
    try clear c27b0
    try clear c27b1
    try clear c28
    try clear c28b0
    try clear c28b1
    try clear c29
    try clear c29b0
    try clear c29b1
    try clear c30
    try clear c30b0
    try clear c30b1
    try clear c31
    try clear c31b0
    try clear c31b1
    try clear hcz13_0
    try clear hcz13_1
    try clear hcz13_2
    try clear hcz13_3
    try clear hcz13_4
    try clear hcz13_5
    try clear hcz17_0
    try clear hcz17_1
    try clear hcz17_2
    try clear hcz17_3
    try clear hcz17_4
    try clear hcz17_5
    try clear hcz18_0
    try clear hcz18_1
    try clear hcz18_2
    try clear hcz18_3
    try clear hcz18_4
    try clear hcz18_5
    try clear hcz19_0
    try clear hcz19_1
    try clear hcz19_2
    try clear hcz19_3
    try clear hcz21_0
    try clear hcz21_1
    try clear hcz21_2
    try clear hcz21_3
    try clear hcz22_0
    try clear hcz22_1
    try clear hcz22_2
    try clear hcz22_3
    try clear hcz22_4
    try clear hcz22_5
    try clear hcz24_0
    try clear hcz24_1
    try clear hcz24_2
    try clear hcz24_3
    try clear hfz13_0
    try clear hfz13_1
    try clear hfz13_2
    try clear hfz13_3
    try clear hfz13_4
    try clear hfz13_5
    try clear hfz17_0
    try clear hfz17_1
    try clear hfz17_2
    try clear hfz17_3
    try clear hfz17_4
    try clear hfz17_5
    try clear hfz18_0
    try clear hfz18_1
    try clear hfz18_2
    try clear hfz18_3
    try clear hfz18_4
    try clear hfz18_5
    try clear hfz19_0
    try clear hfz19_1
    try clear hfz19_2
    try clear hfz19_3
    try clear hfz21_0
    try clear hfz21_1
    try clear hfz21_2
    try clear hfz21_3
    try clear hfz22_0
    try clear hfz22_1
    try clear hfz22_2
    try clear hfz22_3
    try clear hfz22_4
    try clear hfz22_5
    try clear hfz24_0
    try clear hfz24_1
    try clear hfz24_2
    try clear hfz24_3
    obtain ⟨kq, x44_7, rfl, HA, HJ7, BK136, BK137, BK139, HB⟩ := hcut
    cases kq with
    | zero => exact absurd HA.out (by simp [shacklelaw19_RelocMoves.j0])
    | succ kj7 =>
      have H := HA.out
      clear HA
      simp only [shacklelaw19_RelocMoves.j0] at H
      by_cases c32 : x44_7 = true
      · subst c32
        have H1 : (if t138 = true then (if t140 = t143 then (if t141 = t144 then ((shacklelaw00_Code.f t142).bind fun t146 => ((shacklelaw00_Code.f t145).bind fun t147 => (some (t146 == t147)))) else (some false)) else (some false)) else (some false)) = some r := by rw [if_pos rfl] at H; exact H
        clear H
        have H := H1
        clear H1
        by_cases c33 : t138 = true
        · subst c33
          have H1 : (if t140 = t143 then (if t141 = t144 then ((shacklelaw00_Code.f t142).bind fun t146 => ((shacklelaw00_Code.f t145).bind fun t147 => (some (t146 == t147)))) else (some false)) else (some false)) = some r := by rw [if_pos rfl] at H; exact H
          clear H
          have H := H1
          clear H1
          by_cases c34 : t140 = t143
          · rw [if_pos c34] at H
            have c34b0 : (t140 == t143) = true := beq_iff_eq.mpr c34
            have c34b1 : (t140 != t143) = false := bne_eq_false_iff_eq.mpr c34
            clear c34
            by_cases c35 : t141 = t144
            · rw [if_pos c35] at H
              have c35b0 : (t141 == t144) = true := beq_iff_eq.mpr c35
              have c35b1 : (t141 != t144) = false := bne_eq_false_iff_eq.mpr c35
              clear c35
              replace H := Option.bind_eq_some_iff.mp H
              obtain ⟨t146, A360, H⟩ := H
              replace H : ((shacklelaw00_Code.f t145).bind fun t147 => (some (t146 == t147))) = some r := H
              have A36 := Aside0.mk A360
              clear A360
              replace H := Option.bind_eq_some_iff.mp H
              obtain ⟨t147, A370, H⟩ := H
              replace H : (some (t146 == t147)) = some r := H
              have A37 := Aside0.mk A370
              clear A370
              obtain rfl := Option.some.inj H
              have CA36 := fun W => shacklelaw00_Code.calls t142 t146 W A36.out
              try simp only [errW_none, errW_some] at CA36
              go_wp2_with (first | (go_at_call 17; (with_reducible refine (CA36 _).mono ?_); rintro e w' ⟨rfl, ⟨nd, rfl⟩⟩; have CA37 := fun W => shacklelaw00_Code.calls t145 t147 W A37.out; try simp only [errW_none, errW_some] at CA37) | (go_at_call 17; (with_reducible refine (CA37 _).mono ?_); rintro e w' ⟨rfl, ⟨nd, rfl⟩⟩))
              go_ret
              exact ⟨by first | rfl | (simp [errW_none, errW_some] <;> rfl) | (simp [*, errW_none, errW_some] <;> rfl), by repeat (first | (with_reducible first | exact HB.out | apply below_alloc | apply pw_below_drewN | apply below_drew1 | refine below_set ?_ GE136.out | refine below_set ?_ GE137.out | refine below_set ?_ GE139.out) | exact HB.out)⟩
            · rw [if_neg c35] at H
              have c35b0 : (t141 == t144) = false := beq_eq_false_iff_ne.mpr c35
              have c35b1 : (t141 != t144) = true := bne_iff_ne.mpr c35
              obtain rfl := Option.some.inj H
              go_wp2
              go_ret
              exact ⟨by first | rfl | (simp [errW_none, errW_some] <;> rfl) | (simp [*, errW_none, errW_some] <;> rfl), by repeat (first | (with_reducible first | exact HB.out | apply below_alloc | apply pw_below_drewN | apply below_drew1 | refine below_set ?_ GE136.out | refine below_set ?_ GE137.out | refine below_set ?_ GE139.out) | exact HB.out)⟩
          · rw [if_neg c34] at H
            have c34b0 : (t140 == t143) = false := beq_eq_false_iff_ne.mpr c34
            have c34b1 : (t140 != t143) = true := bne_iff_ne.mpr c34
            obtain rfl := Option.some.inj H
            go_wp2
            go_ret
            exact ⟨by first | rfl | (simp [errW_none, errW_some] <;> rfl) | (simp [*, errW_none, errW_some] <;> rfl), by repeat (first | (with_reducible first | exact HB.out | apply below_alloc | apply pw_below_drewN | apply below_drew1 | refine below_set ?_ GE136.out | refine below_set ?_ GE137.out | refine below_set ?_ GE139.out) | exact HB.out)⟩
        · replace c33 := Bool.eq_false_iff.mpr c33
          subst c33
          have H1 : (some false) = some r := by rw [if_neg (show ¬ (false = true) by decide)] at H; exact H
          clear H
          have H := H1
          clear H1
          obtain rfl := Option.some.inj H
          go_wp2
          go_ret
          exact ⟨by first | rfl | (simp [errW_none, errW_some] <;> rfl) | (simp [*, errW_none, errW_some] <;> rfl), by repeat (first | (with_reducible first | exact HB.out | apply below_alloc | apply pw_below_drewN | apply below_drew1 | refine below_set ?_ GE136.out | refine below_set ?_ GE137.out | refine below_set ?_ GE139.out) | exact HB.out)⟩
      · replace c32 := Bool.eq_false_iff.mpr c32
        subst c32
        have H1 : (if a0_1 = 1 then (if t138 = true then (if t143 = (IntKind.u64.wrap (t140 + a3)) then (if t141 = t144 then (if t142.isNone = true then (if t145.isNone = true then (some true) else (some false)) else (some false)) else (some false)) else (some false)) else (some false)) else (if a0_1 = 6 then (if t138 = true then (if t143 = (IntKind.u64.wrap (t140 + a3)) then (if t141 = t144 then (if t142.isNone = true then (if t145.isNone = true then (some true) else (some false)) else (some false)) else (some false)) else (some false)) else (some false)) else (if a0_1 = 7 then (if t138 = true then (if t143 = (IntKind.u64.wrap (t140 + a3)) then (if t141 = t144 then (if t142.isNone = true then (if t145.isNone = true then (some true) else (some false)) else (some false)) else (some false)) else (some false)) else (some false)) else (if a0_1 = 8 then (if t138 = true then (if t143 = (IntKind.u64.wrap (t140 + a3)) then (if t141 = t144 then (if t142.isNone = true then (if t145.isNone = true then (some true) else (some false)) else (some false)) else (some false)) else (some false)) else (some false)) else (if a0_1 = 37 then (if t138 = true then (if t143 = (IntKind.u64.wrap (t140 + a3)) then (if t141 = t144 then (if t142.isNone = true then (if t145.isNone = true then (some true) else (some false)) else (some false)) else (some false)) else (some false)) else (some false)) else (some t138)))))) = some r := by rw [if_neg (show ¬ (false = true) by decide)] at H; exact H
        clear H
        have H := H1
        clear H1
        by_cases c38 : a0_1 = 1
        · rw [if_pos c38] at H
          have c38b0 : (a0_1 == 1) = true := beq_iff_eq.mpr c38
          have c38b1 : (a0_1 != 1) = false := bne_eq_false_iff_eq.mpr c38
          clear c38
          by_cases c39 : t138 = true
          · subst c39
            have H1 : (if t143 = (IntKind.u64.wrap (t140 + a3)) then (if t141 = t144 then (if t142.isNone = true then (if t145.isNone = true then (some true) else (some false)) else (some false)) else (some false)) else (some false)) = some r := by rw [if_pos rfl] at H; exact H
            clear H
            have H := H1
            clear H1
            by_cases c40 : t143 = (IntKind.u64.wrap (t140 + a3))
            · rw [if_pos c40] at H
              have c40b0 : (t143 == (IntKind.u64.wrap (t140 + a3))) = true := beq_iff_eq.mpr c40
              have c40b1 : (t143 != (IntKind.u64.wrap (t140 + a3))) = false := bne_eq_false_iff_eq.mpr c40
              clear c40
              by_cases c41 : t141 = t144
              · rw [if_pos c41] at H
                have c41b0 : (t141 == t144) = true := beq_iff_eq.mpr c41
                have c41b1 : (t141 != t144) = false := bne_eq_false_iff_eq.mpr c41
                clear c41
                rcases t142 with _ | q148
                · have H1 : (if t145.isNone = true then (some true) else (some false)) = some r := by rw [if_pos (show (none : Option Int).isNone = true by rfl)] at H; exact H
                  clear H
                  have H := H1
                  clear H1
                  try simp only [errW_none, errW_some]
                  rcases t145 with _ | q149
                  · have H1 : (some true) = some r := by rw [if_pos (show (none : Option Int).isNone = true by rfl)] at H; exact H
                    clear H
                    have H := H1
                    clear H1
                    try simp only [errW_none, errW_some]
                    obtain rfl := Option.some.inj H
                    go_wp2
                    go_ret
                    exact ⟨by first | rfl | (simp [errW_none, errW_some] <;> rfl) | (simp [*, errW_none, errW_some] <;> rfl), by repeat (first | (with_reducible first | exact HB.out | apply below_alloc | apply pw_below_drewN | apply below_drew1 | refine below_set ?_ GE136.out | refine below_set ?_ GE137.out | refine below_set ?_ GE139.out) | exact HB.out)⟩
                  · have H1 : (some false) = some r := by rw [if_neg (show ¬ (some q149).isNone = true by simp)] at H; exact H
                    clear H
                    have H := H1
                    clear H1
                    try simp only [errW_none, errW_some]
                    obtain rfl := Option.some.inj H
                    go_wp2
                    go_ret
                    exact ⟨by first | rfl | (simp [errW_none, errW_some] <;> rfl) | (simp [*, errW_none, errW_some] <;> rfl), by repeat (first | (with_reducible first | exact HB.out | apply below_alloc | apply pw_below_drewN | apply below_drew1 | refine below_set ?_ GE136.out | refine below_set ?_ GE137.out | refine below_set ?_ GE139.out) | exact HB.out)⟩
                · have H1 : (some false) = some r := by rw [if_neg (show ¬ (some q148).isNone = true by simp)] at H; exact H
                  clear H
                  have H := H1
                  clear H1
                  try simp only [errW_none, errW_some]
                  obtain rfl := Option.some.inj H
                  go_wp2
                  go_ret
                  exact ⟨by first | rfl | (simp [errW_none, errW_some] <;> rfl) | (simp [*, errW_none, errW_some] <;> rfl), by repeat (first | (with_reducible first | exact HB.out | apply below_alloc | apply pw_below_drewN | apply below_drew1 | refine below_set ?_ GE136.out | refine below_set ?_ GE137.out | refine below_set ?_ GE139.out) | exact HB.out)⟩
              · rw [if_neg c41] at H
                have c41b0 : (t141 == t144) = false := beq_eq_false_iff_ne.mpr c41
                have c41b1 : (t141 != t144) = true := bne_iff_ne.mpr c41
                obtain rfl := Option.some.inj H
                go_wp2
                go_ret
                exact ⟨by first | rfl | (simp [errW_none, errW_some] <;> rfl) | (simp [*, errW_none, errW_some] <;> rfl), by repeat (first | (with_reducible first | exact HB.out | apply below_alloc | apply pw_below_drewN | apply below_drew1 | refine below_set ?_ GE136.out | refine below_set ?_ GE137.out | refine below_set ?_ GE139.out) | exact HB.out)⟩
            · rw [if_neg c40] at H
              have c40b0 : (t143 == (IntKind.u64.wrap (t140 + a3))) = false := beq_eq_false_iff_ne.mpr c40
              have c40b1 : (t143 != (IntKind.u64.wrap (t140 + a3))) = true := bne_iff_ne.mpr c40
              obtain rfl := Option.some.inj H
              go_wp2
              go_ret
              exact ⟨by first | rfl | (simp [errW_none, errW_some] <;> rfl) | (simp [*, errW_none, errW_some] <;> rfl), by repeat (first | (with_reducible first | exact HB.out | apply below_alloc | apply pw_below_drewN | apply below_drew1 | refine below_set ?_ GE136.out | refine below_set ?_ GE137.out | refine below_set ?_ GE139.out) | exact HB.out)⟩
          · replace c39 := Bool.eq_false_iff.mpr c39
            subst c39
            have H1 : (some false) = some r := by rw [if_neg (show ¬ (false = true) by decide)] at H; exact H
            clear H
            have H := H1
            clear H1
            obtain rfl := Option.some.inj H
            go_wp2
            go_ret
            exact ⟨by first | rfl | (simp [errW_none, errW_some] <;> rfl) | (simp [*, errW_none, errW_some] <;> rfl), by repeat (first | (with_reducible first | exact HB.out | apply below_alloc | apply pw_below_drewN | apply below_drew1 | refine below_set ?_ GE136.out | refine below_set ?_ GE137.out | refine below_set ?_ GE139.out) | exact HB.out)⟩
        · rw [if_neg c38] at H
          have c38b0 : (a0_1 == 1) = false := beq_eq_false_iff_ne.mpr c38
          have c38b1 : (a0_1 != 1) = true := bne_iff_ne.mpr c38
          by_cases c42 : a0_1 = 6
          · rw [if_pos c42] at H
            have c42b0 : (a0_1 == 6) = true := beq_iff_eq.mpr c42
            have c42b1 : (a0_1 != 6) = false := bne_eq_false_iff_eq.mpr c42
            clear c42
            by_cases c43 : t138 = true
            · subst c43
              have H1 : (if t143 = (IntKind.u64.wrap (t140 + a3)) then (if t141 = t144 then (if t142.isNone = true then (if t145.isNone = true then (some true) else (some false)) else (some false)) else (some false)) else (some false)) = some r := by rw [if_pos rfl] at H; exact H
              clear H
              have H := H1
              clear H1
              by_cases c44 : t143 = (IntKind.u64.wrap (t140 + a3))
              · rw [if_pos c44] at H
                have c44b0 : (t143 == (IntKind.u64.wrap (t140 + a3))) = true := beq_iff_eq.mpr c44
                have c44b1 : (t143 != (IntKind.u64.wrap (t140 + a3))) = false := bne_eq_false_iff_eq.mpr c44
                clear c44
                by_cases c45 : t141 = t144
                · rw [if_pos c45] at H
                  have c45b0 : (t141 == t144) = true := beq_iff_eq.mpr c45
                  have c45b1 : (t141 != t144) = false := bne_eq_false_iff_eq.mpr c45
                  clear c45
                  rcases t142 with _ | q150
                  · have H1 : (if t145.isNone = true then (some true) else (some false)) = some r := by rw [if_pos (show (none : Option Int).isNone = true by rfl)] at H; exact H
                    clear H
                    have H := H1
                    clear H1
                    try simp only [errW_none, errW_some]
                    rcases t145 with _ | q151
                    · have H1 : (some true) = some r := by rw [if_pos (show (none : Option Int).isNone = true by rfl)] at H; exact H
                      clear H
                      have H := H1
                      clear H1
                      try simp only [errW_none, errW_some]
                      obtain rfl := Option.some.inj H
                      go_wp2
                      go_ret
                      exact ⟨by first | rfl | (simp [errW_none, errW_some] <;> rfl) | (simp [*, errW_none, errW_some] <;> rfl), by repeat (first | (with_reducible first | exact HB.out | apply below_alloc | apply pw_below_drewN | apply below_drew1 | refine below_set ?_ GE136.out | refine below_set ?_ GE137.out | refine below_set ?_ GE139.out) | exact HB.out)⟩
                    · have H1 : (some false) = some r := by rw [if_neg (show ¬ (some q151).isNone = true by simp)] at H; exact H
                      clear H
                      have H := H1
                      clear H1
                      try simp only [errW_none, errW_some]
                      obtain rfl := Option.some.inj H
                      go_wp2
                      go_ret
                      exact ⟨by first | rfl | (simp [errW_none, errW_some] <;> rfl) | (simp [*, errW_none, errW_some] <;> rfl), by repeat (first | (with_reducible first | exact HB.out | apply below_alloc | apply pw_below_drewN | apply below_drew1 | refine below_set ?_ GE136.out | refine below_set ?_ GE137.out | refine below_set ?_ GE139.out) | exact HB.out)⟩
                  · have H1 : (some false) = some r := by rw [if_neg (show ¬ (some q150).isNone = true by simp)] at H; exact H
                    clear H
                    have H := H1
                    clear H1
                    try simp only [errW_none, errW_some]
                    obtain rfl := Option.some.inj H
                    go_wp2
                    go_ret
                    exact ⟨by first | rfl | (simp [errW_none, errW_some] <;> rfl) | (simp [*, errW_none, errW_some] <;> rfl), by repeat (first | (with_reducible first | exact HB.out | apply below_alloc | apply pw_below_drewN | apply below_drew1 | refine below_set ?_ GE136.out | refine below_set ?_ GE137.out | refine below_set ?_ GE139.out) | exact HB.out)⟩
                · rw [if_neg c45] at H
                  have c45b0 : (t141 == t144) = false := beq_eq_false_iff_ne.mpr c45
                  have c45b1 : (t141 != t144) = true := bne_iff_ne.mpr c45
                  obtain rfl := Option.some.inj H
                  go_wp2
                  go_ret
                  exact ⟨by first | rfl | (simp [errW_none, errW_some] <;> rfl) | (simp [*, errW_none, errW_some] <;> rfl), by repeat (first | (with_reducible first | exact HB.out | apply below_alloc | apply pw_below_drewN | apply below_drew1 | refine below_set ?_ GE136.out | refine below_set ?_ GE137.out | refine below_set ?_ GE139.out) | exact HB.out)⟩
              · rw [if_neg c44] at H
                have c44b0 : (t143 == (IntKind.u64.wrap (t140 + a3))) = false := beq_eq_false_iff_ne.mpr c44
                have c44b1 : (t143 != (IntKind.u64.wrap (t140 + a3))) = true := bne_iff_ne.mpr c44
                obtain rfl := Option.some.inj H
                go_wp2
                go_ret
                exact ⟨by first | rfl | (simp [errW_none, errW_some] <;> rfl) | (simp [*, errW_none, errW_some] <;> rfl), by repeat (first | (with_reducible first | exact HB.out | apply below_alloc | apply pw_below_drewN | apply below_drew1 | refine below_set ?_ GE136.out | refine below_set ?_ GE137.out | refine below_set ?_ GE139.out) | exact HB.out)⟩
            · replace c43 := Bool.eq_false_iff.mpr c43
              subst c43
              have H1 : (some false) = some r := by rw [if_neg (show ¬ (false = true) by decide)] at H; exact H
              clear H
              have H := H1
              clear H1
              obtain rfl := Option.some.inj H
              go_wp2
              go_ret
              exact ⟨by first | rfl | (simp [errW_none, errW_some] <;> rfl) | (simp [*, errW_none, errW_some] <;> rfl), by repeat (first | (with_reducible first | exact HB.out | apply below_alloc | apply pw_below_drewN | apply below_drew1 | refine below_set ?_ GE136.out | refine below_set ?_ GE137.out | refine below_set ?_ GE139.out) | exact HB.out)⟩
          · rw [if_neg c42] at H
            have c42b0 : (a0_1 == 6) = false := beq_eq_false_iff_ne.mpr c42
            have c42b1 : (a0_1 != 6) = true := bne_iff_ne.mpr c42
            by_cases c46 : a0_1 = 7
            · rw [if_pos c46] at H
              have c46b0 : (a0_1 == 7) = true := beq_iff_eq.mpr c46
              have c46b1 : (a0_1 != 7) = false := bne_eq_false_iff_eq.mpr c46
              clear c46
              by_cases c47 : t138 = true
              · subst c47
                have H1 : (if t143 = (IntKind.u64.wrap (t140 + a3)) then (if t141 = t144 then (if t142.isNone = true then (if t145.isNone = true then (some true) else (some false)) else (some false)) else (some false)) else (some false)) = some r := by rw [if_pos rfl] at H; exact H
                clear H
                have H := H1
                clear H1
                by_cases c48 : t143 = (IntKind.u64.wrap (t140 + a3))
                · rw [if_pos c48] at H
                  have c48b0 : (t143 == (IntKind.u64.wrap (t140 + a3))) = true := beq_iff_eq.mpr c48
                  have c48b1 : (t143 != (IntKind.u64.wrap (t140 + a3))) = false := bne_eq_false_iff_eq.mpr c48
                  clear c48
                  by_cases c49 : t141 = t144
                  · rw [if_pos c49] at H
                    have c49b0 : (t141 == t144) = true := beq_iff_eq.mpr c49
                    have c49b1 : (t141 != t144) = false := bne_eq_false_iff_eq.mpr c49
                    clear c49
                    rcases t142 with _ | q152
                    · have H1 : (if t145.isNone = true then (some true) else (some false)) = some r := by rw [if_pos (show (none : Option Int).isNone = true by rfl)] at H; exact H
                      clear H
                      have H := H1
                      clear H1
                      try simp only [errW_none, errW_some]
                      rcases t145 with _ | q153
                      · have H1 : (some true) = some r := by rw [if_pos (show (none : Option Int).isNone = true by rfl)] at H; exact H
                        clear H
                        have H := H1
                        clear H1
                        try simp only [errW_none, errW_some]
                        obtain rfl := Option.some.inj H
                        go_wp2
                        go_ret
                        exact ⟨by first | rfl | (simp [errW_none, errW_some] <;> rfl) | (simp [*, errW_none, errW_some] <;> rfl), by repeat (first | (with_reducible first | exact HB.out | apply below_alloc | apply pw_below_drewN | apply below_drew1 | refine below_set ?_ GE136.out | refine below_set ?_ GE137.out | refine below_set ?_ GE139.out) | exact HB.out)⟩
                      · have H1 : (some false) = some r := by rw [if_neg (show ¬ (some q153).isNone = true by simp)] at H; exact H
                        clear H
                        have H := H1
                        clear H1
                        try simp only [errW_none, errW_some]
                        obtain rfl := Option.some.inj H
                        go_wp2
                        go_ret
                        exact ⟨by first | rfl | (simp [errW_none, errW_some] <;> rfl) | (simp [*, errW_none, errW_some] <;> rfl), by repeat (first | (with_reducible first | exact HB.out | apply below_alloc | apply pw_below_drewN | apply below_drew1 | refine below_set ?_ GE136.out | refine below_set ?_ GE137.out | refine below_set ?_ GE139.out) | exact HB.out)⟩
                    · have H1 : (some false) = some r := by rw [if_neg (show ¬ (some q152).isNone = true by simp)] at H; exact H
                      clear H
                      have H := H1
                      clear H1
                      try simp only [errW_none, errW_some]
                      obtain rfl := Option.some.inj H
                      go_wp2
                      go_ret
                      exact ⟨by first | rfl | (simp [errW_none, errW_some] <;> rfl) | (simp [*, errW_none, errW_some] <;> rfl), by repeat (first | (with_reducible first | exact HB.out | apply below_alloc | apply pw_below_drewN | apply below_drew1 | refine below_set ?_ GE136.out | refine below_set ?_ GE137.out | refine below_set ?_ GE139.out) | exact HB.out)⟩
                  · rw [if_neg c49] at H
                    have c49b0 : (t141 == t144) = false := beq_eq_false_iff_ne.mpr c49
                    have c49b1 : (t141 != t144) = true := bne_iff_ne.mpr c49
                    obtain rfl := Option.some.inj H
                    go_wp2
                    go_ret
                    exact ⟨by first | rfl | (simp [errW_none, errW_some] <;> rfl) | (simp [*, errW_none, errW_some] <;> rfl), by repeat (first | (with_reducible first | exact HB.out | apply below_alloc | apply pw_below_drewN | apply below_drew1 | refine below_set ?_ GE136.out | refine below_set ?_ GE137.out | refine below_set ?_ GE139.out) | exact HB.out)⟩
                · rw [if_neg c48] at H
                  have c48b0 : (t143 == (IntKind.u64.wrap (t140 + a3))) = false := beq_eq_false_iff_ne.mpr c48
                  have c48b1 : (t143 != (IntKind.u64.wrap (t140 + a3))) = true := bne_iff_ne.mpr c48
                  obtain rfl := Option.some.inj H
                  go_wp2
                  go_ret
                  exact ⟨by first | rfl | (simp [errW_none, errW_some] <;> rfl) | (simp [*, errW_none, errW_some] <;> rfl), by repeat (first | (with_reducible first | exact HB.out | apply below_alloc | apply pw_below_drewN | apply below_drew1 | refine below_set ?_ GE136.out | refine below_set ?_ GE137.out | refine below_set ?_ GE139.out) | exact HB.out)⟩
              · replace c47 := Bool.eq_false_iff.mpr c47
                subst c47
                have H1 : (some false) = some r := by rw [if_neg (show ¬ (false = true) by decide)] at H; exact H
                clear H
                have H := H1
                clear H1
                obtain rfl := Option.some.inj H
                go_wp2
                go_ret
                exact ⟨by first | rfl | (simp [errW_none, errW_some] <;> rfl) | (simp [*, errW_none, errW_some] <;> rfl), by repeat (first | (with_reducible first | exact HB.out | apply below_alloc | apply pw_below_drewN | apply below_drew1 | refine below_set ?_ GE136.out | refine below_set ?_ GE137.out | refine below_set ?_ GE139.out) | exact HB.out)⟩
            · rw [if_neg c46] at H
              have c46b0 : (a0_1 == 7) = false := beq_eq_false_iff_ne.mpr c46
              have c46b1 : (a0_1 != 7) = true := bne_iff_ne.mpr c46
              by_cases c50 : a0_1 = 8
              · rw [if_pos c50] at H
                have c50b0 : (a0_1 == 8) = true := beq_iff_eq.mpr c50
                have c50b1 : (a0_1 != 8) = false := bne_eq_false_iff_eq.mpr c50
                clear c50
                by_cases c51 : t138 = true
                · subst c51
                  have H1 : (if t143 = (IntKind.u64.wrap (t140 + a3)) then (if t141 = t144 then (if t142.isNone = true then (if t145.isNone = true then (some true) else (some false)) else (some false)) else (some false)) else (some false)) = some r := by rw [if_pos rfl] at H; exact H
                  clear H
                  have H := H1
                  clear H1
                  by_cases c52 : t143 = (IntKind.u64.wrap (t140 + a3))
                  · rw [if_pos c52] at H
                    have c52b0 : (t143 == (IntKind.u64.wrap (t140 + a3))) = true := beq_iff_eq.mpr c52
                    have c52b1 : (t143 != (IntKind.u64.wrap (t140 + a3))) = false := bne_eq_false_iff_eq.mpr c52
                    clear c52
                    by_cases c53 : t141 = t144
                    · rw [if_pos c53] at H
                      have c53b0 : (t141 == t144) = true := beq_iff_eq.mpr c53
                      have c53b1 : (t141 != t144) = false := bne_eq_false_iff_eq.mpr c53
                      clear c53
                      rcases t142 with _ | q154
                      · have H1 : (if t145.isNone = true then (some true) else (some false)) = some r := by rw [if_pos (show (none : Option Int).isNone = true by rfl)] at H; exact H
                        clear H
                        have H := H1
                        clear H1
                        try simp only [errW_none, errW_some]
                        rcases t145 with _ | q155
                        · have H1 : (some true) = some r := by rw [if_pos (show (none : Option Int).isNone = true by rfl)] at H; exact H
                          clear H
                          have H := H1
                          clear H1
                          try simp only [errW_none, errW_some]
                          obtain rfl := Option.some.inj H
                          go_wp2
                          go_ret
                          exact ⟨by first | rfl | (simp [errW_none, errW_some] <;> rfl) | (simp [*, errW_none, errW_some] <;> rfl), by repeat (first | (with_reducible first | exact HB.out | apply below_alloc | apply pw_below_drewN | apply below_drew1 | refine below_set ?_ GE136.out | refine below_set ?_ GE137.out | refine below_set ?_ GE139.out) | exact HB.out)⟩
                        · have H1 : (some false) = some r := by rw [if_neg (show ¬ (some q155).isNone = true by simp)] at H; exact H
                          clear H
                          have H := H1
                          clear H1
                          try simp only [errW_none, errW_some]
                          obtain rfl := Option.some.inj H
                          go_wp2
                          go_ret
                          exact ⟨by first | rfl | (simp [errW_none, errW_some] <;> rfl) | (simp [*, errW_none, errW_some] <;> rfl), by repeat (first | (with_reducible first | exact HB.out | apply below_alloc | apply pw_below_drewN | apply below_drew1 | refine below_set ?_ GE136.out | refine below_set ?_ GE137.out | refine below_set ?_ GE139.out) | exact HB.out)⟩
                      · have H1 : (some false) = some r := by rw [if_neg (show ¬ (some q154).isNone = true by simp)] at H; exact H
                        clear H
                        have H := H1
                        clear H1
                        try simp only [errW_none, errW_some]
                        obtain rfl := Option.some.inj H
                        go_wp2
                        go_ret
                        exact ⟨by first | rfl | (simp [errW_none, errW_some] <;> rfl) | (simp [*, errW_none, errW_some] <;> rfl), by repeat (first | (with_reducible first | exact HB.out | apply below_alloc | apply pw_below_drewN | apply below_drew1 | refine below_set ?_ GE136.out | refine below_set ?_ GE137.out | refine below_set ?_ GE139.out) | exact HB.out)⟩
                    · rw [if_neg c53] at H
                      have c53b0 : (t141 == t144) = false := beq_eq_false_iff_ne.mpr c53
                      have c53b1 : (t141 != t144) = true := bne_iff_ne.mpr c53
                      obtain rfl := Option.some.inj H
                      go_wp2
                      go_ret
                      exact ⟨by first | rfl | (simp [errW_none, errW_some] <;> rfl) | (simp [*, errW_none, errW_some] <;> rfl), by repeat (first | (with_reducible first | exact HB.out | apply below_alloc | apply pw_below_drewN | apply below_drew1 | refine below_set ?_ GE136.out | refine below_set ?_ GE137.out | refine below_set ?_ GE139.out) | exact HB.out)⟩
                  · rw [if_neg c52] at H
                    have c52b0 : (t143 == (IntKind.u64.wrap (t140 + a3))) = false := beq_eq_false_iff_ne.mpr c52
                    have c52b1 : (t143 != (IntKind.u64.wrap (t140 + a3))) = true := bne_iff_ne.mpr c52
                    obtain rfl := Option.some.inj H
                    go_wp2
                    go_ret
                    exact ⟨by first | rfl | (simp [errW_none, errW_some] <;> rfl) | (simp [*, errW_none, errW_some] <;> rfl), by repeat (first | (with_reducible first | exact HB.out | apply below_alloc | apply pw_below_drewN | apply below_drew1 | refine below_set ?_ GE136.out | refine below_set ?_ GE137.out | refine below_set ?_ GE139.out) | exact HB.out)⟩
                · replace c51 := Bool.eq_false_iff.mpr c51
                  subst c51
                  have H1 : (some false) = some r := by rw [if_neg (show ¬ (false = true) by decide)] at H; exact H
                  clear H
                  have H := H1
                  clear H1
                  obtain rfl := Option.some.inj H
                  go_wp2
                  go_ret
                  exact ⟨by first | rfl | (simp [errW_none, errW_some] <;> rfl) | (simp [*, errW_none, errW_some] <;> rfl), by repeat (first | (with_reducible first | exact HB.out | apply below_alloc | apply pw_below_drewN | apply below_drew1 | refine below_set ?_ GE136.out | refine below_set ?_ GE137.out | refine below_set ?_ GE139.out) | exact HB.out)⟩
              · rw [if_neg c50] at H
                have c50b0 : (a0_1 == 8) = false := beq_eq_false_iff_ne.mpr c50
                have c50b1 : (a0_1 != 8) = true := bne_iff_ne.mpr c50
                by_cases c54 : a0_1 = 37
                · rw [if_pos c54] at H
                  have c54b0 : (a0_1 == 37) = true := beq_iff_eq.mpr c54
                  have c54b1 : (a0_1 != 37) = false := bne_eq_false_iff_eq.mpr c54
                  clear c54
                  by_cases c55 : t138 = true
                  · subst c55
                    have H1 : (if t143 = (IntKind.u64.wrap (t140 + a3)) then (if t141 = t144 then (if t142.isNone = true then (if t145.isNone = true then (some true) else (some false)) else (some false)) else (some false)) else (some false)) = some r := by rw [if_pos rfl] at H; exact H
                    clear H
                    have H := H1
                    clear H1
                    by_cases c56 : t143 = (IntKind.u64.wrap (t140 + a3))
                    · rw [if_pos c56] at H
                      have c56b0 : (t143 == (IntKind.u64.wrap (t140 + a3))) = true := beq_iff_eq.mpr c56
                      have c56b1 : (t143 != (IntKind.u64.wrap (t140 + a3))) = false := bne_eq_false_iff_eq.mpr c56
                      clear c56
                      by_cases c57 : t141 = t144
                      · rw [if_pos c57] at H
                        have c57b0 : (t141 == t144) = true := beq_iff_eq.mpr c57
                        have c57b1 : (t141 != t144) = false := bne_eq_false_iff_eq.mpr c57
                        clear c57
                        rcases t142 with _ | q156
                        · have H1 : (if t145.isNone = true then (some true) else (some false)) = some r := by rw [if_pos (show (none : Option Int).isNone = true by rfl)] at H; exact H
                          clear H
                          have H := H1
                          clear H1
                          try simp only [errW_none, errW_some]
                          rcases t145 with _ | q157
                          · have H1 : (some true) = some r := by rw [if_pos (show (none : Option Int).isNone = true by rfl)] at H; exact H
                            clear H
                            have H := H1
                            clear H1
                            try simp only [errW_none, errW_some]
                            obtain rfl := Option.some.inj H
                            go_wp2
                            go_ret
                            exact ⟨by first | rfl | (simp [errW_none, errW_some] <;> rfl) | (simp [*, errW_none, errW_some] <;> rfl), by repeat (first | (with_reducible first | exact HB.out | apply below_alloc | apply pw_below_drewN | apply below_drew1 | refine below_set ?_ GE136.out | refine below_set ?_ GE137.out | refine below_set ?_ GE139.out) | exact HB.out)⟩
                          · have H1 : (some false) = some r := by rw [if_neg (show ¬ (some q157).isNone = true by simp)] at H; exact H
                            clear H
                            have H := H1
                            clear H1
                            try simp only [errW_none, errW_some]
                            obtain rfl := Option.some.inj H
                            go_wp2
                            go_ret
                            exact ⟨by first | rfl | (simp [errW_none, errW_some] <;> rfl) | (simp [*, errW_none, errW_some] <;> rfl), by repeat (first | (with_reducible first | exact HB.out | apply below_alloc | apply pw_below_drewN | apply below_drew1 | refine below_set ?_ GE136.out | refine below_set ?_ GE137.out | refine below_set ?_ GE139.out) | exact HB.out)⟩
                        · have H1 : (some false) = some r := by rw [if_neg (show ¬ (some q156).isNone = true by simp)] at H; exact H
                          clear H
                          have H := H1
                          clear H1
                          try simp only [errW_none, errW_some]
                          obtain rfl := Option.some.inj H
                          go_wp2
                          go_ret
                          exact ⟨by first | rfl | (simp [errW_none, errW_some] <;> rfl) | (simp [*, errW_none, errW_some] <;> rfl), by repeat (first | (with_reducible first | exact HB.out | apply below_alloc | apply pw_below_drewN | apply below_drew1 | refine below_set ?_ GE136.out | refine below_set ?_ GE137.out | refine below_set ?_ GE139.out) | exact HB.out)⟩
                      · rw [if_neg c57] at H
                        have c57b0 : (t141 == t144) = false := beq_eq_false_iff_ne.mpr c57
                        have c57b1 : (t141 != t144) = true := bne_iff_ne.mpr c57
                        obtain rfl := Option.some.inj H
                        go_wp2
                        go_ret
                        exact ⟨by first | rfl | (simp [errW_none, errW_some] <;> rfl) | (simp [*, errW_none, errW_some] <;> rfl), by repeat (first | (with_reducible first | exact HB.out | apply below_alloc | apply pw_below_drewN | apply below_drew1 | refine below_set ?_ GE136.out | refine below_set ?_ GE137.out | refine below_set ?_ GE139.out) | exact HB.out)⟩
                    · rw [if_neg c56] at H
                      have c56b0 : (t143 == (IntKind.u64.wrap (t140 + a3))) = false := beq_eq_false_iff_ne.mpr c56
                      have c56b1 : (t143 != (IntKind.u64.wrap (t140 + a3))) = true := bne_iff_ne.mpr c56
                      obtain rfl := Option.some.inj H
                      go_wp2
                      go_ret
                      exact ⟨by first | rfl | (simp [errW_none, errW_some] <;> rfl) | (simp [*, errW_none, errW_some] <;> rfl), by repeat (first | (with_reducible first | exact HB.out | apply below_alloc | apply pw_below_drewN | apply below_drew1 | refine below_set ?_ GE136.out | refine below_set ?_ GE137.out | refine below_set ?_ GE139.out) | exact HB.out)⟩
                  · replace c55 := Bool.eq_false_iff.mpr c55
                    subst c55
                    have H1 : (some false) = some r := by rw [if_neg (show ¬ (false = true) by decide)] at H; exact H
                    clear H
                    have H := H1
                    clear H1
                    obtain rfl := Option.some.inj H
                    go_wp2
                    go_ret
                    exact ⟨by first | rfl | (simp [errW_none, errW_some] <;> rfl) | (simp [*, errW_none, errW_some] <;> rfl), by repeat (first | (with_reducible first | exact HB.out | apply below_alloc | apply pw_below_drewN | apply below_drew1 | refine below_set ?_ GE136.out | refine below_set ?_ GE137.out | refine below_set ?_ GE139.out) | exact HB.out)⟩
                · rw [if_neg c54] at H
                  have c54b0 : (a0_1 == 37) = false := beq_eq_false_iff_ne.mpr c54
                  have c54b1 : (a0_1 != 37) = true := bne_iff_ne.mpr c54
                  obtain rfl := Option.some.inj H
                  go_wp2
                  go_ret
                  exact ⟨by first | rfl | (simp [errW_none, errW_some] <;> rfl) | (simp [*, errW_none, errW_some] <;> rfl), by repeat (first | (with_reducible first | exact HB.out | apply below_alloc | apply pw_below_drewN | apply below_drew1 | refine below_set ?_ GE136.out | refine below_set ?_ GE137.out | refine below_set ?_ GE139.out) | exact HB.out)⟩

/-- THE ONE PURE STATEMENT of shacklelaw19_RelocMoves: yours. -/
def g24 (x : S24) : Prop := (gI .u64) x.f0 ∧ (gI .i64) x.f1 ∧ (gI .i64) x.f2 ∧ (gI .i64) x.f3
def b24 (x : S24) : Nat := (b1 x.f0 + (b1 x.f1 + (b1 x.f2 + (b1 x.f3)))) + 1
def z_24 (x : S24) : Prop := zT x.f0 ∧ zT x.f1 ∧ zT x.f2 ∧ zT x.f3
def g26 (x : S26) : Prop := (gI .u64) x.f0 ∧ (gI .u64) x.f1 ∧ (gI .i64) x.f2 ∧ (gI .u64) x.f3 ∧ gT x.f4 ∧ (gI .u64) x.f5
def b26 (x : S26) : Nat := (b1 x.f0 + (b1 x.f1 + (b1 x.f2 + (b1 x.f3 + (b1 x.f4 + (b1 x.f5)))))) + 1
def z_26 (x : S26) : Prop := zT x.f0 ∧ zT x.f1 ∧ zT x.f2 ∧ zT x.f3 ∧ zT x.f4 ∧ zT x.f5
def shacklelaw19_RelocMoves.Pure : Prop := ∀ (a0_0 : Int) (a0_1 : Int) (a0_2 : Int) (a0_3 : Int) (a1 : Int) (a2_0 : Int) (a2_1 : Int) (a2_2 : Int) (a2_3 : Int) (a2_4 : Bool) (a2_5 : Int) (a3 : Int), (Lit.int .u64 a0_0).wf = true → (Lit.int .i64 a0_1).wf = true → (Lit.int .i64 a0_2).wf = true → (Lit.int .i64 a0_3).wf = true → (Lit.int .u64 a1).wf = true → (Lit.int .u64 a2_0).wf = true → (Lit.int .u64 a2_1).wf = true → (Lit.int .i64 a2_2).wf = true → (Lit.int .u64 a2_3).wf = true → (Lit.int .u64 a2_5).wf = true → (Lit.int .u64 a3).wf = true → ∃ k, shacklelaw19_RelocMoves.f k a0_0 a0_1 a0_2 a0_3 a1 a2_0 a2_1 a2_2 a2_3 a2_4 a2_5 a3 = some true

end Go.Proofs.Ythhlnhbmjkjmlaa.PRelocMoves
