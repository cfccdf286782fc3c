/- ExecTests: the run. No condition but what each theorem says. -/
import Derived.Test.YtpjilbhhhpikaaaGreatEvU13
import Derived.Test.YtpjilbhhhpikaaaGreatEvX3
import Derived.WalkKit
import Derived.OwnWalkIn
import Derived.Deep.RegionWith
namespace Go.Ev
set_option linter.unusedVariables false
set_option linter.unusedSimpArgs false
open Go Go.Proofs Go.RowKit
section
variable {P : Program} {o : Oper} {f : Operand → Value}
theorem r_move (x : Operand) (h : o.op = .move x) (w : World) : (execOp f o).run P w = .ok (.value (f x)) w := by unfold execOp; rw [h]; rfl
theorem r_assign (x : Operand) (h : o.op = .assign x) (w : World) : (execOp f o).run P w = .ok (.value (f x)) w := by unfold execOp; rw [h]; rfl
end
theorem size25 : (Tryz.prog.info? 25).map (·.size) = some 23 := by kernel_rfl
set_option maxRecDepth 100000 in
set_option maxHeartbeats 2000000 in
theorem tests_any (cs : Array Value) (hsz : cs.size = 23) (c : Int) (B : Bool)
    (cT : ∀ W : World, Calls Tryz.prog 12 #[.agg cs, .int .i64 c] W fun e w' => e = .returned (.bool B) ∧ Below W.heap.size W w')
    (cR : ∀ W : World, Calls Tryz.prog 13 #[.agg cs, .int .i64 c] W fun e w' => e = .returned (.bool B) ∧ Below W.heap.size W w')
    (w : World) : Calls Tryz.prog 3 #[.agg cs, .int .i64 c] w fun e w' => e = .returned (.bool true) ∧ Below w.heap.size w w' := by
  have cU : ∀ W : World, Calls Tryz.prog 11 #[] W _ := fun W => closed_true up13 W
  refine calls_of_wp Tryz.func3 rfl ?_
  simp only [Tryz.ntmps3, List.size_toArray, List.length_cons, List.length_nil, Nat.reduceAdd, Nat.reduceSub, Array.replicate_succ, Array.replicate_zero, List.push_toArray, List.append_toArray, List.nil_append, List.cons_append]
  go_wp2_with (first
    | (go_at_call 11; refine (cU _).mono ?_; rintro e w1 ⟨rfl, hb1⟩
       have h1 := (hb1.block w.heap.size (by simp)).trans (World.alloc_heap_new w _)
       have hlt1 : w.heap.size < w1.heap.size := (Array.getElem?_eq_some_iff.mp h1).1
       have hbel1 : Below w.heap.size w w1 := ((Below.refl _ w).alloc (Nat.le_refl _) _).trans (hb1.mono (by simp)))
    | fail)
  refine wp_region_any (by kernel_rfl) ?_
  change wpAny _ _ _ _ _ _ _ (World.drew _)
  refine wpAny_take (i := 0) (v := .bool true) rfl (by kernel_rfl) (by kernel_rfl) (by kernel_rfl) (fun _ _ _ h => h) (Or.inl ⟨by rfl, by intro W; rfl⟩) ?_
  refine wpAny_take (i := 1) (v := .bool true) rfl (by kernel_rfl) (by kernel_rfl) (by kernel_rfl) (fun _ _ _ h => h) (Or.inl ⟨by rfl, by intro W; rfl⟩) ?_
  refine wpAny_take (i := 3) (v := .int .i64 c) rfl (by kernel_rfl) (by kernel_rfl) (by kernel_rfl) (fun _ _ _ h => h) (Or.inl ⟨by rfl, by intro W; rfl⟩) ?_
  refine wpAny_take (i := 6) (v := .int .i64 c) rfl (by kernel_rfl) (by kernel_rfl) (by kernel_rfl) (fun _ _ _ h => h) (Or.inl ⟨by rfl, by intro W; rfl⟩) ?_
  refine wpAny_ready (rs := [2, 5]) (by kernel_rfl) (by simp) ?_
  refine AllReady.cons rfl (fun K hK => ?_) ?_
  · rw [if_pos (by rfl)]
    refine wp_load_row 25 _ rfl w.heap.size rfl 25 _ (0, 0) _ h1 Tryz.underlying25 rfl (size25.trans (congrArg some hsz.symm)) ?_
    refine hK _ _ ?_; clear hK K
    refine wpAny_ready (rs := [4, 5]) (by kernel_rfl) (by simp) ?_
    refine AllReady.cons rfl (fun K hK => ?_) ?_
    · rw [if_pos (by rfl)]
      go_simp
      go_wp2_with (first | (go_at_call 12; refine (cT _).mono ?_; rintro e w2 ⟨rfl, hb2⟩; have h2 := (hb2.block _ hlt1).trans h1; have hlt2 : w.heap.size < w2.heap.size := (Array.getElem?_eq_some_iff.mp h2).1; have hbel2 : Below w.heap.size w w2 := (Below.drew hbel1).trans (hb2.mono (Nat.le_of_lt hlt1))) | (refine hK _ _ ?_; clear hK K))
      refine wpAny_ready (rs := [5]) (by kernel_rfl) (by simp) ?_
      refine AllReady.cons rfl (fun K hK => ?_) ?_
      · rw [if_pos (by rfl)]
        refine wp_load_row 25 _ rfl w.heap.size rfl 25 _ (0, 0) _ h2 Tryz.underlying25 rfl (size25.trans (congrArg some hsz.symm)) ?_
        refine hK _ _ ?_; clear hK K
        refine wpAny_ready (rs := [7]) (by kernel_rfl) (by simp) ?_
        refine AllReady.cons rfl (fun K hK => ?_) ?_
        · rw [if_pos (by rfl)]
          go_simp
          go_wp2_with (first | (go_at_call 13; refine (cR _).mono ?_; rintro e w3 ⟨rfl, hb3⟩; have hbel3 : Below w.heap.size w w3 := hbel2.trans (hb3.mono (Nat.le_of_lt hlt2))) | (refine hK _ _ ?_; clear hK K))
          refine wpAny_take (i := 8) (v := .bool (B == B)) rfl (by kernel_rfl) (by kernel_rfl) (by kernel_rfl) (fun _ _ _ h => h) (Or.inl ⟨by rfl, by intro W; rfl⟩) ?_
          refine wpAny_take (i := 9) (v := .bool (B == B)) rfl (by kernel_rfl) (by kernel_rfl) (by kernel_rfl) (fun _ _ _ h => h) (Or.inl ⟨by rfl, by intro W; rfl⟩) ?_
          refine wpAny_take (i := 10) (v := .bool (B == B)) rfl (by kernel_rfl) (by kernel_rfl) (by kernel_rfl) (fun _ _ _ h => h) (Or.inl ⟨by rfl, by intro W; rfl⟩) ?_
          refine wpAny_done (by kernel_rfl) ?_ _
          go_wp2
          go_ret
          exact ⟨by simp; rfl, hbel3⟩
        exact AllReady.nil
      exact AllReady.nil
    refine AllReady.cons rfl (fun K hK => ?_) ?_
    · rw [if_pos (by rfl)]
      refine wp_load_row 25 _ rfl w.heap.size rfl 25 _ (0, 0) _ h1 Tryz.underlying25 rfl (size25.trans (congrArg some hsz.symm)) ?_
      refine hK _ _ ?_; clear hK K
      refine wpAny_ready (rs := [4]) (by kernel_rfl) (by simp) ?_
      refine AllReady.cons rfl (fun K hK => ?_) ?_
      · rw [if_pos (by rfl)]
        go_simp
        go_wp2_with (first | (go_at_call 12; refine (cT _).mono ?_; rintro e w2 ⟨rfl, hb2⟩; have h2 := (hb2.block _ hlt1).trans h1; have hlt2 : w.heap.size < w2.heap.size := (Array.getElem?_eq_some_iff.mp h2).1; have hbel2 : Below w.heap.size w w2 := (Below.drew hbel1).trans (hb2.mono (Nat.le_of_lt hlt1))) | (refine hK _ _ ?_; clear hK K))
        refine wpAny_ready (rs := [7]) (by kernel_rfl) (by simp) ?_
        refine AllReady.cons rfl (fun K hK => ?_) ?_
        · rw [if_pos (by rfl)]
          go_simp
          go_wp2_with (first | (go_at_call 13; refine (cR _).mono ?_; rintro e w3 ⟨rfl, hb3⟩; have hbel3 : Below w.heap.size w w3 := hbel2.trans (hb3.mono (Nat.le_of_lt hlt2))) | (refine hK _ _ ?_; clear hK K))
          refine wpAny_take (i := 8) (v := .bool (B == B)) rfl (by kernel_rfl) (by kernel_rfl) (by kernel_rfl) (fun _ _ _ h => h) (Or.inl ⟨by rfl, by intro W; rfl⟩) ?_
          refine wpAny_take (i := 9) (v := .bool (B == B)) rfl (by kernel_rfl) (by kernel_rfl) (by kernel_rfl) (fun _ _ _ h => h) (Or.inl ⟨by rfl, by intro W; rfl⟩) ?_
          refine wpAny_take (i := 10) (v := .bool (B == B)) rfl (by kernel_rfl) (by kernel_rfl) (by kernel_rfl) (fun _ _ _ h => h) (Or.inl ⟨by rfl, by intro W; rfl⟩) ?_
          refine wpAny_done (by kernel_rfl) ?_ _
          go_wp2
          go_ret
          exact ⟨by simp; rfl, hbel3⟩
        exact AllReady.nil
      exact AllReady.nil
    exact AllReady.nil
  refine AllReady.cons rfl (fun K hK => ?_) ?_
  · rw [if_pos (by rfl)]
    refine wp_load_row 25 _ rfl w.heap.size rfl 25 _ (0, 0) _ h1 Tryz.underlying25 rfl (size25.trans (congrArg some hsz.symm)) ?_
    refine hK _ _ ?_; clear hK K
    refine wpAny_ready (rs := [2]) (by kernel_rfl) (by simp) ?_
    refine AllReady.cons rfl (fun K hK => ?_) ?_
    · rw [if_pos (by rfl)]
      refine wp_load_row 25 _ rfl w.heap.size rfl 25 _ (0, 0) _ h1 Tryz.underlying25 rfl (size25.trans (congrArg some hsz.symm)) ?_
      refine hK _ _ ?_; clear hK K
      refine wpAny_ready (rs := [4]) (by kernel_rfl) (by simp) ?_
      refine AllReady.cons rfl (fun K hK => ?_) ?_
      · rw [if_pos (by rfl)]
        go_simp
        go_wp2_with (first | (go_at_call 12; refine (cT _).mono ?_; rintro e w2 ⟨rfl, hb2⟩; have h2 := (hb2.block _ hlt1).trans h1; have hlt2 : w.heap.size < w2.heap.size := (Array.getElem?_eq_some_iff.mp h2).1; have hbel2 : Below w.heap.size w w2 := (Below.drew hbel1).trans (hb2.mono (Nat.le_of_lt hlt1))) | (refine hK _ _ ?_; clear hK K))
        refine wpAny_ready (rs := [7]) (by kernel_rfl) (by simp) ?_
        refine AllReady.cons rfl (fun K hK => ?_) ?_
        · rw [if_pos (by rfl)]
          go_simp
          go_wp2_with (first | (go_at_call 13; refine (cR _).mono ?_; rintro e w3 ⟨rfl, hb3⟩; have hbel3 : Below w.heap.size w w3 := hbel2.trans (hb3.mono (Nat.le_of_lt hlt2))) | (refine hK _ _ ?_; clear hK K))
          refine wpAny_take (i := 8) (v := .bool (B == B)) rfl (by kernel_rfl) (by kernel_rfl) (by kernel_rfl) (fun _ _ _ h => h) (Or.inl ⟨by rfl, by intro W; rfl⟩) ?_
          refine wpAny_take (i := 9) (v := .bool (B == B)) rfl (by kernel_rfl) (by kernel_rfl) (by kernel_rfl) (fun _ _ _ h => h) (Or.inl ⟨by rfl, by intro W; rfl⟩) ?_
          refine wpAny_take (i := 10) (v := .bool (B == B)) rfl (by kernel_rfl) (by kernel_rfl) (by kernel_rfl) (fun _ _ _ h => h) (Or.inl ⟨by rfl, by intro W; rfl⟩) ?_
          refine wpAny_done (by kernel_rfl) ?_ _
          go_wp2
          go_ret
          exact ⟨by simp; rfl, hbel3⟩
        exact AllReady.nil
      exact AllReady.nil
    exact AllReady.nil
  exact AllReady.nil
theorem execTests_calls (a0 a1 a2 a3 a4 a5 a6 a7 a8 a9 a10 a11 a12 a13 a14 a15 a16 a17 c : Int) (b0 b1 b2 b3 b4 : Bool) (w : World) : Calls Tryz.prog 3 #[.agg #[.int .u64 a0, .int .u64 a1, .int .u64 a2, .int .u64 a3, .int .u64 a4, .int .u64 a5, .int .u64 a6, .int .u64 a7, .int .u64 a8, .int .u64 a9, .int .u64 a10, .int .u64 a11, .int .u64 a12, .int .u64 a13, .int .u64 a14, .int .u64 a15, .int .u64 a16, .int .u64 a17, .bool b0, .bool b1, .bool b2, .bool b3, .bool b4], .int .i64 c] w fun e w' => e = .returned (.bool true) ∧ Below w.heap.size w w' :=
  tests_any _ rfl c _ (fun W => test_all a0 a1 a2 a3 a4 a5 a6 a7 a8 a9 a10 a11 a12 a13 a14 a15 a16 a17 c b0 b1 b2 b3 b4 W) (fun W => ref_all a0 a1 a2 a3 a4 a5 a6 a7 a8 a9 a10 a11 a12 a13 a14 a15 a16 a17 c b0 b1 b2 b3 b4 W) w
end Go.Ev
