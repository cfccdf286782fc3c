/- shackleref13.Test: walked at each remainder of the condition (part 0). No condition but what each theorem says. -/
import Derived.Test.YtpjilbhhhpikaaaGreatEvX
namespace Go.Ev
set_option linter.unusedVariables false
set_option linter.unusedSimpArgs false
open Go Go.Proofs Go.RowKit
set_option maxRecDepth 100000 in
set_option maxHeartbeats 1000000 in
theorem ref_m15 (a0 a1 a2 a3 a4 a5 a6 a7 a8 a9 a10 a11 a12 a13 a14 a15 a16 a17 c : Int) (b0 b1 b2 b3 b4 : Bool) (w : World) (ht : c.tmod 16 = -15) : Calls Tryz.prog 13 #[.agg #[.int .u64 a0, .int .u64 a1, .int .u64 a2, .int .u64 a3, .int .u64 a4, .int .u64 a5, .int .u64 a6, .int .u64 a7, .int .u64 a8, .int .u64 a9, .int .u64 a10, .int .u64 a11, .int .u64 a12, .int .u64 a13, .int .u64 a14, .int .u64 a15, .int .u64 a16, .int .u64 a17, .bool b0, .bool b1, .bool b2, .bool b3, .bool b4], .int .i64 c] w fun e w' => e = .returned (.bool (cnd 1 b0 b1 b2 b3 b4)) ∧ Below w.heap.size w w' := by
  refine calls_of_wp Tryz.func13 rfl ?_
  simp only [Tryz.ntmps13, List.size_toArray, List.length_cons, List.length_nil, Nat.reduceAdd, Nat.reduceSub, Array.replicate_succ, Array.replicate_zero, List.push_toArray, List.append_toArray, List.nil_append, List.cons_append]
  go_wp2
  all_goals go_ret
  all_goals refine ⟨?_, ((Below.refl _ w).alloc (Nat.le_refl _) _).alloc (by simp) _⟩
  all_goals (simp_all [cnd] <;> (cases b2 <;> cases b3 <;> rfl))
set_option maxRecDepth 100000 in
set_option maxHeartbeats 1000000 in
theorem ref_m14 (a0 a1 a2 a3 a4 a5 a6 a7 a8 a9 a10 a11 a12 a13 a14 a15 a16 a17 c : Int) (b0 b1 b2 b3 b4 : Bool) (w : World) (ht : c.tmod 16 = -14) : Calls Tryz.prog 13 #[.agg #[.int .u64 a0, .int .u64 a1, .int .u64 a2, .int .u64 a3, .int .u64 a4, .int .u64 a5, .int .u64 a6, .int .u64 a7, .int .u64 a8, .int .u64 a9, .int .u64 a10, .int .u64 a11, .int .u64 a12, .int .u64 a13, .int .u64 a14, .int .u64 a15, .int .u64 a16, .int .u64 a17, .bool b0, .bool b1, .bool b2, .bool b3, .bool b4], .int .i64 c] w fun e w' => e = .returned (.bool (cnd 2 b0 b1 b2 b3 b4)) ∧ Below w.heap.size w w' := by
  refine calls_of_wp Tryz.func13 rfl ?_
  simp only [Tryz.ntmps13, List.size_toArray, List.length_cons, List.length_nil, Nat.reduceAdd, Nat.reduceSub, Array.replicate_succ, Array.replicate_zero, List.push_toArray, List.append_toArray, List.nil_append, List.cons_append]
  go_wp2
  all_goals go_ret
  all_goals refine ⟨?_, ((Below.refl _ w).alloc (Nat.le_refl _) _).alloc (by simp) _⟩
  all_goals (simp_all [cnd] <;> (cases b2 <;> cases b3 <;> rfl))
set_option maxRecDepth 100000 in
set_option maxHeartbeats 1000000 in
theorem ref_m13 (a0 a1 a2 a3 a4 a5 a6 a7 a8 a9 a10 a11 a12 a13 a14 a15 a16 a17 c : Int) (b0 b1 b2 b3 b4 : Bool) (w : World) (ht : c.tmod 16 = -13) : Calls Tryz.prog 13 #[.agg #[.int .u64 a0, .int .u64 a1, .int .u64 a2, .int .u64 a3, .int .u64 a4, .int .u64 a5, .int .u64 a6, .int .u64 a7, .int .u64 a8, .int .u64 a9, .int .u64 a10, .int .u64 a11, .int .u64 a12, .int .u64 a13, .int .u64 a14, .int .u64 a15, .int .u64 a16, .int .u64 a17, .bool b0, .bool b1, .bool b2, .bool b3, .bool b4], .int .i64 c] w fun e w' => e = .returned (.bool (cnd 3 b0 b1 b2 b3 b4)) ∧ Below w.heap.size w w' := by
  refine calls_of_wp Tryz.func13 rfl ?_
  simp only [Tryz.ntmps13, List.size_toArray, List.length_cons, List.length_nil, Nat.reduceAdd, Nat.reduceSub, Array.replicate_succ, Array.replicate_zero, List.push_toArray, List.append_toArray, List.nil_append, List.cons_append]
  go_wp2
  all_goals go_ret
  all_goals refine ⟨?_, ((Below.refl _ w).alloc (Nat.le_refl _) _).alloc (by simp) _⟩
  all_goals (simp_all [cnd] <;> (cases b2 <;> cases b3 <;> rfl))
set_option maxRecDepth 100000 in
set_option maxHeartbeats 1000000 in
theorem ref_m12 (a0 a1 a2 a3 a4 a5 a6 a7 a8 a9 a10 a11 a12 a13 a14 a15 a16 a17 c : Int) (b0 b1 b2 b3 b4 : Bool) (w : World) (ht : c.tmod 16 = -12) : Calls Tryz.prog 13 #[.agg #[.int .u64 a0, .int .u64 a1, .int .u64 a2, .int .u64 a3, .int .u64 a4, .int .u64 a5, .int .u64 a6, .int .u64 a7, .int .u64 a8, .int .u64 a9, .int .u64 a10, .int .u64 a11, .int .u64 a12, .int .u64 a13, .int .u64 a14, .int .u64 a15, .int .u64 a16, .int .u64 a17, .bool b0, .bool b1, .bool b2, .bool b3, .bool b4], .int .i64 c] w fun e w' => e = .returned (.bool (cnd 4 b0 b1 b2 b3 b4)) ∧ Below w.heap.size w w' := by
  refine calls_of_wp Tryz.func13 rfl ?_
  simp only [Tryz.ntmps13, List.size_toArray, List.length_cons, List.length_nil, Nat.reduceAdd, Nat.reduceSub, Array.replicate_succ, Array.replicate_zero, List.push_toArray, List.append_toArray, List.nil_append, List.cons_append]
  go_wp2
  all_goals go_ret
  all_goals refine ⟨?_, ((Below.refl _ w).alloc (Nat.le_refl _) _).alloc (by simp) _⟩
  all_goals (simp_all [cnd] <;> (cases b2 <;> cases b3 <;> rfl))
set_option maxRecDepth 100000 in
set_option maxHeartbeats 1000000 in
theorem ref_m11 (a0 a1 a2 a3 a4 a5 a6 a7 a8 a9 a10 a11 a12 a13 a14 a15 a16 a17 c : Int) (b0 b1 b2 b3 b4 : Bool) (w : World) (ht : c.tmod 16 = -11) : Calls Tryz.prog 13 #[.agg #[.int .u64 a0, .int .u64 a1, .int .u64 a2, .int .u64 a3, .int .u64 a4, .int .u64 a5, .int .u64 a6, .int .u64 a7, .int .u64 a8, .int .u64 a9, .int .u64 a10, .int .u64 a11, .int .u64 a12, .int .u64 a13, .int .u64 a14, .int .u64 a15, .int .u64 a16, .int .u64 a17, .bool b0, .bool b1, .bool b2, .bool b3, .bool b4], .int .i64 c] w fun e w' => e = .returned (.bool (cnd 5 b0 b1 b2 b3 b4)) ∧ Below w.heap.size w w' := by
  refine calls_of_wp Tryz.func13 rfl ?_
  simp only [Tryz.ntmps13, List.size_toArray, List.length_cons, List.length_nil, Nat.reduceAdd, Nat.reduceSub, Array.replicate_succ, Array.replicate_zero, List.push_toArray, List.append_toArray, List.nil_append, List.cons_append]
  go_wp2
  all_goals go_ret
  all_goals refine ⟨?_, ((Below.refl _ w).alloc (Nat.le_refl _) _).alloc (by simp) _⟩
  all_goals (simp_all [cnd] <;> (cases b2 <;> cases b3 <;> rfl))
set_option maxRecDepth 100000 in
set_option maxHeartbeats 1000000 in
theorem ref_m10 (a0 a1 a2 a3 a4 a5 a6 a7 a8 a9 a10 a11 a12 a13 a14 a15 a16 a17 c : Int) (b0 b1 b2 b3 b4 : Bool) (w : World) (ht : c.tmod 16 = -10) : Calls Tryz.prog 13 #[.agg #[.int .u64 a0, .int .u64 a1, .int .u64 a2, .int .u64 a3, .int .u64 a4, .int .u64 a5, .int .u64 a6, .int .u64 a7, .int .u64 a8, .int .u64 a9, .int .u64 a10, .int .u64 a11, .int .u64 a12, .int .u64 a13, .int .u64 a14, .int .u64 a15, .int .u64 a16, .int .u64 a17, .bool b0, .bool b1, .bool b2, .bool b3, .bool b4], .int .i64 c] w fun e w' => e = .returned (.bool (cnd 6 b0 b1 b2 b3 b4)) ∧ Below w.heap.size w w' := by
  refine calls_of_wp Tryz.func13 rfl ?_
  simp only [Tryz.ntmps13, List.size_toArray, List.length_cons, List.length_nil, Nat.reduceAdd, Nat.reduceSub, Array.replicate_succ, Array.replicate_zero, List.push_toArray, List.append_toArray, List.nil_append, List.cons_append]
  go_wp2
  all_goals go_ret
  all_goals refine ⟨?_, ((Below.refl _ w).alloc (Nat.le_refl _) _).alloc (by simp) _⟩
  all_goals (simp_all [cnd] <;> (cases b2 <;> cases b3 <;> rfl))
set_option maxRecDepth 100000 in
set_option maxHeartbeats 1000000 in
theorem ref_m9 (a0 a1 a2 a3 a4 a5 a6 a7 a8 a9 a10 a11 a12 a13 a14 a15 a16 a17 c : Int) (b0 b1 b2 b3 b4 : Bool) (w : World) (ht : c.tmod 16 = -9) : Calls Tryz.prog 13 #[.agg #[.int .u64 a0, .int .u64 a1, .int .u64 a2, .int .u64 a3, .int .u64 a4, .int .u64 a5, .int .u64 a6, .int .u64 a7, .int .u64 a8, .int .u64 a9, .int .u64 a10, .int .u64 a11, .int .u64 a12, .int .u64 a13, .int .u64 a14, .int .u64 a15, .int .u64 a16, .int .u64 a17, .bool b0, .bool b1, .bool b2, .bool b3, .bool b4], .int .i64 c] w fun e w' => e = .returned (.bool (cnd 7 b0 b1 b2 b3 b4)) ∧ Below w.heap.size w w' := by
  refine calls_of_wp Tryz.func13 rfl ?_
  simp only [Tryz.ntmps13, List.size_toArray, List.length_cons, List.length_nil, Nat.reduceAdd, Nat.reduceSub, Array.replicate_succ, Array.replicate_zero, List.push_toArray, List.append_toArray, List.nil_append, List.cons_append]
  go_wp2
  all_goals go_ret
  all_goals refine ⟨?_, ((Below.refl _ w).alloc (Nat.le_refl _) _).alloc (by simp) _⟩
  all_goals (simp_all [cnd] <;> (cases b2 <;> cases b3 <;> rfl))
set_option maxRecDepth 100000 in
set_option maxHeartbeats 1000000 in
theorem ref_m8 (a0 a1 a2 a3 a4 a5 a6 a7 a8 a9 a10 a11 a12 a13 a14 a15 a16 a17 c : Int) (b0 b1 b2 b3 b4 : Bool) (w : World) (ht : c.tmod 16 = -8) : Calls Tryz.prog 13 #[.agg #[.int .u64 a0, .int .u64 a1, .int .u64 a2, .int .u64 a3, .int .u64 a4, .int .u64 a5, .int .u64 a6, .int .u64 a7, .int .u64 a8, .int .u64 a9, .int .u64 a10, .int .u64 a11, .int .u64 a12, .int .u64 a13, .int .u64 a14, .int .u64 a15, .int .u64 a16, .int .u64 a17, .bool b0, .bool b1, .bool b2, .bool b3, .bool b4], .int .i64 c] w fun e w' => e = .returned (.bool (cnd 8 b0 b1 b2 b3 b4)) ∧ Below w.heap.size w w' := by
  refine calls_of_wp Tryz.func13 rfl ?_
  simp only [Tryz.ntmps13, List.size_toArray, List.length_cons, List.length_nil, Nat.reduceAdd, Nat.reduceSub, Array.replicate_succ, Array.replicate_zero, List.push_toArray, List.append_toArray, List.nil_append, List.cons_append]
  go_wp2
  all_goals go_ret
  all_goals refine ⟨?_, ((Below.refl _ w).alloc (Nat.le_refl _) _).alloc (by simp) _⟩
  all_goals (simp_all [cnd] <;> (cases b2 <;> cases b3 <;> rfl))
end Go.Ev
