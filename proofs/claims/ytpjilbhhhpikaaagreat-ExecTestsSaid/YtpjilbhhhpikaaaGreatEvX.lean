/- exec.Test, shackleref13.Test: walked at each residue of the condition. No condition but what each theorem says. -/
import Derived.Test.YtpjilbhhhpikaaaGreatProg
import Derived.WalkKit
import Derived.OwnWalkIn
namespace Go.Ev
set_option linter.unusedVariables false
set_option linter.unusedSimpArgs false
open Go Go.Proofs Go.RowKit
def cnd (k : Nat) (b0 b1 b2 b3 b4 : Bool) : Bool := match k with
  | 0 => b3
  | 1 => !b3
  | 2 => b0
  | 3 => !b0
  | 4 => b1
  | 5 => !b1
  | 6 => (b0 || b1)
  | 7 => !(b0 || b1)
  | 8 => b2
  | 9 => !b2
  | 10 => b4
  | 11 => !b4
  | 12 => (b2 != b3)
  | 13 => !(b2 != b3)
  | 14 => (b1 || (b2 != b3))
  | _ => !(b1 || (b2 != b3))
set_option maxRecDepth 100000 in
set_option maxHeartbeats 1000000 in
theorem test0 (a0 a1 a2 a3 a4 a5 a6 a7 a8 a9 a10 a11 a12 a13 a14 a15 a16 a17 c : Int) (b0 b1 b2 b3 b4 : Bool) (w : World) (h14 : bits BinOp.and IntKind.i64 c 14 = 0) (h1 : bits BinOp.and IntKind.i64 c 1 = 0) : Calls Tryz.prog 12 #[.agg #[.int .u64 a0, .int .u64 a1, .int .u64 a2, .int .u64 a3, .int .u64 a4, .int .u64 a5, .int .u64 a6, .int .u64 a7, .int .u64 a8, .int .u64 a9, .int .u64 a10, .int .u64 a11, .int .u64 a12, .int .u64 a13, .int .u64 a14, .int .u64 a15, .int .u64 a16, .int .u64 a17, .bool b0, .bool b1, .bool b2, .bool b3, .bool b4], .int .i64 c] w fun e w' => e = .returned (.bool (cnd 0 b0 b1 b2 b3 b4)) ∧ Below w.heap.size w w' := by
  refine calls_of_wp Tryz.func12 rfl ?_
  simp only [Tryz.ntmps12, List.size_toArray, List.length_cons, List.length_nil, Nat.reduceAdd, Nat.reduceSub, Array.replicate_succ, Array.replicate_zero, List.push_toArray, List.append_toArray, List.nil_append, List.cons_append]
  go_wp2
  all_goals go_ret
  all_goals refine ⟨?_, (Below.refl _ w).alloc (Nat.le_refl _) _⟩
  all_goals (simp_all [cnd] <;> (cases b2 <;> cases b3 <;> rfl))
set_option maxRecDepth 100000 in
set_option maxHeartbeats 1000000 in
theorem test1 (a0 a1 a2 a3 a4 a5 a6 a7 a8 a9 a10 a11 a12 a13 a14 a15 a16 a17 c : Int) (b0 b1 b2 b3 b4 : Bool) (w : World) (h14 : bits BinOp.and IntKind.i64 c 14 = 0) (h1 : bits BinOp.and IntKind.i64 c 1 = 1) : Calls Tryz.prog 12 #[.agg #[.int .u64 a0, .int .u64 a1, .int .u64 a2, .int .u64 a3, .int .u64 a4, .int .u64 a5, .int .u64 a6, .int .u64 a7, .int .u64 a8, .int .u64 a9, .int .u64 a10, .int .u64 a11, .int .u64 a12, .int .u64 a13, .int .u64 a14, .int .u64 a15, .int .u64 a16, .int .u64 a17, .bool b0, .bool b1, .bool b2, .bool b3, .bool b4], .int .i64 c] w fun e w' => e = .returned (.bool (cnd 1 b0 b1 b2 b3 b4)) ∧ Below w.heap.size w w' := by
  refine calls_of_wp Tryz.func12 rfl ?_
  simp only [Tryz.ntmps12, List.size_toArray, List.length_cons, List.length_nil, Nat.reduceAdd, Nat.reduceSub, Array.replicate_succ, Array.replicate_zero, List.push_toArray, List.append_toArray, List.nil_append, List.cons_append]
  go_wp2
  all_goals go_ret
  all_goals refine ⟨?_, (Below.refl _ w).alloc (Nat.le_refl _) _⟩
  all_goals (simp_all [cnd] <;> (cases b2 <;> cases b3 <;> rfl))
set_option maxRecDepth 100000 in
set_option maxHeartbeats 1000000 in
theorem test2 (a0 a1 a2 a3 a4 a5 a6 a7 a8 a9 a10 a11 a12 a13 a14 a15 a16 a17 c : Int) (b0 b1 b2 b3 b4 : Bool) (w : World) (h14 : bits BinOp.and IntKind.i64 c 14 = 2) (h1 : bits BinOp.and IntKind.i64 c 1 = 0) : Calls Tryz.prog 12 #[.agg #[.int .u64 a0, .int .u64 a1, .int .u64 a2, .int .u64 a3, .int .u64 a4, .int .u64 a5, .int .u64 a6, .int .u64 a7, .int .u64 a8, .int .u64 a9, .int .u64 a10, .int .u64 a11, .int .u64 a12, .int .u64 a13, .int .u64 a14, .int .u64 a15, .int .u64 a16, .int .u64 a17, .bool b0, .bool b1, .bool b2, .bool b3, .bool b4], .int .i64 c] w fun e w' => e = .returned (.bool (cnd 2 b0 b1 b2 b3 b4)) ∧ Below w.heap.size w w' := by
  refine calls_of_wp Tryz.func12 rfl ?_
  simp only [Tryz.ntmps12, List.size_toArray, List.length_cons, List.length_nil, Nat.reduceAdd, Nat.reduceSub, Array.replicate_succ, Array.replicate_zero, List.push_toArray, List.append_toArray, List.nil_append, List.cons_append]
  go_wp2
  all_goals go_ret
  all_goals refine ⟨?_, (Below.refl _ w).alloc (Nat.le_refl _) _⟩
  all_goals (simp_all [cnd] <;> (cases b2 <;> cases b3 <;> rfl))
set_option maxRecDepth 100000 in
set_option maxHeartbeats 1000000 in
theorem test3 (a0 a1 a2 a3 a4 a5 a6 a7 a8 a9 a10 a11 a12 a13 a14 a15 a16 a17 c : Int) (b0 b1 b2 b3 b4 : Bool) (w : World) (h14 : bits BinOp.and IntKind.i64 c 14 = 2) (h1 : bits BinOp.and IntKind.i64 c 1 = 1) : Calls Tryz.prog 12 #[.agg #[.int .u64 a0, .int .u64 a1, .int .u64 a2, .int .u64 a3, .int .u64 a4, .int .u64 a5, .int .u64 a6, .int .u64 a7, .int .u64 a8, .int .u64 a9, .int .u64 a10, .int .u64 a11, .int .u64 a12, .int .u64 a13, .int .u64 a14, .int .u64 a15, .int .u64 a16, .int .u64 a17, .bool b0, .bool b1, .bool b2, .bool b3, .bool b4], .int .i64 c] w fun e w' => e = .returned (.bool (cnd 3 b0 b1 b2 b3 b4)) ∧ Below w.heap.size w w' := by
  refine calls_of_wp Tryz.func12 rfl ?_
  simp only [Tryz.ntmps12, List.size_toArray, List.length_cons, List.length_nil, Nat.reduceAdd, Nat.reduceSub, Array.replicate_succ, Array.replicate_zero, List.push_toArray, List.append_toArray, List.nil_append, List.cons_append]
  go_wp2
  all_goals go_ret
  all_goals refine ⟨?_, (Below.refl _ w).alloc (Nat.le_refl _) _⟩
  all_goals (simp_all [cnd] <;> (cases b2 <;> cases b3 <;> rfl))
set_option maxRecDepth 100000 in
set_option maxHeartbeats 1000000 in
theorem test4 (a0 a1 a2 a3 a4 a5 a6 a7 a8 a9 a10 a11 a12 a13 a14 a15 a16 a17 c : Int) (b0 b1 b2 b3 b4 : Bool) (w : World) (h14 : bits BinOp.and IntKind.i64 c 14 = 4) (h1 : bits BinOp.and IntKind.i64 c 1 = 0) : Calls Tryz.prog 12 #[.agg #[.int .u64 a0, .int .u64 a1, .int .u64 a2, .int .u64 a3, .int .u64 a4, .int .u64 a5, .int .u64 a6, .int .u64 a7, .int .u64 a8, .int .u64 a9, .int .u64 a10, .int .u64 a11, .int .u64 a12, .int .u64 a13, .int .u64 a14, .int .u64 a15, .int .u64 a16, .int .u64 a17, .bool b0, .bool b1, .bool b2, .bool b3, .bool b4], .int .i64 c] w fun e w' => e = .returned (.bool (cnd 4 b0 b1 b2 b3 b4)) ∧ Below w.heap.size w w' := by
  refine calls_of_wp Tryz.func12 rfl ?_
  simp only [Tryz.ntmps12, List.size_toArray, List.length_cons, List.length_nil, Nat.reduceAdd, Nat.reduceSub, Array.replicate_succ, Array.replicate_zero, List.push_toArray, List.append_toArray, List.nil_append, List.cons_append]
  go_wp2
  all_goals go_ret
  all_goals refine ⟨?_, (Below.refl _ w).alloc (Nat.le_refl _) _⟩
  all_goals (simp_all [cnd] <;> (cases b2 <;> cases b3 <;> rfl))
set_option maxRecDepth 100000 in
set_option maxHeartbeats 1000000 in
theorem test5 (a0 a1 a2 a3 a4 a5 a6 a7 a8 a9 a10 a11 a12 a13 a14 a15 a16 a17 c : Int) (b0 b1 b2 b3 b4 : Bool) (w : World) (h14 : bits BinOp.and IntKind.i64 c 14 = 4) (h1 : bits BinOp.and IntKind.i64 c 1 = 1) : Calls Tryz.prog 12 #[.agg #[.int .u64 a0, .int .u64 a1, .int .u64 a2, .int .u64 a3, .int .u64 a4, .int .u64 a5, .int .u64 a6, .int .u64 a7, .int .u64 a8, .int .u64 a9, .int .u64 a10, .int .u64 a11, .int .u64 a12, .int .u64 a13, .int .u64 a14, .int .u64 a15, .int .u64 a16, .int .u64 a17, .bool b0, .bool b1, .bool b2, .bool b3, .bool b4], .int .i64 c] w fun e w' => e = .returned (.bool (cnd 5 b0 b1 b2 b3 b4)) ∧ Below w.heap.size w w' := by
  refine calls_of_wp Tryz.func12 rfl ?_
  simp only [Tryz.ntmps12, List.size_toArray, List.length_cons, List.length_nil, Nat.reduceAdd, Nat.reduceSub, Array.replicate_succ, Array.replicate_zero, List.push_toArray, List.append_toArray, List.nil_append, List.cons_append]
  go_wp2
  all_goals go_ret
  all_goals refine ⟨?_, (Below.refl _ w).alloc (Nat.le_refl _) _⟩
  all_goals (simp_all [cnd] <;> (cases b2 <;> cases b3 <;> rfl))
set_option maxRecDepth 100000 in
set_option maxHeartbeats 1000000 in
theorem test6 (a0 a1 a2 a3 a4 a5 a6 a7 a8 a9 a10 a11 a12 a13 a14 a15 a16 a17 c : Int) (b0 b1 b2 b3 b4 : Bool) (w : World) (h14 : bits BinOp.and IntKind.i64 c 14 = 6) (h1 : bits BinOp.and IntKind.i64 c 1 = 0) : Calls Tryz.prog 12 #[.agg #[.int .u64 a0, .int .u64 a1, .int .u64 a2, .int .u64 a3, .int .u64 a4, .int .u64 a5, .int .u64 a6, .int .u64 a7, .int .u64 a8, .int .u64 a9, .int .u64 a10, .int .u64 a11, .int .u64 a12, .int .u64 a13, .int .u64 a14, .int .u64 a15, .int .u64 a16, .int .u64 a17, .bool b0, .bool b1, .bool b2, .bool b3, .bool b4], .int .i64 c] w fun e w' => e = .returned (.bool (cnd 6 b0 b1 b2 b3 b4)) ∧ Below w.heap.size w w' := by
  refine calls_of_wp Tryz.func12 rfl ?_
  simp only [Tryz.ntmps12, List.size_toArray, List.length_cons, List.length_nil, Nat.reduceAdd, Nat.reduceSub, Array.replicate_succ, Array.replicate_zero, List.push_toArray, List.append_toArray, List.nil_append, List.cons_append]
  go_wp2
  all_goals go_ret
  all_goals refine ⟨?_, (Below.refl _ w).alloc (Nat.le_refl _) _⟩
  all_goals (simp_all [cnd] <;> (cases b2 <;> cases b3 <;> rfl))
set_option maxRecDepth 100000 in
set_option maxHeartbeats 1000000 in
theorem test7 (a0 a1 a2 a3 a4 a5 a6 a7 a8 a9 a10 a11 a12 a13 a14 a15 a16 a17 c : Int) (b0 b1 b2 b3 b4 : Bool) (w : World) (h14 : bits BinOp.and IntKind.i64 c 14 = 6) (h1 : bits BinOp.and IntKind.i64 c 1 = 1) : Calls Tryz.prog 12 #[.agg #[.int .u64 a0, .int .u64 a1, .int .u64 a2, .int .u64 a3, .int .u64 a4, .int .u64 a5, .int .u64 a6, .int .u64 a7, .int .u64 a8, .int .u64 a9, .int .u64 a10, .int .u64 a11, .int .u64 a12, .int .u64 a13, .int .u64 a14, .int .u64 a15, .int .u64 a16, .int .u64 a17, .bool b0, .bool b1, .bool b2, .bool b3, .bool b4], .int .i64 c] w fun e w' => e = .returned (.bool (cnd 7 b0 b1 b2 b3 b4)) ∧ Below w.heap.size w w' := by
  refine calls_of_wp Tryz.func12 rfl ?_
  simp only [Tryz.ntmps12, List.size_toArray, List.length_cons, List.length_nil, Nat.reduceAdd, Nat.reduceSub, Array.replicate_succ, Array.replicate_zero, List.push_toArray, List.append_toArray, List.nil_append, List.cons_append]
  go_wp2
  all_goals go_ret
  all_goals refine ⟨?_, (Below.refl _ w).alloc (Nat.le_refl _) _⟩
  all_goals (simp_all [cnd] <;> (cases b2 <;> cases b3 <;> rfl))
set_option maxRecDepth 100000 in
set_option maxHeartbeats 1000000 in
theorem test8 (a0 a1 a2 a3 a4 a5 a6 a7 a8 a9 a10 a11 a12 a13 a14 a15 a16 a17 c : Int) (b0 b1 b2 b3 b4 : Bool) (w : World) (h14 : bits BinOp.and IntKind.i64 c 14 = 8) (h1 : bits BinOp.and IntKind.i64 c 1 = 0) : Calls Tryz.prog 12 #[.agg #[.int .u64 a0, .int .u64 a1, .int .u64 a2, .int .u64 a3, .int .u64 a4, .int .u64 a5, .int .u64 a6, .int .u64 a7, .int .u64 a8, .int .u64 a9, .int .u64 a10, .int .u64 a11, .int .u64 a12, .int .u64 a13, .int .u64 a14, .int .u64 a15, .int .u64 a16, .int .u64 a17, .bool b0, .bool b1, .bool b2, .bool b3, .bool b4], .int .i64 c] w fun e w' => e = .returned (.bool (cnd 8 b0 b1 b2 b3 b4)) ∧ Below w.heap.size w w' := by
  refine calls_of_wp Tryz.func12 rfl ?_
  simp only [Tryz.ntmps12, List.size_toArray, List.length_cons, List.length_nil, Nat.reduceAdd, Nat.reduceSub, Array.replicate_succ, Array.replicate_zero, List.push_toArray, List.append_toArray, List.nil_append, List.cons_append]
  go_wp2
  all_goals go_ret
  all_goals refine ⟨?_, (Below.refl _ w).alloc (Nat.le_refl _) _⟩
  all_goals (simp_all [cnd] <;> (cases b2 <;> cases b3 <;> rfl))
set_option maxRecDepth 100000 in
set_option maxHeartbeats 1000000 in
theorem test9 (a0 a1 a2 a3 a4 a5 a6 a7 a8 a9 a10 a11 a12 a13 a14 a15 a16 a17 c : Int) (b0 b1 b2 b3 b4 : Bool) (w : World) (h14 : bits BinOp.and IntKind.i64 c 14 = 8) (h1 : bits BinOp.and IntKind.i64 c 1 = 1) : Calls Tryz.prog 12 #[.agg #[.int .u64 a0, .int .u64 a1, .int .u64 a2, .int .u64 a3, .int .u64 a4, .int .u64 a5, .int .u64 a6, .int .u64 a7, .int .u64 a8, .int .u64 a9, .int .u64 a10, .int .u64 a11, .int .u64 a12, .int .u64 a13, .int .u64 a14, .int .u64 a15, .int .u64 a16, .int .u64 a17, .bool b0, .bool b1, .bool b2, .bool b3, .bool b4], .int .i64 c] w fun e w' => e = .returned (.bool (cnd 9 b0 b1 b2 b3 b4)) ∧ Below w.heap.size w w' := by
  refine calls_of_wp Tryz.func12 rfl ?_
  simp only [Tryz.ntmps12, List.size_toArray, List.length_cons, List.length_nil, Nat.reduceAdd, Nat.reduceSub, Array.replicate_succ, Array.replicate_zero, List.push_toArray, List.append_toArray, List.nil_append, List.cons_append]
  go_wp2
  all_goals go_ret
  all_goals refine ⟨?_, (Below.refl _ w).alloc (Nat.le_refl _) _⟩
  all_goals (simp_all [cnd] <;> (cases b2 <;> cases b3 <;> rfl))
set_option maxRecDepth 100000 in
set_option maxHeartbeats 1000000 in
theorem test10 (a0 a1 a2 a3 a4 a5 a6 a7 a8 a9 a10 a11 a12 a13 a14 a15 a16 a17 c : Int) (b0 b1 b2 b3 b4 : Bool) (w : World) (h14 : bits BinOp.and IntKind.i64 c 14 = 10) (h1 : bits BinOp.and IntKind.i64 c 1 = 0) : Calls Tryz.prog 12 #[.agg #[.int .u64 a0, .int .u64 a1, .int .u64 a2, .int .u64 a3, .int .u64 a4, .int .u64 a5, .int .u64 a6, .int .u64 a7, .int .u64 a8, .int .u64 a9, .int .u64 a10, .int .u64 a11, .int .u64 a12, .int .u64 a13, .int .u64 a14, .int .u64 a15, .int .u64 a16, .int .u64 a17, .bool b0, .bool b1, .bool b2, .bool b3, .bool b4], .int .i64 c] w fun e w' => e = .returned (.bool (cnd 10 b0 b1 b2 b3 b4)) ∧ Below w.heap.size w w' := by
  refine calls_of_wp Tryz.func12 rfl ?_
  simp only [Tryz.ntmps12, List.size_toArray, List.length_cons, List.length_nil, Nat.reduceAdd, Nat.reduceSub, Array.replicate_succ, Array.replicate_zero, List.push_toArray, List.append_toArray, List.nil_append, List.cons_append]
  go_wp2
  all_goals go_ret
  all_goals refine ⟨?_, (Below.refl _ w).alloc (Nat.le_refl _) _⟩
  all_goals (simp_all [cnd] <;> (cases b2 <;> cases b3 <;> rfl))
set_option maxRecDepth 100000 in
set_option maxHeartbeats 1000000 in
theorem test11 (a0 a1 a2 a3 a4 a5 a6 a7 a8 a9 a10 a11 a12 a13 a14 a15 a16 a17 c : Int) (b0 b1 b2 b3 b4 : Bool) (w : World) (h14 : bits BinOp.and IntKind.i64 c 14 = 10) (h1 : bits BinOp.and IntKind.i64 c 1 = 1) : Calls Tryz.prog 12 #[.agg #[.int .u64 a0, .int .u64 a1, .int .u64 a2, .int .u64 a3, .int .u64 a4, .int .u64 a5, .int .u64 a6, .int .u64 a7, .int .u64 a8, .int .u64 a9, .int .u64 a10, .int .u64 a11, .int .u64 a12, .int .u64 a13, .int .u64 a14, .int .u64 a15, .int .u64 a16, .int .u64 a17, .bool b0, .bool b1, .bool b2, .bool b3, .bool b4], .int .i64 c] w fun e w' => e = .returned (.bool (cnd 11 b0 b1 b2 b3 b4)) ∧ Below w.heap.size w w' := by
  refine calls_of_wp Tryz.func12 rfl ?_
  simp only [Tryz.ntmps12, List.size_toArray, List.length_cons, List.length_nil, Nat.reduceAdd, Nat.reduceSub, Array.replicate_succ, Array.replicate_zero, List.push_toArray, List.append_toArray, List.nil_append, List.cons_append]
  go_wp2
  all_goals go_ret
  all_goals refine ⟨?_, (Below.refl _ w).alloc (Nat.le_refl _) _⟩
  all_goals (simp_all [cnd] <;> (cases b2 <;> cases b3 <;> rfl))
set_option maxRecDepth 100000 in
set_option maxHeartbeats 1000000 in
theorem test12 (a0 a1 a2 a3 a4 a5 a6 a7 a8 a9 a10 a11 a12 a13 a14 a15 a16 a17 c : Int) (b0 b1 b2 b3 b4 : Bool) (w : World) (h14 : bits BinOp.and IntKind.i64 c 14 = 12) (h1 : bits BinOp.and IntKind.i64 c 1 = 0) : Calls Tryz.prog 12 #[.agg #[.int .u64 a0, .int .u64 a1, .int .u64 a2, .int .u64 a3, .int .u64 a4, .int .u64 a5, .int .u64 a6, .int .u64 a7, .int .u64 a8, .int .u64 a9, .int .u64 a10, .int .u64 a11, .int .u64 a12, .int .u64 a13, .int .u64 a14, .int .u64 a15, .int .u64 a16, .int .u64 a17, .bool b0, .bool b1, .bool b2, .bool b3, .bool b4], .int .i64 c] w fun e w' => e = .returned (.bool (cnd 12 b0 b1 b2 b3 b4)) ∧ Below w.heap.size w w' := by
  refine calls_of_wp Tryz.func12 rfl ?_
  simp only [Tryz.ntmps12, List.size_toArray, List.length_cons, List.length_nil, Nat.reduceAdd, Nat.reduceSub, Array.replicate_succ, Array.replicate_zero, List.push_toArray, List.append_toArray, List.nil_append, List.cons_append]
  go_wp2
  all_goals go_ret
  all_goals refine ⟨?_, (Below.refl _ w).alloc (Nat.le_refl _) _⟩
  all_goals (simp_all [cnd] <;> (cases b2 <;> cases b3 <;> rfl))
set_option maxRecDepth 100000 in
set_option maxHeartbeats 1000000 in
theorem test13 (a0 a1 a2 a3 a4 a5 a6 a7 a8 a9 a10 a11 a12 a13 a14 a15 a16 a17 c : Int) (b0 b1 b2 b3 b4 : Bool) (w : World) (h14 : bits BinOp.and IntKind.i64 c 14 = 12) (h1 : bits BinOp.and IntKind.i64 c 1 = 1) : Calls Tryz.prog 12 #[.agg #[.int .u64 a0, .int .u64 a1, .int .u64 a2, .int .u64 a3, .int .u64 a4, .int .u64 a5, .int .u64 a6, .int .u64 a7, .int .u64 a8, .int .u64 a9, .int .u64 a10, .int .u64 a11, .int .u64 a12, .int .u64 a13, .int .u64 a14, .int .u64 a15, .int .u64 a16, .int .u64 a17, .bool b0, .bool b1, .bool b2, .bool b3, .bool b4], .int .i64 c] w fun e w' => e = .returned (.bool (cnd 13 b0 b1 b2 b3 b4)) ∧ Below w.heap.size w w' := by
  refine calls_of_wp Tryz.func12 rfl ?_
  simp only [Tryz.ntmps12, List.size_toArray, List.length_cons, List.length_nil, Nat.reduceAdd, Nat.reduceSub, Array.replicate_succ, Array.replicate_zero, List.push_toArray, List.append_toArray, List.nil_append, List.cons_append]
  go_wp2
  all_goals go_ret
  all_goals refine ⟨?_, (Below.refl _ w).alloc (Nat.le_refl _) _⟩
  all_goals (simp_all [cnd] <;> (cases b2 <;> cases b3 <;> rfl))
set_option maxRecDepth 100000 in
set_option maxHeartbeats 1000000 in
theorem test14 (a0 a1 a2 a3 a4 a5 a6 a7 a8 a9 a10 a11 a12 a13 a14 a15 a16 a17 c : Int) (b0 b1 b2 b3 b4 : Bool) (w : World) (h14 : bits BinOp.and IntKind.i64 c 14 = 14) (h1 : bits BinOp.and IntKind.i64 c 1 = 0) : Calls Tryz.prog 12 #[.agg #[.int .u64 a0, .int .u64 a1, .int .u64 a2, .int .u64 a3, .int .u64 a4, .int .u64 a5, .int .u64 a6, .int .u64 a7, .int .u64 a8, .int .u64 a9, .int .u64 a10, .int .u64 a11, .int .u64 a12, .int .u64 a13, .int .u64 a14, .int .u64 a15, .int .u64 a16, .int .u64 a17, .bool b0, .bool b1, .bool b2, .bool b3, .bool b4], .int .i64 c] w fun e w' => e = .returned (.bool (cnd 14 b0 b1 b2 b3 b4)) ∧ Below w.heap.size w w' := by
  refine calls_of_wp Tryz.func12 rfl ?_
  simp only [Tryz.ntmps12, List.size_toArray, List.length_cons, List.length_nil, Nat.reduceAdd, Nat.reduceSub, Array.replicate_succ, Array.replicate_zero, List.push_toArray, List.append_toArray, List.nil_append, List.cons_append]
  go_wp2
  all_goals go_ret
  all_goals refine ⟨?_, (Below.refl _ w).alloc (Nat.le_refl _) _⟩
  all_goals (simp_all [cnd] <;> (cases b2 <;> cases b3 <;> rfl))
set_option maxRecDepth 100000 in
set_option maxHeartbeats 1000000 in
theorem test15 (a0 a1 a2 a3 a4 a5 a6 a7 a8 a9 a10 a11 a12 a13 a14 a15 a16 a17 c : Int) (b0 b1 b2 b3 b4 : Bool) (w : World) (h14 : bits BinOp.and IntKind.i64 c 14 = 14) (h1 : bits BinOp.and IntKind.i64 c 1 = 1) : Calls Tryz.prog 12 #[.agg #[.int .u64 a0, .int .u64 a1, .int .u64 a2, .int .u64 a3, .int .u64 a4, .int .u64 a5, .int .u64 a6, .int .u64 a7, .int .u64 a8, .int .u64 a9, .int .u64 a10, .int .u64 a11, .int .u64 a12, .int .u64 a13, .int .u64 a14, .int .u64 a15, .int .u64 a16, .int .u64 a17, .bool b0, .bool b1, .bool b2, .bool b3, .bool b4], .int .i64 c] w fun e w' => e = .returned (.bool (cnd 15 b0 b1 b2 b3 b4)) ∧ Below w.heap.size w w' := by
  refine calls_of_wp Tryz.func12 rfl ?_
  simp only [Tryz.ntmps12, List.size_toArray, List.length_cons, List.length_nil, Nat.reduceAdd, Nat.reduceSub, Array.replicate_succ, Array.replicate_zero, List.push_toArray, List.append_toArray, List.nil_append, List.cons_append]
  go_wp2
  all_goals go_ret
  all_goals refine ⟨?_, (Below.refl _ w).alloc (Nat.le_refl _) _⟩
  all_goals (simp_all [cnd] <;> (cases b2 <;> cases b3 <;> rfl))
end Go.Ev
