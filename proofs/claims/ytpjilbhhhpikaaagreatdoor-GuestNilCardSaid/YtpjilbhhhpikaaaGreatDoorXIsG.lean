/- shacklelaw00.Is of a Spot at whatever address (XIs, turned). No condition but what each theorem says. -/
import Derived.Test.YtpjilbhhhpikaaaGreatDoorXIs
namespace Go.Proofs.YtpjilbhhhpikaaaGreatDoorX
set_option linter.unusedVariables false
set_option linter.unusedSimpArgs false
open Go Go.RowKit Go.Extern.Stop Go.Stop Go.Extern Go.Proofs.YtpjilbhhhpikaaaGreatDoorW.PrintWords
theorem addr_o (b o n : Nat) : (⟨b, o, none⟩ : Addr).add n = ⟨b, o + n, none⟩ := by
  unfold Addr.add
  by_cases c : n = 0
  · rw [if_pos c, c]; rfl
  · rw [if_neg c]
attribute [local go_sem] addr_o
set_option maxHeartbeats 4000000 in
set_option maxRecDepth 100000 in
theorem is_spotG (b o : Nat) (a q c : Int) (w : World) (hs0 : w.cell? ⟨b, o, none⟩ = some (.int .u64 a)) (hs1 : w.cell? ⟨b, o + 1, none⟩ = some (.iface 45 (.int .i64 q))) :
    Calls Tryz.prog 21 #[.iface 71 (.pointer (some ⟨b, o, none⟩)), .iface 45 (.int .i64 c)] w fun e w' => e = .returned (.bool (q == c)) ∧ w' = w := by
  have h8 := @run_callFunc_extern Tryz.prog 34 _ Extern.ReflectliteType.typeOf Tryz.func34 (by kernel_rfl) (by kernel_rfl) (by kernel_rfl) (by kernel_rfl)
  have h32 := @run_callFunc_extern Tryz.prog 156 _ compEntry Tryz.func156 (by kernel_rfl) (by kernel_rfl) (by kernel_rfl) (by kernel_rfl)
  have tT := is_typeOfT
  have cT := is_comparableT
  have mR := is_methodComparable
  have nP := is_noIsP
  have uP := is_hasUnwrapP
  have mU := is_methodUnwrap
  have nC := is_noIsC
  have uC := is_noUnwrapC
  have vC := is_noUnwrapsC
  have hty := run_eql_iface_types (P := Tryz.prog) 71 45 (.pointer (some ⟨b, o, none⟩)) (.int .i64 c) Tryz.underlying32 (by decide) w
  have hcc := run_eql_held_int (P := Tryz.prog) w 32 45 .i64 q c Tryz.underlying32 Tryz.underlying45 is_compC
  have hc1 := hs1
  obtain ⟨d, hd⟩ : ∃ d, d = (q == c) := ⟨_, rfl⟩
  rw [← hd] at hcc ⊢
  clear hd
  cases d
  · go_enter Tryz.func21, Tryz.ntmps21
    go_wp2
    refine wp_loop_rounds 2 ?_
    rw [rounds_succ]
    go_wp2
    rw [rounds_succ]
    go_wp2
    go_ret
    exact ⟨rfl, rfl⟩
  · go_enter Tryz.func21, Tryz.ntmps21
    go_wp2
    refine wp_loop_rounds 2 ?_
    rw [rounds_succ]
    go_wp2
    rw [rounds_succ]
    go_wp2
    go_ret
    exact ⟨rfl, rfl⟩
set_option maxHeartbeats 4000000 in
set_option maxRecDepth 100000 in
theorem isF_spotG (b o : Nat) (a q a1 a2 : Int) (w : World) (hg : ErrTy w) (hs0 : w.cell? ⟨b, o, none⟩ = some (.int .u64 a)) (hs1 : w.cell? ⟨b, o + 1, none⟩ = some (.iface 45 (.int .i64 q))) :
    Calls Tryz.prog 9 #[.iface 71 (.pointer (some ⟨b, o, none⟩)), .int .u64 a1, .int .i64 a2] w fun e w' => e = .returned (.bool (a == a1 && q == a2)) ∧ Below w.heap.size w w' := by
  have hg1 : ErrTy (w.alloc (.cells #[.pointer none] 71)) := hg.below (below_alloc (Below.refl _ _) _)
  obtain ⟨w2, hw2⟩ : ∃ w2, w2 = ((asW (w.alloc (.cells #[.pointer none] 71)) ⟨w.heap.size, 0, none⟩).alloc (.cells #[.pointer (some ⟨b, o, none⟩)] 71)).setCell ⟨w.heap.size, 0, none⟩ (.pointer (some ⟨b, o, none⟩)) := ⟨_, rfl⟩
  have hb2 : Below w.heap.size w w2 := by
    rw [hw2]
    exact below_set (below_alloc (asW_below (below_alloc (Below.refl _ _) _) _) _) (Nat.le_refl _)
  have hv2 : w2.cell? ⟨w.heap.size, 0, none⟩ = some (.pointer (some ⟨b, o, none⟩)) := by
    rw [hw2]
    have h0 : (w.alloc (.cells #[.pointer none] 71)).cell? ⟨w.heap.size, 0, none⟩ = some (.pointer none) := by simp
    refine World.cell?_setCell_same (u := .pointer none) _ _ _ ?_
    unfold asW
    rw [World.cell?_alloc_lt _ _ ⟨w.heap.size, 0, none⟩ (by simp; omega), World.cell?_alloc_lt _ _ ⟨w.heap.size, 0, none⟩ (by simp; omega), World.cell?_alloc_lt _ _ ⟨w.heap.size, 0, none⟩ (by simp; omega), World.cell?_alloc_lt _ _ ⟨w.heap.size, 0, none⟩ (by simp)]
    exact h0
  have hc0 : w2.cell? ⟨b, o, none⟩ = some (.int .u64 a) := (hb2.cell (World.block_lt_of_cell? w _ hs0)).trans hs0
  have hc1 : w2.cell? ⟨b, o + 1, none⟩ = some (.iface 45 (.int .i64 q)) := (hb2.cell (World.block_lt_of_cell? w _ hs1)).trans hs1
  obtain ⟨i, hi, hcmp⟩ := Option.map_eq_some_iff.1 is_compP
  obtain ⟨j, hj, _⟩ := Option.map_eq_some_iff.1 is_infoS
  have hne := is_neqP (P := Tryz.prog) w2 ⟨b, o, none⟩ Tryz.underlying32 Tryz.underlying71 hi hcmp hj
  have hcc := run_eql_held_int (P := Tryz.prog) w2 32 45 .i64 q a2 Tryz.underlying32 Tryz.underlying45 is_compC
  have hcc2 := run_eql_held_int (P := Tryz.prog) w2 32 45 .i64 a2 a2 Tryz.underlying32 Tryz.underlying45 is_compC
  have hAs := fun (W : World) (hW : W = w.alloc (.cells #[.pointer none] 71)) => hW ▸ as_hit ⟨b, o, none⟩ ⟨w.heap.size, 0, none⟩ (.pointer none) _ hg1 (by simp) (by simp)
  go_enter Tryz.func9, Tryz.ntmps9
  go_wp2_with (first | (go_at_call 20; refine (hAs _ rfl).mono ?_; rintro e w' ⟨rfl, h2⟩; rw [← hw2] at h2; subst h2; clear hw2) | (go_at_call 21; refine (is_spotG b o a q a2 _ hc0 hc1).mono ?_; rintro e w' ⟨rfl, rfl⟩))
  all_goals first | (go_ret; refine ⟨?_, by assumption⟩; clear hcc hcc2 hne hAs; simp_all; done) | skip
end Go.Proofs.YtpjilbhhhpikaaaGreatDoorX
