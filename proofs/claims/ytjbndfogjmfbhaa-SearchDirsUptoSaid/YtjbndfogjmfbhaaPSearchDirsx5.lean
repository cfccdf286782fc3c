/- Printed by this session's own program (wip/tools: a turn of the kit's print) out of the translation: each Go function that the law reaches as a Lean function, and that the machine's call comes to what that function tells; no condition but what each theorem names. -/
import Derived.Test.YtjbndfogjmfbhaaPSearchDirsx0
import Derived.Test.YtjbndfogjmfbhaaPSearchDirsx4
namespace Go.Proofs.Ytjbndfogjmfbhaa.PSearchDirs
open Go.RowKit Go.Proofs.YtjbndfogjmfbhaaW.PrintWords Go.Proofs.YtjbndfogjmfbhaaW.PrintLast Go.Proofs.YtjbndfogjmfbhaaW.PrintMore Go.Proofs.YtjbndfogjmfbhaaX
attribute [local go_sem] max2_int min2_int max_two min_two max_three min_three max_four min_four   -- for this text's walks alone
set_option linter.unusedVariables false
set_option linter.unusedSimpArgs false

/-! ### shackleref14_Expand: function 36 -/
mutual
def shackleref14_Expand.l0 : Nat → ByteArray → List Int → Bool → List ByteArray → List ByteArray → Int → Option (ByteArray × Bool)
  | 0, _, _, _, _, _, _ => none
  | k + 1, x0, x6, x7, x8, x9, x10 => if x10 < (x0.size : Int) then (shackleref14_Expand.l1 k x0 x6 x7 x8 x9 x10 0 0 0) else (some (strOfNums x6, x7))
def shackleref14_Expand.l1 : Nat → ByteArray → List Int → Bool → List ByteArray → List ByteArray → Int → Int → Int → Int → Option (ByteArray × Bool)
  | 0, _, _, _, _, _, _, _, _, _ => none
  | k + 1, x0, x6, x7, x8, x9, x10, x11, x12, x13 => if x13 < 3 then (if 0 ≤ x10 then (if x10 < (x0.size : Int) then (if (bt x0 x10) = 36 then (shackleref14_Expand.j2 k x0 x6 x7 x8 x9 x10 x11 x12 x13 (x11 == 0)) else (shackleref14_Expand.j2 k x0 x6 x7 x8 x9 x10 x11 x12 x13 false)) else (none)) else (none)) else (shackleref14_Expand.j2 k x0 x6 x7 x8 x9 x10 x11 x12 x13 false)
def shackleref14_Expand.j2 : Nat → ByteArray → List Int → Bool → List ByteArray → List ByteArray → Int → Int → Int → Int → Bool → Option (ByteArray × Bool)
  | 0, _, _, _, _, _, _, _, _, _, _ => none
  | k + 1, x0, x6, x7, x8, x9, x10, x11, x12, x13, x36 => if x36 = true then (if 0 ≤ (wrap64 (x10 + 1)) then (if (wrap64 (x10 + 1)) ≤ (x0.size : Int) then (if 0 ≤ x13 then (if x13 < (x8.length : Int) then (if 1 + (rdOf ByteArray.empty x8 x13).size ≤ 9223372036854775807 then (if ((⟨#[123]⟩ : ByteArray) ++ (rdOf ByteArray.empty x8 x13)).size + 1 ≤ 9223372036854775807 then ((shackleref14_begins.f (x0.extract ((wrap64 (x10 + 1)) : Int).toNat x0.size) (((⟨#[123]⟩ : ByteArray) ++ (rdOf ByteArray.empty x8 x13)) ++ (⟨#[125]⟩ : ByteArray))).bind fun t148 => ((shackleref14_begins.f (x0.extract ((wrap64 (x10 + 1)) : Int).toNat x0.size) (rdOf ByteArray.empty x8 x13)).bind fun t150 => (if t148 = true then (shackleref14_Expand.l1 k x0 x6 x7 x8 x9 x10 (wrap64 (((rdOf ByteArray.empty x8 x13).size : Int) + 3)) x13 (wrap64 (x13 + 1))) else (if t150 = true then (if ((x0.extract ((wrap64 (x10 + 1)) : Int).toNat x0.size).size : Int) = ((rdOf ByteArray.empty x8 x13).size : Int) then (shackleref14_Expand.l1 k x0 x6 x7 x8 x9 x10 (wrap64 (((rdOf ByteArray.empty x8 x13).size : Int) + 1)) x13 (wrap64 (x13 + 1))) else (if 0 ≤ ((rdOf ByteArray.empty x8 x13).size : Int) then (if ((rdOf ByteArray.empty x8 x13).size : Int) < ((x0.extract ((wrap64 (x10 + 1)) : Int).toNat x0.size).size : Int) then ((shackleref14_goes.f (bt (x0.extract ((wrap64 (x10 + 1)) : Int).toNat x0.size) ((rdOf ByteArray.empty x8 x13).size : Int))).bind fun t155 => (if t155 = true then (shackleref14_Expand.l1 k x0 x6 x7 x8 x9 x10 x11 x12 (wrap64 (x13 + 1))) else (shackleref14_Expand.l1 k x0 x6 x7 x8 x9 x10 (wrap64 (((rdOf ByteArray.empty x8 x13).size : Int) + 1)) x13 (wrap64 (x13 + 1))))) else (none)) else (none))) else (shackleref14_Expand.l1 k x0 x6 x7 x8 x9 x10 x11 x12 (wrap64 (x13 + 1))))))) else (none)) else (none)) else (none)) else (none)) else (none)) else (none)) else (if x11 = 0 then (if 0 ≤ x10 then (if x10 < (x0.size : Int) then (if x6.length < 140737488355328 then (shackleref14_Expand.l0 k x0 (x6 ++ [bt x0 x10]) x7 x8 x9 (wrap64 (x10 + 1))) else (none)) else (none)) else (none)) else (if 0 ≤ x12 then (if x12 < (x9.length : Int) then (if x6.length + (rdOf ByteArray.empty x9 x12).size < 140737488355328 then ((some (x6 ++ bytesOf (rdOf ByteArray.empty x9 x12) : List Int)).bind fun y144 => (if x7 = true then (shackleref14_Expand.l0 k x0 y144 true x8 x9 (wrap64 (x10 + x11))) else (shackleref14_Expand.l0 k x0 y144 (x12 == 0) x8 x9 (wrap64 (x10 + x11))))) else (none)) else (none)) else (none)))
end
def shackleref14_Expand.f (k : Nat) (a0 : ByteArray) (a1 : ByteArray) : Option (ByteArray × Bool) := (shackleref14_Dir.f k a1).bind fun t136 => (shackleref14_Expand.l0 k a0 ([] : List Int) false (([(⟨#[79, 82, 73, 71, 73, 78]⟩ : ByteArray), (⟨#[76, 73, 66]⟩ : ByteArray), (⟨#[80, 76, 65, 84, 70, 79, 82, 77]⟩ : ByteArray)] : List ByteArray)) (([t136, (⟨#[108, 105, 98, 54, 52]⟩ : ByteArray), (⟨#[120, 56, 54, 95, 54, 52]⟩ : ByteArray)] : List ByteArray)) 0)
theorem shackleref14_Expand.mono_l : ∀ k, (∀ y0 y1 y2 y3 y4 y5, LeO (shackleref14_Expand.l0 k y0 y1 y2 y3 y4 y5) (shackleref14_Expand.l0 (k + 1) y0 y1 y2 y3 y4 y5)) ∧ (∀ y0 y1 y2 y3 y4 y5 y6 y7 y8, LeO (shackleref14_Expand.l1 k y0 y1 y2 y3 y4 y5 y6 y7 y8) (shackleref14_Expand.l1 (k + 1) y0 y1 y2 y3 y4 y5 y6 y7 y8)) ∧ (∀ y0 y1 y2 y3 y4 y5 y6 y7 y8 y9, LeO (shackleref14_Expand.j2 k y0 y1 y2 y3 y4 y5 y6 y7 y8 y9) (shackleref14_Expand.j2 (k + 1) y0 y1 y2 y3 y4 y5 y6 y7 y8 y9))
  | 0 => ⟨fun _ _ _ _ _ _ r h => by simp [shackleref14_Expand.l0] at h, fun _ _ _ _ _ _ _ _ _ r h => by simp [shackleref14_Expand.l1] at h, fun _ _ _ _ _ _ _ _ _ _ r h => by simp [shackleref14_Expand.j2] at h⟩
  | k + 1 => by
    obtain ⟨ih0, ih1, ih2⟩ := shackleref14_Expand.mono_l k
    refine ⟨?_, ?_, ?_⟩
    · intro y0 y1 y2 y3 y4 y5
      unfold shackleref14_Expand.l0
      repeat' first
      | (with_reducible exact ih0 _ _ _ _ _ _)
      | (with_reducible exact ih1 _ _ _ _ _ _ _ _ _)
      | (with_reducible exact ih2 _ _ _ _ _ _ _ _ _ _)
      | (with_reducible exact shackleref14_Dir.mono _ _)
      | (with_reducible exact LeO.refl _)
      | (with_reducible exact LeO.none _)
      | (with_reducible refine LeO.ite ?_ ?_)
      | (with_reducible refine LeO.bind ?_ (fun _ => ?_))
      | exact ih0 _ _ _ _ _ _
      | exact ih1 _ _ _ _ _ _ _ _ _
      | exact ih2 _ _ _ _ _ _ _ _ _ _
      | exact shackleref14_Dir.mono _ _
      | exact LeO.none _
      | refine LeO.ite ?_ ?_
      | refine LeO.bind ?_ (fun _ => ?_)
    · intro y0 y1 y2 y3 y4 y5 y6 y7 y8
      unfold shackleref14_Expand.l1
      repeat' first
      | (with_reducible exact ih0 _ _ _ _ _ _)
      | (with_reducible exact ih1 _ _ _ _ _ _ _ _ _)
      | (with_reducible exact ih2 _ _ _ _ _ _ _ _ _ _)
      | (with_reducible exact shackleref14_Dir.mono _ _)
      | (with_reducible exact LeO.refl _)
      | (with_reducible exact LeO.none _)
      | (with_reducible refine LeO.ite ?_ ?_)
      | (with_reducible refine LeO.bind ?_ (fun _ => ?_))
      | exact ih0 _ _ _ _ _ _
      | exact ih1 _ _ _ _ _ _ _ _ _
      | exact ih2 _ _ _ _ _ _ _ _ _ _
      | exact shackleref14_Dir.mono _ _
      | exact LeO.none _
      | refine LeO.ite ?_ ?_
      | refine LeO.bind ?_ (fun _ => ?_)
    · intro y0 y1 y2 y3 y4 y5 y6 y7 y8 y9
      unfold shackleref14_Expand.j2
      repeat' first
      | (with_reducible exact ih0 _ _ _ _ _ _)
      | (with_reducible exact ih1 _ _ _ _ _ _ _ _ _)
      | (with_reducible exact ih2 _ _ _ _ _ _ _ _ _ _)
      | (with_reducible exact shackleref14_Dir.mono _ _)
      | (with_reducible exact LeO.refl _)
      | (with_reducible exact LeO.none _)
      | (with_reducible refine LeO.ite ?_ ?_)
      | (with_reducible refine LeO.bind ?_ (fun _ => ?_))
      | exact ih0 _ _ _ _ _ _
      | exact ih1 _ _ _ _ _ _ _ _ _
      | exact ih2 _ _ _ _ _ _ _ _ _ _
      | exact shackleref14_Dir.mono _ _
      | exact LeO.none _
      | refine LeO.ite ?_ ?_
      | refine LeO.bind ?_ (fun _ => ?_)
theorem shackleref14_Expand.mono : ∀ a0 a1 k, LeO (shackleref14_Expand.f k a0 a1) (shackleref14_Expand.f (k + 1) a0 a1) := by
  intro a0 a1 k
  obtain ⟨ih0, ih1, ih2⟩ := shackleref14_Expand.mono_l k
  unfold shackleref14_Expand.f
  repeat' first
      | (with_reducible exact ih0 _ _ _ _ _ _)
      | (with_reducible exact ih1 _ _ _ _ _ _ _ _ _)
      | (with_reducible exact ih2 _ _ _ _ _ _ _ _ _ _)
      | (with_reducible exact shackleref14_Dir.mono _ _)
      | (with_reducible exact LeO.refl _)
      | (with_reducible exact LeO.none _)
      | (with_reducible refine LeO.ite ?_ ?_)
      | (with_reducible refine LeO.bind ?_ (fun _ => ?_))
      | exact ih0 _ _ _ _ _ _
      | exact ih1 _ _ _ _ _ _ _ _ _
      | exact ih2 _ _ _ _ _ _ _ _ _ _
      | exact shackleref14_Dir.mono _ _
      | exact LeO.none _
      | refine LeO.ite ?_ ?_
      | refine LeO.bind ?_ (fun _ => ?_)
set_option maxHeartbeats 8000000 in
set_option maxRecDepth 100000 in
theorem shackleref14_Expand.calls (k : Nat) (a0 : ByteArray) (a1 : ByteArray) (r1 : ByteArray) (r2 : Bool) (w : World) (h : shackleref14_Expand.f k a0 a1 = some (r1, r2)) :
    Calls Try.prog 36 #[.string a0, .string a1] w fun e w' => e = .returned (.tuple #[.string r1, .bool r2]) ∧ Below w.heap.size w w' := by
  have HB := Aside0.mk (Below.refl w.heap.size w)
  have H : ((shackleref14_Dir.f k a1).bind fun t136 => (shackleref14_Expand.l0 k a0 ([] : List Int) false (([(⟨#[79, 82, 73, 71, 73, 78]⟩ : ByteArray), (⟨#[76, 73, 66]⟩ : ByteArray), (⟨#[80, 76, 65, 84, 70, 79, 82, 77]⟩ : ByteArray)] : List ByteArray)) (([t136, (⟨#[108, 105, 98, 54, 52]⟩ : ByteArray), (⟨#[120, 56, 54, 95, 54, 52]⟩ : ByteArray)] : List ByteArray)) 0)) = some (r1, r2) := h
  clear h
  obtain ⟨y133, hy133⟩ : ∃ y_ : List ByteArray, y_ = (([(⟨#[79, 82, 73, 71, 73, 78]⟩ : ByteArray), (⟨#[76, 73, 66]⟩ : ByteArray), (⟨#[80, 76, 65, 84, 70, 79, 82, 77]⟩ : ByteArray)] : List ByteArray)) := ⟨_, rfl⟩
  replace H : ((shackleref14_Dir.f k a1).bind fun t136 => (shackleref14_Expand.l0 k a0 ([] : List Int) false y133 (([t136, (⟨#[108, 105, 98, 54, 52]⟩ : ByteArray), (⟨#[120, 56, 54, 95, 54, 52]⟩ : ByteArray)] : List ByteArray)) 0)) = some (r1, r2) := by first | (rw [hy133]; with_reducible exact H) | (have H2_ := (Option.bind_some _ _).symm.trans H; rw [hy133]; with_reducible exact H2_) | (have H2_ := (Option.bind_some _ _).symm.trans H; with_reducible exact H2_) | with_reducible exact H | (rw [hy133]; exact H) | exact H
  have Ny133 := Aside0.mk hy133
  clear hy133
  replace H := Option.bind_eq_some_iff.mp H
  obtain ⟨t136, A30, H⟩ := H
  replace H : (shackleref14_Expand.l0 k a0 ([] : List Int) false y133 (([t136, (⟨#[108, 105, 98, 54, 52]⟩ : ByteArray), (⟨#[120, 56, 54, 95, 54, 52]⟩ : ByteArray)] : List ByteArray)) 0) = some (r1, r2) := H
  have A3 := Aside0.mk A30
  clear A30
  obtain ⟨y137, hy137⟩ : ∃ y_ : List ByteArray, y_ = (([t136, (⟨#[108, 105, 98, 54, 52]⟩ : ByteArray), (⟨#[120, 56, 54, 95, 54, 52]⟩ : ByteArray)] : List ByteArray)) := ⟨_, rfl⟩
  replace H : (shackleref14_Expand.l0 k a0 ([] : List Int) false y133 y137 0) = some (r1, r2) := by first | (rw [hy137]; with_reducible exact H) | (have H2_ := (Option.bind_some _ _).symm.trans H; rw [hy137]; with_reducible exact H2_) | (have H2_ := (Option.bind_some _ _).symm.trans H; with_reducible exact H2_) | with_reducible exact H | (rw [hy137]; exact H) | exact H
  have Ny137 := Aside0.mk hy137
  clear hy137
  have H' := Aside0.mk H
  clear H
  go_enter Try.func36, Try.ntmps36
  go_wp2_with (first | ((with_reducible refine gate_dst (N := 17) rfl ?_); (try (refine gate_guard (by rfl) ?_; dsimp only)); refine Kd.R_lit Kd.string _ 9 ?hg (N := 17) ?hd (xs := ([(⟨#[79, 82, 73, 71, 73, 78]⟩ : ByteArray), (⟨#[76, 73, 66]⟩ : ByteArray), (⟨#[80, 76, 65, 84, 70, 79, 82, 77]⟩ : ByteArray)] : List ByteArray)) (inner := [.string (⟨#[79, 82, 73, 71, 73, 78]⟩ : ByteArray), .string (⟨#[76, 73, 66]⟩ : ByteArray), .string (⟨#[80, 76, 65, 84, 70, 79, 82, 77]⟩ : ByteArray)]) (ok := fun _ => True) (okp := fun _ => True) ?hr ?hp (fun _ hk => hk) trivial (Below.refl _ _) (Nat.le_refl _) (by simp) ?_; (case hd => rfl); (case hg => rfl); (case hr => first | (go_simp; done) | (go_simp; rfl)); (case hp => exact (Reps.one (show Kd.M Kd.string _ _ _ (⟨#[79, 82, 73, 71, 73, 78]⟩ : ByteArray) [.string (⟨#[79, 82, 73, 71, 73, 78]⟩ : ByteArray)] from rfl) (Reps.one (show Kd.M Kd.string _ _ _ (⟨#[76, 73, 66]⟩ : ByteArray) [.string (⟨#[76, 73, 66]⟩ : ByteArray)] from rfl) (Reps.one (show Kd.M Kd.string _ _ _ (⟨#[80, 76, 65, 84, 70, 79, 82, 77]⟩ : ByteArray) [.string (⟨#[80, 76, 65, 84, 70, 79, 82, 77]⟩ : ByteArray)] from rfl) (Reps.none _ _))))); intro v134 w4 ho5 hb hg_ hnew_; clear hg_ hnew_; (first | rw [← Ny133.out] at ho5 | (simp only [Int.reduceToNat] at ho5; rw [← Ny133.out] at ho5)); have n0_ := Aside0.mk (Kd.R_lower ho5 (below_size (by repeat (first | (with_reducible first | exact HB.out | apply below_alloc | apply pw_below_drewN | apply below_drew1) | exact HB.out)))); have n1_ := Aside0.mk (below_step (by repeat (first | (with_reducible first | exact HB.out | apply below_alloc | apply pw_below_drewN | apply below_drew1) | exact HB.out)) hb); clear HB; have HO135 := n0_; have HB := n1_; clear n0_ n1_; clear hb ho5) | ((with_reducible refine gate_callee (f := 47) rfl ?_); refine goesL_ (some 19) rfl rfl Try.func47 (by kernel_rfl) rfl #[.string a1] rfl (by (try simp only [List.map_toArray, List.map_cons, List.map_nil]); first | done | rfl | (simp only [List.length_drop, List.length_take]; rfl)) ?_; (with_reducible refine (shackleref14_Dir.calls k a1 t136 _ A3.out).mono ?_); rintro e w' ⟨rfl, ⟨nd, rfl⟩⟩; refine ⟨_, rfl, ?_⟩) | ((with_reducible refine gate_dst (N := 20) rfl ?_); (try (refine gate_guard (by rfl) ?_; dsimp only)); refine Kd.R_lit Kd.string _ 9 ?hg (N := 20) ?hd (xs := ([t136, (⟨#[108, 105, 98, 54, 52]⟩ : ByteArray), (⟨#[120, 56, 54, 95, 54, 52]⟩ : ByteArray)] : List ByteArray)) (inner := [.string t136, .string (⟨#[108, 105, 98, 54, 52]⟩ : ByteArray), .string (⟨#[120, 56, 54, 95, 54, 52]⟩ : ByteArray)]) (ok := fun _ => True) (okp := fun _ => True) ?hr ?hp (fun _ hk => hk) trivial (Below.refl _ _) (Nat.le_refl _) (by simp) ?_; (case hd => rfl); (case hg => rfl); (case hr => first | (go_simp; done) | (go_simp; rfl)); (case hp => exact (Reps.one (show Kd.M Kd.string _ _ _ t136 [.string t136] from rfl) (Reps.one (show Kd.M Kd.string _ _ _ (⟨#[108, 105, 98, 54, 52]⟩ : ByteArray) [.string (⟨#[108, 105, 98, 54, 52]⟩ : ByteArray)] from rfl) (Reps.one (show Kd.M Kd.string _ _ _ (⟨#[120, 56, 54, 95, 54, 52]⟩ : ByteArray) [.string (⟨#[120, 56, 54, 95, 54, 52]⟩ : ByteArray)] from rfl) (Reps.none _ _))))); intro v138 w6 ho7 hb hg_ hnew_; clear hg_ hnew_; (first | rw [← Ny137.out] at ho7 | (simp only [Int.reduceToNat] at ho7; rw [← Ny137.out] at ho7)); have n0_ := Aside0.mk (Kd.R_elder' (by (with_reducible repeat (first | apply Kd.R_alloc | apply Kd.R_drewN | apply Kd.R_drew)); exact HO135.out) (Kd.R_base ho7) hb); have n1_ := Aside0.mk (Kd.R_lower (Kd.R_new' ho7 (Kd.R_lt (by (with_reducible repeat (first | apply Kd.R_alloc | apply Kd.R_drewN | apply Kd.R_drew)); exact HO135.out))) (below_size (by repeat (first | (with_reducible first | exact HB.out | apply below_alloc | apply pw_below_drewN | apply below_drew1) | exact HB.out)))); have n2_ := Aside0.mk (below_step (by repeat (first | (with_reducible first | exact HB.out | apply below_alloc | apply pw_below_drewN | apply below_drew1) | exact HB.out)) hb); clear HO135; clear HB; have HO135 := n0_; have HO139 := n1_; have HB := n2_; clear n0_ n1_ n2_; clear hb ho7))
  go_loopg [6, 7, 10] k (fun kq v6 v7 v10 w' => ∃ (x6_1 : List Int) (x7_1 : Bool) (x10_1 : Int), v7 = .bool x7_1 ∧ v10 = .int .i64 x10_1 ∧ Aside0 (shackleref14_Expand.l0 kq a0 x6_1 x7_1 y133 y137 x10_1 = some (r1, r2)) ∧ Aside0 (kq ≤ k) ∧ Aside0 (Kd.R (Kd.int .u8) 5 w' w.heap.size (fun _ => True) v6 x6_1) ∧ Aside0 (Kd.R Kd.string 9 w' w.heap.size (fun k_ => some k_ ≠ (v138 : Value).ownBlock) v134 y133) ∧ Aside0 (Kd.R Kd.string 9 w' w.heap.size (fun k_ => some k_ ≠ (v134 : Value).ownBlock) v138 y137) ∧ Aside0 (Below w.heap.size w w'))
  case atStart => exact ⟨(([] : List Int)), (false), (0), (by first | rfl | (simp; done) | (simp [*]; done)), (by first | rfl | (simp; done) | (simp [*]; done)), H', ⟨Nat.le_refl _⟩, ⟨by first | exact Kd.R_nil _ _ _ _ _ | exact Kd.N_nil _ _ _ _ _ | exact Kd.V_nil _ _ _ _ _ | exact Kd.Q_nil _ _ _ _ _ | exact Kd.S_nil _ _ _ _ _⟩, ⟨by (with_reducible repeat (first | apply Kd.R_alloc | apply Kd.R_drewN | apply Kd.R_drew)); exact Kd.R_mono HO135.out (fun _ hk => hk.2)⟩, ⟨by (with_reducible repeat (first | apply Kd.R_alloc | apply Kd.R_drewN | apply Kd.R_drew)); exact Kd.R_mono HO139.out (fun _ hk => hk.2)⟩, ⟨by repeat (first | (with_reducible first | exact HB.out | apply below_alloc | apply pw_below_drewN | apply below_drew1) | exact HB.out)⟩⟩
  case round =>
    clear H'
    try clear p2
    try clear c3
    try clear c4
    obtain ⟨x6_1, x7_1, x10_1, rfl, rfl, HA, HK1, HO_6, HO_8, HO_9, HB⟩ := hrel
    cases gk with
    | zero => exact absurd HA.out (by simp [shackleref14_Expand.l0])
    | succ k1 =>
      have H := HA.out
      clear HA
      simp only [shackleref14_Expand.l0] at H
      by_cases c8 : x10_1 < (a0.size : Int)
      · rw [if_pos c8] at H
        have c8b0 : decide (x10_1 < (a0.size : Int)) = true := decide_eq_true c8
        clear c8
        have H' := Aside0.mk H
        clear H
        go_wp2
        go_loopg [11, 12, 13] k1 (fun kq v11 v12 v13 w' => ∃ (x11_2 : Int) (x12_2 : Int) (x13_2 : Int), v11 = .int .i64 x11_2 ∧ v12 = .int .i64 x12_2 ∧ v13 = .int .i64 x13_2 ∧ Aside0 (shackleref14_Expand.l1 kq a0 x6_1 x7_1 y133 y137 x10_1 x11_2 x12_2 x13_2 = some (r1, r2)) ∧ Aside0 (kq ≤ k1) ∧ Aside0 (Kd.R (Kd.int .u8) 5 w' w.heap.size (fun _ => True) u6 x6_1) ∧ Aside0 (Kd.R Kd.string 9 w' w.heap.size (fun k_ => some k_ ≠ (v138 : Value).ownBlock) v134 y133) ∧ Aside0 (Kd.R Kd.string 9 w' w.heap.size (fun k_ => some k_ ≠ (v134 : Value).ownBlock) v138 y137) ∧ Aside0 (Below w.heap.size w w'))
        case atStart => exact ⟨(0), (0), (0), (by first | rfl | (simp; done) | (simp [*]; done)), (by first | rfl | (simp; done) | (simp [*]; done)), (by first | rfl | (simp; done) | (simp [*]; done)), H', ⟨Nat.le_refl _⟩, ⟨by (with_reducible repeat (first | apply Kd.R_alloc | apply Kd.R_drewN | apply Kd.R_drew)); exact HO_6.out⟩, ⟨by (with_reducible repeat (first | apply Kd.R_alloc | apply Kd.R_drewN | apply Kd.R_drew)); exact HO_8.out⟩, ⟨by (with_reducible repeat (first | apply Kd.R_alloc | apply Kd.R_drewN | apply Kd.R_drew)); exact HO_9.out⟩, ⟨by repeat (first | (with_reducible first | exact HB.out | apply below_alloc | apply pw_below_drewN | apply below_drew1) | exact HB.out)⟩⟩
        case round =>
          clear H'
          try clear p2
          try clear c3
          try clear c4
          try clear c8
          try clear c8b0
          try clear p2
          obtain ⟨x11_2, x12_2, x13_2, rfl, rfl, rfl, HA, HK2, HO_6, HO_8, HO_9, HB⟩ := hrel
          cases gk with
          | zero => exact absurd HA.out (by simp [shackleref14_Expand.l1])
          | succ k2 =>
            have H := HA.out
            clear HA
            simp only [shackleref14_Expand.l1] at H
            have HC9 := Aside0.mk H
            clear H
            go_upto_region 10 with (fail)
            go_cut [36] (fun v36 wc => ∃ (kq : Nat) (x36_8 : Bool), v36 = .bool x36_8 ∧ Aside0 (shackleref14_Expand.j2 kq a0 x6_1 x7_1 y133 y137 x10_1 x11_2 x12_2 x13_2 x36_8 = some (r1, r2)) ∧ Aside0 (kq ≤ k2) ∧ Aside0 (Kd.R (Kd.int .u8) 5 wc w.heap.size (fun _ => True) u6 x6_1) ∧ Aside0 (Kd.R Kd.string 9 wc w.heap.size (fun k_ => some k_ ≠ (v138 : Value).ownBlock) v134 y133) ∧ Aside0 (Kd.R Kd.string 9 wc w.heap.size (fun k_ => some k_ ≠ (v134 : Value).ownBlock) v138 y137) ∧ Aside0 (Below w.heap.size w wc))
            case first =>
              have H := HC9.out
              clear HC9
              by_cases c10 : x13_2 < 3
              · rw [if_pos c10] at H
                have c10b0 : decide (x13_2 < 3) = true := decide_eq_true c10
                clear c10
                (first | rw [c10b0] | (simp only [i64_w, i32_w]; rw [c10b0]) | skip)
                by_cases c11 : 0 ≤ x10_1
                · rw [if_pos c11] at H
                  have c11b0 : decide (0 ≤ x10_1) = true := decide_eq_true c11
                  clear c11
                  by_cases c12 : x10_1 < (a0.size : Int)
                  · rw [if_pos c12] at H
                    have c12b0 : decide (x10_1 < (a0.size : Int)) = true := decide_eq_true c12
                    clear c12
                    by_cases c14 : (bt a0 x10_1) = 36
                    · rw [if_pos c14] at H
                      have c14b0 : ((bt a0 x10_1) == 36) = true := beq_iff_eq.mpr c14
                      have c14b1 : ((bt a0 x10_1) != 36) = false := bne_eq_false_iff_eq.mpr c14
                      clear c14
                      have H' := Aside0.mk H
                      clear H
                      have p13 : 0 ≤ (x10_1 : Int) := of_decide_eq_true (by first | (with_reducible assumption) | assumption)
                      have q13 : x10_1 < (a0.size : Int) := of_decide_eq_true (by first | (with_reducible assumption) | assumption)
                      have hx13 := bt_at a0 x10_1
                      replace p13 := eq_true p13
                      replace q13 := eq_true q13
                      go_wp2
                      go_meet
                      case rel => exact ⟨_, ((x11_2 == 0)), (by first | rfl | (simp; done) | (simp [*]; done)), H', ⟨by have := HK1.out; have := HK2.out; first | omega | exact Nat.le_refl _⟩, ⟨by (with_reducible repeat (first | apply Kd.R_alloc | apply Kd.R_drewN | apply Kd.R_drew)); exact HO_6.out⟩, ⟨by (with_reducible repeat (first | apply Kd.R_alloc | apply Kd.R_drewN | apply Kd.R_drew)); exact HO_8.out⟩, ⟨by (with_reducible repeat (first | apply Kd.R_alloc | apply Kd.R_drewN | apply Kd.R_drew)); exact HO_9.out⟩, ⟨by repeat (first | (with_reducible first | exact HB.out | apply below_alloc | apply pw_below_drewN | apply below_drew1) | exact HB.out)⟩⟩
                    · rw [if_neg c14] at H
                      have c14b0 : ((bt a0 x10_1) == 36) = false := beq_eq_false_iff_ne.mpr c14
                      have c14b1 : ((bt a0 x10_1) != 36) = true := bne_iff_ne.mpr c14
                      have H' := Aside0.mk H
                      clear H
                      have p13 : 0 ≤ (x10_1 : Int) := of_decide_eq_true (by first | (with_reducible assumption) | assumption)
                      have q13 : x10_1 < (a0.size : Int) := of_decide_eq_true (by first | (with_reducible assumption) | assumption)
                      have hx13 := bt_at a0 x10_1
                      replace p13 := eq_true p13
                      replace q13 := eq_true q13
                      go_wp2
                      go_meet
                      case rel => exact ⟨_, (false), (by first | rfl | (simp; done) | (simp [*]; done)), H', ⟨by have := HK1.out; have := HK2.out; first | omega | exact Nat.le_refl _⟩, ⟨by (with_reducible repeat (first | apply Kd.R_alloc | apply Kd.R_drewN | apply Kd.R_drew)); exact HO_6.out⟩, ⟨by (with_reducible repeat (first | apply Kd.R_alloc | apply Kd.R_drewN | apply Kd.R_drew)); exact HO_8.out⟩, ⟨by (with_reducible repeat (first | apply Kd.R_alloc | apply Kd.R_drewN | apply Kd.R_drew)); exact HO_9.out⟩, ⟨by repeat (first | (with_reducible first | exact HB.out | apply below_alloc | apply pw_below_drewN | apply below_drew1) | exact HB.out)⟩⟩
                  · rw [if_neg c12] at H
                    exact absurd H (by simp)
                · rw [if_neg c11] at H
                  exact absurd H (by simp)
              · rw [if_neg c10] at H
                have c10b0 : decide (x13_2 < 3) = false := decide_eq_false c10
                clear c10
                (first | rw [c10b0] | (simp only [i64_w, i32_w]; rw [c10b0]) | skip)
                have H' := Aside0.mk H
                clear H
                go_wp2
                go_meet
                case rel => exact ⟨_, (false), (by first | rfl | (simp; done) | (simp [*]; done)), H', ⟨by have := HK1.out; have := HK2.out; first | omega | exact Nat.le_refl _⟩, ⟨by (with_reducible repeat (first | apply Kd.R_alloc | apply Kd.R_drewN | apply Kd.R_drew)); exact HO_6.out⟩, ⟨by (with_reducible repeat (first | apply Kd.R_alloc | apply Kd.R_drewN | apply Kd.R_drew)); exact HO_8.out⟩, ⟨by (with_reducible repeat (first | apply Kd.R_alloc | apply Kd.R_drewN | apply Kd.R_drew)); exact HO_9.out⟩, ⟨by repeat (first | (with_reducible first | exact HB.out | apply below_alloc | apply pw_below_drewN | apply below_drew1) | exact HB.out)⟩⟩
            case rest =>
              clear HC9
              try clear c1
              try clear p1
              try clear q1
              try clear hx1
              try clear p2
              try clear c3
              try clear c4
              try clear c8
              try clear c8b0
              try clear c10
              try clear c10b0
              try clear c11
              try clear c11b0
              try clear c12
              try clear c12b0
              try clear p13
              try clear q13
              try clear hx13
              try clear c14
              try clear c14b0
              try clear c14b1
              try clear p13
              try clear p2
              try clear q13
              obtain ⟨kq, x36_8, rfl, HA, HJ8, HO_6, HO_8, HO_9, HB⟩ := hcut
              cases kq with
              | zero => exact absurd HA.out (by simp [shackleref14_Expand.j2])
              | succ kj8 =>
                have H := HA.out
                clear HA
                simp only [shackleref14_Expand.j2] at H
                by_cases c15 : x36_8 = true
                · subst c15
                  have H1 : (if 0 ≤ (wrap64 (x10_1 + 1)) then (if (wrap64 (x10_1 + 1)) ≤ (a0.size : Int) then (if 0 ≤ x13_2 then (if x13_2 < (y133.length : Int) then (if 1 + (rdOf ByteArray.empty y133 x13_2).size ≤ 9223372036854775807 then (if ((⟨#[123]⟩ : ByteArray) ++ (rdOf ByteArray.empty y133 x13_2)).size + 1 ≤ 9223372036854775807 then ((shackleref14_begins.f (a0.extract ((wrap64 (x10_1 + 1)) : Int).toNat a0.size) (((⟨#[123]⟩ : ByteArray) ++ (rdOf ByteArray.empty y133 x13_2)) ++ (⟨#[125]⟩ : ByteArray))).bind fun t148 => ((shackleref14_begins.f (a0.extract ((wrap64 (x10_1 + 1)) : Int).toNat a0.size) (rdOf ByteArray.empty y133 x13_2)).bind fun t150 => (if t148 = true then (shackleref14_Expand.l1 kj8 a0 x6_1 x7_1 y133 y137 x10_1 (wrap64 (((rdOf ByteArray.empty y133 x13_2).size : Int) + 3)) x13_2 (wrap64 (x13_2 + 1))) else (if t150 = true then (if ((a0.extract ((wrap64 (x10_1 + 1)) : Int).toNat a0.size).size : Int) = ((rdOf ByteArray.empty y133 x13_2).size : Int) then (shackleref14_Expand.l1 kj8 a0 x6_1 x7_1 y133 y137 x10_1 (wrap64 (((rdOf ByteArray.empty y133 x13_2).size : Int) + 1)) x13_2 (wrap64 (x13_2 + 1))) else (if 0 ≤ ((rdOf ByteArray.empty y133 x13_2).size : Int) then (if ((rdOf ByteArray.empty y133 x13_2).size : Int) < ((a0.extract ((wrap64 (x10_1 + 1)) : Int).toNat a0.size).size : Int) then ((shackleref14_goes.f (bt (a0.extract ((wrap64 (x10_1 + 1)) : Int).toNat a0.size) ((rdOf ByteArray.empty y133 x13_2).size : Int))).bind fun t155 => (if t155 = true then (shackleref14_Expand.l1 kj8 a0 x6_1 x7_1 y133 y137 x10_1 x11_2 x12_2 (wrap64 (x13_2 + 1))) else (shackleref14_Expand.l1 kj8 a0 x6_1 x7_1 y133 y137 x10_1 (wrap64 (((rdOf ByteArray.empty y133 x13_2).size : Int) + 1)) x13_2 (wrap64 (x13_2 + 1))))) else (none)) else (none))) else (shackleref14_Expand.l1 kj8 a0 x6_1 x7_1 y133 y137 x10_1 x11_2 x12_2 (wrap64 (x13_2 + 1))))))) else (none)) else (none)) else (none)) else (none)) else (none)) else (none)) = some (r1, r2) := by rw [if_pos rfl] at H; exact H
                  clear H
                  have H := H1
                  clear H1
                  obtain ⟨ji16, hji16⟩ : ∃ j_ : Int, (wrap64 (x10_1 + 1)) = j_ := ⟨_, rfl⟩
                  replace H : (if 0 ≤ (ji16) then (if (ji16) ≤ (a0.size : Int) then (if 0 ≤ x13_2 then (if x13_2 < (y133.length : Int) then (if 1 + (rdOf ByteArray.empty y133 x13_2).size ≤ 9223372036854775807 then (if ((⟨#[123]⟩ : ByteArray) ++ (rdOf ByteArray.empty y133 x13_2)).size + 1 ≤ 9223372036854775807 then ((shackleref14_begins.f (a0.extract ((ji16) : Int).toNat a0.size) (((⟨#[123]⟩ : ByteArray) ++ (rdOf ByteArray.empty y133 x13_2)) ++ (⟨#[125]⟩ : ByteArray))).bind fun t148 => ((shackleref14_begins.f (a0.extract ((ji16) : Int).toNat a0.size) (rdOf ByteArray.empty y133 x13_2)).bind fun t150 => (if t148 = true then (shackleref14_Expand.l1 kj8 a0 x6_1 x7_1 y133 y137 x10_1 (wrap64 (((rdOf ByteArray.empty y133 x13_2).size : Int) + 3)) x13_2 (wrap64 (x13_2 + 1))) else (if t150 = true then (if ((a0.extract ((ji16) : Int).toNat a0.size).size : Int) = ((rdOf ByteArray.empty y133 x13_2).size : Int) then (shackleref14_Expand.l1 kj8 a0 x6_1 x7_1 y133 y137 x10_1 (wrap64 (((rdOf ByteArray.empty y133 x13_2).size : Int) + 1)) x13_2 (wrap64 (x13_2 + 1))) else (if 0 ≤ ((rdOf ByteArray.empty y133 x13_2).size : Int) then (if ((rdOf ByteArray.empty y133 x13_2).size : Int) < ((a0.extract ((ji16) : Int).toNat a0.size).size : Int) then ((shackleref14_goes.f (bt (a0.extract ((ji16) : Int).toNat a0.size) ((rdOf ByteArray.empty y133 x13_2).size : Int))).bind fun t155 => (if t155 = true then (shackleref14_Expand.l1 kj8 a0 x6_1 x7_1 y133 y137 x10_1 x11_2 x12_2 (wrap64 (x13_2 + 1))) else (shackleref14_Expand.l1 kj8 a0 x6_1 x7_1 y133 y137 x10_1 (wrap64 (((rdOf ByteArray.empty y133 x13_2).size : Int) + 1)) x13_2 (wrap64 (x13_2 + 1))))) else (none)) else (none))) else (shackleref14_Expand.l1 kj8 a0 x6_1 x7_1 y133 y137 x10_1 x11_2 x12_2 (wrap64 (x13_2 + 1))))))) else (none)) else (none)) else (none)) else (none)) else (none)) else (none)) = some (r1, r2) := by first | (rw [hji16] at H; exact H) | (simp only [hji16] at H ⊢; exact H)
                  have hji16w : (IntKind.i64.wrap (x10_1 + 1)) = ji16 := (i64_w _).trans hji16
                  by_cases c17 : 0 ≤ (ji16)
                  · rw [if_pos c17] at H
                    have c17b0 := eq_true c17
                    have c17b1 : decide (0 ≤ (ji16)) = true := decide_eq_true c17
                    clear c17
                    by_cases c18 : (ji16) ≤ (a0.size : Int)
                    · rw [if_pos c18] at H
                      have c18b0 := eq_true c18
                      have c18b1 : decide ((ji16) ≤ (a0.size : Int)) = true := decide_eq_true c18
                      clear c18
                      by_cases c19 : 0 ≤ x13_2
                      · rw [if_pos c19] at H
                        have c19b0 : decide (0 ≤ x13_2) = true := decide_eq_true c19
                        clear c19
                        by_cases c20 : x13_2 < (y133.length : Int)
                        · rw [if_pos c20] at H
                          have c20b0 : decide (x13_2 < (y133.length : Int)) = true := decide_eq_true c20
                          clear c20
                          by_cases c21 : 1 + (rdOf ByteArray.empty y133 x13_2).size ≤ 9223372036854775807
                          · rw [if_pos c21] at H
                            have c21b0 := eq_true c21
                            have c21b1 : decide (1 + (rdOf ByteArray.empty y133 x13_2).size ≤ 9223372036854775807) = true := decide_eq_true c21
                            try have c21b2 : (9223372036854775807 < 1 + (rdOf ByteArray.empty y133 x13_2).size) = False := eq_false (Nat.not_lt.2 c21)
                            by_cases c22 : ((⟨#[123]⟩ : ByteArray) ++ (rdOf ByteArray.empty y133 x13_2)).size + 1 ≤ 9223372036854775807
                            · rw [if_pos c22] at H
                              have c22b0 := eq_true c22
                              have c22b1 : decide (((⟨#[123]⟩ : ByteArray) ++ (rdOf ByteArray.empty y133 x13_2)).size + 1 ≤ 9223372036854775807) = true := decide_eq_true c22
                              try have c22b2 : (9223372036854775807 < ((⟨#[123]⟩ : ByteArray) ++ (rdOf ByteArray.empty y133 x13_2)).size + 1) = False := eq_false (Nat.not_lt.2 c22)
                              try have c22b3 : (9223372036854775807 < 1 + (rdOf ByteArray.empty y133 x13_2).size + 1) = False := eq_false (fun h_ => absurd c22 (by rw [ByteArray.size_append]; exact Nat.not_le.2 h_))
                              replace H := Option.bind_eq_some_iff.mp H
                              obtain ⟨t148, A230, H⟩ := H
                              replace H : ((shackleref14_begins.f (a0.extract ((ji16) : Int).toNat a0.size) (rdOf ByteArray.empty y133 x13_2)).bind fun t150 => (if t148 = true then (shackleref14_Expand.l1 kj8 a0 x6_1 x7_1 y133 y137 x10_1 (wrap64 (((rdOf ByteArray.empty y133 x13_2).size : Int) + 3)) x13_2 (wrap64 (x13_2 + 1))) else (if t150 = true then (if ((a0.extract ((ji16) : Int).toNat a0.size).size : Int) = ((rdOf ByteArray.empty y133 x13_2).size : Int) then (shackleref14_Expand.l1 kj8 a0 x6_1 x7_1 y133 y137 x10_1 (wrap64 (((rdOf ByteArray.empty y133 x13_2).size : Int) + 1)) x13_2 (wrap64 (x13_2 + 1))) else (if 0 ≤ ((rdOf ByteArray.empty y133 x13_2).size : Int) then (if ((rdOf ByteArray.empty y133 x13_2).size : Int) < ((a0.extract ((ji16) : Int).toNat a0.size).size : Int) then ((shackleref14_goes.f (bt (a0.extract ((ji16) : Int).toNat a0.size) ((rdOf ByteArray.empty y133 x13_2).size : Int))).bind fun t155 => (if t155 = true then (shackleref14_Expand.l1 kj8 a0 x6_1 x7_1 y133 y137 x10_1 x11_2 x12_2 (wrap64 (x13_2 + 1))) else (shackleref14_Expand.l1 kj8 a0 x6_1 x7_1 y133 y137 x10_1 (wrap64 (((rdOf ByteArray.empty y133 x13_2).size : Int) + 1)) x13_2 (wrap64 (x13_2 + 1))))) else (none)) else (none))) else (shackleref14_Expand.l1 kj8 a0 x6_1 x7_1 y133 y137 x10_1 x11_2 x12_2 (wrap64 (x13_2 + 1)))))) = some (r1, r2) := H
                              have A23 := Aside0.mk A230
                              clear A230
                              replace H := Option.bind_eq_some_iff.mp H
                              obtain ⟨t150, A240, H⟩ := H
                              replace H : (if t148 = true then (shackleref14_Expand.l1 kj8 a0 x6_1 x7_1 y133 y137 x10_1 (wrap64 (((rdOf ByteArray.empty y133 x13_2).size : Int) + 3)) x13_2 (wrap64 (x13_2 + 1))) else (if t150 = true then (if ((a0.extract ((ji16) : Int).toNat a0.size).size : Int) = ((rdOf ByteArray.empty y133 x13_2).size : Int) then (shackleref14_Expand.l1 kj8 a0 x6_1 x7_1 y133 y137 x10_1 (wrap64 (((rdOf ByteArray.empty y133 x13_2).size : Int) + 1)) x13_2 (wrap64 (x13_2 + 1))) else (if 0 ≤ ((rdOf ByteArray.empty y133 x13_2).size : Int) then (if ((rdOf ByteArray.empty y133 x13_2).size : Int) < ((a0.extract ((ji16) : Int).toNat a0.size).size : Int) then ((shackleref14_goes.f (bt (a0.extract ((ji16) : Int).toNat a0.size) ((rdOf ByteArray.empty y133 x13_2).size : Int))).bind fun t155 => (if t155 = true then (shackleref14_Expand.l1 kj8 a0 x6_1 x7_1 y133 y137 x10_1 x11_2 x12_2 (wrap64 (x13_2 + 1))) else (shackleref14_Expand.l1 kj8 a0 x6_1 x7_1 y133 y137 x10_1 (wrap64 (((rdOf ByteArray.empty y133 x13_2).size : Int) + 1)) x13_2 (wrap64 (x13_2 + 1))))) else (none)) else (none))) else (shackleref14_Expand.l1 kj8 a0 x6_1 x7_1 y133 y137 x10_1 x11_2 x12_2 (wrap64 (x13_2 + 1))))) = some (r1, r2) := H
                              have A24 := Aside0.mk A240
                              clear A240
                              by_cases c25 : t148 = true
                              · subst c25
                                have H1 : (shackleref14_Expand.l1 kj8 a0 x6_1 x7_1 y133 y137 x10_1 (wrap64 (((rdOf ByteArray.empty y133 x13_2).size : Int) + 3)) x13_2 (wrap64 (x13_2 + 1))) = some (r1, r2) := by rw [if_pos rfl] at H; exact H
                                clear H
                                have H := H1
                                clear H1
                                have H' := Aside0.mk H
                                clear H
                                obtain ⟨Ao26, co26, eo26⟩ := Kd.R_slice HO_8.out
                                subst eo26
                                have p147 : 0 ≤ (x13_2 : Int) := of_decide_eq_true (by first | (with_reducible assumption) | assumption)
                                have q147 : x13_2 < (y133.length : Int) := of_decide_eq_true (by first | (with_reducible assumption) | assumption)
                                obtain ⟨ad147, e147, hx147_0⟩ := Kd.at_string (Kd.R_reads' HO_8.out).2.2 x13_2 p147 q147
                                cases e147
                                replace p147 := eq_true p147
                                replace q147 := eq_true q147
                                go_wp2_with (first | ((with_reducible refine gate_callee (f := 48) rfl ?_); refine goesL_ (some 50) rfl rfl Try.func48 (by kernel_rfl) rfl #[.string (a0.extract ((ji16) : Int).toNat a0.size), .string (((⟨#[123]⟩ : ByteArray) ++ (rdOf ByteArray.empty y133 x13_2)) ++ (⟨#[125]⟩ : ByteArray))] rfl (by (try simp only [List.map_toArray, List.map_cons, List.map_nil]); first | done | (simp only [hji16]; rfl) | rfl | (simp only [List.length_drop, List.length_take]; rfl)) ?_; (with_reducible refine (shackleref14_begins.calls (a0.extract ((ji16) : Int).toNat a0.size) (((⟨#[123]⟩ : ByteArray) ++ (rdOf ByteArray.empty y133 x13_2)) ++ (⟨#[125]⟩ : ByteArray)) true _ A23.out).mono ?_); rintro e w' ⟨rfl, ⟨nd, rfl⟩⟩; refine ⟨_, rfl, ?_⟩; have p149 : 0 ≤ (x13_2 : Int) := of_decide_eq_true (by first | (with_reducible assumption) | assumption); have q149 : x13_2 < (y133.length : Int) := of_decide_eq_true (by first | (with_reducible assumption) | assumption); obtain ⟨ad149, e149, hx149_0⟩ := Kd.at_string (Kd.R_reads' HO_8.out).2.2 x13_2 p149 q149; obtain rfl : ad147 = ad149 := (by injection e149); replace p149 := eq_true p149; replace q149 := eq_true q149) | ((with_reducible refine gate_callee (f := 48) rfl ?_); refine goesL_ (some 56) rfl rfl Try.func48 (by kernel_rfl) rfl #[.string (a0.extract ((ji16) : Int).toNat a0.size), .string (rdOf ByteArray.empty y133 x13_2)] rfl (by (try simp only [List.map_toArray, List.map_cons, List.map_nil]); first | done | (simp only [hji16]; rfl) | rfl | (simp only [List.length_drop, List.length_take]; rfl)) ?_; (with_reducible refine (shackleref14_begins.calls (a0.extract ((ji16) : Int).toNat a0.size) (rdOf ByteArray.empty y133 x13_2) t150 _ A24.out).mono ?_); rintro e w' ⟨rfl, ⟨nd, rfl⟩⟩; refine ⟨_, rfl, ?_⟩; have p151 : 0 ≤ (x13_2 : Int) := of_decide_eq_true (by first | (with_reducible assumption) | assumption); have q151 : x13_2 < (y133.length : Int) := of_decide_eq_true (by first | (with_reducible assumption) | assumption); obtain ⟨ad151, e151, hx151_0⟩ := Kd.at_string (Kd.R_reads' HO_8.out).2.2 x13_2 p151 q151; obtain rfl : ad147 = ad151 := (by injection e151); replace p151 := eq_true p151; replace q151 := eq_true q151))
                                go_roundg kj8
                                case measure => have := HK1.out; have := HK2.out; have := HJ8.out; omega
                                case rel => exact ⟨(wrap64 (((rdOf ByteArray.empty y133 x13_2).size : Int) + 3)), (x13_2), (wrap64 (x13_2 + 1)), (by first | rfl | (simp; done) | (simp [*]; done)), (by first | rfl | (simp; done) | (simp [*]; done)), (by first | rfl | (simp; done) | (simp [*]; done)), H', ⟨by have := HK1.out; have := HK2.out; have := HJ8.out; omega⟩, ⟨by (with_reducible repeat (first | apply Kd.R_alloc | apply Kd.R_drewN | apply Kd.R_drew)); exact HO_6.out⟩, ⟨by (with_reducible repeat (first | apply Kd.R_alloc | apply Kd.R_drewN | apply Kd.R_drew)); exact HO_8.out⟩, ⟨by (with_reducible repeat (first | apply Kd.R_alloc | apply Kd.R_drewN | apply Kd.R_drew)); exact HO_9.out⟩, ⟨by repeat (first | (with_reducible first | exact HB.out | apply below_alloc | apply pw_below_drewN | apply below_drew1) | exact HB.out)⟩⟩
                              · replace c25 := Bool.eq_false_iff.mpr c25
                                subst c25
                                have H1 : (if t150 = true then (if ((a0.extract ((ji16) : Int).toNat a0.size).size : Int) = ((rdOf ByteArray.empty y133 x13_2).size : Int) then (shackleref14_Expand.l1 kj8 a0 x6_1 x7_1 y133 y137 x10_1 (wrap64 (((rdOf ByteArray.empty y133 x13_2).size : Int) + 1)) x13_2 (wrap64 (x13_2 + 1))) else (if 0 ≤ ((rdOf ByteArray.empty y133 x13_2).size : Int) then (if ((rdOf ByteArray.empty y133 x13_2).size : Int) < ((a0.extract ((ji16) : Int).toNat a0.size).size : Int) then ((shackleref14_goes.f (bt (a0.extract ((ji16) : Int).toNat a0.size) ((rdOf ByteArray.empty y133 x13_2).size : Int))).bind fun t155 => (if t155 = true then (shackleref14_Expand.l1 kj8 a0 x6_1 x7_1 y133 y137 x10_1 x11_2 x12_2 (wrap64 (x13_2 + 1))) else (shackleref14_Expand.l1 kj8 a0 x6_1 x7_1 y133 y137 x10_1 (wrap64 (((rdOf ByteArray.empty y133 x13_2).size : Int) + 1)) x13_2 (wrap64 (x13_2 + 1))))) else (none)) else (none))) else (shackleref14_Expand.l1 kj8 a0 x6_1 x7_1 y133 y137 x10_1 x11_2 x12_2 (wrap64 (x13_2 + 1)))) = some (r1, r2) := by rw [if_neg (show ¬ (false = true) by decide)] at H; exact H
                                clear H
                                have H := H1
                                clear H1
                                by_cases c27 : t150 = true
                                · subst c27
                                  have H1 : (if ((a0.extract ((ji16) : Int).toNat a0.size).size : Int) = ((rdOf ByteArray.empty y133 x13_2).size : Int) then (shackleref14_Expand.l1 kj8 a0 x6_1 x7_1 y133 y137 x10_1 (wrap64 (((rdOf ByteArray.empty y133 x13_2).size : Int) + 1)) x13_2 (wrap64 (x13_2 + 1))) else (if 0 ≤ ((rdOf ByteArray.empty y133 x13_2).size : Int) then (if ((rdOf ByteArray.empty y133 x13_2).size : Int) < ((a0.extract ((ji16) : Int).toNat a0.size).size : Int) then ((shackleref14_goes.f (bt (a0.extract ((ji16) : Int).toNat a0.size) ((rdOf ByteArray.empty y133 x13_2).size : Int))).bind fun t155 => (if t155 = true then (shackleref14_Expand.l1 kj8 a0 x6_1 x7_1 y133 y137 x10_1 x11_2 x12_2 (wrap64 (x13_2 + 1))) else (shackleref14_Expand.l1 kj8 a0 x6_1 x7_1 y133 y137 x10_1 (wrap64 (((rdOf ByteArray.empty y133 x13_2).size : Int) + 1)) x13_2 (wrap64 (x13_2 + 1))))) else (none)) else (none))) = some (r1, r2) := by rw [if_pos rfl] at H; exact H
                                  clear H
                                  have H := H1
                                  clear H1
                                  by_cases c28 : ((a0.extract ((ji16) : Int).toNat a0.size).size : Int) = ((rdOf ByteArray.empty y133 x13_2).size : Int)
                                  · rw [if_pos c28] at H
                                    have c28b4 : (((a0.size - (ji16 : Int).toNat : Nat) : Int) = ((rdOf ByteArray.empty y133 x13_2).size : Int)) = True := by
                                      have h_ := c28
                                      rw [ByteArray.size_extract] at h_
                                      exact eq_true (by omega)
                                    have c28b5 : ((((a0.size - (ji16 : Int).toNat : Nat) : Int) == ((rdOf ByteArray.empty y133 x13_2).size : Int))) = true := by have h_ := c28b4; simpa using h_
                                    have c28b0 : (((a0.extract ((ji16) : Int).toNat a0.size).size : Int) == ((rdOf ByteArray.empty y133 x13_2).size : Int)) = true := beq_iff_eq.mpr c28
                                    have c28b1 : (((a0.extract ((ji16) : Int).toNat a0.size).size : Int) != ((rdOf ByteArray.empty y133 x13_2).size : Int)) = false := bne_eq_false_iff_eq.mpr c28
                                    have c28b2 : ((a0.extract ((ji16) : Int).toNat a0.size).size == (rdOf ByteArray.empty y133 x13_2).size) = true := by first | simpa using c28 | (simp at c28 ⊢; omega)
                                    clear c28
                                    have H' := Aside0.mk H
                                    clear H
                                    obtain ⟨Ao29, co29, eo29⟩ := Kd.R_slice HO_8.out
                                    subst eo29
                                    have p147 : 0 ≤ (x13_2 : Int) := of_decide_eq_true (by first | (with_reducible assumption) | assumption)
                                    have q147 : x13_2 < (y133.length : Int) := of_decide_eq_true (by first | (with_reducible assumption) | assumption)
                                    obtain ⟨ad147, e147, hx147_0⟩ := Kd.at_string (Kd.R_reads' HO_8.out).2.2 x13_2 p147 q147
                                    cases e147
                                    replace p147 := eq_true p147
                                    replace q147 := eq_true q147
                                    go_wp2_with (first | ((with_reducible refine gate_callee (f := 48) rfl ?_); refine goesL_ (some 50) rfl rfl Try.func48 (by kernel_rfl) rfl #[.string (a0.extract ((ji16) : Int).toNat a0.size), .string (((⟨#[123]⟩ : ByteArray) ++ (rdOf ByteArray.empty y133 x13_2)) ++ (⟨#[125]⟩ : ByteArray))] rfl (by (try simp only [List.map_toArray, List.map_cons, List.map_nil]); first | done | (simp only [hji16]; rfl) | rfl | (simp only [List.length_drop, List.length_take]; rfl)) ?_; (with_reducible refine (shackleref14_begins.calls (a0.extract ((ji16) : Int).toNat a0.size) (((⟨#[123]⟩ : ByteArray) ++ (rdOf ByteArray.empty y133 x13_2)) ++ (⟨#[125]⟩ : ByteArray)) false _ A23.out).mono ?_); rintro e w' ⟨rfl, ⟨nd, rfl⟩⟩; refine ⟨_, rfl, ?_⟩; have p149 : 0 ≤ (x13_2 : Int) := of_decide_eq_true (by first | (with_reducible assumption) | assumption); have q149 : x13_2 < (y133.length : Int) := of_decide_eq_true (by first | (with_reducible assumption) | assumption); obtain ⟨ad149, e149, hx149_0⟩ := Kd.at_string (Kd.R_reads' HO_8.out).2.2 x13_2 p149 q149; obtain rfl : ad147 = ad149 := (by injection e149); replace p149 := eq_true p149; replace q149 := eq_true q149) | ((with_reducible refine gate_callee (f := 48) rfl ?_); refine goesL_ (some 56) rfl rfl Try.func48 (by kernel_rfl) rfl #[.string (a0.extract ((ji16) : Int).toNat a0.size), .string (rdOf ByteArray.empty y133 x13_2)] rfl (by (try simp only [List.map_toArray, List.map_cons, List.map_nil]); first | done | (simp only [hji16]; rfl) | rfl | (simp only [List.length_drop, List.length_take]; rfl)) ?_; (with_reducible refine (shackleref14_begins.calls (a0.extract ((ji16) : Int).toNat a0.size) (rdOf ByteArray.empty y133 x13_2) true _ A24.out).mono ?_); rintro e w' ⟨rfl, ⟨nd, rfl⟩⟩; refine ⟨_, rfl, ?_⟩; have p152 : 0 ≤ (x13_2 : Int) := of_decide_eq_true (by first | (with_reducible assumption) | assumption); have q152 : x13_2 < (y133.length : Int) := of_decide_eq_true (by first | (with_reducible assumption) | assumption); obtain ⟨ad152, e152, hx152_0⟩ := Kd.at_string (Kd.R_reads' HO_8.out).2.2 x13_2 p152 q152; obtain rfl : ad147 = ad152 := (by injection e152); replace p152 := eq_true p152; replace q152 := eq_true q152; have p153 : 0 ≤ (x13_2 : Int) := of_decide_eq_true (by first | (with_reducible assumption) | assumption); have q153 : x13_2 < (y133.length : Int) := of_decide_eq_true (by first | (with_reducible assumption) | assumption); obtain ⟨ad153, e153, hx153_0⟩ := Kd.at_string (Kd.R_reads' HO_8.out).2.2 x13_2 p153 q153; obtain rfl : ad147 = ad153 := (by injection e153); replace p153 := eq_true p153; replace q153 := eq_true q153))
                                    go_roundg kj8
                                    case measure => have := HK1.out; have := HK2.out; have := HJ8.out; omega
                                    case rel => exact ⟨(wrap64 (((rdOf ByteArray.empty y133 x13_2).size : Int) + 1)), (x13_2), (wrap64 (x13_2 + 1)), (by first | rfl | (rw [show wrap64 (((rdOf ByteArray.empty y133 x13_2).size : Int) + 1) = ((rdOf ByteArray.empty y133 x13_2).size : Int) + 1 from by unfold wrap64; omega]; done) | (simp; done) | (simp [*]; done)), (by first | rfl | (simp; done) | (simp [*]; done)), (by first | rfl | (simp; done) | (simp [*]; done)), H', ⟨by have := HK1.out; have := HK2.out; have := HJ8.out; omega⟩, ⟨by (with_reducible repeat (first | apply Kd.R_alloc | apply Kd.R_drewN | apply Kd.R_drew)); exact HO_6.out⟩, ⟨by (with_reducible repeat (first | apply Kd.R_alloc | apply Kd.R_drewN | apply Kd.R_drew)); exact HO_8.out⟩, ⟨by (with_reducible repeat (first | apply Kd.R_alloc | apply Kd.R_drewN | apply Kd.R_drew)); exact HO_9.out⟩, ⟨by repeat (first | (with_reducible first | exact HB.out | apply below_alloc | apply pw_below_drewN | apply below_drew1) | exact HB.out)⟩⟩
                                  · rw [if_neg c28] at H
                                    have c28b4 : (((a0.size - (ji16 : Int).toNat : Nat) : Int) = ((rdOf ByteArray.empty y133 x13_2).size : Int)) = False := by
                                      have h_ := c28
                                      rw [ByteArray.size_extract] at h_
                                      exact eq_false (by omega)
                                    have c28b5 : ((((a0.size - (ji16 : Int).toNat : Nat) : Int) == ((rdOf ByteArray.empty y133 x13_2).size : Int))) = false := by have h_ := c28b4; simpa using h_
                                    have c28b0 : (((a0.extract ((ji16) : Int).toNat a0.size).size : Int) == ((rdOf ByteArray.empty y133 x13_2).size : Int)) = false := beq_eq_false_iff_ne.mpr c28
                                    have c28b1 : (((a0.extract ((ji16) : Int).toNat a0.size).size : Int) != ((rdOf ByteArray.empty y133 x13_2).size : Int)) = true := bne_iff_ne.mpr c28
                                    have c28b2 : ((a0.extract ((ji16) : Int).toNat a0.size).size == (rdOf ByteArray.empty y133 x13_2).size) = false := by first | simpa using c28 | (simp at c28 ⊢; omega)
                                    by_cases c30 : 0 ≤ ((rdOf ByteArray.empty y133 x13_2).size : Int)
                                    · rw [if_pos c30] at H
                                      have c30b0 : decide (0 ≤ ((rdOf ByteArray.empty y133 x13_2).size : Int)) = true := decide_eq_true c30
                                      have c30b1 : decide (0 ≤ (rdOf ByteArray.empty y133 x13_2).size) = true := decide_eq_true (by omega)
                                      clear c30
                                      by_cases c31 : ((rdOf ByteArray.empty y133 x13_2).size : Int) < ((a0.extract ((ji16) : Int).toNat a0.size).size : Int)
                                      · rw [if_pos c31] at H
                                        have c31b4 : ((rdOf ByteArray.empty y133 x13_2).size < a0.size - (ji16 : Int).toNat) = True := by
                                          have h_ := c31
                                          rw [ByteArray.size_extract] at h_
                                          exact eq_true (by omega)
                                        have c31b0 : decide (((rdOf ByteArray.empty y133 x13_2).size : Int) < ((a0.extract ((ji16) : Int).toNat a0.size).size : Int)) = true := decide_eq_true c31
                                        have c31b1 : decide ((rdOf ByteArray.empty y133 x13_2).size < (a0.extract ((ji16) : Int).toNat a0.size).size) = true := decide_eq_true (Int.ofNat_lt.mp c31)
                                        have hx33_ : ∀ h, (((a0.extract ((ji16) : Int).toNat a0.size)[(rdOf ByteArray.empty y133 x13_2).size]'h).toNat : Int) = bt (a0.extract ((ji16) : Int).toNat a0.size) ((rdOf ByteArray.empty y133 x13_2).size : Int) := fun h => by unfold bt; rw [dif_pos (by rw [Int.toNat_natCast]; exact h)]; rfl
                                        clear c31
                                        replace H := Option.bind_eq_some_iff.mp H
                                        obtain ⟨t155, A330, H⟩ := H
                                        replace H : (if t155 = true then (shackleref14_Expand.l1 kj8 a0 x6_1 x7_1 y133 y137 x10_1 x11_2 x12_2 (wrap64 (x13_2 + 1))) else (shackleref14_Expand.l1 kj8 a0 x6_1 x7_1 y133 y137 x10_1 (wrap64 (((rdOf ByteArray.empty y133 x13_2).size : Int) + 1)) x13_2 (wrap64 (x13_2 + 1)))) = some (r1, r2) := H
                                        have A33 := Aside0.mk A330
                                        clear A330
                                        by_cases c34 : t155 = true
                                        · subst c34
                                          have H1 : (shackleref14_Expand.l1 kj8 a0 x6_1 x7_1 y133 y137 x10_1 x11_2 x12_2 (wrap64 (x13_2 + 1))) = some (r1, r2) := by rw [if_pos rfl] at H; exact H
                                          clear H
                                          have H := H1
                                          clear H1
                                          have H' := Aside0.mk H
                                          clear H
                                          obtain ⟨Ao35, co35, eo35⟩ := Kd.R_slice HO_8.out
                                          subst eo35
                                          have p147 : 0 ≤ (x13_2 : Int) := of_decide_eq_true (by first | (with_reducible assumption) | assumption)
                                          have q147 : x13_2 < (y133.length : Int) := of_decide_eq_true (by first | (with_reducible assumption) | assumption)
                                          obtain ⟨ad147, e147, hx147_0⟩ := Kd.at_string (Kd.R_reads' HO_8.out).2.2 x13_2 p147 q147
                                          cases e147
                                          replace p147 := eq_true p147
                                          replace q147 := eq_true q147
                                          go_wp2_with (first | ((with_reducible refine gate_callee (f := 48) rfl ?_); refine goesL_ (some 50) rfl rfl Try.func48 (by kernel_rfl) rfl #[.string (a0.extract ((ji16) : Int).toNat a0.size), .string (((⟨#[123]⟩ : ByteArray) ++ (rdOf ByteArray.empty y133 x13_2)) ++ (⟨#[125]⟩ : ByteArray))] rfl (by (try simp only [List.map_toArray, List.map_cons, List.map_nil]); first | done | (simp only [hji16]; rfl) | rfl | (simp only [List.length_drop, List.length_take]; rfl)) ?_; (with_reducible refine (shackleref14_begins.calls (a0.extract ((ji16) : Int).toNat a0.size) (((⟨#[123]⟩ : ByteArray) ++ (rdOf ByteArray.empty y133 x13_2)) ++ (⟨#[125]⟩ : ByteArray)) false _ A23.out).mono ?_); rintro e w' ⟨rfl, ⟨nd, rfl⟩⟩; refine ⟨_, rfl, ?_⟩; have p149 : 0 ≤ (x13_2 : Int) := of_decide_eq_true (by first | (with_reducible assumption) | assumption); have q149 : x13_2 < (y133.length : Int) := of_decide_eq_true (by first | (with_reducible assumption) | assumption); obtain ⟨ad149, e149, hx149_0⟩ := Kd.at_string (Kd.R_reads' HO_8.out).2.2 x13_2 p149 q149; obtain rfl : ad147 = ad149 := (by injection e149); replace p149 := eq_true p149; replace q149 := eq_true q149) | ((with_reducible refine gate_callee (f := 48) rfl ?_); refine goesL_ (some 56) rfl rfl Try.func48 (by kernel_rfl) rfl #[.string (a0.extract ((ji16) : Int).toNat a0.size), .string (rdOf ByteArray.empty y133 x13_2)] rfl (by (try simp only [List.map_toArray, List.map_cons, List.map_nil]); first | done | (simp only [hji16]; rfl) | rfl | (simp only [List.length_drop, List.length_take]; rfl)) ?_; (with_reducible refine (shackleref14_begins.calls (a0.extract ((ji16) : Int).toNat a0.size) (rdOf ByteArray.empty y133 x13_2) true _ A24.out).mono ?_); rintro e w' ⟨rfl, ⟨nd, rfl⟩⟩; refine ⟨_, rfl, ?_⟩; have p152 : 0 ≤ (x13_2 : Int) := of_decide_eq_true (by first | (with_reducible assumption) | assumption); have q152 : x13_2 < (y133.length : Int) := of_decide_eq_true (by first | (with_reducible assumption) | assumption); obtain ⟨ad152, e152, hx152_0⟩ := Kd.at_string (Kd.R_reads' HO_8.out).2.2 x13_2 p152 q152; obtain rfl : ad147 = ad152 := (by injection e152); replace p152 := eq_true p152; replace q152 := eq_true q152; have p154 : 0 ≤ (x13_2 : Int) := of_decide_eq_true (by first | (with_reducible assumption) | assumption); have q154 : x13_2 < (y133.length : Int) := of_decide_eq_true (by first | (with_reducible assumption) | assumption); obtain ⟨ad154, e154, hx154_0⟩ := Kd.at_string (Kd.R_reads' HO_8.out).2.2 x13_2 p154 q154; obtain rfl : ad147 = ad154 := (by injection e154); replace p154 := eq_true p154; replace q154 := eq_true q154; have p32 : 0 ≤ (((rdOf ByteArray.empty y133 x13_2).size : Int) : Int) := of_decide_eq_true (by first | (with_reducible assumption) | assumption); have q32 : ((rdOf ByteArray.empty y133 x13_2).size : Int) < ((a0.extract ((ji16) : Int).toNat a0.size).size : Int) := of_decide_eq_true (by first | (with_reducible assumption) | assumption); have hx32 := bt_at (a0.extract ((ji16) : Int).toNat a0.size) ((rdOf ByteArray.empty y133 x13_2).size : Int); have hy32 : ∀ h, (((a0.extract ((ji16) : Int).toNat a0.size)[(rdOf ByteArray.empty y133 x13_2).size]'h).toNat : Int) = bt (a0.extract ((ji16) : Int).toNat a0.size) ((rdOf ByteArray.empty y133 x13_2).size : Int) := fun h => (by (unfold bt; rw [dif_pos (by rw [Int.toNat_natCast]; exact h)]; rfl)); replace p32 := eq_true p32; replace q32 := eq_true q32) | (go_at_call 49; (with_reducible refine (shackleref14_goes.calls (bt (a0.extract ((ji16) : Int).toNat a0.size) ((rdOf ByteArray.empty y133 x13_2).size : Int)) true _ A33.out).mono ?_); rintro e w' ⟨rfl, ⟨nd, rfl⟩⟩))
                                          go_roundg kj8
                                          case measure => have := HK1.out; have := HK2.out; have := HJ8.out; omega
                                          case rel => exact ⟨(x11_2), (x12_2), (wrap64 (x13_2 + 1)), (by first | rfl | (simp; done) | (simp [*]; done)), (by first | rfl | (simp; done) | (simp [*]; done)), (by first | rfl | (simp; done) | (simp [*]; done)), H', ⟨by have := HK1.out; have := HK2.out; have := HJ8.out; omega⟩, ⟨by (with_reducible repeat (first | apply Kd.R_alloc | apply Kd.R_drewN | apply Kd.R_drew)); exact HO_6.out⟩, ⟨by (with_reducible repeat (first | apply Kd.R_alloc | apply Kd.R_drewN | apply Kd.R_drew)); exact HO_8.out⟩, ⟨by (with_reducible repeat (first | apply Kd.R_alloc | apply Kd.R_drewN | apply Kd.R_drew)); exact HO_9.out⟩, ⟨by repeat (first | (with_reducible first | exact HB.out | apply below_alloc | apply pw_below_drewN | apply below_drew1) | exact HB.out)⟩⟩
                                        · replace c34 := Bool.eq_false_iff.mpr c34
                                          subst c34
                                          have H1 : (shackleref14_Expand.l1 kj8 a0 x6_1 x7_1 y133 y137 x10_1 (wrap64 (((rdOf ByteArray.empty y133 x13_2).size : Int) + 1)) x13_2 (wrap64 (x13_2 + 1))) = some (r1, r2) := by rw [if_neg (show ¬ (false = true) by decide)] at H; exact H
                                          clear H
                                          have H := H1
                                          clear H1
                                          have H' := Aside0.mk H
                                          clear H
                                          obtain ⟨Ao36, co36, eo36⟩ := Kd.R_slice HO_8.out
                                          subst eo36
                                          have p147 : 0 ≤ (x13_2 : Int) := of_decide_eq_true (by first | (with_reducible assumption) | assumption)
                                          have q147 : x13_2 < (y133.length : Int) := of_decide_eq_true (by first | (with_reducible assumption) | assumption)
                                          obtain ⟨ad147, e147, hx147_0⟩ := Kd.at_string (Kd.R_reads' HO_8.out).2.2 x13_2 p147 q147
                                          cases e147
                                          replace p147 := eq_true p147
                                          replace q147 := eq_true q147
                                          go_wp2_with (first | ((with_reducible refine gate_callee (f := 48) rfl ?_); refine goesL_ (some 50) rfl rfl Try.func48 (by kernel_rfl) rfl #[.string (a0.extract ((ji16) : Int).toNat a0.size), .string (((⟨#[123]⟩ : ByteArray) ++ (rdOf ByteArray.empty y133 x13_2)) ++ (⟨#[125]⟩ : ByteArray))] rfl (by (try simp only [List.map_toArray, List.map_cons, List.map_nil]); first | done | (simp only [hji16]; rfl) | rfl | (simp only [List.length_drop, List.length_take]; rfl)) ?_; (with_reducible refine (shackleref14_begins.calls (a0.extract ((ji16) : Int).toNat a0.size) (((⟨#[123]⟩ : ByteArray) ++ (rdOf ByteArray.empty y133 x13_2)) ++ (⟨#[125]⟩ : ByteArray)) false _ A23.out).mono ?_); rintro e w' ⟨rfl, ⟨nd, rfl⟩⟩; refine ⟨_, rfl, ?_⟩; have p149 : 0 ≤ (x13_2 : Int) := of_decide_eq_true (by first | (with_reducible assumption) | assumption); have q149 : x13_2 < (y133.length : Int) := of_decide_eq_true (by first | (with_reducible assumption) | assumption); obtain ⟨ad149, e149, hx149_0⟩ := Kd.at_string (Kd.R_reads' HO_8.out).2.2 x13_2 p149 q149; obtain rfl : ad147 = ad149 := (by injection e149); replace p149 := eq_true p149; replace q149 := eq_true q149) | ((with_reducible refine gate_callee (f := 48) rfl ?_); refine goesL_ (some 56) rfl rfl Try.func48 (by kernel_rfl) rfl #[.string (a0.extract ((ji16) : Int).toNat a0.size), .string (rdOf ByteArray.empty y133 x13_2)] rfl (by (try simp only [List.map_toArray, List.map_cons, List.map_nil]); first | done | (simp only [hji16]; rfl) | rfl | (simp only [List.length_drop, List.length_take]; rfl)) ?_; (with_reducible refine (shackleref14_begins.calls (a0.extract ((ji16) : Int).toNat a0.size) (rdOf ByteArray.empty y133 x13_2) true _ A24.out).mono ?_); rintro e w' ⟨rfl, ⟨nd, rfl⟩⟩; refine ⟨_, rfl, ?_⟩; have p152 : 0 ≤ (x13_2 : Int) := of_decide_eq_true (by first | (with_reducible assumption) | assumption); have q152 : x13_2 < (y133.length : Int) := of_decide_eq_true (by first | (with_reducible assumption) | assumption); obtain ⟨ad152, e152, hx152_0⟩ := Kd.at_string (Kd.R_reads' HO_8.out).2.2 x13_2 p152 q152; obtain rfl : ad147 = ad152 := (by injection e152); replace p152 := eq_true p152; replace q152 := eq_true q152; have p154 : 0 ≤ (x13_2 : Int) := of_decide_eq_true (by first | (with_reducible assumption) | assumption); have q154 : x13_2 < (y133.length : Int) := of_decide_eq_true (by first | (with_reducible assumption) | assumption); obtain ⟨ad154, e154, hx154_0⟩ := Kd.at_string (Kd.R_reads' HO_8.out).2.2 x13_2 p154 q154; obtain rfl : ad147 = ad154 := (by injection e154); replace p154 := eq_true p154; replace q154 := eq_true q154; have p32 : 0 ≤ (((rdOf ByteArray.empty y133 x13_2).size : Int) : Int) := of_decide_eq_true (by first | (with_reducible assumption) | assumption); have q32 : ((rdOf ByteArray.empty y133 x13_2).size : Int) < ((a0.extract ((ji16) : Int).toNat a0.size).size : Int) := of_decide_eq_true (by first | (with_reducible assumption) | assumption); have hx32 := bt_at (a0.extract ((ji16) : Int).toNat a0.size) ((rdOf ByteArray.empty y133 x13_2).size : Int); have hy32 : ∀ h, (((a0.extract ((ji16) : Int).toNat a0.size)[(rdOf ByteArray.empty y133 x13_2).size]'h).toNat : Int) = bt (a0.extract ((ji16) : Int).toNat a0.size) ((rdOf ByteArray.empty y133 x13_2).size : Int) := fun h => (by (unfold bt; rw [dif_pos (by rw [Int.toNat_natCast]; exact h)]; rfl)); replace p32 := eq_true p32; replace q32 := eq_true q32) | (go_at_call 49; (with_reducible refine (shackleref14_goes.calls (bt (a0.extract ((ji16) : Int).toNat a0.size) ((rdOf ByteArray.empty y133 x13_2).size : Int)) false _ A33.out).mono ?_); rintro e w' ⟨rfl, ⟨nd, rfl⟩⟩; have p156 : 0 ≤ (x13_2 : Int) := of_decide_eq_true (by first | (with_reducible assumption) | assumption); have q156 : x13_2 < (y133.length : Int) := of_decide_eq_true (by first | (with_reducible assumption) | assumption); obtain ⟨ad156, e156, hx156_0⟩ := Kd.at_string (Kd.R_reads' HO_8.out).2.2 x13_2 p156 q156; obtain rfl : ad147 = ad156 := (by injection e156); replace p156 := eq_true p156; replace q156 := eq_true q156))
                                          go_roundg kj8
                                          case measure => have := HK1.out; have := HK2.out; have := HJ8.out; omega
                                          case rel => exact ⟨(wrap64 (((rdOf ByteArray.empty y133 x13_2).size : Int) + 1)), (x13_2), (wrap64 (x13_2 + 1)), (by first | rfl | (rw [show wrap64 (((rdOf ByteArray.empty y133 x13_2).size : Int) + 1) = ((rdOf ByteArray.empty y133 x13_2).size : Int) + 1 from by unfold wrap64; omega]; done) | (simp; done) | (simp [*]; done)), (by first | rfl | (simp; done) | (simp [*]; done)), (by first | rfl | (simp; done) | (simp [*]; done)), H', ⟨by have := HK1.out; have := HK2.out; have := HJ8.out; omega⟩, ⟨by (with_reducible repeat (first | apply Kd.R_alloc | apply Kd.R_drewN | apply Kd.R_drew)); exact HO_6.out⟩, ⟨by (with_reducible repeat (first | apply Kd.R_alloc | apply Kd.R_drewN | apply Kd.R_drew)); exact HO_8.out⟩, ⟨by (with_reducible repeat (first | apply Kd.R_alloc | apply Kd.R_drewN | apply Kd.R_drew)); exact HO_9.out⟩, ⟨by repeat (first | (with_reducible first | exact HB.out | apply below_alloc | apply pw_below_drewN | apply below_drew1) | exact HB.out)⟩⟩
                                      · rw [if_neg c31] at H
                                        exact absurd H (by simp)
                                    · rw [if_neg c30] at H
                                      exact absurd H (by simp)
                                · replace c27 := Bool.eq_false_iff.mpr c27
                                  subst c27
                                  have H1 : (shackleref14_Expand.l1 kj8 a0 x6_1 x7_1 y133 y137 x10_1 x11_2 x12_2 (wrap64 (x13_2 + 1))) = some (r1, r2) := by rw [if_neg (show ¬ (false = true) by decide)] at H; exact H
                                  clear H
                                  have H := H1
                                  clear H1
                                  have H' := Aside0.mk H
                                  clear H
                                  obtain ⟨Ao37, co37, eo37⟩ := Kd.R_slice HO_8.out
                                  subst eo37
                                  have p147 : 0 ≤ (x13_2 : Int) := of_decide_eq_true (by first | (with_reducible assumption) | assumption)
                                  have q147 : x13_2 < (y133.length : Int) := of_decide_eq_true (by first | (with_reducible assumption) | assumption)
                                  obtain ⟨ad147, e147, hx147_0⟩ := Kd.at_string (Kd.R_reads' HO_8.out).2.2 x13_2 p147 q147
                                  cases e147
                                  replace p147 := eq_true p147
                                  replace q147 := eq_true q147
                                  go_wp2_with (first | ((with_reducible refine gate_callee (f := 48) rfl ?_); refine goesL_ (some 50) rfl rfl Try.func48 (by kernel_rfl) rfl #[.string (a0.extract ((ji16) : Int).toNat a0.size), .string (((⟨#[123]⟩ : ByteArray) ++ (rdOf ByteArray.empty y133 x13_2)) ++ (⟨#[125]⟩ : ByteArray))] rfl (by (try simp only [List.map_toArray, List.map_cons, List.map_nil]); first | done | (simp only [hji16]; rfl) | rfl | (simp only [List.length_drop, List.length_take]; rfl)) ?_; (with_reducible refine (shackleref14_begins.calls (a0.extract ((ji16) : Int).toNat a0.size) (((⟨#[123]⟩ : ByteArray) ++ (rdOf ByteArray.empty y133 x13_2)) ++ (⟨#[125]⟩ : ByteArray)) false _ A23.out).mono ?_); rintro e w' ⟨rfl, ⟨nd, rfl⟩⟩; refine ⟨_, rfl, ?_⟩; have p149 : 0 ≤ (x13_2 : Int) := of_decide_eq_true (by first | (with_reducible assumption) | assumption); have q149 : x13_2 < (y133.length : Int) := of_decide_eq_true (by first | (with_reducible assumption) | assumption); obtain ⟨ad149, e149, hx149_0⟩ := Kd.at_string (Kd.R_reads' HO_8.out).2.2 x13_2 p149 q149; obtain rfl : ad147 = ad149 := (by injection e149); replace p149 := eq_true p149; replace q149 := eq_true q149) | ((with_reducible refine gate_callee (f := 48) rfl ?_); refine goesL_ (some 56) rfl rfl Try.func48 (by kernel_rfl) rfl #[.string (a0.extract ((ji16) : Int).toNat a0.size), .string (rdOf ByteArray.empty y133 x13_2)] rfl (by (try simp only [List.map_toArray, List.map_cons, List.map_nil]); first | done | (simp only [hji16]; rfl) | rfl | (simp only [List.length_drop, List.length_take]; rfl)) ?_; (with_reducible refine (shackleref14_begins.calls (a0.extract ((ji16) : Int).toNat a0.size) (rdOf ByteArray.empty y133 x13_2) false _ A24.out).mono ?_); rintro e w' ⟨rfl, ⟨nd, rfl⟩⟩; refine ⟨_, rfl, ?_⟩))
                                  go_roundg kj8
                                  case measure => have := HK1.out; have := HK2.out; have := HJ8.out; omega
                                  case rel => exact ⟨(x11_2), (x12_2), (wrap64 (x13_2 + 1)), (by first | rfl | (simp; done) | (simp [*]; done)), (by first | rfl | (simp; done) | (simp [*]; done)), (by first | rfl | (simp; done) | (simp [*]; done)), H', ⟨by have := HK1.out; have := HK2.out; have := HJ8.out; omega⟩, ⟨by (with_reducible repeat (first | apply Kd.R_alloc | apply Kd.R_drewN | apply Kd.R_drew)); exact HO_6.out⟩, ⟨by (with_reducible repeat (first | apply Kd.R_alloc | apply Kd.R_drewN | apply Kd.R_drew)); exact HO_8.out⟩, ⟨by (with_reducible repeat (first | apply Kd.R_alloc | apply Kd.R_drewN | apply Kd.R_drew)); exact HO_9.out⟩, ⟨by repeat (first | (with_reducible first | exact HB.out | apply below_alloc | apply pw_below_drewN | apply below_drew1) | exact HB.out)⟩⟩
                            · rw [if_neg c22] at H
                              exact absurd H (by simp)
                          · rw [if_neg c21] at H
                            exact absurd H (by simp)
                        · rw [if_neg c20] at H
                          exact absurd H (by simp)
                      · rw [if_neg c19] at H
                        exact absurd H (by simp)
                    · rw [if_neg c18] at H
                      exact absurd H (by simp)
                  · rw [if_neg c17] at H
                    exact absurd H (by simp)
                · replace c15 := Bool.eq_false_iff.mpr c15
                  subst c15
                  have H1 : (if x11_2 = 0 then (if 0 ≤ x10_1 then (if x10_1 < (a0.size : Int) then (if x6_1.length < 140737488355328 then (shackleref14_Expand.l0 kj8 a0 (x6_1 ++ [bt a0 x10_1]) x7_1 y133 y137 (wrap64 (x10_1 + 1))) else (none)) else (none)) else (none)) else (if 0 ≤ x12_2 then (if x12_2 < (y137.length : Int) then (if x6_1.length + (rdOf ByteArray.empty y137 x12_2).size < 140737488355328 then ((some (x6_1 ++ bytesOf (rdOf ByteArray.empty y137 x12_2) : List Int)).bind fun y144 => (if x7_1 = true then (shackleref14_Expand.l0 kj8 a0 y144 true y133 y137 (wrap64 (x10_1 + x11_2))) else (shackleref14_Expand.l0 kj8 a0 y144 (x12_2 == 0) y133 y137 (wrap64 (x10_1 + x11_2))))) else (none)) else (none)) else (none))) = some (r1, r2) := by rw [if_neg (show ¬ (false = true) by decide)] at H; exact H
                  clear H
                  have H := H1
                  clear H1
                  by_cases c38 : x11_2 = 0
                  · rw [if_pos c38] at H
                    have c38b0 : (x11_2 == 0) = true := beq_iff_eq.mpr c38
                    have c38b1 : (x11_2 != 0) = false := bne_eq_false_iff_eq.mpr c38
                    clear c38
                    by_cases c39 : 0 ≤ x10_1
                    · rw [if_pos c39] at H
                      have c39b0 : decide (0 ≤ x10_1) = true := decide_eq_true c39
                      clear c39
                      by_cases c40 : x10_1 < (a0.size : Int)
                      · rw [if_pos c40] at H
                        have c40b0 : decide (x10_1 < (a0.size : Int)) = true := decide_eq_true c40
                        clear c40
                        by_cases c42 : x6_1.length < 140737488355328
                        · rw [if_pos c42] at H
                          have LMc42 := Aside0.mk c42
                          clear c42
                          obtain ⟨y140, hy140⟩ : ∃ y_ : List Int, y_ = (x6_1 ++ [bt a0 x10_1]) := ⟨_, rfl⟩
                          replace H : (shackleref14_Expand.l0 kj8 a0 y140 x7_1 y133 y137 (wrap64 (x10_1 + 1))) = some (r1, r2) := by first | (rw [hy140]; with_reducible exact H) | (have H2_ := (Option.bind_some _ _).symm.trans H; rw [hy140]; with_reducible exact H2_) | (have H2_ := (Option.bind_some _ _).symm.trans H; with_reducible exact H2_) | with_reducible exact H | (rw [hy140]; exact H) | exact H
                          have Ny140 := Aside0.mk hy140
                          clear hy140
                          have H' := Aside0.mk H
                          clear H
                          have p41 : 0 ≤ (x10_1 : Int) := of_decide_eq_true (by first | (with_reducible assumption) | assumption)
                          have q41 : x10_1 < (a0.size : Int) := of_decide_eq_true (by first | (with_reducible assumption) | assumption)
                          have hx41 := bt_at a0 x10_1
                          replace p41 := eq_true p41
                          replace q41 := eq_true q41
                          go_wp2_with (first | ((with_reducible refine gate_builtin (b := .append) (xs := #[.tmp 96, .tmp 100]) rfl ?_); (try (refine gate_guard (by rfl) ?_; dsimp only)); at_builtin; refine Kd.R_append (Kd.int .u8) (w0 := w) w.heap.size rfl (.tmp 96) (.tmp 100) 35 5 (.int .u8 0) 1 rfl Try.underlying35 info5 rfl (by decide) (by omega) u6 x6_1 (bt a0 x10_1) [.int .u8 (bt a0 x10_1)] (fun _ => True) (fun _ => False) rfl rfl ?aP (fun _ hk => hk.elim) ?aF ?aO ?aB ?aS ?aL ?_; (case aP => exact rfl); (case aB => exact (by repeat (first | (with_reducible first | exact HB.out | apply below_alloc | apply pw_below_drewN | apply below_drew1) | exact HB.out))); (case aF => exact (fun _ _ => trivial)); (case aO => exact (by (with_reducible repeat (first | apply Kd.R_alloc | apply Kd.R_drewN | apply Kd.R_drew)); exact HO_6.out)); (case aS => exact (below_size (by repeat (first | (with_reducible first | exact HB.out | apply below_alloc | apply pw_below_drewN | apply below_drew1) | exact HB.out)))); (case aL => have := LMc42.out; omega); intro v141 w43 ho hb hg hat; rw [← Ny140.out] at ho; have n0_ := Aside0.mk (Kd.R_over' (by (with_reducible repeat (first | apply Kd.R_alloc | apply Kd.R_drewN | apply Kd.R_drew)); exact HO_8.out) (Kd.R_typed (by (with_reducible repeat (first | apply Kd.R_alloc | apply Kd.R_drewN | apply Kd.R_drew)); exact HO_6.out)) (by decide) hg); have n1_ := Aside0.mk (Kd.R_over' (by (with_reducible repeat (first | apply Kd.R_alloc | apply Kd.R_drewN | apply Kd.R_drew)); exact HO_9.out) (Kd.R_typed (by (with_reducible repeat (first | apply Kd.R_alloc | apply Kd.R_drewN | apply Kd.R_drew)); exact HO_6.out)) (by decide) hg); have n2_ := Aside0.mk (hb); have n3_ := Aside0.mk (ho); clear HO_8; clear HO_9; clear HB; clear HO_6; have HO_8 := n0_; have HO_9 := n1_; have HB := n2_; have HO142 := n3_; clear n0_ n1_ n2_ n3_; clear ho hb hg hat))
                          go_roundg kj8
                          case measure => have := HK1.out; have := HK2.out; have := HJ8.out; omega
                          case rel => exact ⟨(y140), (x7_1), (wrap64 (x10_1 + 1)), (by first | rfl | (simp; done) | (simp [*]; done)), (by first | rfl | (simp; done) | (simp [*]; done)), H', ⟨by have := HK1.out; have := HK2.out; have := HJ8.out; omega⟩, ⟨by (with_reducible repeat (first | apply Kd.R_alloc | apply Kd.R_drewN | apply Kd.R_drew)); exact HO142.out⟩, ⟨by (with_reducible repeat (first | apply Kd.R_alloc | apply Kd.R_drewN | apply Kd.R_drew)); exact HO_8.out⟩, ⟨by (with_reducible repeat (first | apply Kd.R_alloc | apply Kd.R_drewN | apply Kd.R_drew)); exact HO_9.out⟩, ⟨by repeat (first | (with_reducible first | exact HB.out | apply below_alloc | apply pw_below_drewN | apply below_drew1) | exact HB.out)⟩⟩
                        · rw [if_neg c42] at H
                          exact absurd H (by simp)
                      · rw [if_neg c40] at H
                        exact absurd H (by simp)
                    · rw [if_neg c39] at H
                      exact absurd H (by simp)
                  · rw [if_neg c38] at H
                    have c38b0 : (x11_2 == 0) = false := beq_eq_false_iff_ne.mpr c38
                    have c38b1 : (x11_2 != 0) = true := bne_iff_ne.mpr c38
                    by_cases c44 : 0 ≤ x12_2
                    · rw [if_pos c44] at H
                      have c44b0 : decide (0 ≤ x12_2) = true := decide_eq_true c44
                      clear c44
                      by_cases c45 : x12_2 < (y137.length : Int)
                      · rw [if_pos c45] at H
                        have c45b0 : decide (x12_2 < (y137.length : Int)) = true := decide_eq_true c45
                        clear c45
                        by_cases c46 : x6_1.length + (rdOf ByteArray.empty y137 x12_2).size < 140737488355328
                        · rw [if_pos c46] at H
                          have LMc46 := Aside0.mk c46
                          clear c46
                          obtain ⟨y144, hy144⟩ : ∃ y_ : List Int, y_ = (x6_1 ++ bytesOf (rdOf ByteArray.empty y137 x12_2)) := ⟨_, rfl⟩
                          replace H : (if x7_1 = true then (shackleref14_Expand.l0 kj8 a0 y144 true y133 y137 (wrap64 (x10_1 + x11_2))) else (shackleref14_Expand.l0 kj8 a0 y144 (x12_2 == 0) y133 y137 (wrap64 (x10_1 + x11_2)))) = some (r1, r2) := by first | (rw [hy144]; with_reducible exact H) | (have H2_ := (Option.bind_some _ _).symm.trans H; rw [hy144]; with_reducible exact H2_) | (have H2_ := (Option.bind_some _ _).symm.trans H; with_reducible exact H2_) | with_reducible exact H | (rw [hy144]; exact H) | exact H
                          have Ny144 := Aside0.mk hy144
                          clear hy144
                          by_cases c47 : x7_1 = true
                          · subst c47
                            have H1 : (shackleref14_Expand.l0 kj8 a0 y144 true y133 y137 (wrap64 (x10_1 + x11_2))) = some (r1, r2) := by rw [if_pos rfl] at H; exact H
                            clear H
                            have H := H1
                            clear H1
                            have H' := Aside0.mk H
                            clear H
                            obtain ⟨Ao48, co48, eo48⟩ := Kd.R_slice HO_9.out
                            subst eo48
                            have p143 : 0 ≤ (x12_2 : Int) := of_decide_eq_true (by first | (with_reducible assumption) | assumption)
                            have q143 : x12_2 < (y137.length : Int) := of_decide_eq_true (by first | (with_reducible assumption) | assumption)
                            obtain ⟨ad143, e143, hx143_0⟩ := Kd.at_string (Kd.R_reads' HO_9.out).2.2 x12_2 p143 q143
                            cases e143
                            replace p143 := eq_true p143
                            replace q143 := eq_true q143
                            go_wp2_with (first | (at_builtin; refine print_append_str (w0 := w) w.heap.size rfl (.tmp 104) _ 35 9 5 rfl Try.underlying35 Try.underlying9 info5 u6 x6_1 (rdOf ByteArray.empty y137 x12_2) rfl rfl ?aO ?aB ?aS ?aL ?_; (case aB => exact (by repeat (first | (with_reducible first | exact HB.out | apply below_alloc | apply pw_below_drewN | apply below_drew1) | exact HB.out))); (case aO => exact (Kd.own_of_R (by (with_reducible repeat (first | apply Kd.R_alloc | apply Kd.R_drewN | apply Kd.R_drew)); exact HO_6.out))); (case aS => exact (below_size (by repeat (first | (with_reducible first | exact HB.out | apply below_alloc | apply pw_below_drewN | apply below_drew1) | exact HB.out)))); (case aL => have := LMc46.out; omega); intro v145 w49 ho0 hb hg; have ho := Kd.R_of_own (h1 := fun _ => rfl) (ok := fun _ => True) ho0 (fun _ _ => trivial); clear ho0; have hat := True.intro; rw [← Ny144.out] at ho; change Kd.R (Kd.int .u8) 5 w49 w.heap.size (fun _ => True) v145 y144 at ho; have n0_ := Aside0.mk (Kd.R_over' (by (with_reducible repeat (first | apply Kd.R_alloc | apply Kd.R_drewN | apply Kd.R_drew)); exact HO_8.out) (Kd.R_typed (by (with_reducible repeat (first | apply Kd.R_alloc | apply Kd.R_drewN | apply Kd.R_drew)); exact HO_6.out)) (by decide) hg); have n1_ := Aside0.mk (Kd.R_over' (by (with_reducible repeat (first | apply Kd.R_alloc | apply Kd.R_drewN | apply Kd.R_drew)); exact HO_9.out) (Kd.R_typed (by (with_reducible repeat (first | apply Kd.R_alloc | apply Kd.R_drewN | apply Kd.R_drew)); exact HO_6.out)) (by decide) hg); have n2_ := Aside0.mk (hb); have n3_ := Aside0.mk (ho); clear HO_8; clear HO_9; clear HB; clear HO_6; have HO_8 := n0_; have HO_9 := n1_; have HB := n2_; have HO146 := n3_; clear n0_ n1_ n2_ n3_; clear ho hb hg hat))
                            go_roundg kj8
                            case measure => have := HK1.out; have := HK2.out; have := HJ8.out; omega
                            case rel => exact ⟨(y144), (true), (wrap64 (x10_1 + x11_2)), (by first | rfl | (simp; done) | (simp [*]; done)), (by first | rfl | (simp; done) | (simp [*]; done)), H', ⟨by have := HK1.out; have := HK2.out; have := HJ8.out; omega⟩, ⟨by (with_reducible repeat (first | apply Kd.R_alloc | apply Kd.R_drewN | apply Kd.R_drew)); exact HO146.out⟩, ⟨by (with_reducible repeat (first | apply Kd.R_alloc | apply Kd.R_drewN | apply Kd.R_drew)); exact HO_8.out⟩, ⟨by (with_reducible repeat (first | apply Kd.R_alloc | apply Kd.R_drewN | apply Kd.R_drew)); exact HO_9.out⟩, ⟨by repeat (first | (with_reducible first | exact HB.out | apply below_alloc | apply pw_below_drewN | apply below_drew1) | exact HB.out)⟩⟩
                          · replace c47 := Bool.eq_false_iff.mpr c47
                            subst c47
                            have H1 : (shackleref14_Expand.l0 kj8 a0 y144 (x12_2 == 0) y133 y137 (wrap64 (x10_1 + x11_2))) = some (r1, r2) := by rw [if_neg (show ¬ (false = true) by decide)] at H; exact H
                            clear H
                            have H := H1
                            clear H1
                            have H' := Aside0.mk H
                            clear H
                            obtain ⟨Ao50, co50, eo50⟩ := Kd.R_slice HO_9.out
                            subst eo50
                            have p143 : 0 ≤ (x12_2 : Int) := of_decide_eq_true (by first | (with_reducible assumption) | assumption)
                            have q143 : x12_2 < (y137.length : Int) := of_decide_eq_true (by first | (with_reducible assumption) | assumption)
                            obtain ⟨ad143, e143, hx143_0⟩ := Kd.at_string (Kd.R_reads' HO_9.out).2.2 x12_2 p143 q143
                            cases e143
                            replace p143 := eq_true p143
                            replace q143 := eq_true q143
                            go_wp2_with (first | (at_builtin; refine print_append_str (w0 := w) w.heap.size rfl (.tmp 104) _ 35 9 5 rfl Try.underlying35 Try.underlying9 info5 u6 x6_1 (rdOf ByteArray.empty y137 x12_2) rfl rfl ?aO ?aB ?aS ?aL ?_; (case aB => exact (by repeat (first | (with_reducible first | exact HB.out | apply below_alloc | apply pw_below_drewN | apply below_drew1) | exact HB.out))); (case aO => exact (Kd.own_of_R (by (with_reducible repeat (first | apply Kd.R_alloc | apply Kd.R_drewN | apply Kd.R_drew)); exact HO_6.out))); (case aS => exact (below_size (by repeat (first | (with_reducible first | exact HB.out | apply below_alloc | apply pw_below_drewN | apply below_drew1) | exact HB.out)))); (case aL => have := LMc46.out; omega); intro v145 w51 ho0 hb hg; have ho := Kd.R_of_own (h1 := fun _ => rfl) (ok := fun _ => True) ho0 (fun _ _ => trivial); clear ho0; have hat := True.intro; rw [← Ny144.out] at ho; change Kd.R (Kd.int .u8) 5 w51 w.heap.size (fun _ => True) v145 y144 at ho; have n0_ := Aside0.mk (Kd.R_over' (by (with_reducible repeat (first | apply Kd.R_alloc | apply Kd.R_drewN | apply Kd.R_drew)); exact HO_8.out) (Kd.R_typed (by (with_reducible repeat (first | apply Kd.R_alloc | apply Kd.R_drewN | apply Kd.R_drew)); exact HO_6.out)) (by decide) hg); have n1_ := Aside0.mk (Kd.R_over' (by (with_reducible repeat (first | apply Kd.R_alloc | apply Kd.R_drewN | apply Kd.R_drew)); exact HO_9.out) (Kd.R_typed (by (with_reducible repeat (first | apply Kd.R_alloc | apply Kd.R_drewN | apply Kd.R_drew)); exact HO_6.out)) (by decide) hg); have n2_ := Aside0.mk (hb); have n3_ := Aside0.mk (ho); clear HO_8; clear HO_9; clear HB; clear HO_6; have HO_8 := n0_; have HO_9 := n1_; have HB := n2_; have HO146 := n3_; clear n0_ n1_ n2_ n3_; clear ho hb hg hat))
                            go_roundg kj8
                            case measure => have := HK1.out; have := HK2.out; have := HJ8.out; omega
                            case rel => exact ⟨(y144), ((x12_2 == 0)), (wrap64 (x10_1 + x11_2)), (by first | rfl | (simp; done) | (simp [*]; done)), (by first | rfl | (simp; done) | (simp [*]; done)), H', ⟨by have := HK1.out; have := HK2.out; have := HJ8.out; omega⟩, ⟨by (with_reducible repeat (first | apply Kd.R_alloc | apply Kd.R_drewN | apply Kd.R_drew)); exact HO146.out⟩, ⟨by (with_reducible repeat (first | apply Kd.R_alloc | apply Kd.R_drewN | apply Kd.R_drew)); exact HO_8.out⟩, ⟨by (with_reducible repeat (first | apply Kd.R_alloc | apply Kd.R_drewN | apply Kd.R_drew)); exact HO_9.out⟩, ⟨by repeat (first | (with_reducible first | exact HB.out | apply below_alloc | apply pw_below_drewN | apply below_drew1) | exact HB.out)⟩⟩
                        · rw [if_neg c46] at H
                          exact absurd H (by simp)
                      · rw [if_neg c45] at H
                        exact absurd H (by simp)
                    · rw [if_neg c44] at H
                      exact absurd H (by simp)
      · rw [if_neg c8] at H
        have c8b0 : decide (x10_1 < (a0.size : Int)) = false := decide_eq_false c8
        clear c8
        simp only [Option.some.injEq, Prod.mk.injEq] at H
        obtain ⟨rfl, rfl⟩ := H
        have hcv52 := own_string (P := Try.prog) Try.underlying35 Try.underlying5 Try.underlying9 (Kd.own_of_R HO_6.out)
        go_wp2
        go_ret2
        exact ⟨by first | rfl | (simp [errW_none, errW_some] <;> rfl) | (simp [*, errW_none, errW_some] <;> rfl), by repeat (first | (with_reducible first | exact HB.out | apply below_alloc | apply pw_below_drewN | apply below_drew1) | exact HB.out)⟩

end Go.Proofs.Ytjbndfogjmfbhaa.PSearchDirs
