/- Printed by this session's own program (wip/tools: a turn of the kit's print) out of the translation: each Go function that the law reaches as a Lean function, and that the machine's call comes to what that function tells; no condition but what each theorem names. -/
import Derived.Test.YtjbndfogjmfbhaaPSearchDirsx0
import Derived.Test.YtjbndfogjmfbhaaPSearchDirsx6
namespace Go.Proofs.Ytjbndfogjmfbhaa.PSearchDirs
open Go.RowKit Go.Proofs.YtjbndfogjmfbhaaW.PrintWords Go.Proofs.YtjbndfogjmfbhaaW.PrintLast Go.Proofs.YtjbndfogjmfbhaaW.PrintMore Go.Proofs.YtjbndfogjmfbhaaX
attribute [local go_sem] max2_int min2_int max_two min_two max_three min_three max_four min_four   -- for this text's walks alone
set_option linter.unusedVariables false
set_option linter.unusedSimpArgs false

/-! ### shackleref14_Dirs: function 8 -/
mutual
def shackleref14_Dirs.j0 : Nat → List ByteArray → Int → Bool → ByteArray → List (S58) → ByteArray → Bool → Option (List ByteArray)
  | 0, _, _, _, _, _, _, _ => none
  | k + 1, x3, x4, x19, x169000, x169001, x169002, x169003 => if x19 = true then (shackleref14_Dirs.l0 k x3 x4 0 x169000 x169001 x169002 x169003) else (shackleref14_Dirs.j2 k x3 x4 x169000 x169001 x169002 x169003)
def shackleref14_Dirs.j2 : Nat → List ByteArray → Int → ByteArray → List (S58) → ByteArray → Bool → Option (List ByteArray)
  | 0, _, _, _, _, _, _ => none
  | k + 1, x3, x4, x169000, x169001, x169002, x169003 => if x169003 = true then (shackleref14_Dirs.j3 k x3 x4 false x169000 x169001 x169002 x169003) else (shackleref14_Dirs.j3 k x3 x4 (x169002.toList != ([] : List UInt8)) x169000 x169001 x169002 x169003)
def shackleref14_Dirs.j3 : Nat → List ByteArray → Int → Bool → ByteArray → List (S58) → ByteArray → Bool → Option (List ByteArray)
  | 0, _, _, _, _, _, _, _ => none
  | k + 1, x3, x4, x63, x169000, x169001, x169002, x169003 => if x63 = true then (if x4 > 0 then (if 0 ≤ (wrap64 (x4 - 1)) then (if (wrap64 (x4 - 1)) < (x169001.length : Int) then ((shackleref14_lay.f k x3 x169002 (⟨#[58, 59]⟩ : ByteArray) ((rd_T58 x169001 (wrap64 (x4 - 1))).f0) false).bind fun t178 => (shackleref14_Dirs.j4 k t178 x4 x169000 x169001 x169002 x169003)) else (none)) else (none)) else ((shackleref14_lay.f k x3 x169002 (⟨#[58, 59]⟩ : ByteArray) (⟨#[]⟩ : ByteArray) false).bind fun t181 => (shackleref14_Dirs.j4 k t181 x4 x169000 x169001 x169002 x169003))) else (shackleref14_Dirs.j4 k x3 x4 x169000 x169001 x169002 x169003)
def shackleref14_Dirs.j4 : Nat → List ByteArray → Int → ByteArray → List (S58) → ByteArray → Bool → Option (List ByteArray)
  | 0, _, _, _, _, _, _ => none
  | k + 1, x3, x4, x169000, x169001, x169002, x169003 => if x4 > 0 then (if 0 < (x169001.length : Int) then (shackleref14_Dirs.j5 k x3 ((rd_T58 x169001 0).f4) x169000 x169001 x169002 x169003) else (none)) else (shackleref14_Dirs.j5 k x3 false x169000 x169001 x169002 x169003)
def shackleref14_Dirs.j5 : Nat → List ByteArray → Bool → ByteArray → List (S58) → ByteArray → Bool → Option (List ByteArray)
  | 0, _, _, _, _, _, _ => none
  | k + 1, x3, x86, x169000, x169001, x169002, x169003 => if x86 = true then (if 0 < (x169001.length : Int) then ((shackleref14_lay.f k x3 ((rd_T58 x169001 0).f2) (⟨#[58]⟩ : ByteArray) ((rd_T58 x169001 0).f0) x169003).bind fun t187 => ((shackleref14_lay.f k t187 (⟨#[47, 108, 105, 98, 54, 52, 58, 47, 117, 115, 114, 47, 108, 105, 98, 54, 52]⟩ : ByteArray) (⟨#[58]⟩ : ByteArray) (⟨#[]⟩ : ByteArray) false).bind fun t190 => (some t190))) else (none)) else ((shackleref14_lay.f k x3 (⟨#[47, 108, 105, 98, 54, 52, 58, 47, 117, 115, 114, 47, 108, 105, 98, 54, 52]⟩ : ByteArray) (⟨#[58]⟩ : ByteArray) (⟨#[]⟩ : ByteArray) false).bind fun t193 => (some t193))
def shackleref14_Dirs.l0 : Nat → List ByteArray → Int → Int → ByteArray → List (S58) → ByteArray → Bool → Option (List ByteArray)
  | 0, _, _, _, _, _, _, _ => none
  | k + 1, x3, x4, x5, x169000, x169001, x169002, x169003 => if x5 < x4 then (if 0 ≤ x5 then (if x5 < (x169001.length : Int) then (if (rd_T58 x169001 x5).f3 = true then (if ((rd_T58 x169001 x5).f4 = true) then (shackleref14_Dirs.l0 k x3 x4 (wrap64 (x5 + 1)) x169000 x169001 x169002 x169003) else ((shackleref14_lay.f k x3 ((rd_T58 x169001 x5).f1) (⟨#[58]⟩ : ByteArray) ((rd_T58 x169001 x5).f0) x169003).bind fun t174 => (shackleref14_Dirs.l0 k t174 x4 (wrap64 (x5 + 1)) x169000 x169001 x169002 x169003))) else (shackleref14_Dirs.l0 k x3 x4 (wrap64 (x5 + 1)) x169000 x169001 x169002 x169003)) else (none)) else (none)) else (shackleref14_Dirs.j2 k x3 x4 x169000 x169001 x169002 x169003)
end
def shackleref14_Dirs.f (k : Nat) (a0_0 : ByteArray) (l0_1 : List (S58)) (a0_2 : ByteArray) (a0_3 : Bool) : Option (List ByteArray) := if (l0_1.length : Int) > 0 then (if 0 < (l0_1.length : Int) then (shackleref14_Dirs.j0 k ([] : List ByteArray) (l0_1.length : Int) (!((rd_T58 l0_1 0).f4)) a0_0 l0_1 a0_2 a0_3) else (none)) else (shackleref14_Dirs.j0 k ([] : List ByteArray) (l0_1.length : Int) false a0_0 l0_1 a0_2 a0_3)
theorem shackleref14_Dirs.mono_l : ∀ k, (∀ y0 y1 y2 y3 y4 y5 y6, LeO (shackleref14_Dirs.j0 k y0 y1 y2 y3 y4 y5 y6) (shackleref14_Dirs.j0 (k + 1) y0 y1 y2 y3 y4 y5 y6)) ∧ (∀ y0 y1 y2 y3 y4 y5, LeO (shackleref14_Dirs.j2 k y0 y1 y2 y3 y4 y5) (shackleref14_Dirs.j2 (k + 1) y0 y1 y2 y3 y4 y5)) ∧ (∀ y0 y1 y2 y3 y4 y5 y6, LeO (shackleref14_Dirs.j3 k y0 y1 y2 y3 y4 y5 y6) (shackleref14_Dirs.j3 (k + 1) y0 y1 y2 y3 y4 y5 y6)) ∧ (∀ y0 y1 y2 y3 y4 y5, LeO (shackleref14_Dirs.j4 k y0 y1 y2 y3 y4 y5) (shackleref14_Dirs.j4 (k + 1) y0 y1 y2 y3 y4 y5)) ∧ (∀ y0 y1 y2 y3 y4 y5, LeO (shackleref14_Dirs.j5 k y0 y1 y2 y3 y4 y5) (shackleref14_Dirs.j5 (k + 1) y0 y1 y2 y3 y4 y5)) ∧ (∀ y0 y1 y2 y3 y4 y5 y6, LeO (shackleref14_Dirs.l0 k y0 y1 y2 y3 y4 y5 y6) (shackleref14_Dirs.l0 (k + 1) y0 y1 y2 y3 y4 y5 y6))
  | 0 => ⟨fun _ _ _ _ _ _ _ r h => by simp [shackleref14_Dirs.j0] at h, fun _ _ _ _ _ _ r h => by simp [shackleref14_Dirs.j2] at h, fun _ _ _ _ _ _ _ r h => by simp [shackleref14_Dirs.j3] at h, fun _ _ _ _ _ _ r h => by simp [shackleref14_Dirs.j4] at h, fun _ _ _ _ _ _ r h => by simp [shackleref14_Dirs.j5] at h, fun _ _ _ _ _ _ _ r h => by simp [shackleref14_Dirs.l0] at h⟩
  | k + 1 => by
    obtain ⟨ih0, ih1, ih2, ih3, ih4, ih5⟩ := shackleref14_Dirs.mono_l k
    refine ⟨?_, ?_, ?_, ?_, ?_, ?_⟩
    · intro y0 y1 y2 y3 y4 y5 y6
      unfold shackleref14_Dirs.j0
      repeat' first
      | (with_reducible exact ih0 _ _ _ _ _ _ _)
      | (with_reducible exact ih1 _ _ _ _ _ _)
      | (with_reducible exact ih2 _ _ _ _ _ _ _)
      | (with_reducible exact ih3 _ _ _ _ _ _)
      | (with_reducible exact ih4 _ _ _ _ _ _)
      | (with_reducible exact ih5 _ _ _ _ _ _ _)
      | (with_reducible exact shackleref14_lay.mono _ _ _ _ _ _)
      | (with_reducible exact LeO.refl _)
      | (with_reducible exact LeO.none _)
      | (with_reducible refine LeO.ite ?_ ?_)
      | (with_reducible refine LeO.bind ?_ (fun _ => ?_))
      | exact ih0 _ _ _ _ _ _ _
      | exact ih1 _ _ _ _ _ _
      | exact ih2 _ _ _ _ _ _ _
      | exact ih3 _ _ _ _ _ _
      | exact ih4 _ _ _ _ _ _
      | exact ih5 _ _ _ _ _ _ _
      | exact shackleref14_lay.mono _ _ _ _ _ _
      | exact LeO.none _
      | refine LeO.ite ?_ ?_
      | refine LeO.bind ?_ (fun _ => ?_)
    · intro y0 y1 y2 y3 y4 y5
      unfold shackleref14_Dirs.j2
      repeat' first
      | (with_reducible exact ih0 _ _ _ _ _ _ _)
      | (with_reducible exact ih1 _ _ _ _ _ _)
      | (with_reducible exact ih2 _ _ _ _ _ _ _)
      | (with_reducible exact ih3 _ _ _ _ _ _)
      | (with_reducible exact ih4 _ _ _ _ _ _)
      | (with_reducible exact ih5 _ _ _ _ _ _ _)
      | (with_reducible exact shackleref14_lay.mono _ _ _ _ _ _)
      | (with_reducible exact LeO.refl _)
      | (with_reducible exact LeO.none _)
      | (with_reducible refine LeO.ite ?_ ?_)
      | (with_reducible refine LeO.bind ?_ (fun _ => ?_))
      | exact ih0 _ _ _ _ _ _ _
      | exact ih1 _ _ _ _ _ _
      | exact ih2 _ _ _ _ _ _ _
      | exact ih3 _ _ _ _ _ _
      | exact ih4 _ _ _ _ _ _
      | exact ih5 _ _ _ _ _ _ _
      | exact shackleref14_lay.mono _ _ _ _ _ _
      | exact LeO.none _
      | refine LeO.ite ?_ ?_
      | refine LeO.bind ?_ (fun _ => ?_)
    · intro y0 y1 y2 y3 y4 y5 y6
      unfold shackleref14_Dirs.j3
      repeat' first
      | (with_reducible exact ih0 _ _ _ _ _ _ _)
      | (with_reducible exact ih1 _ _ _ _ _ _)
      | (with_reducible exact ih2 _ _ _ _ _ _ _)
      | (with_reducible exact ih3 _ _ _ _ _ _)
      | (with_reducible exact ih4 _ _ _ _ _ _)
      | (with_reducible exact ih5 _ _ _ _ _ _ _)
      | (with_reducible exact shackleref14_lay.mono _ _ _ _ _ _)
      | (with_reducible exact LeO.refl _)
      | (with_reducible exact LeO.none _)
      | (with_reducible refine LeO.ite ?_ ?_)
      | (with_reducible refine LeO.bind ?_ (fun _ => ?_))
      | exact ih0 _ _ _ _ _ _ _
      | exact ih1 _ _ _ _ _ _
      | exact ih2 _ _ _ _ _ _ _
      | exact ih3 _ _ _ _ _ _
      | exact ih4 _ _ _ _ _ _
      | exact ih5 _ _ _ _ _ _ _
      | exact shackleref14_lay.mono _ _ _ _ _ _
      | exact LeO.none _
      | refine LeO.ite ?_ ?_
      | refine LeO.bind ?_ (fun _ => ?_)
    · intro y0 y1 y2 y3 y4 y5
      unfold shackleref14_Dirs.j4
      repeat' first
      | (with_reducible exact ih0 _ _ _ _ _ _ _)
      | (with_reducible exact ih1 _ _ _ _ _ _)
      | (with_reducible exact ih2 _ _ _ _ _ _ _)
      | (with_reducible exact ih3 _ _ _ _ _ _)
      | (with_reducible exact ih4 _ _ _ _ _ _)
      | (with_reducible exact ih5 _ _ _ _ _ _ _)
      | (with_reducible exact shackleref14_lay.mono _ _ _ _ _ _)
      | (with_reducible exact LeO.refl _)
      | (with_reducible exact LeO.none _)
      | (with_reducible refine LeO.ite ?_ ?_)
      | (with_reducible refine LeO.bind ?_ (fun _ => ?_))
      | exact ih0 _ _ _ _ _ _ _
      | exact ih1 _ _ _ _ _ _
      | exact ih2 _ _ _ _ _ _ _
      | exact ih3 _ _ _ _ _ _
      | exact ih4 _ _ _ _ _ _
      | exact ih5 _ _ _ _ _ _ _
      | exact shackleref14_lay.mono _ _ _ _ _ _
      | exact LeO.none _
      | refine LeO.ite ?_ ?_
      | refine LeO.bind ?_ (fun _ => ?_)
    · intro y0 y1 y2 y3 y4 y5
      unfold shackleref14_Dirs.j5
      repeat' first
      | (with_reducible exact ih0 _ _ _ _ _ _ _)
      | (with_reducible exact ih1 _ _ _ _ _ _)
      | (with_reducible exact ih2 _ _ _ _ _ _ _)
      | (with_reducible exact ih3 _ _ _ _ _ _)
      | (with_reducible exact ih4 _ _ _ _ _ _)
      | (with_reducible exact ih5 _ _ _ _ _ _ _)
      | (with_reducible exact shackleref14_lay.mono _ _ _ _ _ _)
      | (with_reducible exact LeO.refl _)
      | (with_reducible exact LeO.none _)
      | (with_reducible refine LeO.ite ?_ ?_)
      | (with_reducible refine LeO.bind ?_ (fun _ => ?_))
      | exact ih0 _ _ _ _ _ _ _
      | exact ih1 _ _ _ _ _ _
      | exact ih2 _ _ _ _ _ _ _
      | exact ih3 _ _ _ _ _ _
      | exact ih4 _ _ _ _ _ _
      | exact ih5 _ _ _ _ _ _ _
      | exact shackleref14_lay.mono _ _ _ _ _ _
      | exact LeO.none _
      | refine LeO.ite ?_ ?_
      | refine LeO.bind ?_ (fun _ => ?_)
    · intro y0 y1 y2 y3 y4 y5 y6
      unfold shackleref14_Dirs.l0
      repeat' first
      | (with_reducible exact ih0 _ _ _ _ _ _ _)
      | (with_reducible exact ih1 _ _ _ _ _ _)
      | (with_reducible exact ih2 _ _ _ _ _ _ _)
      | (with_reducible exact ih3 _ _ _ _ _ _)
      | (with_reducible exact ih4 _ _ _ _ _ _)
      | (with_reducible exact ih5 _ _ _ _ _ _ _)
      | (with_reducible exact shackleref14_lay.mono _ _ _ _ _ _)
      | (with_reducible exact LeO.refl _)
      | (with_reducible exact LeO.none _)
      | (with_reducible refine LeO.ite ?_ ?_)
      | (with_reducible refine LeO.bind ?_ (fun _ => ?_))
      | exact ih0 _ _ _ _ _ _ _
      | exact ih1 _ _ _ _ _ _
      | exact ih2 _ _ _ _ _ _ _
      | exact ih3 _ _ _ _ _ _
      | exact ih4 _ _ _ _ _ _
      | exact ih5 _ _ _ _ _ _ _
      | exact shackleref14_lay.mono _ _ _ _ _ _
      | exact LeO.none _
      | refine LeO.ite ?_ ?_
      | refine LeO.bind ?_ (fun _ => ?_)
theorem shackleref14_Dirs.mono : ∀ a0 a1 a2 a3 k, LeO (shackleref14_Dirs.f k a0 a1 a2 a3) (shackleref14_Dirs.f (k + 1) a0 a1 a2 a3) := by
  intro a0 a1 a2 a3 k
  obtain ⟨ih0, ih1, ih2, ih3, ih4, ih5⟩ := shackleref14_Dirs.mono_l k
  unfold shackleref14_Dirs.f
  repeat' first
      | (with_reducible exact ih0 _ _ _ _ _ _ _)
      | (with_reducible exact ih1 _ _ _ _ _ _)
      | (with_reducible exact ih2 _ _ _ _ _ _ _)
      | (with_reducible exact ih3 _ _ _ _ _ _)
      | (with_reducible exact ih4 _ _ _ _ _ _)
      | (with_reducible exact ih5 _ _ _ _ _ _ _)
      | (with_reducible exact shackleref14_lay.mono _ _ _ _ _ _)
      | (with_reducible exact LeO.refl _)
      | (with_reducible exact LeO.none _)
      | (with_reducible refine LeO.ite ?_ ?_)
      | (with_reducible refine LeO.bind ?_ (fun _ => ?_))
      | exact ih0 _ _ _ _ _ _ _
      | exact ih1 _ _ _ _ _ _
      | exact ih2 _ _ _ _ _ _ _
      | exact ih3 _ _ _ _ _ _
      | exact ih4 _ _ _ _ _ _
      | exact ih5 _ _ _ _ _ _ _
      | exact shackleref14_lay.mono _ _ _ _ _ _
      | exact LeO.none _
      | refine LeO.ite ?_ ?_
      | refine LeO.bind ?_ (fun _ => ?_)
def shackleref14_Dirs.T8 : Bool × List (List Nat × List Nat) := (true, [([], []), ([], []), ([1], [1]), ([], []), ([2, 3], [2, 3]), ([4], [4]), ([5], [5]), ([], []), ([7], [7]), ([], []), ([8, 9], [8, 9]), ([10], [10]), ([11], [11]), ([], []), ([13], [13]), ([0, 6, 12, 14], [0, 6, 12, 14]), ([15, 15, 0, 1, 2, 3, 4, 5, 6, 7, 8, 9, 10, 11, 12, 13, 14, 15], [0, 15])])
def shackleref14_Dirs.B8 : List Nat := [0, 0, 2, 0, 14, 30, 62, 0, 128, 0, 896, 1920, 3968, 0, 8192, 32767, 65535]
theorem shackleref14_Dirs.tab8 : rtab .any (opsOf Try.f8 8) = shackleref14_Dirs.T8 := by kernel_rfl
theorem shackleref14_Dirs.bits8 : waitsOk shackleref14_Dirs.T8.2 shackleref14_Dirs.B8 = true := by kernel_rfl
def shackleref14_Dirs.T15 : Bool × List (List Nat × List Nat) := (true, [([], []), ([], []), ([1], [1]), ([2], [2]), ([3], [3]), ([4], [4]), ([], []), ([6], [6]), ([7], [7]), ([8], [8]), ([9], [9]), ([], []), ([11], [11]), ([0, 5, 10, 12], [0, 5, 10, 12]), ([13, 13, 0, 1, 2, 3, 4, 5, 6, 7, 8, 9, 10, 11, 12, 13], [0, 13])])
def shackleref14_Dirs.B15 : List Nat := [0, 0, 2, 6, 14, 30, 0, 64, 192, 448, 960, 0, 2048, 8191, 16383]
theorem shackleref14_Dirs.tab15 : rtab .any (opsOf Try.f8 15) = shackleref14_Dirs.T15 := by kernel_rfl
theorem shackleref14_Dirs.bits15 : waitsOk shackleref14_Dirs.T15.2 shackleref14_Dirs.B15 = true := by kernel_rfl
set_option maxHeartbeats 8000000 in
set_option maxRecDepth 100000 in
theorem shackleref14_Dirs.calls (k : Nat) (a0_0 : ByteArray) (A0_1 : Option Addr) (c0_1 : Nat) (l0_1 : List (S58)) (a0_2 : ByteArray) (a0_3 : Bool) (r : List ByteArray) (w : World) (hr0_1 : Kd.C k58 w A0_1 l0_1.length l0_1) (hc0_1 : l0_1.length ≤ c0_1) (h : shackleref14_Dirs.f k a0_0 l0_1 a0_2 a0_3 = some r) :
    Calls Try.prog 8 #[.agg #[.string a0_0, .slice A0_1 l0_1.length c0_1, .string a0_2, .bool a0_3]] w fun e w' => ∃ v0_ : Value, e = .returned (v0_) ∧ Kd.R Kd.string 9 w' w.heap.size (fun _ => True) v0_ r ∧ Below w.heap.size w w' := by
  have hu24 := Try.underlying24
  have HR0_1 := Aside0.mk hr0_1
  have HC0_1 := Aside0.mk hc0_1
  clear hr0_1 hc0_1
  have HB := Aside0.mk (Below.refl w.heap.size w)
  have H : (if (l0_1.length : Int) > 0 then (if 0 < (l0_1.length : Int) then (shackleref14_Dirs.j0 k ([] : List ByteArray) (l0_1.length : Int) (!((rd_T58 l0_1 0).f4)) a0_0 l0_1 a0_2 a0_3) else (none)) else (shackleref14_Dirs.j0 k ([] : List ByteArray) (l0_1.length : Int) false a0_0 l0_1 a0_2 a0_3)) = some r := h
  clear h
  have HC2 := Aside0.mk H
  clear H
  go_enter Try.func8, Try.ntmps8
  go_upto_region 3 with (first | ((with_reducible refine gate_dst (N := 1) rfl ?_); refine box_event ?hg (N := 1) ?hd (cs := #[.string a0_0, .slice A0_1 l0_1.length c0_1, .string a0_2, .bool a0_3]) (t := 24) ?hr ?_; (case hd => rfl); (case hg => rfl); (case hr => first | (go_simp; done) | (go_simp; rfl)); intro gb168 hg w3 hbox hb; have n0_ := Aside0.mk (below_step (by repeat (first | (with_reducible first | exact HB.out | apply below_alloc | apply pw_below_drewN | apply below_drew1) | exact HB.out)) hb); have n1_ := Aside0.mk (hbox); have n2_ := Aside0.mk ((by rw [hg]; exact (below_size (by repeat (first | (with_reducible first | exact HB.out | apply below_alloc | apply pw_below_drewN | apply below_drew1) | exact HB.out))) : w.heap.size ≤ gb168)); have n3_ := Aside0.mk ((by rw [hg]; exact (below_size (by repeat (first | (with_reducible first | exact HB.out | apply below_alloc | apply pw_below_drewN | apply below_drew1) | exact HB.out))) : w.heap.size ≤ gb168)); clear HB; have HB := n0_; have BK168 := n1_; have GW168 := n2_; have GE168 := n3_; clear n0_ n1_ n2_ n3_; clear hb hbox hg; have hcz4_0 : w3.cell? ⟨gb168, 0, none⟩ = some (.string a0_0) := (blk_cell BK168.out 0).trans rfl; have hcz4_1 : w3.cell? ⟨gb168, 1, none⟩ = some (.slice A0_1 l0_1.length c0_1) := (blk_cell BK168.out 1).trans rfl; have hcz4_2 : w3.cell? ⟨gb168, 2, none⟩ = some (.string a0_2) := (blk_cell BK168.out 2).trans rfl; have hcz4_3 : w3.cell? ⟨gb168, 3, none⟩ = some (.bool a0_3) := (blk_cell BK168.out 3).trans rfl; have hfz4_0 := blk_frozen BK168.out 0; have hfz4_1 := blk_frozen BK168.out 1; have hfz4_2 := blk_frozen BK168.out 2; have hfz4_3 := blk_frozen BK168.out 3))
  (try simp only [Act.put, List.setIfInBounds_toArray, List.set_cons_zero, List.set_cons_succ])
  go_cut [19] (fun v19 wc => ∃ (kq : Nat) (x19_1 : Bool), v19 = .bool x19_1 ∧ Aside0 (shackleref14_Dirs.j0 kq ([] : List ByteArray) (l0_1.length : Int) x19_1 a0_0 l0_1 a0_2 a0_3 = some r) ∧ Aside0 (kq ≤ k) ∧ Aside0 (Kd.R Kd.string 9 wc w.heap.size (fun _ => True) (.slice none 0 0) ([] : List ByteArray)) ∧ Aside0 (wc.heap[gb168]? = some (.cells #[.string a0_0, (.slice A0_1 l0_1.length c0_1), .string a0_2, .bool a0_3] 24 (0, 0))) ∧ Aside0 (Below w.heap.size w wc))
  case first =>
    have H := HC2.out
    clear HC2
    by_cases c5 : (l0_1.length : Int) > 0
    · rw [if_pos c5] at H
      have c5b0 : decide (0 < (l0_1.length : Int)) = true := decide_eq_true c5
      have c5b1 : decide (0 < l0_1.length) = true := decide_eq_true (by omega)
      clear c5
      (first | rw [c5b0] | (simp only [i64_w, i32_w]; rw [c5b0]) | skip)
      by_cases c6 : 0 < (l0_1.length : Int)
      · rw [if_pos c6] at H
        have c6b0 : decide (0 < (l0_1.length : Int)) = true := decide_eq_true c6
        have c6b1 : decide (0 < l0_1.length) = true := decide_eq_true (by omega)
        clear c6
        have H' := Aside0.mk H
        clear H
        have hcz7_0 : w3.cell? ⟨gb168, 0, none⟩ = some (.string a0_0) := (blk_cell BK168.out 0).trans rfl
        have hcz7_1 : w3.cell? ⟨gb168, 1, none⟩ = some (.slice A0_1 l0_1.length c0_1) := (blk_cell BK168.out 1).trans rfl
        have hcz7_2 : w3.cell? ⟨gb168, 2, none⟩ = some (.string a0_2) := (blk_cell BK168.out 2).trans rfl
        have hcz7_3 : w3.cell? ⟨gb168, 3, none⟩ = some (.bool a0_3) := (blk_cell BK168.out 3).trans rfl
        have hfz7_0 := blk_frozen BK168.out 0
        have hfz7_1 := blk_frozen BK168.out 1
        have hfz7_2 := blk_frozen BK168.out 2
        have hfz7_3 := blk_frozen BK168.out 3
        have p169 : 0 ≤ (0 : Int) := (by omega)
        have q169 : 0 < (l0_1.length : Int) := of_decide_eq_true (by first | (with_reducible assumption) | assumption)
        obtain ⟨ad169, e169, hx169_0, hx169_1, hx169_2, hx169_3, hx169_4⟩ := at_T58 HR0_1.out 0 p169 q169
        cases e169
        have qi169 : (0 < l0_1.length) = True := eq_true (by omega)
        (try rw [show ((0 : Int)).toNat = 0 from rfl] at hx169_0)
        (try rw [show 0 * 5 = 0 from rfl] at hx169_0)
        (try rw [Addr.add_zero'] at hx169_0)
        (try rw [show ((0 : Int)).toNat = 0 from rfl] at hx169_1)
        (try rw [show 0 * 5 = 0 from rfl] at hx169_1)
        (try rw [Addr.add_zero'] at hx169_1)
        (try rw [show ((0 : Int)).toNat = 0 from rfl] at hx169_2)
        (try rw [show 0 * 5 = 0 from rfl] at hx169_2)
        (try rw [Addr.add_zero'] at hx169_2)
        (try rw [show ((0 : Int)).toNat = 0 from rfl] at hx169_3)
        (try rw [show 0 * 5 = 0 from rfl] at hx169_3)
        (try rw [Addr.add_zero'] at hx169_3)
        (try rw [show ((0 : Int)).toNat = 0 from rfl] at hx169_4)
        (try rw [show 0 * 5 = 0 from rfl] at hx169_4)
        (try rw [Addr.add_zero'] at hx169_4)
        replace hx169_0 := (HB.out.cell (World.block_lt_of_cell? w _ hx169_0)).trans hx169_0
        replace hx169_1 := (HB.out.cell (World.block_lt_of_cell? w _ hx169_1)).trans hx169_1
        replace hx169_2 := (HB.out.cell (World.block_lt_of_cell? w _ hx169_2)).trans hx169_2
        replace hx169_3 := (HB.out.cell (World.block_lt_of_cell? w _ hx169_3)).trans hx169_3
        replace hx169_4 := (HB.out.cell (World.block_lt_of_cell? w _ hx169_4)).trans hx169_4
        replace p169 := eq_true p169
        replace q169 := eq_true q169
        go_wp2
        go_meet
        case rel => exact ⟨_, (!((rd_T58 l0_1 0).f4)), (by first | rfl | (simp; done) | (simp [*]; done)), H', ⟨by first | omega | exact Nat.le_refl _⟩, ⟨by first | exact Kd.R_nil _ _ _ _ _ | exact Kd.N_nil _ _ _ _ _ | exact Kd.V_nil _ _ _ _ _ | exact Kd.Q_nil _ _ _ _ _ | exact Kd.S_nil _ _ _ _ _⟩, ⟨by (with_reducible repeat (first | refine blk_drewN ?_ _ | refine blk_drew ?_ | refine blk_alloc ?_ _)); exact BK168.out⟩, ⟨by repeat (first | (with_reducible first | exact HB.out | apply below_alloc | apply pw_below_drewN | apply below_drew1 | refine below_set ?_ GE168.out) | exact HB.out)⟩⟩
      · rw [if_neg c6] at H
        exact absurd H (by simp)
    · rw [if_neg c5] at H
      have c5b0 : decide (0 < (l0_1.length : Int)) = false := decide_eq_false c5
      have c5b1 : decide (0 < l0_1.length) = false := decide_eq_false (by omega)
      clear c5
      (first | rw [c5b0] | (simp only [i64_w, i32_w]; rw [c5b0]) | skip)
      have H' := Aside0.mk H
      clear H
      go_wp2
      go_meet
      case rel => exact ⟨_, (false), (by first | rfl | (simp; done) | (simp [*]; done)), H', ⟨by first | omega | exact Nat.le_refl _⟩, ⟨by first | exact Kd.R_nil _ _ _ _ _ | exact Kd.N_nil _ _ _ _ _ | exact Kd.V_nil _ _ _ _ _ | exact Kd.Q_nil _ _ _ _ _ | exact Kd.S_nil _ _ _ _ _⟩, ⟨by (with_reducible repeat (first | refine blk_drewN ?_ _ | refine blk_drew ?_ | refine blk_alloc ?_ _)); exact BK168.out⟩, ⟨by repeat (first | (with_reducible first | exact HB.out | apply below_alloc | apply pw_below_drewN | apply below_drew1 | refine below_set ?_ GE168.out) | exact HB.out)⟩⟩
  case rest =>
    clear HC2
    try clear p1
    try clear q1
    try clear hx1
    try clear qi1
    try clear p2
    try clear c5
    try clear c5b0
    try clear c5b1
    try clear c6
    try clear c6b0
    try clear c6b1
    try clear hcz4_0
    try clear hcz4_1
    try clear hcz4_2
    try clear hcz4_3
    try clear hcz7_0
    try clear hcz7_1
    try clear hcz7_2
    try clear hcz7_3
    try clear hfz4_0
    try clear hfz4_1
    try clear hfz4_2
    try clear hfz4_3
    try clear hfz7_0
    try clear hfz7_1
    try clear hfz7_2
    try clear hfz7_3
    try clear hx169_0
    try clear hx169_1
    try clear hx169_2
    try clear hx169_3
    try clear hx169_4
    try clear p169
    try clear q169
    obtain ⟨kq, x19_1, rfl, HA, HJ1, HO_3, BK168, HB⟩ := hcut
    cases kq with
    | zero => exact absurd HA.out (by simp [shackleref14_Dirs.j0])
    | succ kj1 =>
      have H := HA.out
      clear HA
      simp only [shackleref14_Dirs.j0] at H
      have HC8 := Aside0.mk H
      clear H
      go_upto_if 19 with (fail)
      go_cut [3] (fun v3 wc => ∃ (kq : Nat) (x3_7 : List ByteArray), Aside0 (shackleref14_Dirs.j2 kq x3_7 (l0_1.length : Int) a0_0 l0_1 a0_2 a0_3 = some r) ∧ Aside0 (kq ≤ kj1) ∧ Aside0 (Kd.R Kd.string 9 wc w.heap.size (fun _ => True) v3 x3_7) ∧ Aside0 (wc.heap[gb168]? = some (.cells #[.string a0_0, (.slice A0_1 l0_1.length c0_1), .string a0_2, .bool a0_3] 24 (0, 0))) ∧ Aside0 (Below w.heap.size w wc))
      case first =>
        have H := HC8.out
        clear HC8
        by_cases c9 : x19_1 = true
        · subst c9
          have H1 : (shackleref14_Dirs.l0 kj1 ([] : List ByteArray) (l0_1.length : Int) 0 a0_0 l0_1 a0_2 a0_3) = some r := by rw [if_pos rfl] at H; exact H
          clear H
          have H := H1
          clear H1
          have H' := Aside0.mk H
          clear H
          go_wp2
          go_loopg [3, 5] kj1 (fun kq v3 v5 w' => ∃ (x3_2 : List ByteArray) (x5_2 : Int), v5 = .int .i64 x5_2 ∧ Aside0 (shackleref14_Dirs.l0 kq x3_2 (l0_1.length : Int) x5_2 a0_0 l0_1 a0_2 a0_3 = some r) ∧ Aside0 (kq ≤ kj1) ∧ Aside0 (Kd.R Kd.string 9 w' w.heap.size (fun _ => True) v3 x3_2) ∧ Aside0 (w'.heap[gb168]? = some (.cells #[.string a0_0, (.slice A0_1 l0_1.length c0_1), .string a0_2, .bool a0_3] 24 (0, 0))) ∧ Aside0 (Below w.heap.size w w'))
          case atStart => exact ⟨(([] : List ByteArray)), (0), (by first | rfl | (simp; done) | (simp [*]; done)), H', ⟨Nat.le_refl _⟩, ⟨by (with_reducible repeat (first | apply Kd.R_alloc | apply Kd.R_drewN | apply Kd.R_drew)); exact HO_3.out⟩, ⟨by (with_reducible repeat (first | refine blk_drewN ?_ _ | refine blk_drew ?_ | refine blk_alloc ?_ _)); exact BK168.out⟩, ⟨by repeat (first | (with_reducible first | exact HB.out | apply below_alloc | apply pw_below_drewN | apply below_drew1 | refine below_set ?_ GE168.out) | exact HB.out)⟩⟩
          case round =>
            clear H'
            try clear p1
            try clear q1
            try clear hx1
            try clear qi1
            try clear p2
            try clear c5
            try clear c5b0
            try clear c5b1
            try clear c6
            try clear c6b0
            try clear c6b1
            try clear c8
            try clear c9
            try clear hcz4_0
            try clear hcz4_1
            try clear hcz4_2
            try clear hcz4_3
            try clear hcz7_0
            try clear hcz7_1
            try clear hcz7_2
            try clear hcz7_3
            try clear hfz4_0
            try clear hfz4_1
            try clear hfz4_2
            try clear hfz4_3
            try clear hfz7_0
            try clear hfz7_1
            try clear hfz7_2
            try clear hfz7_3
            try clear hx169_0
            try clear hx169_1
            try clear hx169_2
            try clear hx169_3
            try clear hx169_4
            try clear p1
            try clear p169
            try clear p2
            try clear q1
            try clear q169
            obtain ⟨x3_2, x5_2, rfl, HA, HK2, HO_3, BK168, HB⟩ := hrel
            cases gk with
            | zero => exact absurd HA.out (by simp [shackleref14_Dirs.l0])
            | succ k2 =>
              have H := HA.out
              clear HA
              simp only [shackleref14_Dirs.l0] at H
              by_cases c10 : x5_2 < (l0_1.length : Int)
              · rw [if_pos c10] at H
                have c10b0 : decide (x5_2 < (l0_1.length : Int)) = true := decide_eq_true c10
                clear c10
                (first | rw [c10b0] | (simp only [i64_w, i32_w]; rw [c10b0]) | skip)
                by_cases c11 : 0 ≤ x5_2
                · rw [if_pos c11] at H
                  have c11b0 : decide (0 ≤ x5_2) = true := decide_eq_true c11
                  clear c11
                  by_cases c12 : x5_2 < (l0_1.length : Int)
                  · rw [if_pos c12] at H
                    have c12b0 : decide (x5_2 < (l0_1.length : Int)) = true := decide_eq_true c12
                    clear c12
                    obtain ⟨bq13, hbq13⟩ : ∃ b_ : Bool, b_ = ((rd_T58 l0_1 x5_2).f3) := ⟨_, rfl⟩
                    replace H : (if bq13 = true then (if ((rd_T58 l0_1 x5_2).f4 = true) then (shackleref14_Dirs.l0 k2 x3_2 (l0_1.length : Int) (wrap64 (x5_2 + 1)) a0_0 l0_1 a0_2 a0_3) else ((shackleref14_lay.f k2 x3_2 ((rd_T58 l0_1 x5_2).f1) (⟨#[58]⟩ : ByteArray) ((rd_T58 l0_1 x5_2).f0) a0_3).bind fun t174 => (shackleref14_Dirs.l0 k2 t174 (l0_1.length : Int) (wrap64 (x5_2 + 1)) a0_0 l0_1 a0_2 a0_3))) else (shackleref14_Dirs.l0 k2 x3_2 (l0_1.length : Int) (wrap64 (x5_2 + 1)) a0_0 l0_1 a0_2 a0_3)) = some r := by rw [← hbq13] at H; exact H
                    have Nbq13 := Aside0.mk hbq13
                    clear hbq13
                    by_cases c14 : bq13 = true
                    · subst c14
                      have H1 : (if ((rd_T58 l0_1 x5_2).f4 = true) then (shackleref14_Dirs.l0 k2 x3_2 (l0_1.length : Int) (wrap64 (x5_2 + 1)) a0_0 l0_1 a0_2 a0_3) else ((shackleref14_lay.f k2 x3_2 ((rd_T58 l0_1 x5_2).f1) (⟨#[58]⟩ : ByteArray) ((rd_T58 l0_1 x5_2).f0) a0_3).bind fun t174 => (shackleref14_Dirs.l0 k2 t174 (l0_1.length : Int) (wrap64 (x5_2 + 1)) a0_0 l0_1 a0_2 a0_3))) = some r := by rw [if_pos rfl] at H; exact H
                      clear H
                      have H := H1
                      clear H1
                      obtain ⟨bq15, hbq15⟩ : ∃ b_ : Bool, b_ = ((rd_T58 l0_1 x5_2).f4) := ⟨_, rfl⟩
                      replace H : (if (bq15 = true) then (shackleref14_Dirs.l0 k2 x3_2 (l0_1.length : Int) (wrap64 (x5_2 + 1)) a0_0 l0_1 a0_2 a0_3) else ((shackleref14_lay.f k2 x3_2 ((rd_T58 l0_1 x5_2).f1) (⟨#[58]⟩ : ByteArray) ((rd_T58 l0_1 x5_2).f0) a0_3).bind fun t174 => (shackleref14_Dirs.l0 k2 t174 (l0_1.length : Int) (wrap64 (x5_2 + 1)) a0_0 l0_1 a0_2 a0_3))) = some r := by rw [← hbq15] at H; exact H
                      have Nbq15 := Aside0.mk hbq15
                      clear hbq15
                      by_cases c16 : (bq15 = true)
                      · subst c16
                        have H1 : (shackleref14_Dirs.l0 k2 x3_2 (l0_1.length : Int) (wrap64 (x5_2 + 1)) a0_0 l0_1 a0_2 a0_3) = some r := by rw [if_pos rfl] at H; exact H
                        clear H
                        have H := H1
                        clear H1
                        have H' := Aside0.mk H
                        clear H
                        have hcz17_0 : wr.cell? ⟨gb168, 0, none⟩ = some (.string a0_0) := (blk_cell BK168.out 0).trans rfl
                        have hcz17_1 : wr.cell? ⟨gb168, 1, none⟩ = some (.slice A0_1 l0_1.length c0_1) := (blk_cell BK168.out 1).trans rfl
                        have hcz17_2 : wr.cell? ⟨gb168, 2, none⟩ = some (.string a0_2) := (blk_cell BK168.out 2).trans rfl
                        have hcz17_3 : wr.cell? ⟨gb168, 3, none⟩ = some (.bool a0_3) := (blk_cell BK168.out 3).trans rfl
                        have hfz17_0 := blk_frozen BK168.out 0
                        have hfz17_1 := blk_frozen BK168.out 1
                        have hfz17_2 := blk_frozen BK168.out 2
                        have hfz17_3 := blk_frozen BK168.out 3
                        have p170 : 0 ≤ (x5_2 : Int) := of_decide_eq_true (by first | (with_reducible assumption) | assumption)
                        have q170 : x5_2 < (l0_1.length : Int) := of_decide_eq_true (by first | (with_reducible assumption) | assumption)
                        obtain ⟨ad170, e170, hx170_0, hx170_1, hx170_2, hx170_3, hx170_4⟩ := at_T58 HR0_1.out x5_2 p170 q170
                        (try rw [← Nbq13.out] at hx170_3)
                        (try rw [← Nbq13.out] at hw170_3)
                        (try rw [← Nbq15.out] at hx170_3)
                        (try rw [← Nbq15.out] at hw170_3)
                        (try rw [← Nbq13.out] at hx170_4)
                        (try rw [← Nbq13.out] at hw170_4)
                        (try rw [← Nbq15.out] at hx170_4)
                        (try rw [← Nbq15.out] at hw170_4)
                        cases e170
                        replace hx170_0 := (HB.out.cell (World.block_lt_of_cell? w _ hx170_0)).trans hx170_0
                        replace hx170_1 := (HB.out.cell (World.block_lt_of_cell? w _ hx170_1)).trans hx170_1
                        replace hx170_2 := (HB.out.cell (World.block_lt_of_cell? w _ hx170_2)).trans hx170_2
                        replace hx170_3 := (HB.out.cell (World.block_lt_of_cell? w _ hx170_3)).trans hx170_3
                        replace hx170_4 := (HB.out.cell (World.block_lt_of_cell? w _ hx170_4)).trans hx170_4
                        replace p170 := eq_true p170
                        replace q170 := eq_true q170
                        have p171 : 0 ≤ (x5_2 : Int) := of_decide_eq_true (by first | (with_reducible assumption) | assumption)
                        have q171 : x5_2 < (l0_1.length : Int) := of_decide_eq_true (by first | (with_reducible assumption) | assumption)
                        obtain ⟨ad171, e171, hx171_0, hx171_1, hx171_2, hx171_3, hx171_4⟩ := at_T58 HR0_1.out x5_2 p171 q171
                        (try rw [← Nbq13.out] at hx171_3)
                        (try rw [← Nbq13.out] at hw171_3)
                        (try rw [← Nbq15.out] at hx171_3)
                        (try rw [← Nbq15.out] at hw171_3)
                        (try rw [← Nbq13.out] at hx171_4)
                        (try rw [← Nbq13.out] at hw171_4)
                        (try rw [← Nbq15.out] at hx171_4)
                        (try rw [← Nbq15.out] at hw171_4)
                        obtain rfl : ad170 = ad171 := (by injection e171)
                        replace hx171_0 := (HB.out.cell (World.block_lt_of_cell? w _ hx171_0)).trans hx171_0
                        replace hx171_1 := (HB.out.cell (World.block_lt_of_cell? w _ hx171_1)).trans hx171_1
                        replace hx171_2 := (HB.out.cell (World.block_lt_of_cell? w _ hx171_2)).trans hx171_2
                        replace hx171_3 := (HB.out.cell (World.block_lt_of_cell? w _ hx171_3)).trans hx171_3
                        replace hx171_4 := (HB.out.cell (World.block_lt_of_cell? w _ hx171_4)).trans hx171_4
                        replace p171 := eq_true p171
                        replace q171 := eq_true q171
                        go_wp2
                        go_roundg k2
                        case measure => have := HJ1.out; have := HK2.out; omega
                        case rel => exact ⟨(x3_2), (wrap64 (x5_2 + 1)), (by first | rfl | (simp; done) | (simp [*]; done)), H', ⟨by have := HJ1.out; have := HK2.out; omega⟩, ⟨by (with_reducible repeat (first | apply Kd.R_alloc | apply Kd.R_drewN | apply Kd.R_drew)); exact HO_3.out⟩, ⟨by (with_reducible repeat (first | refine blk_drewN ?_ _ | refine blk_drew ?_ | refine blk_alloc ?_ _)); exact BK168.out⟩, ⟨by repeat (first | (with_reducible first | exact HB.out | apply below_alloc | apply pw_below_drewN | apply below_drew1 | refine below_set ?_ GE168.out) | exact HB.out)⟩⟩
                      · replace c16 := Bool.eq_false_iff.mpr c16
                        subst c16
                        have H1 : ((shackleref14_lay.f k2 x3_2 ((rd_T58 l0_1 x5_2).f1) (⟨#[58]⟩ : ByteArray) ((rd_T58 l0_1 x5_2).f0) a0_3).bind fun t174 => (shackleref14_Dirs.l0 k2 t174 (l0_1.length : Int) (wrap64 (x5_2 + 1)) a0_0 l0_1 a0_2 a0_3)) = some r := by rw [if_neg (show ¬ (false = true) by decide)] at H; exact H
                        clear H
                        have H := H1
                        clear H1
                        replace H := Option.bind_eq_some_iff.mp H
                        obtain ⟨t174, A180, H⟩ := H
                        replace H : (shackleref14_Dirs.l0 k2 t174 (l0_1.length : Int) (wrap64 (x5_2 + 1)) a0_0 l0_1 a0_2 a0_3) = some r := H
                        have A18 := Aside0.mk A180
                        clear A180
                        have H' := Aside0.mk H
                        clear H
                        have hcz19_0 : wr.cell? ⟨gb168, 0, none⟩ = some (.string a0_0) := (blk_cell BK168.out 0).trans rfl
                        have hcz19_1 : wr.cell? ⟨gb168, 1, none⟩ = some (.slice A0_1 l0_1.length c0_1) := (blk_cell BK168.out 1).trans rfl
                        have hcz19_2 : wr.cell? ⟨gb168, 2, none⟩ = some (.string a0_2) := (blk_cell BK168.out 2).trans rfl
                        have hcz19_3 : wr.cell? ⟨gb168, 3, none⟩ = some (.bool a0_3) := (blk_cell BK168.out 3).trans rfl
                        have hfz19_0 := blk_frozen BK168.out 0
                        have hfz19_1 := blk_frozen BK168.out 1
                        have hfz19_2 := blk_frozen BK168.out 2
                        have hfz19_3 := blk_frozen BK168.out 3
                        have p170 : 0 ≤ (x5_2 : Int) := of_decide_eq_true (by first | (with_reducible assumption) | assumption)
                        have q170 : x5_2 < (l0_1.length : Int) := of_decide_eq_true (by first | (with_reducible assumption) | assumption)
                        obtain ⟨ad170, e170, hx170_0, hx170_1, hx170_2, hx170_3, hx170_4⟩ := at_T58 HR0_1.out x5_2 p170 q170
                        (try rw [← Nbq13.out] at hx170_3)
                        (try rw [← Nbq13.out] at hw170_3)
                        (try rw [← Nbq15.out] at hx170_3)
                        (try rw [← Nbq15.out] at hw170_3)
                        (try rw [← Nbq13.out] at hx170_4)
                        (try rw [← Nbq13.out] at hw170_4)
                        (try rw [← Nbq15.out] at hx170_4)
                        (try rw [← Nbq15.out] at hw170_4)
                        cases e170
                        replace hx170_0 := (HB.out.cell (World.block_lt_of_cell? w _ hx170_0)).trans hx170_0
                        replace hx170_1 := (HB.out.cell (World.block_lt_of_cell? w _ hx170_1)).trans hx170_1
                        replace hx170_2 := (HB.out.cell (World.block_lt_of_cell? w _ hx170_2)).trans hx170_2
                        replace hx170_3 := (HB.out.cell (World.block_lt_of_cell? w _ hx170_3)).trans hx170_3
                        replace hx170_4 := (HB.out.cell (World.block_lt_of_cell? w _ hx170_4)).trans hx170_4
                        replace p170 := eq_true p170
                        replace q170 := eq_true q170
                        have p171 : 0 ≤ (x5_2 : Int) := of_decide_eq_true (by first | (with_reducible assumption) | assumption)
                        have q171 : x5_2 < (l0_1.length : Int) := of_decide_eq_true (by first | (with_reducible assumption) | assumption)
                        obtain ⟨ad171, e171, hx171_0, hx171_1, hx171_2, hx171_3, hx171_4⟩ := at_T58 HR0_1.out x5_2 p171 q171
                        (try rw [← Nbq13.out] at hx171_3)
                        (try rw [← Nbq13.out] at hw171_3)
                        (try rw [← Nbq15.out] at hx171_3)
                        (try rw [← Nbq15.out] at hw171_3)
                        (try rw [← Nbq13.out] at hx171_4)
                        (try rw [← Nbq13.out] at hw171_4)
                        (try rw [← Nbq15.out] at hx171_4)
                        (try rw [← Nbq15.out] at hw171_4)
                        obtain rfl : ad170 = ad171 := (by injection e171)
                        replace hx171_0 := (HB.out.cell (World.block_lt_of_cell? w _ hx171_0)).trans hx171_0
                        replace hx171_1 := (HB.out.cell (World.block_lt_of_cell? w _ hx171_1)).trans hx171_1
                        replace hx171_2 := (HB.out.cell (World.block_lt_of_cell? w _ hx171_2)).trans hx171_2
                        replace hx171_3 := (HB.out.cell (World.block_lt_of_cell? w _ hx171_3)).trans hx171_3
                        replace hx171_4 := (HB.out.cell (World.block_lt_of_cell? w _ hx171_4)).trans hx171_4
                        replace p171 := eq_true p171
                        replace q171 := eq_true q171
                        try go_wp2
                        have n0_ := Aside0.mk (Kd.R_drew HO_3.out)
                        have n1_ := Aside0.mk (blk_drew BK168.out)
                        have n2_ := Aside0.mk (below_drew1 HB.out)
                        clear HO_3
                        clear BK168
                        clear HB
                        have HO_3 := n0_
                        have BK168 := n1_
                        have HB := n2_
                        clear n0_ n1_ n2_
                        have p172 : 0 ≤ (x5_2 : Int) := of_decide_eq_true (by first | (with_reducible assumption) | assumption)
                        have q172 : x5_2 < (l0_1.length : Int) := of_decide_eq_true (by first | (with_reducible assumption) | assumption)
                        obtain ⟨ad172, e172, hx172_0, hx172_1, hx172_2, hx172_3, hx172_4⟩ := at_T58 HR0_1.out x5_2 p172 q172
                        have hw172_4 := hx172_4
                        have hw172_3 := hx172_3
                        have hw172_2 := hx172_2
                        have hw172_1 := hx172_1
                        have hw172_0 := hx172_0
                        (try rw [← Nbq13.out] at hx172_3)
                        (try rw [← Nbq13.out] at hw172_3)
                        (try rw [← Nbq15.out] at hx172_3)
                        (try rw [← Nbq15.out] at hw172_3)
                        (try rw [← Nbq13.out] at hx172_4)
                        (try rw [← Nbq13.out] at hw172_4)
                        (try rw [← Nbq15.out] at hx172_4)
                        (try rw [← Nbq15.out] at hw172_4)
                        obtain rfl : ad170 = ad172 := (by injection e172)
                        replace hx172_0 := (HB.out.cell (World.block_lt_of_cell? w _ hx172_0)).trans hx172_0
                        replace hx172_1 := (HB.out.cell (World.block_lt_of_cell? w _ hx172_1)).trans hx172_1
                        replace hx172_2 := (HB.out.cell (World.block_lt_of_cell? w _ hx172_2)).trans hx172_2
                        replace hx172_3 := (HB.out.cell (World.block_lt_of_cell? w _ hx172_3)).trans hx172_3
                        replace hx172_4 := (HB.out.cell (World.block_lt_of_cell? w _ hx172_4)).trans hx172_4
                        replace p172 := eq_true p172
                        replace q172 := eq_true q172
                        have p173 : 0 ≤ (x5_2 : Int) := of_decide_eq_true (by first | (with_reducible assumption) | assumption)
                        have q173 : x5_2 < (l0_1.length : Int) := of_decide_eq_true (by first | (with_reducible assumption) | assumption)
                        obtain ⟨ad173, e173, hx173_0, hx173_1, hx173_2, hx173_3, hx173_4⟩ := at_T58 HR0_1.out x5_2 p173 q173
                        have hw173_4 := hx173_4
                        have hw173_3 := hx173_3
                        have hw173_2 := hx173_2
                        have hw173_1 := hx173_1
                        have hw173_0 := hx173_0
                        (try rw [← Nbq13.out] at hx173_3)
                        (try rw [← Nbq13.out] at hw173_3)
                        (try rw [← Nbq15.out] at hx173_3)
                        (try rw [← Nbq15.out] at hw173_3)
                        (try rw [← Nbq13.out] at hx173_4)
                        (try rw [← Nbq13.out] at hw173_4)
                        (try rw [← Nbq15.out] at hx173_4)
                        (try rw [← Nbq15.out] at hw173_4)
                        obtain rfl : ad170 = ad173 := (by injection e173)
                        replace hx173_0 := (HB.out.cell (World.block_lt_of_cell? w _ hx173_0)).trans hx173_0
                        replace hx173_1 := (HB.out.cell (World.block_lt_of_cell? w _ hx173_1)).trans hx173_1
                        replace hx173_2 := (HB.out.cell (World.block_lt_of_cell? w _ hx173_2)).trans hx173_2
                        replace hx173_3 := (HB.out.cell (World.block_lt_of_cell? w _ hx173_3)).trans hx173_3
                        replace hx173_4 := (HB.out.cell (World.block_lt_of_cell? w _ hx173_4)).trans hx173_4
                        replace p173 := eq_true p173
                        replace q173 := eq_true q173
                        obtain ⟨Ao21, co21, eo21⟩ := Kd.R_slice HO_3.out
                        (first | subst eo21 | (injection eo21 with f1_ f2_ f3_; have f4_ := f1_.symm; have f5_ := f3_.symm; clear f1_ f2_ f3_; subst f4_; subst f5_))
                        refine start_ (n := 17) (S := fun w' => w'.cell? ⟨gb168, 0, none⟩ = some (.string a0_0) ∧ w'.cell? ⟨gb168, 1, none⟩ = some (.slice (some ad170) l0_1.length c0_1) ∧ w'.cell? ⟨gb168, 2, none⟩ = some (.string a0_2) ∧ w'.cell? ⟨gb168, 3, none⟩ = some (.bool a0_3) ∧ w'.cell? (ad170.add ((x5_2).toNat * 5)) = some (.string ((rd_T58 l0_1 x5_2).f0)) ∧ w'.cell? ⟨(ad170.add ((x5_2).toNat * 5)).block, (ad170.add ((x5_2).toNat * 5)).off + 1, none⟩ = some (.string ((rd_T58 l0_1 x5_2).f1)) ∧ w'.cell? ⟨(ad170.add ((x5_2).toNat * 5)).block, (ad170.add ((x5_2).toNat * 5)).off + 2, none⟩ = some (.string ((rd_T58 l0_1 x5_2).f2)) ∧ w'.cell? ⟨(ad170.add ((x5_2).toNat * 5)).block, (ad170.add ((x5_2).toNat * 5)).off + 3, none⟩ = some (.bool (true)) ∧ w'.cell? ⟨(ad170.add ((x5_2).toNat * 5)).block, (ad170.add ((x5_2).toNat * 5)).off + 4, none⟩ = some (.bool (false)) ∧ w'.cell? (ad170.add ((x5_2).toNat * 5)) = some (.string ((rd_T58 l0_1 x5_2).f0)) ∧ w'.cell? ⟨(ad170.add ((x5_2).toNat * 5)).block, (ad170.add ((x5_2).toNat * 5)).off + 1, none⟩ = some (.string ((rd_T58 l0_1 x5_2).f1)) ∧ w'.cell? ⟨(ad170.add ((x5_2).toNat * 5)).block, (ad170.add ((x5_2).toNat * 5)).off + 2, none⟩ = some (.string ((rd_T58 l0_1 x5_2).f2)) ∧ w'.cell? ⟨(ad170.add ((x5_2).toNat * 5)).block, (ad170.add ((x5_2).toNat * 5)).off + 3, none⟩ = some (.bool (true)) ∧ w'.cell? ⟨(ad170.add ((x5_2).toNat * 5)).block, (ad170.add ((x5_2).toNat * 5)).off + 4, none⟩ = some (.bool (false))) (ds := []) #[false, false, false, false, false, false, false, false, false, false, false, false, false, false, false, false, false] (by kernel_rfl) rfl rfl ⟨(blk_cell BK168.out 0).trans rfl, (blk_cell BK168.out 1).trans rfl, (blk_cell BK168.out 2).trans rfl, (blk_cell BK168.out 3).trans rfl, ((HB.out.cell (World.block_lt_of_cell? w _ hw172_0)).trans hw172_0), ((HB.out.cell (World.block_lt_of_cell? w _ hw172_1)).trans hw172_1), ((HB.out.cell (World.block_lt_of_cell? w _ hw172_2)).trans hw172_2), ((HB.out.cell (World.block_lt_of_cell? w _ hw172_3)).trans hw172_3), ((HB.out.cell (World.block_lt_of_cell? w _ hw172_4)).trans hw172_4), ((HB.out.cell (World.block_lt_of_cell? w _ hw173_0)).trans hw173_0), ((HB.out.cell (World.block_lt_of_cell? w _ hw173_1)).trans hw173_1), ((HB.out.cell (World.block_lt_of_cell? w _ hw173_2)).trans hw173_2), ((HB.out.cell (World.block_lt_of_cell? w _ hw173_3)).trans hw173_3), ((HB.out.cell (World.block_lt_of_cell? w _ hw173_4)).trans hw173_4)⟩ (fun hHeld => ?_); refine with_tabW shackleref14_Dirs.tab8 shackleref14_Dirs.bits8 (fun HT_ HW_ => ?_)
                        generalize wr.drew = w20 at HO_3 BK168 HB hx172_0 hx172_1 hx172_2 hx172_3 hx172_4 hx173_0 hx173_1 hx173_2 hx173_3 hx173_4 hHeld ⊢
                        refine pure_ (i := 0) (N := some 40) (v := ?_) (a' := ?_) #[true, false, false, false, false, false, false, false, false, false, false, false, false, false, false, false, false] rfl rfl (any_of HT_.out (by kernel_rfl)) (fun _ _ _ h => h) (Or.inl ⟨by rfl, ?_⟩) ?_ ?_
                        rotate_left
                        · intro w'
                          go_simp
                          with_reducible rfl
                        rotate_left
                        · simp only [Act.put, List.setIfInBounds_toArray, List.set_cons_zero, List.set_cons_succ, i64_w, i32_w]
                          rfl
                        refine pure_ (i := 1) (N := some 41) (v := ?_) (a' := ?_) #[true, true, false, false, false, false, false, false, false, false, false, false, false, false, false, false, false] rfl rfl (any_of HT_.out (by kernel_rfl)) (fun _ _ _ h => h) (Or.inl ⟨by rfl, ?_⟩) ?_ ?_
                        rotate_left
                        · intro w'
                          go_simp
                          with_reducible rfl
                        rotate_left
                        · simp only [Act.put, List.setIfInBounds_toArray, List.set_cons_zero, List.set_cons_succ, i64_w, i32_w]
                          rfl
                        refine pure_ (i := 3) (N := some 43) (v := ?_) (a' := ?_) #[true, true, false, true, false, false, false, false, false, false, false, false, false, false, false, false, false] rfl rfl (any_of HT_.out (by kernel_rfl)) (fun _ _ _ h => h) (Or.inl ⟨by rfl, ?_⟩) ?_ ?_
                        rotate_left
                        · intro w'
                          go_simp
                          with_reducible rfl
                        rotate_left
                        · simp only [Act.put, List.setIfInBounds_toArray, List.set_cons_zero, List.set_cons_succ, i64_w, i32_w]
                          rfl
                        refine pure_ (i := 7) (N := some 47) (v := ?_) (a' := ?_) #[true, true, false, true, false, false, false, true, false, false, false, false, false, false, false, false, false] rfl rfl (any_of HT_.out (by kernel_rfl)) (fun _ _ _ h => h) (Or.inl ⟨by rfl, ?_⟩) ?_ ?_
                        rotate_left
                        · intro w'
                          go_simp
                          with_reducible rfl
                        rotate_left
                        · simp only [Act.put, List.setIfInBounds_toArray, List.set_cons_zero, List.set_cons_succ, i64_w, i32_w]
                          rfl
                        refine pure_ (i := 9) (N := some 49) (v := ?_) (a' := ?_) #[true, true, false, true, false, false, false, true, false, true, false, false, false, false, false, false, false] rfl rfl (any_of HT_.out (by kernel_rfl)) (fun _ _ _ h => h) (Or.inl ⟨by rfl, ?_⟩) ?_ ?_
                        rotate_left
                        · intro w'
                          go_simp
                          with_reducible rfl
                        rotate_left
                        · simp only [Act.put, List.setIfInBounds_toArray, List.set_cons_zero, List.set_cons_succ, i64_w, i32_w]
                          rfl
                        refine pure_ (i := 13) (N := some 53) (v := ?_) (a' := ?_) #[true, true, false, true, false, false, false, true, false, true, false, false, false, true, false, false, false] rfl rfl (any_of HT_.out (by kernel_rfl)) (fun _ _ _ h => h) (Or.inl ⟨by rfl, ?_⟩) ?_ ?_
                        rotate_left
                        · intro w'
                          go_simp
                          with_reducible rfl
                        rotate_left
                        · simp only [Act.put, List.setIfInBounds_toArray, List.set_cons_zero, List.set_cons_succ, i64_w, i32_w]
                          rfl
                        refine take_ (i := 2) (N := some 42) (v := ?_) (a' := ?_) #[true, true, true, true, false, false, false, true, false, true, false, false, false, true, false, false, false] rfl rfl (take_ofW HT_.out HW_.out (by kernel_rfl)) (fun _ _ _ h => h) (Or.inl ⟨by rfl, ?_⟩) hHeld ?_ ?_
                        rotate_left
                        · rintro w' ⟨s0, s1, s2, s3, s4, s5, s6, s7, s8, s9, s10, s11, s12, s13⟩
                          go_simp
                          with_reducible rfl
                        rotate_left
                        · simp only [Act.put, List.setIfInBounds_toArray, List.set_cons_zero, List.set_cons_succ, i64_w, i32_w]
                          rfl
                        refine pure_ (i := 4) (N := some 44) (v := ?_) (a' := ?_) #[true, true, true, true, true, false, false, true, false, true, false, false, false, true, false, false, false] rfl rfl (any_of HT_.out (by kernel_rfl)) (fun _ _ _ h => h) (Or.inl ⟨by rfl, ?_⟩) ?_ ?_
                        rotate_left
                        · intro w'
                          go_simp
                          with_reducible rfl
                        rotate_left
                        · simp only [Act.put, List.setIfInBounds_toArray, List.set_cons_zero, List.set_cons_succ, i64_w, i32_w]
                          rfl
                        refine pure_ (i := 5) (N := some 45) (v := ?_) (a' := ?_) #[true, true, true, true, true, true, false, true, false, true, false, false, false, true, false, false, false] rfl rfl (any_of HT_.out (by kernel_rfl)) (fun _ _ _ h => h) (Or.inl ⟨by rfl, ?_⟩) ?_ ?_
                        rotate_left
                        · intro w'
                          go_simp
                          with_reducible rfl
                        rotate_left
                        · simp only [Act.put, List.setIfInBounds_toArray, List.set_cons_zero, List.set_cons_succ, i64_w, i32_w]
                          rfl
                        refine take_ (i := 6) (N := some 46) (v := ?_) (a' := ?_) #[true, true, true, true, true, true, true, true, false, true, false, false, false, true, false, false, false] rfl rfl (take_ofW HT_.out HW_.out (by kernel_rfl)) (fun _ _ _ h => h) (Or.inl ⟨by rfl, ?_⟩) hHeld ?_ ?_
                        rotate_left
                        · rintro w' ⟨s0, s1, s2, s3, s4, s5, s6, s7, s8, s9, s10, s11, s12, s13⟩
                          go_simp
                          with_reducible rfl
                        rotate_left
                        · simp only [Act.put, List.setIfInBounds_toArray, List.set_cons_zero, List.set_cons_succ, i64_w, i32_w]
                          rfl
                        refine take_ (i := 8) (N := some 48) (v := ?_) (a' := ?_) #[true, true, true, true, true, true, true, true, true, true, false, false, false, true, false, false, false] rfl rfl (take_ofW HT_.out HW_.out (by kernel_rfl)) (fun _ _ _ h => h) (Or.inl ⟨by rfl, ?_⟩) hHeld ?_ ?_
                        rotate_left
                        · rintro w' ⟨s0, s1, s2, s3, s4, s5, s6, s7, s8, s9, s10, s11, s12, s13⟩
                          go_simp
                          with_reducible rfl
                        rotate_left
                        · simp only [Act.put, List.setIfInBounds_toArray, List.set_cons_zero, List.set_cons_succ, i64_w, i32_w]
                          rfl
                        refine pure_ (i := 10) (N := some 50) (v := ?_) (a' := ?_) #[true, true, true, true, true, true, true, true, true, true, true, false, false, true, false, false, false] rfl rfl (any_of HT_.out (by kernel_rfl)) (fun _ _ _ h => h) (Or.inl ⟨by rfl, ?_⟩) ?_ ?_
                        rotate_left
                        · intro w'
                          go_simp
                          with_reducible rfl
                        rotate_left
                        · simp only [Act.put, List.setIfInBounds_toArray, List.set_cons_zero, List.set_cons_succ, i64_w, i32_w]
                          rfl
                        refine pure_ (i := 11) (N := some 51) (v := ?_) (a' := ?_) #[true, true, true, true, true, true, true, true, true, true, true, true, false, true, false, false, false] rfl rfl (any_of HT_.out (by kernel_rfl)) (fun _ _ _ h => h) (Or.inl ⟨by rfl, ?_⟩) ?_ ?_
                        rotate_left
                        · intro w'
                          go_simp
                          with_reducible rfl
                        rotate_left
                        · simp only [Act.put, List.setIfInBounds_toArray, List.set_cons_zero, List.set_cons_succ, i64_w, i32_w]
                          rfl
                        refine take_ (i := 12) (N := some 52) (v := ?_) (a' := ?_) #[true, true, true, true, true, true, true, true, true, true, true, true, true, true, false, false, false] rfl rfl (take_ofW HT_.out HW_.out (by kernel_rfl)) (fun _ _ _ h => h) (Or.inl ⟨by rfl, ?_⟩) hHeld ?_ ?_
                        rotate_left
                        · rintro w' ⟨s0, s1, s2, s3, s4, s5, s6, s7, s8, s9, s10, s11, s12, s13⟩
                          go_simp
                          with_reducible rfl
                        rotate_left
                        · simp only [Act.put, List.setIfInBounds_toArray, List.set_cons_zero, List.set_cons_succ, i64_w, i32_w]
                          rfl
                        refine take_ (i := 14) (N := some 54) (v := ?_) (a' := ?_) #[true, true, true, true, true, true, true, true, true, true, true, true, true, true, true, false, false] rfl rfl (take_ofW HT_.out HW_.out (by kernel_rfl)) (fun _ _ _ h => h) (Or.inl ⟨by rfl, ?_⟩) hHeld ?_ ?_
                        rotate_left
                        · rintro w' ⟨s0, s1, s2, s3, s4, s5, s6, s7, s8, s9, s10, s11, s12, s13⟩
                          go_simp
                          with_reducible rfl
                        rotate_left
                        · simp only [Act.put, List.setIfInBounds_toArray, List.set_cons_zero, List.set_cons_succ, i64_w, i32_w]
                          rfl
                        refine one_ (i := 15) (N := some 55) #[true, true, true, true, true, true, true, true, true, true, true, true, true, true, true, true, false] rfl rfl (one_of HT_.out (by kernel_rfl)) (by decide) (fun K hK => ?_)
                        refine goes_ Try.func22 (by kernel_rfl) rfl #[.slice Ao21 x3_2.length co21, .string ((rd_T58 l0_1 x5_2).f1), .string (⟨#[58]⟩ : ByteArray), .string ((rd_T58 l0_1 x5_2).f0), .bool a0_3] (by rfl) rfl rfl (by (try simp only [List.map_toArray, List.map_cons, List.map_nil]); first | done | rfl | (simp only [List.length_drop, List.length_take]; rfl)) ?_
                        with_reducible refine (shackleref14_lay.calls k2 (fun k_ => some k_ = (.slice Ao21 x3_2.length co21 : Value).ownBlock) (.slice Ao21 x3_2.length co21) x3_2 ((rd_T58 l0_1 x5_2).f1) (⟨#[58]⟩ : ByteArray) ((rd_T58 l0_1 x5_2).f0) a0_3 t174 w _ ?side1 ?side2 A18.out).mono ?_
                        (case side1 => repeat (first | (with_reducible first | exact HB.out | apply below_alloc | apply pw_below_drewN | apply below_drew1 | refine below_set ?_ GE168.out) | exact HB.out))
                        (case side2 => exact Kd.R_tight rfl HO_3.out)
                        rintro e w22 ⟨v175, rfl, ho0, hb, hkp⟩
                        refine ⟨_, rfl, ?_⟩
                        have n0_ := Aside0.mk (blk_kept (by (with_reducible repeat (first | refine blk_drewN ?_ _ | refine blk_drew ?_ | refine blk_alloc ?_ _)); exact BK168.out) hkp (fun hs_ => (fun e_ => (Kd.R_ne HO_3.out BK168.out (by decide)) e_) hs_))
                        have n1_ := Aside0.mk (Kd.R_mono (ok' := fun k_ => True) ho0 (fun k_ hk_ => trivial))
                        have n2_ := Aside0.mk (hb)
                        clear BK168
                        clear HB
                        clear HO_3
                        have BK168 := n0_
                        have HO176 := n1_
                        have HB := n2_
                        clear n0_ n1_ n2_
                        (try clear hb)
                        (try clear hkp)
                        (try clear ho0)
                        refine hK.out _ _ ⟨(blk_cell BK168.out 0).trans rfl, (blk_cell BK168.out 1).trans rfl, (blk_cell BK168.out 2).trans rfl, (blk_cell BK168.out 3).trans rfl, ((HB.out.cell (World.block_lt_of_cell? w _ hw172_0)).trans hw172_0), ((HB.out.cell (World.block_lt_of_cell? w _ hw172_1)).trans hw172_1), ((HB.out.cell (World.block_lt_of_cell? w _ hw172_2)).trans hw172_2), ((HB.out.cell (World.block_lt_of_cell? w _ hw172_3)).trans hw172_3), ((HB.out.cell (World.block_lt_of_cell? w _ hw172_4)).trans hw172_4), ((HB.out.cell (World.block_lt_of_cell? w _ hw173_0)).trans hw173_0), ((HB.out.cell (World.block_lt_of_cell? w _ hw173_1)).trans hw173_1), ((HB.out.cell (World.block_lt_of_cell? w _ hw173_2)).trans hw173_2), ((HB.out.cell (World.block_lt_of_cell? w _ hw173_3)).trans hw173_3), ((HB.out.cell (World.block_lt_of_cell? w _ hw173_4)).trans hw173_4)⟩ (fun hHeld => ?_)
                        clear hK K
                        refine norm_ (a' := ?_) ?_ ?_
                        rotate_left
                        · show Act.put _ (some 55) _ = _
                          simp only [Act.put, List.setIfInBounds_toArray, List.set_cons_zero, List.set_cons_succ, i64_w, i32_w]
                          rfl
                        refine pure_ (i := 16) (N := some 3) (v := ?_) (a' := ?_) #[true, true, true, true, true, true, true, true, true, true, true, true, true, true, true, true, true] rfl rfl (any_of HT_.out (by kernel_rfl)) (fun _ _ _ h => h) (Or.inl ⟨by rfl, ?_⟩) ?_ ?_
                        rotate_left
                        · intro w'
                          go_simp
                          with_reducible rfl
                        rotate_left
                        · simp only [Act.put, List.setIfInBounds_toArray, List.set_cons_zero, List.set_cons_succ, i64_w, i32_w]
                          rfl
                        refine done_ (done_of HT_.out (by kernel_rfl)) ?_
                        try go_wp2
                        go_roundg k2
                        case measure => have := HJ1.out; have := HK2.out; omega
                        case rel => exact ⟨(t174), (wrap64 (x5_2 + 1)), (by first | rfl | (simp; done) | (simp [*]; done)), H', ⟨by have := HJ1.out; have := HK2.out; omega⟩, ⟨by (with_reducible repeat (first | apply Kd.R_alloc | apply Kd.R_drewN | apply Kd.R_drew)); exact HO176.out⟩, ⟨by (with_reducible repeat (first | refine blk_drewN ?_ _ | refine blk_drew ?_ | refine blk_alloc ?_ _)); exact BK168.out⟩, ⟨by repeat (first | (with_reducible first | exact HB.out | apply below_alloc | apply pw_below_drewN | apply below_drew1 | refine below_set ?_ GE168.out) | exact HB.out)⟩⟩
                    · replace c14 := Bool.eq_false_iff.mpr c14
                      subst c14
                      have H1 : (shackleref14_Dirs.l0 k2 x3_2 (l0_1.length : Int) (wrap64 (x5_2 + 1)) a0_0 l0_1 a0_2 a0_3) = some r := by rw [if_neg (show ¬ (false = true) by decide)] at H; exact H
                      clear H
                      have H := H1
                      clear H1
                      have H' := Aside0.mk H
                      clear H
                      have hcz23_0 : wr.cell? ⟨gb168, 0, none⟩ = some (.string a0_0) := (blk_cell BK168.out 0).trans rfl
                      have hcz23_1 : wr.cell? ⟨gb168, 1, none⟩ = some (.slice A0_1 l0_1.length c0_1) := (blk_cell BK168.out 1).trans rfl
                      have hcz23_2 : wr.cell? ⟨gb168, 2, none⟩ = some (.string a0_2) := (blk_cell BK168.out 2).trans rfl
                      have hcz23_3 : wr.cell? ⟨gb168, 3, none⟩ = some (.bool a0_3) := (blk_cell BK168.out 3).trans rfl
                      have hfz23_0 := blk_frozen BK168.out 0
                      have hfz23_1 := blk_frozen BK168.out 1
                      have hfz23_2 := blk_frozen BK168.out 2
                      have hfz23_3 := blk_frozen BK168.out 3
                      have p170 : 0 ≤ (x5_2 : Int) := of_decide_eq_true (by first | (with_reducible assumption) | assumption)
                      have q170 : x5_2 < (l0_1.length : Int) := of_decide_eq_true (by first | (with_reducible assumption) | assumption)
                      obtain ⟨ad170, e170, hx170_0, hx170_1, hx170_2, hx170_3, hx170_4⟩ := at_T58 HR0_1.out x5_2 p170 q170
                      (try rw [← Nbq13.out] at hx170_3)
                      (try rw [← Nbq13.out] at hw170_3)
                      (try rw [← Nbq13.out] at hx170_4)
                      (try rw [← Nbq13.out] at hw170_4)
                      cases e170
                      replace hx170_0 := (HB.out.cell (World.block_lt_of_cell? w _ hx170_0)).trans hx170_0
                      replace hx170_1 := (HB.out.cell (World.block_lt_of_cell? w _ hx170_1)).trans hx170_1
                      replace hx170_2 := (HB.out.cell (World.block_lt_of_cell? w _ hx170_2)).trans hx170_2
                      replace hx170_3 := (HB.out.cell (World.block_lt_of_cell? w _ hx170_3)).trans hx170_3
                      replace hx170_4 := (HB.out.cell (World.block_lt_of_cell? w _ hx170_4)).trans hx170_4
                      replace p170 := eq_true p170
                      replace q170 := eq_true q170
                      go_wp2
                      go_roundg k2
                      case measure => have := HJ1.out; have := HK2.out; omega
                      case rel => exact ⟨(x3_2), (wrap64 (x5_2 + 1)), (by first | rfl | (simp; done) | (simp [*]; done)), H', ⟨by have := HJ1.out; have := HK2.out; omega⟩, ⟨by (with_reducible repeat (first | apply Kd.R_alloc | apply Kd.R_drewN | apply Kd.R_drew)); exact HO_3.out⟩, ⟨by (with_reducible repeat (first | refine blk_drewN ?_ _ | refine blk_drew ?_ | refine blk_alloc ?_ _)); exact BK168.out⟩, ⟨by repeat (first | (with_reducible first | exact HB.out | apply below_alloc | apply pw_below_drewN | apply below_drew1 | refine below_set ?_ GE168.out) | exact HB.out)⟩⟩
                  · rw [if_neg c12] at H
                    exact absurd H (by simp)
                · rw [if_neg c11] at H
                  exact absurd H (by simp)
              · rw [if_neg c10] at H
                have c10b0 : decide (x5_2 < (l0_1.length : Int)) = false := decide_eq_false c10
                clear c10
                (first | rw [c10b0] | (simp only [i64_w, i32_w]; rw [c10b0]) | skip)
                have H' := Aside0.mk H
                clear H
                go_wp2
                go_meet
                case rel => exact ⟨_, (x3_2), H', ⟨by have := HJ1.out; have := HK2.out; first | omega | exact Nat.le_refl _⟩, ⟨by (with_reducible repeat (first | apply Kd.R_alloc | apply Kd.R_drewN | apply Kd.R_drew)); exact HO_3.out⟩, ⟨by (with_reducible repeat (first | refine blk_drewN ?_ _ | refine blk_drew ?_ | refine blk_alloc ?_ _)); exact BK168.out⟩, ⟨by repeat (first | (with_reducible first | exact HB.out | apply below_alloc | apply pw_below_drewN | apply below_drew1 | refine below_set ?_ GE168.out) | exact HB.out)⟩⟩
        · replace c9 := Bool.eq_false_iff.mpr c9
          subst c9
          have H1 : (shackleref14_Dirs.j2 kj1 ([] : List ByteArray) (l0_1.length : Int) a0_0 l0_1 a0_2 a0_3) = some r := by rw [if_neg (show ¬ (false = true) by decide)] at H; exact H
          clear H
          have H := H1
          clear H1
          have H' := Aside0.mk H
          clear H
          go_wp2
          go_meet
          case rel => exact ⟨_, (([] : List ByteArray)), H', ⟨by have := HJ1.out; first | omega | exact Nat.le_refl _⟩, ⟨by (with_reducible repeat (first | apply Kd.R_alloc | apply Kd.R_drewN | apply Kd.R_drew)); exact HO_3.out⟩, ⟨by (with_reducible repeat (first | refine blk_drewN ?_ _ | refine blk_drew ?_ | refine blk_alloc ?_ _)); exact BK168.out⟩, ⟨by repeat (first | (with_reducible first | exact HB.out | apply below_alloc | apply pw_below_drewN | apply below_drew1 | refine below_set ?_ GE168.out) | exact HB.out)⟩⟩
      case rest =>
        clear HC8
        try clear c1
        try clear p1
        try clear q1
        try clear hx1
        try clear qi1
        try clear c2
        try clear p2
        try clear c5
        try clear c5b0
        try clear c5b1
        try clear c6
        try clear c6b0
        try clear c6b1
        try clear p6
        try clear c8
        try clear c9
        try clear c10
        try clear c10b0
        try clear c11
        try clear c11b0
        try clear c12
        try clear c12b0
        try clear q13
        try clear c14
        try clear q15
        try clear c16
        try clear p16
        try clear q16
        try clear hx16
        try clear qi16
        try clear p17
        try clear q17
        try clear hx17
        try clear c22
        try clear hcz17_0
        try clear hcz17_1
        try clear hcz17_2
        try clear hcz17_3
        try clear hcz19_0
        try clear hcz19_1
        try clear hcz19_2
        try clear hcz19_3
        try clear hcz23_0
        try clear hcz23_1
        try clear hcz23_2
        try clear hcz23_3
        try clear hcz4_0
        try clear hcz4_1
        try clear hcz4_2
        try clear hcz4_3
        try clear hcz7_0
        try clear hcz7_1
        try clear hcz7_2
        try clear hcz7_3
        try clear hfz17_0
        try clear hfz17_1
        try clear hfz17_2
        try clear hfz17_3
        try clear hfz19_0
        try clear hfz19_1
        try clear hfz19_2
        try clear hfz19_3
        try clear hfz23_0
        try clear hfz23_1
        try clear hfz23_2
        try clear hfz23_3
        try clear hfz4_0
        try clear hfz4_1
        try clear hfz4_2
        try clear hfz4_3
        try clear hfz7_0
        try clear hfz7_1
        try clear hfz7_2
        try clear hfz7_3
        try clear hx169_0
        try clear hx169_1
        try clear hx169_2
        try clear hx169_3
        try clear hx169_4
        try clear hx170_0
        try clear hx170_1
        try clear hx170_2
        try clear hx170_3
        try clear hx170_4
        try clear hx171_0
        try clear hx171_1
        try clear hx171_2
        try clear hx171_3
        try clear hx171_4
        try clear hx172_0
        try clear hx172_1
        try clear hx172_2
        try clear hx172_3
        try clear hx172_4
        try clear hx173_0
        try clear hx173_1
        try clear hx173_2
        try clear hx173_3
        try clear hx173_4
        try clear p1
        try clear p169
        try clear p170
        try clear p171
        try clear p172
        try clear p173
        try clear p2
        try clear q1
        try clear q169
        try clear q170
        try clear q171
        try clear q172
        try clear q173
        obtain ⟨kq, x3_7, HA, HJ7, HO_3, BK168, HB⟩ := hcut
        cases kq with
        | zero => exact absurd HA.out (by simp [shackleref14_Dirs.j2])
        | succ kj7 =>
          have H := HA.out
          clear HA
          simp only [shackleref14_Dirs.j2] at H
          have HC24 := Aside0.mk H
          clear H
          go_upto_region 9 with (fail)
          go_cut [63] (fun v63 wc => ∃ (kq : Nat) (x63_23 : Bool), v63 = .bool x63_23 ∧ Aside0 (shackleref14_Dirs.j3 kq x3_7 (l0_1.length : Int) x63_23 a0_0 l0_1 a0_2 a0_3 = some r) ∧ Aside0 (kq ≤ kj7) ∧ Aside0 (Kd.R Kd.string 9 wc w.heap.size (fun _ => True) u3 x3_7) ∧ Aside0 (wc.heap[gb168]? = some (.cells #[.string a0_0, (.slice A0_1 l0_1.length c0_1), .string a0_2, .bool a0_3] 24 (0, 0))) ∧ Aside0 (Below w.heap.size w wc))
          case first =>
            have H := HC24.out
            clear HC24
            by_cases c25 : a0_3 = true
            · subst c25
              have H1 : (shackleref14_Dirs.j3 kj7 x3_7 (l0_1.length : Int) false a0_0 l0_1 a0_2 true) = some r := by rw [if_pos rfl] at H; exact H
              clear H
              have H := H1
              clear H1
              have H' := Aside0.mk H
              clear H
              have hcz26_0 : wc.cell? ⟨gb168, 0, none⟩ = some (.string a0_0) := (blk_cell BK168.out 0).trans rfl
              have hcz26_1 : wc.cell? ⟨gb168, 1, none⟩ = some (.slice A0_1 l0_1.length c0_1) := (blk_cell BK168.out 1).trans rfl
              have hcz26_2 : wc.cell? ⟨gb168, 2, none⟩ = some (.string a0_2) := (blk_cell BK168.out 2).trans rfl
              have hcz26_3 : wc.cell? ⟨gb168, 3, none⟩ = some (.bool true) := (blk_cell BK168.out 3).trans rfl
              have hfz26_0 := blk_frozen BK168.out 0
              have hfz26_1 := blk_frozen BK168.out 1
              have hfz26_2 := blk_frozen BK168.out 2
              have hfz26_3 := blk_frozen BK168.out 3
              go_wp2
              go_meet
              case rel => exact ⟨_, (false), (by first | rfl | (simp; done) | (simp [*]; done)), H', ⟨by have := HJ1.out; have := HJ7.out; first | omega | exact Nat.le_refl _⟩, ⟨by (with_reducible repeat (first | apply Kd.R_alloc | apply Kd.R_drewN | apply Kd.R_drew)); exact HO_3.out⟩, ⟨by (with_reducible repeat (first | refine blk_drewN ?_ _ | refine blk_drew ?_ | refine blk_alloc ?_ _)); exact BK168.out⟩, ⟨by repeat (first | (with_reducible first | exact HB.out | apply below_alloc | apply pw_below_drewN | apply below_drew1 | refine below_set ?_ GE168.out) | exact HB.out)⟩⟩
            · replace c25 := Bool.eq_false_iff.mpr c25
              subst c25
              have H1 : (shackleref14_Dirs.j3 kj7 x3_7 (l0_1.length : Int) (a0_2.toList != ([] : List UInt8)) a0_0 l0_1 a0_2 false) = some r := by rw [if_neg (show ¬ (false = true) by decide)] at H; exact H
              clear H
              have H := H1
              clear H1
              have H' := Aside0.mk H
              clear H
              have hcz27_0 : wc.cell? ⟨gb168, 0, none⟩ = some (.string a0_0) := (blk_cell BK168.out 0).trans rfl
              have hcz27_1 : wc.cell? ⟨gb168, 1, none⟩ = some (.slice A0_1 l0_1.length c0_1) := (blk_cell BK168.out 1).trans rfl
              have hcz27_2 : wc.cell? ⟨gb168, 2, none⟩ = some (.string a0_2) := (blk_cell BK168.out 2).trans rfl
              have hcz27_3 : wc.cell? ⟨gb168, 3, none⟩ = some (.bool false) := (blk_cell BK168.out 3).trans rfl
              have hfz27_0 := blk_frozen BK168.out 0
              have hfz27_1 := blk_frozen BK168.out 1
              have hfz27_2 := blk_frozen BK168.out 2
              have hfz27_3 := blk_frozen BK168.out 3
              go_wp2
              go_meet
              case rel => exact ⟨_, ((a0_2.toList != ([] : List UInt8))), (by first | rfl | ((generalize a0_2.toList = l_); cases l_ <;> first | rfl | (simp; done)) | (simp; done) | (simp [*]; done)), H', ⟨by have := HJ1.out; have := HJ7.out; first | omega | exact Nat.le_refl _⟩, ⟨by (with_reducible repeat (first | apply Kd.R_alloc | apply Kd.R_drewN | apply Kd.R_drew)); exact HO_3.out⟩, ⟨by (with_reducible repeat (first | refine blk_drewN ?_ _ | refine blk_drew ?_ | refine blk_alloc ?_ _)); exact BK168.out⟩, ⟨by repeat (first | (with_reducible first | exact HB.out | apply below_alloc | apply pw_below_drewN | apply below_drew1 | refine below_set ?_ GE168.out) | exact HB.out)⟩⟩
          case rest =>
            clear HC24
            try clear c1
            try clear p1
            try clear q1
            try clear hx1
            try clear qi1
            try clear c2
            try clear p2
            try clear c5
            try clear c5b0
            try clear c5b1
            try clear c6
            try clear c6b0
            try clear c6b1
            try clear p6
            try clear c8
            try clear c9
            try clear c10
            try clear c10b0
            try clear c11
            try clear c11b0
            try clear c12
            try clear c12b0
            try clear q13
            try clear c14
            try clear q15
            try clear c16
            try clear p16
            try clear q16
            try clear hx16
            try clear qi16
            try clear p17
            try clear q17
            try clear hx17
            try clear c22
            try clear c25
            try clear hcz17_0
            try clear hcz17_1
            try clear hcz17_2
            try clear hcz17_3
            try clear hcz19_0
            try clear hcz19_1
            try clear hcz19_2
            try clear hcz19_3
            try clear hcz23_0
            try clear hcz23_1
            try clear hcz23_2
            try clear hcz23_3
            try clear hcz26_0
            try clear hcz26_1
            try clear hcz26_2
            try clear hcz26_3
            try clear hcz27_0
            try clear hcz27_1
            try clear hcz27_2
            try clear hcz27_3
            try clear hcz4_0
            try clear hcz4_1
            try clear hcz4_2
            try clear hcz4_3
            try clear hcz7_0
            try clear hcz7_1
            try clear hcz7_2
            try clear hcz7_3
            try clear hfz17_0
            try clear hfz17_1
            try clear hfz17_2
            try clear hfz17_3
            try clear hfz19_0
            try clear hfz19_1
            try clear hfz19_2
            try clear hfz19_3
            try clear hfz23_0
            try clear hfz23_1
            try clear hfz23_2
            try clear hfz23_3
            try clear hfz26_0
            try clear hfz26_1
            try clear hfz26_2
            try clear hfz26_3
            try clear hfz27_0
            try clear hfz27_1
            try clear hfz27_2
            try clear hfz27_3
            try clear hfz4_0
            try clear hfz4_1
            try clear hfz4_2
            try clear hfz4_3
            try clear hfz7_0
            try clear hfz7_1
            try clear hfz7_2
            try clear hfz7_3
            try clear hx169_0
            try clear hx169_1
            try clear hx169_2
            try clear hx169_3
            try clear hx169_4
            try clear hx170_0
            try clear hx170_1
            try clear hx170_2
            try clear hx170_3
            try clear hx170_4
            try clear hx171_0
            try clear hx171_1
            try clear hx171_2
            try clear hx171_3
            try clear hx171_4
            try clear hx172_0
            try clear hx172_1
            try clear hx172_2
            try clear hx172_3
            try clear hx172_4
            try clear hx173_0
            try clear hx173_1
            try clear hx173_2
            try clear hx173_3
            try clear hx173_4
            try clear p1
            try clear p16
            try clear p169
            try clear p17
            try clear p170
            try clear p171
            try clear p172
            try clear p173
            try clear p2
            try clear p6
            try clear q1
            try clear q13
            try clear q15
            try clear q16
            try clear q169
            try clear q17
            try clear q170
            try clear q171
            try clear q172
            try clear q173
            obtain ⟨kq, x63_23, rfl, HA, HJ23, HO_3, BK168, HB⟩ := hcut
            cases kq with
            | zero => exact absurd HA.out (by simp [shackleref14_Dirs.j3])
            | succ kj23 =>
              have H := HA.out
              clear HA
              simp only [shackleref14_Dirs.j3] at H
              have HC28 := Aside0.mk H
              clear H
              go_upto_if 63 with (fail)
              go_cut [3] (fun v3 wc => ∃ (kq : Nat) (x3_27 : List ByteArray), Aside0 (shackleref14_Dirs.j4 kq x3_27 (l0_1.length : Int) a0_0 l0_1 a0_2 a0_3 = some r) ∧ Aside0 (kq ≤ kj23) ∧ Aside0 (Kd.R Kd.string 9 wc w.heap.size (fun _ => True) v3 x3_27) ∧ Aside0 (wc.heap[gb168]? = some (.cells #[.string a0_0, (.slice A0_1 l0_1.length c0_1), .string a0_2, .bool a0_3] 24 (0, 0))) ∧ Aside0 (Below w.heap.size w wc))
              case first =>
                have H := HC28.out
                clear HC28
                by_cases c29 : x63_23 = true
                · subst c29
                  have H1 : (if (l0_1.length : Int) > 0 then (if 0 ≤ (wrap64 ((l0_1.length : Int) - 1)) then (if (wrap64 ((l0_1.length : Int) - 1)) < (l0_1.length : Int) then ((shackleref14_lay.f kj23 x3_7 a0_2 (⟨#[58, 59]⟩ : ByteArray) ((rd_T58 l0_1 (wrap64 ((l0_1.length : Int) - 1))).f0) false).bind fun t178 => (shackleref14_Dirs.j4 kj23 t178 (l0_1.length : Int) a0_0 l0_1 a0_2 a0_3)) else (none)) else (none)) else ((shackleref14_lay.f kj23 x3_7 a0_2 (⟨#[58, 59]⟩ : ByteArray) (⟨#[]⟩ : ByteArray) false).bind fun t181 => (shackleref14_Dirs.j4 kj23 t181 (l0_1.length : Int) a0_0 l0_1 a0_2 a0_3))) = some r := by rw [if_pos rfl] at H; exact H
                  clear H
                  have H := H1
                  clear H1
                  by_cases c30 : (l0_1.length : Int) > 0
                  · rw [if_pos c30] at H
                    have c30b0 : decide (0 < (l0_1.length : Int)) = true := decide_eq_true c30
                    have c30b1 : decide (0 < l0_1.length) = true := decide_eq_true (by omega)
                    clear c30
                    (first | rw [c30b0] | (simp only [i64_w, i32_w]; rw [c30b0]) | skip)
                    obtain ⟨ji31, hji31⟩ : ∃ j_ : Int, (wrap64 ((l0_1.length : Int) - 1)) = j_ := ⟨_, rfl⟩
                    replace H : (if 0 ≤ (ji31) then (if (ji31) < (l0_1.length : Int) then ((shackleref14_lay.f kj23 x3_7 a0_2 (⟨#[58, 59]⟩ : ByteArray) ((rd_T58 l0_1 (ji31)).f0) false).bind fun t178 => (shackleref14_Dirs.j4 kj23 t178 (l0_1.length : Int) a0_0 l0_1 a0_2 a0_3)) else (none)) else (none)) = some r := by first | (rw [hji31] at H; exact H) | (simp only [hji31] at H ⊢; exact H)
                    have hji31w : (IntKind.i64.wrap ((l0_1.length : Int) - 1)) = ji31 := (i64_w _).trans hji31
                    by_cases c32 : 0 ≤ (ji31)
                    · rw [if_pos c32] at H
                      have c32b0 : decide (0 ≤ (ji31)) = true := decide_eq_true c32
                      clear c32
                      by_cases c33 : (ji31) < (l0_1.length : Int)
                      · rw [if_pos c33] at H
                        have c33b0 : decide ((ji31) < (l0_1.length : Int)) = true := decide_eq_true c33
                        clear c33
                        replace H := Option.bind_eq_some_iff.mp H
                        obtain ⟨t178, A340, H⟩ := H
                        replace H : (shackleref14_Dirs.j4 kj23 t178 (l0_1.length : Int) a0_0 l0_1 a0_2 a0_3) = some r := H
                        have A34 := Aside0.mk A340
                        clear A340
                        have H' := Aside0.mk H
                        clear H
                        have hcz35_0 : wc.cell? ⟨gb168, 0, none⟩ = some (.string a0_0) := (blk_cell BK168.out 0).trans rfl
                        have hcz35_1 : wc.cell? ⟨gb168, 1, none⟩ = some (.slice A0_1 l0_1.length c0_1) := (blk_cell BK168.out 1).trans rfl
                        have hcz35_2 : wc.cell? ⟨gb168, 2, none⟩ = some (.string a0_2) := (blk_cell BK168.out 2).trans rfl
                        have hcz35_3 : wc.cell? ⟨gb168, 3, none⟩ = some (.bool a0_3) := (blk_cell BK168.out 3).trans rfl
                        have hfz35_0 := blk_frozen BK168.out 0
                        have hfz35_1 := blk_frozen BK168.out 1
                        have hfz35_2 := blk_frozen BK168.out 2
                        have hfz35_3 := blk_frozen BK168.out 3
                        have p177 : 0 ≤ ((ji31) : Int) := of_decide_eq_true (by first | (with_reducible assumption) | assumption)
                        have q177 : (ji31) < (l0_1.length : Int) := of_decide_eq_true (by first | (with_reducible assumption) | assumption)
                        obtain ⟨ad177, e177, hx177_0, hx177_1, hx177_2, hx177_3, hx177_4⟩ := at_T58 HR0_1.out (ji31) p177 q177
                        cases e177
                        replace hx177_0 := (HB.out.cell (World.block_lt_of_cell? w _ hx177_0)).trans hx177_0
                        replace hx177_1 := (HB.out.cell (World.block_lt_of_cell? w _ hx177_1)).trans hx177_1
                        replace hx177_2 := (HB.out.cell (World.block_lt_of_cell? w _ hx177_2)).trans hx177_2
                        replace hx177_3 := (HB.out.cell (World.block_lt_of_cell? w _ hx177_3)).trans hx177_3
                        replace hx177_4 := (HB.out.cell (World.block_lt_of_cell? w _ hx177_4)).trans hx177_4
                        replace p177 := eq_true p177
                        replace q177 := eq_true q177
                        obtain ⟨Ao36, co36, eo36⟩ := Kd.R_slice HO_3.out
                        subst eo36
                        go_wp2_with (first | ((with_reducible refine gate_callee (f := 22) rfl ?_); refine goesL_ (some 77) rfl rfl Try.func22 (by kernel_rfl) rfl #[.slice Ao36 x3_7.length co36, .string a0_2, .string (⟨#[58, 59]⟩ : ByteArray), .string ((rd_T58 l0_1 (ji31)).f0), .bool false] rfl (by (try simp only [List.map_toArray, List.map_cons, List.map_nil]); first | done | (simp only [hji31]; rfl) | rfl | (simp only [List.length_drop, List.length_take]; rfl)) ?_; (with_reducible refine (shackleref14_lay.calls kj23 (fun k_ => some k_ = (.slice Ao36 x3_7.length co36 : Value).ownBlock) (.slice Ao36 x3_7.length co36) x3_7 a0_2 (⟨#[58, 59]⟩ : ByteArray) ((rd_T58 l0_1 (ji31)).f0) false t178 w _ ?side1 ?side2 A34.out).mono ?_); (case side1 => repeat (first | (with_reducible first | exact HB.out | apply below_alloc | apply pw_below_drewN | apply below_drew1 | refine below_set ?_ GE168.out) | exact HB.out)); (case side2 => exact Kd.R_tight rfl HO_3.out); rintro e w37 ⟨v179, rfl, ho0, hb, hkp⟩; refine ⟨_, rfl, ?_⟩; have n0_ := Aside0.mk (blk_kept (by (with_reducible repeat (first | refine blk_drewN ?_ _ | refine blk_drew ?_ | refine blk_alloc ?_ _)); exact BK168.out) hkp (fun hs_ => (fun e_ => (Kd.R_ne HO_3.out BK168.out (by decide)) e_) hs_)); have n1_ := Aside0.mk (Kd.R_mono (ok' := fun k_ => True) ho0 (fun k_ hk_ => trivial)); have n2_ := Aside0.mk (hb); clear BK168; clear HB; clear HO_3; have BK168 := n0_; have HO180 := n1_; have HB := n2_; clear n0_ n1_ n2_; (try clear hb); (try clear hkp); (try clear ho0)))
                        go_meet
                        case rel => exact ⟨_, (t178), H', ⟨by have := HJ1.out; have := HJ7.out; have := HJ23.out; first | omega | exact Nat.le_refl _⟩, ⟨by (with_reducible repeat (first | apply Kd.R_alloc | apply Kd.R_drewN | apply Kd.R_drew)); exact HO180.out⟩, ⟨by (with_reducible repeat (first | refine blk_drewN ?_ _ | refine blk_drew ?_ | refine blk_alloc ?_ _)); exact BK168.out⟩, ⟨by repeat (first | (with_reducible first | exact HB.out | apply below_alloc | apply pw_below_drewN | apply below_drew1 | refine below_set ?_ GE168.out) | exact HB.out)⟩⟩
                      · rw [if_neg c33] at H
                        exact absurd H (by simp)
                    · rw [if_neg c32] at H
                      exact absurd H (by simp)
                  · rw [if_neg c30] at H
                    have c30b0 : decide (0 < (l0_1.length : Int)) = false := decide_eq_false c30
                    have c30b1 : decide (0 < l0_1.length) = false := decide_eq_false (by omega)
                    clear c30
                    (first | rw [c30b0] | (simp only [i64_w, i32_w]; rw [c30b0]) | skip)
                    replace H := Option.bind_eq_some_iff.mp H
                    obtain ⟨t181, A380, H⟩ := H
                    replace H : (shackleref14_Dirs.j4 kj23 t181 (l0_1.length : Int) a0_0 l0_1 a0_2 a0_3) = some r := H
                    have A38 := Aside0.mk A380
                    clear A380
                    have H' := Aside0.mk H
                    clear H
                    have hcz39_0 : wc.cell? ⟨gb168, 0, none⟩ = some (.string a0_0) := (blk_cell BK168.out 0).trans rfl
                    have hcz39_1 : wc.cell? ⟨gb168, 1, none⟩ = some (.slice A0_1 l0_1.length c0_1) := (blk_cell BK168.out 1).trans rfl
                    have hcz39_2 : wc.cell? ⟨gb168, 2, none⟩ = some (.string a0_2) := (blk_cell BK168.out 2).trans rfl
                    have hcz39_3 : wc.cell? ⟨gb168, 3, none⟩ = some (.bool a0_3) := (blk_cell BK168.out 3).trans rfl
                    have hfz39_0 := blk_frozen BK168.out 0
                    have hfz39_1 := blk_frozen BK168.out 1
                    have hfz39_2 := blk_frozen BK168.out 2
                    have hfz39_3 := blk_frozen BK168.out 3
                    obtain ⟨Ao40, co40, eo40⟩ := Kd.R_slice HO_3.out
                    subst eo40
                    go_wp2_with (first | ((with_reducible refine gate_callee (f := 22) rfl ?_); refine goesL_ (some 77) rfl rfl Try.func22 (by kernel_rfl) rfl #[.slice Ao40 x3_7.length co40, .string a0_2, .string (⟨#[58, 59]⟩ : ByteArray), .string (⟨#[]⟩ : ByteArray), .bool false] rfl (by (try simp only [List.map_toArray, List.map_cons, List.map_nil]); first | done | rfl | (simp only [List.length_drop, List.length_take]; rfl)) ?_; (with_reducible refine (shackleref14_lay.calls kj23 (fun k_ => some k_ = (.slice Ao40 x3_7.length co40 : Value).ownBlock) (.slice Ao40 x3_7.length co40) x3_7 a0_2 (⟨#[58, 59]⟩ : ByteArray) (⟨#[]⟩ : ByteArray) false t181 w _ ?side1 ?side2 A38.out).mono ?_); (case side1 => repeat (first | (with_reducible first | exact HB.out | apply below_alloc | apply pw_below_drewN | apply below_drew1 | refine below_set ?_ GE168.out) | exact HB.out)); (case side2 => exact Kd.R_tight rfl HO_3.out); rintro e w41 ⟨v182, rfl, ho0, hb, hkp⟩; refine ⟨_, rfl, ?_⟩; have n0_ := Aside0.mk (blk_kept (by (with_reducible repeat (first | refine blk_drewN ?_ _ | refine blk_drew ?_ | refine blk_alloc ?_ _)); exact BK168.out) hkp (fun hs_ => (fun e_ => (Kd.R_ne HO_3.out BK168.out (by decide)) e_) hs_)); have n1_ := Aside0.mk (Kd.R_mono (ok' := fun k_ => True) ho0 (fun k_ hk_ => trivial)); have n2_ := Aside0.mk (hb); clear BK168; clear HB; clear HO_3; have BK168 := n0_; have HO183 := n1_; have HB := n2_; clear n0_ n1_ n2_; (try clear hb); (try clear hkp); (try clear ho0)))
                    go_meet
                    case rel => exact ⟨_, (t181), H', ⟨by have := HJ1.out; have := HJ7.out; have := HJ23.out; first | omega | exact Nat.le_refl _⟩, ⟨by (with_reducible repeat (first | apply Kd.R_alloc | apply Kd.R_drewN | apply Kd.R_drew)); exact HO183.out⟩, ⟨by (with_reducible repeat (first | refine blk_drewN ?_ _ | refine blk_drew ?_ | refine blk_alloc ?_ _)); exact BK168.out⟩, ⟨by repeat (first | (with_reducible first | exact HB.out | apply below_alloc | apply pw_below_drewN | apply below_drew1 | refine below_set ?_ GE168.out) | exact HB.out)⟩⟩
                · replace c29 := Bool.eq_false_iff.mpr c29
                  subst c29
                  have H1 : (shackleref14_Dirs.j4 kj23 x3_7 (l0_1.length : Int) a0_0 l0_1 a0_2 a0_3) = some r := by rw [if_neg (show ¬ (false = true) by decide)] at H; exact H
                  clear H
                  have H := H1
                  clear H1
                  have H' := Aside0.mk H
                  clear H
                  go_wp2
                  go_meet
                  case rel => exact ⟨_, (x3_7), H', ⟨by have := HJ1.out; have := HJ7.out; have := HJ23.out; first | omega | exact Nat.le_refl _⟩, ⟨by (with_reducible repeat (first | apply Kd.R_alloc | apply Kd.R_drewN | apply Kd.R_drew)); exact HO_3.out⟩, ⟨by (with_reducible repeat (first | refine blk_drewN ?_ _ | refine blk_drew ?_ | refine blk_alloc ?_ _)); exact BK168.out⟩, ⟨by repeat (first | (with_reducible first | exact HB.out | apply below_alloc | apply pw_below_drewN | apply below_drew1 | refine below_set ?_ GE168.out) | exact HB.out)⟩⟩
              case rest =>
                clear HC28
                try clear c1
                try clear p1
                try clear q1
                try clear hx1
                try clear qi1
                try clear c2
                try clear p2
                try clear c3
                try clear c5
                try clear c5b0
                try clear c5b1
                try clear c6
                try clear c6b0
                try clear c6b1
                try clear p6
                try clear c8
                try clear c9
                try clear c10
                try clear c10b0
                try clear c11
                try clear c11b0
                try clear c12
                try clear c12b0
                try clear q13
                try clear c14
                try clear q15
                try clear c16
                try clear p16
                try clear q16
                try clear hx16
                try clear qi16
                try clear p17
                try clear q17
                try clear hx17
                try clear c22
                try clear c25
                try clear c29
                try clear c30
                try clear c30b0
                try clear c30b1
                try clear c32
                try clear c32b0
                try clear c33
                try clear c33b0
                try clear hcz17_0
                try clear hcz17_1
                try clear hcz17_2
                try clear hcz17_3
                try clear hcz19_0
                try clear hcz19_1
                try clear hcz19_2
                try clear hcz19_3
                try clear hcz23_0
                try clear hcz23_1
                try clear hcz23_2
                try clear hcz23_3
                try clear hcz26_0
                try clear hcz26_1
                try clear hcz26_2
                try clear hcz26_3
                try clear hcz27_0
                try clear hcz27_1
                try clear hcz27_2
                try clear hcz27_3
                try clear hcz35_0
                try clear hcz35_1
                try clear hcz35_2
                try clear hcz35_3
                try clear hcz39_0
                try clear hcz39_1
                try clear hcz39_2
                try clear hcz39_3
                try clear hcz4_0
                try clear hcz4_1
                try clear hcz4_2
                try clear hcz4_3
                try clear hcz7_0
                try clear hcz7_1
                try clear hcz7_2
                try clear hcz7_3
                try clear hfz17_0
                try clear hfz17_1
                try clear hfz17_2
                try clear hfz17_3
                try clear hfz19_0
                try clear hfz19_1
                try clear hfz19_2
                try clear hfz19_3
                try clear hfz23_0
                try clear hfz23_1
                try clear hfz23_2
                try clear hfz23_3
                try clear hfz26_0
                try clear hfz26_1
                try clear hfz26_2
                try clear hfz26_3
                try clear hfz27_0
                try clear hfz27_1
                try clear hfz27_2
                try clear hfz27_3
                try clear hfz35_0
                try clear hfz35_1
                try clear hfz35_2
                try clear hfz35_3
                try clear hfz39_0
                try clear hfz39_1
                try clear hfz39_2
                try clear hfz39_3
                try clear hfz4_0
                try clear hfz4_1
                try clear hfz4_2
                try clear hfz4_3
                try clear hfz7_0
                try clear hfz7_1
                try clear hfz7_2
                try clear hfz7_3
                try clear hx169_0
                try clear hx169_1
                try clear hx169_2
                try clear hx169_3
                try clear hx169_4
                try clear hx170_0
                try clear hx170_1
                try clear hx170_2
                try clear hx170_3
                try clear hx170_4
                try clear hx171_0
                try clear hx171_1
                try clear hx171_2
                try clear hx171_3
                try clear hx171_4
                try clear hx172_0
                try clear hx172_1
                try clear hx172_2
                try clear hx172_3
                try clear hx172_4
                try clear hx173_0
                try clear hx173_1
                try clear hx173_2
                try clear hx173_3
                try clear hx173_4
                try clear hx177_0
                try clear hx177_1
                try clear hx177_2
                try clear hx177_3
                try clear hx177_4
                try clear p1
                try clear p16
                try clear p169
                try clear p17
                try clear p170
                try clear p171
                try clear p172
                try clear p173
                try clear p177
                try clear p2
                try clear p6
                try clear q1
                try clear q13
                try clear q15
                try clear q16
                try clear q169
                try clear q17
                try clear q170
                try clear q171
                try clear q172
                try clear q173
                try clear q177
                obtain ⟨kq, x3_27, HA, HJ27, HO_3, BK168, HB⟩ := hcut
                cases kq with
                | zero => exact absurd HA.out (by simp [shackleref14_Dirs.j4])
                | succ kj27 =>
                  have H := HA.out
                  clear HA
                  simp only [shackleref14_Dirs.j4] at H
                  have HC42 := Aside0.mk H
                  clear H
                  go_upto_region 14 with (fail)
                  go_cut [86] (fun v86 wc => ∃ (kq : Nat) (x86_41 : Bool), v86 = .bool x86_41 ∧ Aside0 (shackleref14_Dirs.j5 kq x3_27 x86_41 a0_0 l0_1 a0_2 a0_3 = some r) ∧ Aside0 (kq ≤ kj27) ∧ Aside0 (Kd.R Kd.string 9 wc w.heap.size (fun _ => True) u3 x3_27) ∧ Aside0 (wc.heap[gb168]? = some (.cells #[.string a0_0, (.slice A0_1 l0_1.length c0_1), .string a0_2, .bool a0_3] 24 (0, 0))) ∧ Aside0 (Below w.heap.size w wc))
                  case first =>
                    have H := HC42.out
                    clear HC42
                    by_cases c43 : (l0_1.length : Int) > 0
                    · rw [if_pos c43] at H
                      have c43b0 : decide (0 < (l0_1.length : Int)) = true := decide_eq_true c43
                      have c43b1 : decide (0 < l0_1.length) = true := decide_eq_true (by omega)
                      clear c43
                      (first | rw [c43b0] | (simp only [i64_w, i32_w]; rw [c43b0]) | skip)
                      by_cases c44 : 0 < (l0_1.length : Int)
                      · rw [if_pos c44] at H
                        have c44b0 : decide (0 < (l0_1.length : Int)) = true := decide_eq_true c44
                        have c44b1 : decide (0 < l0_1.length) = true := decide_eq_true (by omega)
                        clear c44
                        have H' := Aside0.mk H
                        clear H
                        have hcz45_0 : wc.cell? ⟨gb168, 0, none⟩ = some (.string a0_0) := (blk_cell BK168.out 0).trans rfl
                        have hcz45_1 : wc.cell? ⟨gb168, 1, none⟩ = some (.slice A0_1 l0_1.length c0_1) := (blk_cell BK168.out 1).trans rfl
                        have hcz45_2 : wc.cell? ⟨gb168, 2, none⟩ = some (.string a0_2) := (blk_cell BK168.out 2).trans rfl
                        have hcz45_3 : wc.cell? ⟨gb168, 3, none⟩ = some (.bool a0_3) := (blk_cell BK168.out 3).trans rfl
                        have hfz45_0 := blk_frozen BK168.out 0
                        have hfz45_1 := blk_frozen BK168.out 1
                        have hfz45_2 := blk_frozen BK168.out 2
                        have hfz45_3 := blk_frozen BK168.out 3
                        have p184 : 0 ≤ (0 : Int) := (by omega)
                        have q184 : 0 < (l0_1.length : Int) := of_decide_eq_true (by first | (with_reducible assumption) | assumption)
                        obtain ⟨ad184, e184, hx184_0, hx184_1, hx184_2, hx184_3, hx184_4⟩ := at_T58 HR0_1.out 0 p184 q184
                        cases e184
                        have qi184 : (0 < l0_1.length) = True := eq_true (by omega)
                        (try rw [show ((0 : Int)).toNat = 0 from rfl] at hx184_0)
                        (try rw [show 0 * 5 = 0 from rfl] at hx184_0)
                        (try rw [Addr.add_zero'] at hx184_0)
                        (try rw [show ((0 : Int)).toNat = 0 from rfl] at hx184_1)
                        (try rw [show 0 * 5 = 0 from rfl] at hx184_1)
                        (try rw [Addr.add_zero'] at hx184_1)
                        (try rw [show ((0 : Int)).toNat = 0 from rfl] at hx184_2)
                        (try rw [show 0 * 5 = 0 from rfl] at hx184_2)
                        (try rw [Addr.add_zero'] at hx184_2)
                        (try rw [show ((0 : Int)).toNat = 0 from rfl] at hx184_3)
                        (try rw [show 0 * 5 = 0 from rfl] at hx184_3)
                        (try rw [Addr.add_zero'] at hx184_3)
                        (try rw [show ((0 : Int)).toNat = 0 from rfl] at hx184_4)
                        (try rw [show 0 * 5 = 0 from rfl] at hx184_4)
                        (try rw [Addr.add_zero'] at hx184_4)
                        replace hx184_0 := (HB.out.cell (World.block_lt_of_cell? w _ hx184_0)).trans hx184_0
                        replace hx184_1 := (HB.out.cell (World.block_lt_of_cell? w _ hx184_1)).trans hx184_1
                        replace hx184_2 := (HB.out.cell (World.block_lt_of_cell? w _ hx184_2)).trans hx184_2
                        replace hx184_3 := (HB.out.cell (World.block_lt_of_cell? w _ hx184_3)).trans hx184_3
                        replace hx184_4 := (HB.out.cell (World.block_lt_of_cell? w _ hx184_4)).trans hx184_4
                        replace p184 := eq_true p184
                        replace q184 := eq_true q184
                        go_wp2
                        go_meet
                        case rel => exact ⟨_, ((rd_T58 l0_1 0).f4), (by first | rfl | (simp; done) | (simp [*]; done)), H', ⟨by have := HJ1.out; have := HJ7.out; have := HJ23.out; have := HJ27.out; first | omega | exact Nat.le_refl _⟩, ⟨by (with_reducible repeat (first | apply Kd.R_alloc | apply Kd.R_drewN | apply Kd.R_drew)); exact HO_3.out⟩, ⟨by (with_reducible repeat (first | refine blk_drewN ?_ _ | refine blk_drew ?_ | refine blk_alloc ?_ _)); exact BK168.out⟩, ⟨by repeat (first | (with_reducible first | exact HB.out | apply below_alloc | apply pw_below_drewN | apply below_drew1 | refine below_set ?_ GE168.out) | exact HB.out)⟩⟩
                      · rw [if_neg c44] at H
                        exact absurd H (by simp)
                    · rw [if_neg c43] at H
                      have c43b0 : decide (0 < (l0_1.length : Int)) = false := decide_eq_false c43
                      have c43b1 : decide (0 < l0_1.length) = false := decide_eq_false (by omega)
                      clear c43
                      (first | rw [c43b0] | (simp only [i64_w, i32_w]; rw [c43b0]) | skip)
                      have H' := Aside0.mk H
                      clear H
                      go_wp2
                      go_meet
                      case rel => exact ⟨_, (false), (by first | rfl | (simp; done) | (simp [*]; done)), H', ⟨by have := HJ1.out; have := HJ7.out; have := HJ23.out; have := HJ27.out; first | omega | exact Nat.le_refl _⟩, ⟨by (with_reducible repeat (first | apply Kd.R_alloc | apply Kd.R_drewN | apply Kd.R_drew)); exact HO_3.out⟩, ⟨by (with_reducible repeat (first | refine blk_drewN ?_ _ | refine blk_drew ?_ | refine blk_alloc ?_ _)); exact BK168.out⟩, ⟨by repeat (first | (with_reducible first | exact HB.out | apply below_alloc | apply pw_below_drewN | apply below_drew1 | refine below_set ?_ GE168.out) | exact HB.out)⟩⟩
                  case rest =>
                    clear HC42
                    try clear c1
                    try clear p1
                    try clear q1
                    try clear hx1
                    try clear qi1
                    try clear c2
                    try clear p2
                    try clear c3
                    try clear c4
                    try clear c5
                    try clear c5b0
                    try clear c5b1
                    try clear c6
                    try clear c6b0
                    try clear c6b1
                    try clear p6
                    try clear c8
                    try clear c9
                    try clear c10
                    try clear c10b0
                    try clear c11
                    try clear c11b0
                    try clear c12
                    try clear c12b0
                    try clear q13
                    try clear c14
                    try clear q15
                    try clear c16
                    try clear p16
                    try clear q16
                    try clear hx16
                    try clear qi16
                    try clear p17
                    try clear q17
                    try clear hx17
                    try clear p18
                    try clear q18
                    try clear hx18
                    try clear qi18
                    try clear c22
                    try clear c25
                    try clear c29
                    try clear c30
                    try clear c30b0
                    try clear c30b1
                    try clear c32
                    try clear c32b0
                    try clear c33
                    try clear c33b0
                    try clear c43
                    try clear c43b0
                    try clear c43b1
                    try clear c44
                    try clear c44b0
                    try clear c44b1
                    try clear hcz17_0
                    try clear hcz17_1
                    try clear hcz17_2
                    try clear hcz17_3
                    try clear hcz19_0
                    try clear hcz19_1
                    try clear hcz19_2
                    try clear hcz19_3
                    try clear hcz23_0
                    try clear hcz23_1
                    try clear hcz23_2
                    try clear hcz23_3
                    try clear hcz26_0
                    try clear hcz26_1
                    try clear hcz26_2
                    try clear hcz26_3
                    try clear hcz27_0
                    try clear hcz27_1
                    try clear hcz27_2
                    try clear hcz27_3
                    try clear hcz35_0
                    try clear hcz35_1
                    try clear hcz35_2
                    try clear hcz35_3
                    try clear hcz39_0
                    try clear hcz39_1
                    try clear hcz39_2
                    try clear hcz39_3
                    try clear hcz45_0
                    try clear hcz45_1
                    try clear hcz45_2
                    try clear hcz45_3
                    try clear hcz4_0
                    try clear hcz4_1
                    try clear hcz4_2
                    try clear hcz4_3
                    try clear hcz7_0
                    try clear hcz7_1
                    try clear hcz7_2
                    try clear hcz7_3
                    try clear hfz17_0
                    try clear hfz17_1
                    try clear hfz17_2
                    try clear hfz17_3
                    try clear hfz19_0
                    try clear hfz19_1
                    try clear hfz19_2
                    try clear hfz19_3
                    try clear hfz23_0
                    try clear hfz23_1
                    try clear hfz23_2
                    try clear hfz23_3
                    try clear hfz26_0
                    try clear hfz26_1
                    try clear hfz26_2
                    try clear hfz26_3
                    try clear hfz27_0
                    try clear hfz27_1
                    try clear hfz27_2
                    try clear hfz27_3
                    try clear hfz35_0
                    try clear hfz35_1
                    try clear hfz35_2
                    try clear hfz35_3
                    try clear hfz39_0
                    try clear hfz39_1
                    try clear hfz39_2
                    try clear hfz39_3
                    try clear hfz45_0
                    try clear hfz45_1
                    try clear hfz45_2
                    try clear hfz45_3
                    try clear hfz4_0
                    try clear hfz4_1
                    try clear hfz4_2
                    try clear hfz4_3
                    try clear hfz7_0
                    try clear hfz7_1
                    try clear hfz7_2
                    try clear hfz7_3
                    try clear hx169_0
                    try clear hx169_1
                    try clear hx169_2
                    try clear hx169_3
                    try clear hx169_4
                    try clear hx170_0
                    try clear hx170_1
                    try clear hx170_2
                    try clear hx170_3
                    try clear hx170_4
                    try clear hx171_0
                    try clear hx171_1
                    try clear hx171_2
                    try clear hx171_3
                    try clear hx171_4
                    try clear hx172_0
                    try clear hx172_1
                    try clear hx172_2
                    try clear hx172_3
                    try clear hx172_4
                    try clear hx173_0
                    try clear hx173_1
                    try clear hx173_2
                    try clear hx173_3
                    try clear hx173_4
                    try clear hx177_0
                    try clear hx177_1
                    try clear hx177_2
                    try clear hx177_3
                    try clear hx177_4
                    try clear hx184_0
                    try clear hx184_1
                    try clear hx184_2
                    try clear hx184_3
                    try clear hx184_4
                    try clear p1
                    try clear p16
                    try clear p169
                    try clear p17
                    try clear p170
                    try clear p171
                    try clear p172
                    try clear p173
                    try clear p177
                    try clear p184
                    try clear p2
                    try clear p6
                    try clear q1
                    try clear q13
                    try clear q15
                    try clear q16
                    try clear q169
                    try clear q17
                    try clear q170
                    try clear q171
                    try clear q172
                    try clear q173
                    try clear q177
                    try clear q184
                    obtain ⟨kq, x86_41, rfl, HA, HJ41, HO_3, BK168, HB⟩ := hcut
                    cases kq with
                    | zero => exact absurd HA.out (by simp [shackleref14_Dirs.j5])
                    | succ kj41 =>
                      have H := HA.out
                      clear HA
                      simp only [shackleref14_Dirs.j5] at H
                      by_cases c46 : x86_41 = true
                      · subst c46
                        have H1 : (if 0 < (l0_1.length : Int) then ((shackleref14_lay.f kj41 x3_27 ((rd_T58 l0_1 0).f2) (⟨#[58]⟩ : ByteArray) ((rd_T58 l0_1 0).f0) a0_3).bind fun t187 => ((shackleref14_lay.f kj41 t187 (⟨#[47, 108, 105, 98, 54, 52, 58, 47, 117, 115, 114, 47, 108, 105, 98, 54, 52]⟩ : ByteArray) (⟨#[58]⟩ : ByteArray) (⟨#[]⟩ : ByteArray) false).bind fun t190 => (some t190))) else (none)) = some r := by rw [if_pos rfl] at H; exact H
                        clear H
                        have H := H1
                        clear H1
                        by_cases c47 : 0 < (l0_1.length : Int)
                        · rw [if_pos c47] at H
                          have c47b0 : decide (0 < (l0_1.length : Int)) = true := decide_eq_true c47
                          have c47b1 : decide (0 < l0_1.length) = true := decide_eq_true (by omega)
                          clear c47
                          replace H := Option.bind_eq_some_iff.mp H
                          obtain ⟨t187, A480, H⟩ := H
                          replace H : ((shackleref14_lay.f kj41 t187 (⟨#[47, 108, 105, 98, 54, 52, 58, 47, 117, 115, 114, 47, 108, 105, 98, 54, 52]⟩ : ByteArray) (⟨#[58]⟩ : ByteArray) (⟨#[]⟩ : ByteArray) false).bind fun t190 => (some t190)) = some r := H
                          have A48 := Aside0.mk A480
                          clear A480
                          replace H := Option.bind_eq_some_iff.mp H
                          obtain ⟨t190, A490, H⟩ := H
                          replace H : (some t190) = some r := H
                          have A49 := Aside0.mk A490
                          clear A490
                          obtain rfl := Option.some.inj H
                          try go_wp2
                          have n0_ := Aside0.mk (Kd.R_drew HO_3.out)
                          have n1_ := Aside0.mk (blk_drew BK168.out)
                          have n2_ := Aside0.mk (below_drew1 HB.out)
                          clear HO_3
                          clear BK168
                          clear HB
                          have HO_3 := n0_
                          have BK168 := n1_
                          have HB := n2_
                          clear n0_ n1_ n2_
                          have p185 : 0 ≤ (0 : Int) := (by omega)
                          have q185 : 0 < (l0_1.length : Int) := of_decide_eq_true (by first | (with_reducible assumption) | assumption)
                          obtain ⟨ad185, e185, hx185_0, hx185_1, hx185_2, hx185_3, hx185_4⟩ := at_T58 HR0_1.out 0 p185 q185
                          have hw185_4 := hx185_4
                          (try rw [show ((0 : Int)).toNat = 0 from rfl] at hw185_4)
                          (try rw [show 0 * 5 = 0 from rfl] at hw185_4)
                          (try rw [Addr.add_zero'] at hw185_4)
                          have hw185_3 := hx185_3
                          (try rw [show ((0 : Int)).toNat = 0 from rfl] at hw185_3)
                          (try rw [show 0 * 5 = 0 from rfl] at hw185_3)
                          (try rw [Addr.add_zero'] at hw185_3)
                          have hw185_2 := hx185_2
                          (try rw [show ((0 : Int)).toNat = 0 from rfl] at hw185_2)
                          (try rw [show 0 * 5 = 0 from rfl] at hw185_2)
                          (try rw [Addr.add_zero'] at hw185_2)
                          have hw185_1 := hx185_1
                          (try rw [show ((0 : Int)).toNat = 0 from rfl] at hw185_1)
                          (try rw [show 0 * 5 = 0 from rfl] at hw185_1)
                          (try rw [Addr.add_zero'] at hw185_1)
                          have hw185_0 := hx185_0
                          (try rw [show ((0 : Int)).toNat = 0 from rfl] at hw185_0)
                          (try rw [show 0 * 5 = 0 from rfl] at hw185_0)
                          (try rw [Addr.add_zero'] at hw185_0)
                          cases e185
                          have qi185 : (0 < l0_1.length) = True := eq_true (by omega)
                          (try rw [show ((0 : Int)).toNat = 0 from rfl] at hx185_0)
                          (try rw [show 0 * 5 = 0 from rfl] at hx185_0)
                          (try rw [Addr.add_zero'] at hx185_0)
                          (try rw [show ((0 : Int)).toNat = 0 from rfl] at hx185_1)
                          (try rw [show 0 * 5 = 0 from rfl] at hx185_1)
                          (try rw [Addr.add_zero'] at hx185_1)
                          (try rw [show ((0 : Int)).toNat = 0 from rfl] at hx185_2)
                          (try rw [show 0 * 5 = 0 from rfl] at hx185_2)
                          (try rw [Addr.add_zero'] at hx185_2)
                          (try rw [show ((0 : Int)).toNat = 0 from rfl] at hx185_3)
                          (try rw [show 0 * 5 = 0 from rfl] at hx185_3)
                          (try rw [Addr.add_zero'] at hx185_3)
                          (try rw [show ((0 : Int)).toNat = 0 from rfl] at hx185_4)
                          (try rw [show 0 * 5 = 0 from rfl] at hx185_4)
                          (try rw [Addr.add_zero'] at hx185_4)
                          replace hx185_0 := (HB.out.cell (World.block_lt_of_cell? w _ hx185_0)).trans hx185_0
                          replace hx185_1 := (HB.out.cell (World.block_lt_of_cell? w _ hx185_1)).trans hx185_1
                          replace hx185_2 := (HB.out.cell (World.block_lt_of_cell? w _ hx185_2)).trans hx185_2
                          replace hx185_3 := (HB.out.cell (World.block_lt_of_cell? w _ hx185_3)).trans hx185_3
                          replace hx185_4 := (HB.out.cell (World.block_lt_of_cell? w _ hx185_4)).trans hx185_4
                          replace p185 := eq_true p185
                          replace q185 := eq_true q185
                          have p186 : 0 ≤ (0 : Int) := (by omega)
                          have q186 : 0 < (l0_1.length : Int) := of_decide_eq_true (by first | (with_reducible assumption) | assumption)
                          obtain ⟨ad186, e186, hx186_0, hx186_1, hx186_2, hx186_3, hx186_4⟩ := at_T58 HR0_1.out 0 p186 q186
                          have hw186_4 := hx186_4
                          (try rw [show ((0 : Int)).toNat = 0 from rfl] at hw186_4)
                          (try rw [show 0 * 5 = 0 from rfl] at hw186_4)
                          (try rw [Addr.add_zero'] at hw186_4)
                          have hw186_3 := hx186_3
                          (try rw [show ((0 : Int)).toNat = 0 from rfl] at hw186_3)
                          (try rw [show 0 * 5 = 0 from rfl] at hw186_3)
                          (try rw [Addr.add_zero'] at hw186_3)
                          have hw186_2 := hx186_2
                          (try rw [show ((0 : Int)).toNat = 0 from rfl] at hw186_2)
                          (try rw [show 0 * 5 = 0 from rfl] at hw186_2)
                          (try rw [Addr.add_zero'] at hw186_2)
                          have hw186_1 := hx186_1
                          (try rw [show ((0 : Int)).toNat = 0 from rfl] at hw186_1)
                          (try rw [show 0 * 5 = 0 from rfl] at hw186_1)
                          (try rw [Addr.add_zero'] at hw186_1)
                          have hw186_0 := hx186_0
                          (try rw [show ((0 : Int)).toNat = 0 from rfl] at hw186_0)
                          (try rw [show 0 * 5 = 0 from rfl] at hw186_0)
                          (try rw [Addr.add_zero'] at hw186_0)
                          obtain rfl : ad185 = ad186 := (by injection e186)
                          have qi186 : (0 < l0_1.length) = True := eq_true (by omega)
                          (try rw [show ((0 : Int)).toNat = 0 from rfl] at hx186_0)
                          (try rw [show 0 * 5 = 0 from rfl] at hx186_0)
                          (try rw [Addr.add_zero'] at hx186_0)
                          (try rw [show ((0 : Int)).toNat = 0 from rfl] at hx186_1)
                          (try rw [show 0 * 5 = 0 from rfl] at hx186_1)
                          (try rw [Addr.add_zero'] at hx186_1)
                          (try rw [show ((0 : Int)).toNat = 0 from rfl] at hx186_2)
                          (try rw [show 0 * 5 = 0 from rfl] at hx186_2)
                          (try rw [Addr.add_zero'] at hx186_2)
                          (try rw [show ((0 : Int)).toNat = 0 from rfl] at hx186_3)
                          (try rw [show 0 * 5 = 0 from rfl] at hx186_3)
                          (try rw [Addr.add_zero'] at hx186_3)
                          (try rw [show ((0 : Int)).toNat = 0 from rfl] at hx186_4)
                          (try rw [show 0 * 5 = 0 from rfl] at hx186_4)
                          (try rw [Addr.add_zero'] at hx186_4)
                          replace hx186_0 := (HB.out.cell (World.block_lt_of_cell? w _ hx186_0)).trans hx186_0
                          replace hx186_1 := (HB.out.cell (World.block_lt_of_cell? w _ hx186_1)).trans hx186_1
                          replace hx186_2 := (HB.out.cell (World.block_lt_of_cell? w _ hx186_2)).trans hx186_2
                          replace hx186_3 := (HB.out.cell (World.block_lt_of_cell? w _ hx186_3)).trans hx186_3
                          replace hx186_4 := (HB.out.cell (World.block_lt_of_cell? w _ hx186_4)).trans hx186_4
                          replace p186 := eq_true p186
                          replace q186 := eq_true q186
                          obtain ⟨Ao51, co51, eo51⟩ := Kd.R_slice HO_3.out
                          (first | subst eo51 | (injection eo51 with f1_ f2_ f3_; have f4_ := f1_.symm; have f5_ := f3_.symm; clear f1_ f2_ f3_; subst f4_; subst f5_))
                          refine start_ (n := 15) (S := fun w' => w'.cell? ⟨gb168, 0, none⟩ = some (.string a0_0) ∧ w'.cell? ⟨gb168, 1, none⟩ = some (.slice (some ad185) l0_1.length c0_1) ∧ w'.cell? ⟨gb168, 2, none⟩ = some (.string a0_2) ∧ w'.cell? ⟨gb168, 3, none⟩ = some (.bool a0_3) ∧ w'.cell? ad185 = some (.string ((rd_T58 l0_1 0).f0)) ∧ w'.cell? ⟨ad185.block, ad185.off + 1, none⟩ = some (.string ((rd_T58 l0_1 0).f1)) ∧ w'.cell? ⟨ad185.block, ad185.off + 2, none⟩ = some (.string ((rd_T58 l0_1 0).f2)) ∧ w'.cell? ⟨ad185.block, ad185.off + 3, none⟩ = some (.bool ((rd_T58 l0_1 0).f3)) ∧ w'.cell? ⟨ad185.block, ad185.off + 4, none⟩ = some (.bool ((rd_T58 l0_1 0).f4)) ∧ w'.cell? ad185 = some (.string ((rd_T58 l0_1 0).f0)) ∧ w'.cell? ⟨ad185.block, ad185.off + 1, none⟩ = some (.string ((rd_T58 l0_1 0).f1)) ∧ w'.cell? ⟨ad185.block, ad185.off + 2, none⟩ = some (.string ((rd_T58 l0_1 0).f2)) ∧ w'.cell? ⟨ad185.block, ad185.off + 3, none⟩ = some (.bool ((rd_T58 l0_1 0).f3)) ∧ w'.cell? ⟨ad185.block, ad185.off + 4, none⟩ = some (.bool ((rd_T58 l0_1 0).f4))) (ds := []) #[false, false, false, false, false, false, false, false, false, false, false, false, false, false, false] (by kernel_rfl) rfl rfl ⟨(blk_cell BK168.out 0).trans rfl, (blk_cell BK168.out 1).trans rfl, (blk_cell BK168.out 2).trans rfl, (blk_cell BK168.out 3).trans rfl, ((HB.out.cell (World.block_lt_of_cell? w _ hw185_0)).trans hw185_0), ((HB.out.cell (World.block_lt_of_cell? w _ hw185_1)).trans hw185_1), ((HB.out.cell (World.block_lt_of_cell? w _ hw185_2)).trans hw185_2), ((HB.out.cell (World.block_lt_of_cell? w _ hw185_3)).trans hw185_3), ((HB.out.cell (World.block_lt_of_cell? w _ hw185_4)).trans hw185_4), ((HB.out.cell (World.block_lt_of_cell? w _ hw186_0)).trans hw186_0), ((HB.out.cell (World.block_lt_of_cell? w _ hw186_1)).trans hw186_1), ((HB.out.cell (World.block_lt_of_cell? w _ hw186_2)).trans hw186_2), ((HB.out.cell (World.block_lt_of_cell? w _ hw186_3)).trans hw186_3), ((HB.out.cell (World.block_lt_of_cell? w _ hw186_4)).trans hw186_4)⟩ (fun hHeld => ?_); refine with_tabW shackleref14_Dirs.tab15 shackleref14_Dirs.bits15 (fun HT_ HW_ => ?_)
                          generalize wc.drew = w50 at HO_3 BK168 HB hx185_0 hx185_1 hx185_2 hx185_3 hx185_4 hx186_0 hx186_1 hx186_2 hx186_3 hx186_4 hHeld ⊢
                          refine pure_ (i := 0) (N := some 87) (v := ?_) (a' := ?_) #[true, false, false, false, false, false, false, false, false, false, false, false, false, false, false] rfl rfl (any_of HT_.out (by kernel_rfl)) (fun _ _ _ h => h) (Or.inl ⟨by rfl, ?_⟩) ?_ ?_
                          rotate_left
                          · intro w'
                            go_simp
                            with_reducible rfl
                          rotate_left
                          · simp only [Act.put, List.setIfInBounds_toArray, List.set_cons_zero, List.set_cons_succ, i64_w, i32_w]
                            rfl
                          refine pure_ (i := 1) (N := some 88) (v := ?_) (a' := ?_) #[true, true, false, false, false, false, false, false, false, false, false, false, false, false, false] rfl rfl (any_of HT_.out (by kernel_rfl)) (fun _ _ _ h => h) (Or.inl ⟨by rfl, ?_⟩) ?_ ?_
                          rotate_left
                          · intro w'
                            go_simp
                            with_reducible rfl
                          rotate_left
                          · simp only [Act.put, List.setIfInBounds_toArray, List.set_cons_zero, List.set_cons_succ, i64_w, i32_w]
                            rfl
                          refine pure_ (i := 6) (N := some 93) (v := ?_) (a' := ?_) #[true, true, false, false, false, false, true, false, false, false, false, false, false, false, false] rfl rfl (any_of HT_.out (by kernel_rfl)) (fun _ _ _ h => h) (Or.inl ⟨by rfl, ?_⟩) ?_ ?_
                          rotate_left
                          · intro w'
                            go_simp
                            with_reducible rfl
                          rotate_left
                          · simp only [Act.put, List.setIfInBounds_toArray, List.set_cons_zero, List.set_cons_succ, i64_w, i32_w]
                            rfl
                          refine pure_ (i := 11) (N := some 98) (v := ?_) (a' := ?_) #[true, true, false, false, false, false, true, false, false, false, false, true, false, false, false] rfl rfl (any_of HT_.out (by kernel_rfl)) (fun _ _ _ h => h) (Or.inl ⟨by rfl, ?_⟩) ?_ ?_
                          rotate_left
                          · intro w'
                            go_simp
                            with_reducible rfl
                          rotate_left
                          · simp only [Act.put, List.setIfInBounds_toArray, List.set_cons_zero, List.set_cons_succ, i64_w, i32_w]
                            rfl
                          refine take_ (i := 2) (N := some 89) (v := ?_) (a' := ?_) #[true, true, true, false, false, false, true, false, false, false, false, true, false, false, false] rfl rfl (take_ofW HT_.out HW_.out (by kernel_rfl)) (fun _ _ _ h => h) (Or.inl ⟨by rfl, ?_⟩) hHeld ?_ ?_
                          rotate_left
                          · rintro w' ⟨s0, s1, s2, s3, s4, s5, s6, s7, s8, s9, s10, s11, s12, s13⟩
                            go_simp
                            with_reducible rfl
                          rotate_left
                          · simp only [Act.put, List.setIfInBounds_toArray, List.set_cons_zero, List.set_cons_succ, i64_w, i32_w]
                            rfl
                          refine pure_ (i := 3) (N := some 90) (v := ?_) (a' := ?_) #[true, true, true, true, false, false, true, false, false, false, false, true, false, false, false] rfl rfl (any_of HT_.out (by kernel_rfl)) (fun _ _ _ h => h) (Or.inl ⟨by rfl, ?_⟩) ?_ ?_
                          rotate_left
                          · intro w'
                            go_simp
                            with_reducible rfl
                          rotate_left
                          · simp only [Act.put, List.setIfInBounds_toArray, List.set_cons_zero, List.set_cons_succ, i64_w, i32_w]
                            rfl
                          refine pure_ (i := 4) (N := some 91) (v := ?_) (a' := ?_) #[true, true, true, true, true, false, true, false, false, false, false, true, false, false, false] rfl rfl (any_of HT_.out (by kernel_rfl)) (fun _ _ _ h => h) (Or.inl ⟨by rfl, ?_⟩) ?_ ?_
                          rotate_left
                          · intro w'
                            go_simp
                            with_reducible rfl
                          rotate_left
                          · simp only [Act.put, List.setIfInBounds_toArray, List.set_cons_zero, List.set_cons_succ, i64_w, i32_w]
                            rfl
                          refine take_ (i := 5) (N := some 92) (v := ?_) (a' := ?_) #[true, true, true, true, true, true, true, false, false, false, false, true, false, false, false] rfl rfl (take_ofW HT_.out HW_.out (by kernel_rfl)) (fun _ _ _ h => h) (Or.inl ⟨by rfl, ?_⟩) hHeld ?_ ?_
                          rotate_left
                          · rintro w' ⟨s0, s1, s2, s3, s4, s5, s6, s7, s8, s9, s10, s11, s12, s13⟩
                            go_simp
                            with_reducible rfl
                          rotate_left
                          · simp only [Act.put, List.setIfInBounds_toArray, List.set_cons_zero, List.set_cons_succ, i64_w, i32_w]
                            rfl
                          refine take_ (i := 7) (N := some 94) (v := ?_) (a' := ?_) #[true, true, true, true, true, true, true, true, false, false, false, true, false, false, false] rfl rfl (take_ofW HT_.out HW_.out (by kernel_rfl)) (fun _ _ _ h => h) (Or.inl ⟨by rfl, ?_⟩) hHeld ?_ ?_
                          rotate_left
                          · rintro w' ⟨s0, s1, s2, s3, s4, s5, s6, s7, s8, s9, s10, s11, s12, s13⟩
                            go_simp
                            with_reducible rfl
                          rotate_left
                          · simp only [Act.put, List.setIfInBounds_toArray, List.set_cons_zero, List.set_cons_succ, i64_w, i32_w]
                            rfl
                          refine pure_ (i := 8) (N := some 95) (v := ?_) (a' := ?_) #[true, true, true, true, true, true, true, true, true, false, false, true, false, false, false] rfl rfl (any_of HT_.out (by kernel_rfl)) (fun _ _ _ h => h) (Or.inl ⟨by rfl, ?_⟩) ?_ ?_
                          rotate_left
                          · intro w'
                            go_simp
                            with_reducible rfl
                          rotate_left
                          · simp only [Act.put, List.setIfInBounds_toArray, List.set_cons_zero, List.set_cons_succ, i64_w, i32_w]
                            rfl
                          refine pure_ (i := 9) (N := some 96) (v := ?_) (a' := ?_) #[true, true, true, true, true, true, true, true, true, true, false, true, false, false, false] rfl rfl (any_of HT_.out (by kernel_rfl)) (fun _ _ _ h => h) (Or.inl ⟨by rfl, ?_⟩) ?_ ?_
                          rotate_left
                          · intro w'
                            go_simp
                            with_reducible rfl
                          rotate_left
                          · simp only [Act.put, List.setIfInBounds_toArray, List.set_cons_zero, List.set_cons_succ, i64_w, i32_w]
                            rfl
                          refine take_ (i := 10) (N := some 97) (v := ?_) (a' := ?_) #[true, true, true, true, true, true, true, true, true, true, true, true, false, false, false] rfl rfl (take_ofW HT_.out HW_.out (by kernel_rfl)) (fun _ _ _ h => h) (Or.inl ⟨by rfl, ?_⟩) hHeld ?_ ?_
                          rotate_left
                          · rintro w' ⟨s0, s1, s2, s3, s4, s5, s6, s7, s8, s9, s10, s11, s12, s13⟩
                            go_simp
                            with_reducible rfl
                          rotate_left
                          · simp only [Act.put, List.setIfInBounds_toArray, List.set_cons_zero, List.set_cons_succ, i64_w, i32_w]
                            rfl
                          refine take_ (i := 12) (N := some 99) (v := ?_) (a' := ?_) #[true, true, true, true, true, true, true, true, true, true, true, true, true, false, false] rfl rfl (take_ofW HT_.out HW_.out (by kernel_rfl)) (fun _ _ _ h => h) (Or.inl ⟨by rfl, ?_⟩) hHeld ?_ ?_
                          rotate_left
                          · rintro w' ⟨s0, s1, s2, s3, s4, s5, s6, s7, s8, s9, s10, s11, s12, s13⟩
                            go_simp
                            with_reducible rfl
                          rotate_left
                          · simp only [Act.put, List.setIfInBounds_toArray, List.set_cons_zero, List.set_cons_succ, i64_w, i32_w]
                            rfl
                          refine one_ (i := 13) (N := some 100) #[true, true, true, true, true, true, true, true, true, true, true, true, true, true, false] rfl rfl (one_of HT_.out (by kernel_rfl)) (by decide) (fun K hK => ?_)
                          refine goes_ Try.func22 (by kernel_rfl) rfl #[.slice Ao51 x3_27.length co51, .string ((rd_T58 l0_1 0).f2), .string (⟨#[58]⟩ : ByteArray), .string ((rd_T58 l0_1 0).f0), .bool a0_3] (by rfl) rfl rfl (by (try simp only [List.map_toArray, List.map_cons, List.map_nil]); first | done | rfl | (simp only [List.length_drop, List.length_take]; rfl)) ?_
                          with_reducible refine (shackleref14_lay.calls kj41 (fun k_ => some k_ = (.slice Ao51 x3_27.length co51 : Value).ownBlock) (.slice Ao51 x3_27.length co51) x3_27 ((rd_T58 l0_1 0).f2) (⟨#[58]⟩ : ByteArray) ((rd_T58 l0_1 0).f0) a0_3 t187 w _ ?side1 ?side2 A48.out).mono ?_
                          (case side1 => repeat (first | (with_reducible first | exact HB.out | apply below_alloc | apply pw_below_drewN | apply below_drew1 | refine below_set ?_ GE168.out) | exact HB.out))
                          (case side2 => exact Kd.R_tight rfl HO_3.out)
                          rintro e w52 ⟨v188, rfl, ho0, hb, hkp⟩
                          refine ⟨_, rfl, ?_⟩
                          have n0_ := Aside0.mk (blk_kept (by (with_reducible repeat (first | refine blk_drewN ?_ _ | refine blk_drew ?_ | refine blk_alloc ?_ _)); exact BK168.out) hkp (fun hs_ => (fun e_ => (Kd.R_ne HO_3.out BK168.out (by decide)) e_) hs_))
                          have n1_ := Aside0.mk (Kd.R_mono (ok' := fun k_ => True) ho0 (fun k_ hk_ => trivial))
                          have n2_ := Aside0.mk (hb)
                          clear BK168
                          clear HB
                          clear HO_3
                          have BK168 := n0_
                          have HO189 := n1_
                          have HB := n2_
                          clear n0_ n1_ n2_
                          (try clear hb)
                          (try clear hkp)
                          (try clear ho0)
                          refine hK.out _ _ ⟨(blk_cell BK168.out 0).trans rfl, (blk_cell BK168.out 1).trans rfl, (blk_cell BK168.out 2).trans rfl, (blk_cell BK168.out 3).trans rfl, ((HB.out.cell (World.block_lt_of_cell? w _ hw185_0)).trans hw185_0), ((HB.out.cell (World.block_lt_of_cell? w _ hw185_1)).trans hw185_1), ((HB.out.cell (World.block_lt_of_cell? w _ hw185_2)).trans hw185_2), ((HB.out.cell (World.block_lt_of_cell? w _ hw185_3)).trans hw185_3), ((HB.out.cell (World.block_lt_of_cell? w _ hw185_4)).trans hw185_4), ((HB.out.cell (World.block_lt_of_cell? w _ hw186_0)).trans hw186_0), ((HB.out.cell (World.block_lt_of_cell? w _ hw186_1)).trans hw186_1), ((HB.out.cell (World.block_lt_of_cell? w _ hw186_2)).trans hw186_2), ((HB.out.cell (World.block_lt_of_cell? w _ hw186_3)).trans hw186_3), ((HB.out.cell (World.block_lt_of_cell? w _ hw186_4)).trans hw186_4)⟩ (fun hHeld => ?_)
                          clear hK K
                          refine norm_ (a' := ?_) ?_ ?_
                          rotate_left
                          · show Act.put _ (some 100) _ = _
                            simp only [Act.put, List.setIfInBounds_toArray, List.set_cons_zero, List.set_cons_succ, i64_w, i32_w]
                            rfl
                          refine pure_ (i := 14) (N := some 3) (v := ?_) (a' := ?_) #[true, true, true, true, true, true, true, true, true, true, true, true, true, true, true] rfl rfl (any_of HT_.out (by kernel_rfl)) (fun _ _ _ h => h) (Or.inl ⟨by rfl, ?_⟩) ?_ ?_
                          rotate_left
                          · intro w'
                            go_simp
                            with_reducible rfl
                          rotate_left
                          · simp only [Act.put, List.setIfInBounds_toArray, List.set_cons_zero, List.set_cons_succ, i64_w, i32_w]
                            rfl
                          refine done_ (done_of HT_.out (by kernel_rfl)) ?_
                          obtain ⟨Ao53, co53, eo53⟩ := Kd.R_slice HO189.out
                          subst eo53
                          try go_wp2_with (first | ((with_reducible refine gate_callee (f := 22) rfl ?_); refine goesL_ (some 102) rfl rfl Try.func22 (by kernel_rfl) rfl #[.slice Ao53 t187.length co53, .string (⟨#[47, 108, 105, 98, 54, 52, 58, 47, 117, 115, 114, 47, 108, 105, 98, 54, 52]⟩ : ByteArray), .string (⟨#[58]⟩ : ByteArray), .string (⟨#[]⟩ : ByteArray), .bool false] rfl (by (try simp only [List.map_toArray, List.map_cons, List.map_nil]); first | done | rfl | (simp only [List.length_drop, List.length_take]; rfl)) ?_; (with_reducible refine (shackleref14_lay.calls kj41 (fun k_ => some k_ = (.slice Ao53 t187.length co53 : Value).ownBlock) (.slice Ao53 t187.length co53) t187 (⟨#[47, 108, 105, 98, 54, 52, 58, 47, 117, 115, 114, 47, 108, 105, 98, 54, 52]⟩ : ByteArray) (⟨#[58]⟩ : ByteArray) (⟨#[]⟩ : ByteArray) false t190 w _ ?side1 ?side2 A49.out).mono ?_); (case side1 => repeat (first | (with_reducible first | exact HB.out | apply below_alloc | apply pw_below_drewN | apply below_drew1 | refine below_set ?_ GE168.out) | exact HB.out)); (case side2 => exact Kd.R_tight rfl HO189.out); rintro e w54 ⟨v191, rfl, ho0, hb, hkp⟩; refine ⟨_, rfl, ?_⟩; have n0_ := Aside0.mk (blk_kept (by (with_reducible repeat (first | refine blk_drewN ?_ _ | refine blk_drew ?_ | refine blk_alloc ?_ _)); exact BK168.out) hkp (fun hs_ => (fun e_ => (Kd.R_ne HO189.out BK168.out (by decide)) e_) hs_)); have n1_ := Aside0.mk (Kd.R_mono (ok' := fun k_ => True) ho0 (fun k_ hk_ => trivial)); have n2_ := Aside0.mk (hb); clear BK168; clear HB; clear HO189; have BK168 := n0_; have HO192 := n1_; have HB := n2_; clear n0_ n1_ n2_; (try clear hb); (try clear hkp); (try clear ho0)))
                          go_ret
                          exact ⟨_, by first | rfl | (simp [errW_none, errW_some] <;> rfl) | (simp [*, errW_none, errW_some] <;> rfl), by (with_reducible repeat (first | apply Kd.R_alloc | apply Kd.R_drewN | apply Kd.R_drew)); exact HO192.out, by repeat (first | (with_reducible first | exact HB.out | apply below_alloc | apply pw_below_drewN | apply below_drew1 | refine below_set ?_ GE168.out) | exact HB.out)⟩
                        · rw [if_neg c47] at H
                          exact absurd H (by simp)
                      · replace c46 := Bool.eq_false_iff.mpr c46
                        subst c46
                        have H1 : ((shackleref14_lay.f kj41 x3_27 (⟨#[47, 108, 105, 98, 54, 52, 58, 47, 117, 115, 114, 47, 108, 105, 98, 54, 52]⟩ : ByteArray) (⟨#[58]⟩ : ByteArray) (⟨#[]⟩ : ByteArray) false).bind fun t193 => (some t193)) = some r := by rw [if_neg (show ¬ (false = true) by decide)] at H; exact H
                        clear H
                        have H := H1
                        clear H1
                        replace H := Option.bind_eq_some_iff.mp H
                        obtain ⟨t193, A550, H⟩ := H
                        replace H : (some t193) = some r := H
                        have A55 := Aside0.mk A550
                        clear A550
                        obtain rfl := Option.some.inj H
                        obtain ⟨Ao56, co56, eo56⟩ := Kd.R_slice HO_3.out
                        subst eo56
                        go_wp2_with (first | ((with_reducible refine gate_callee (f := 22) rfl ?_); refine goesL_ (some 102) rfl rfl Try.func22 (by kernel_rfl) rfl #[.slice Ao56 x3_27.length co56, .string (⟨#[47, 108, 105, 98, 54, 52, 58, 47, 117, 115, 114, 47, 108, 105, 98, 54, 52]⟩ : ByteArray), .string (⟨#[58]⟩ : ByteArray), .string (⟨#[]⟩ : ByteArray), .bool false] rfl (by (try simp only [List.map_toArray, List.map_cons, List.map_nil]); first | done | rfl | (simp only [List.length_drop, List.length_take]; rfl)) ?_; (with_reducible refine (shackleref14_lay.calls kj41 (fun k_ => some k_ = (.slice Ao56 x3_27.length co56 : Value).ownBlock) (.slice Ao56 x3_27.length co56) x3_27 (⟨#[47, 108, 105, 98, 54, 52, 58, 47, 117, 115, 114, 47, 108, 105, 98, 54, 52]⟩ : ByteArray) (⟨#[58]⟩ : ByteArray) (⟨#[]⟩ : ByteArray) false t193 w _ ?side1 ?side2 A55.out).mono ?_); (case side1 => repeat (first | (with_reducible first | exact HB.out | apply below_alloc | apply pw_below_drewN | apply below_drew1 | refine below_set ?_ GE168.out) | exact HB.out)); (case side2 => exact Kd.R_tight rfl HO_3.out); rintro e w57 ⟨v194, rfl, ho0, hb, hkp⟩; refine ⟨_, rfl, ?_⟩; have n0_ := Aside0.mk (blk_kept (by (with_reducible repeat (first | refine blk_drewN ?_ _ | refine blk_drew ?_ | refine blk_alloc ?_ _)); exact BK168.out) hkp (fun hs_ => (fun e_ => (Kd.R_ne HO_3.out BK168.out (by decide)) e_) hs_)); have n1_ := Aside0.mk (Kd.R_mono (ok' := fun k_ => True) ho0 (fun k_ hk_ => trivial)); have n2_ := Aside0.mk (hb); clear BK168; clear HB; clear HO_3; have BK168 := n0_; have HO195 := n1_; have HB := n2_; clear n0_ n1_ n2_; (try clear hb); (try clear hkp); (try clear ho0)))
                        go_ret
                        exact ⟨_, by first | rfl | (simp [errW_none, errW_some] <;> rfl) | (simp [*, errW_none, errW_some] <;> rfl), by (with_reducible repeat (first | apply Kd.R_alloc | apply Kd.R_drewN | apply Kd.R_drew)); exact HO195.out, by repeat (first | (with_reducible first | exact HB.out | apply below_alloc | apply pw_below_drewN | apply below_drew1 | refine below_set ?_ GE168.out) | exact HB.out)⟩

end Go.Proofs.Ytjbndfogjmfbhaa.PSearchDirs
