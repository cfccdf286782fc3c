/- Printed by this session's own program (wip/tools: a turn of the kit's print) out of the translation: each Go function that the law reaches as a Lean function, and that the machine's call comes to what that function tells; no condition but what each theorem names. -/
import Derived.Test.YtjohdgejjnbddaaDoorPHeadNotesx0
import Derived.Test.YtjohdgejjnbddaaDoorPHeadNotesx1
import Derived.Test.YtjohdgejjnbddaaDoorPHeadNotesx7
namespace Go.Proofs.YtjohdgejjnbddaaDoor.PHeadNotes
open Go.RowKit Go.Proofs.YtjohdgejjnbddaaDoorW.PrintWords Go.Proofs.YtjohdgejjnbddaaDoorW.PrintLast Go.Proofs.YtjohdgejjnbddaaDoorW.PrintMore Go.Proofs.YtjohdgejjnbddaaDoorX
attribute [local go_sem] max2_int min2_int max_two min_two max_three min_three max_four min_four   -- for this text's walks alone
set_option linter.unusedVariables false
set_option linter.unusedSimpArgs false

/-! ### head_file_note: function 43 -/
mutual
def head_file_note.j0 : Nat → Int → Int → Int → Bool → List Int → Option (ByteArray × Int × List Int × Int × Option Int)
 | 0, _, _, _, _, _ => none
 | k + 1, x1, x9, x10, x37, x163000 => if x37 = true then ((head_spot.f 4 x1).bind fun t171 => (some ((⟨#[]⟩ : ByteArray), 0, ([] : List Int), 0, t171))) else ((head_file_get.f k x163000 (IntKind.u64.wrap (x1 + 8)) 4).bind fun t174 => (if x9 > 0 then (if 0 ≤ (IntKind.u64.wrap ((IntKind.u64.wrap ((IntKind.u64.wrap (x1 + 12)) + x9)) - 1)) then (if (IntKind.u64.wrap ((IntKind.u64.wrap ((IntKind.u64.wrap (x1 + 12)) + x9)) - 1)) < (x163000.length : Int) then (if (rd x163000 (IntKind.u64.wrap ((IntKind.u64.wrap ((IntKind.u64.wrap (x1 + 12)) + x9)) - 1))) = 0 then (if 0 ≤ (IntKind.u64.wrap (x1 + 12)) then (if (IntKind.u64.wrap (x1 + 12)) ≤ (IntKind.u64.wrap ((IntKind.u64.wrap ((IntKind.u64.wrap (x1 + 12)) + x9)) - 1)) then (if (IntKind.u64.wrap ((IntKind.u64.wrap ((IntKind.u64.wrap (x1 + 12)) + x9)) - 1)) ≤ (x163000.length : Int) then (head_file_note.j1 k x1 x9 x10 x163000 (strOfNums ((x163000.take ((IntKind.u64.wrap ((IntKind.u64.wrap ((IntKind.u64.wrap (x1 + 12)) + x9)) - 1)) : Int).toNat).drop ((IntKind.u64.wrap (x1 + 12)) : Int).toNat)) ((t174) % 4294967296)) else (none)) else (none)) else (none)) else ((head_spot.f 29 x1).bind fun t178 => (some ((⟨#[]⟩ : ByteArray), 0, ([] : List Int), 0, t178)))) else (none)) else (none)) else (head_file_note.j1 k x1 x9 x10 x163000 (⟨#[]⟩ : ByteArray) ((t174) % 4294967296))))
def head_file_note.j1 : Nat → Int → Int → Int → List Int → ByteArray → Int → Option (ByteArray × Int × List Int × Int × Option Int)
 | 0, _, _, _, _, _, _ => none
 | k + 1, x1, x9, x10, x163000, x176000, x176001 => (head_four.f x9).bind fun t181 => (if 0 ≤ (IntKind.u64.wrap ((IntKind.u64.wrap (x1 + 12)) + t181)) then (if (IntKind.u64.wrap ((IntKind.u64.wrap (x1 + 12)) + t181)) ≤ (x163000.length : Int) then (if 0 ≤ x10 then (if x10 ≤ ((x163000.drop ((IntKind.u64.wrap ((IntKind.u64.wrap (x1 + 12)) + t181)) : Int).toNat).length : Int) then ((slices_Clone_byte_byte.f ((x163000.drop ((IntKind.u64.wrap ((IntKind.u64.wrap (x1 + 12)) + t181)) : Int).toNat).take (x10 : Int).toNat)).bind fun t184 => ((head_four.f x9).bind fun t187 => ((head_four.f x10).bind fun t188 => (some (x176000, x176001, t184, IntKind.u64.wrap ((IntKind.u64.wrap (12 + t187)) + t188), none))))) else (none)) else (none)) else (none)) else (none))
end
def head_file_note.f (k : Nat) (l0_0 : List Int) (a1 : Int) (a2 : Int) : Option (ByteArray × Int × List Int × Int × Option Int) := if a2 < 12 then ((head_spot.f 4 a1).bind fun t164 => (some ((⟨#[]⟩ : ByteArray), 0, ([] : List Int), 0, t164))) else ((head_file_get.f k l0_0 a1 4).bind fun t167 => ((head_file_get.f k l0_0 (IntKind.u64.wrap (a1 + 4)) 4).bind fun t168 => ((head_four.f t167).bind fun t169 => (if t169 > (IntKind.u64.wrap (a2 - 12)) then (head_file_note.j0 k a1 t167 t168 true l0_0) else ((head_four.f t167).bind fun t170 => (head_file_note.j0 k a1 t167 t168 (decide (t168 > (IntKind.u64.wrap ((IntKind.u64.wrap (a2 - 12)) - t170)))) l0_0))))))
theorem head_file_note.mono_l : ∀ k, (∀ y0 y1 y2 y3 y4, LeO (head_file_note.j0 k y0 y1 y2 y3 y4) (head_file_note.j0 (k + 1) y0 y1 y2 y3 y4)) ∧ (∀ y0 y1 y2 y3 y4 y5, LeO (head_file_note.j1 k y0 y1 y2 y3 y4 y5) (head_file_note.j1 (k + 1) y0 y1 y2 y3 y4 y5))
 | 0 => ⟨fun _ _ _ _ _ r h => by simp [head_file_note.j0] at h, fun _ _ _ _ _ _ r h => by simp [head_file_note.j1] at h⟩
 | k + 1 => by
  obtain ⟨ih0, ih1⟩ := head_file_note.mono_l k; refine ⟨?_, ?_⟩
  ·intro y0 y1 y2 y3 y4
   unfold head_file_note.j0
   repeat' first
   | (with_reducible exact ih0 _ _ _ _ _)
   | (with_reducible exact ih1 _ _ _ _ _ _)
   | (with_reducible exact head_file_get.mono _ _ _ _)
   | (with_reducible exact LeO.refl _)
   | (with_reducible exact LeO.none _)
   | (with_reducible refine LeO.ite ?_ ?_)
   | (with_reducible refine LeO.bind ?_ (fun _ => ?_))
   | exact ih0 _ _ _ _ _
   | exact ih1 _ _ _ _ _ _
   | exact head_file_get.mono _ _ _ _
   | exact LeO.none _
   | refine LeO.ite ?_ ?_
   | refine LeO.bind ?_ (fun _ => ?_)
  ·intro y0 y1 y2 y3 y4 y5
   unfold head_file_note.j1
   repeat' first
   | (with_reducible exact ih0 _ _ _ _ _)
   | (with_reducible exact ih1 _ _ _ _ _ _)
   | (with_reducible exact head_file_get.mono _ _ _ _)
   | (with_reducible exact LeO.refl _)
   | (with_reducible exact LeO.none _)
   | (with_reducible refine LeO.ite ?_ ?_)
   | (with_reducible refine LeO.bind ?_ (fun _ => ?_))
   | exact ih0 _ _ _ _ _
   | exact ih1 _ _ _ _ _ _
   | exact head_file_get.mono _ _ _ _
   | exact LeO.none _
   | refine LeO.ite ?_ ?_
   | refine LeO.bind ?_ (fun _ => ?_)
theorem head_file_note.mono : ∀ a0 a1 a2 k, LeO (head_file_note.f k a0 a1 a2) (head_file_note.f (k + 1) a0 a1 a2) := by
 intro a0 a1 a2 k; obtain ⟨ih0, ih1⟩ := head_file_note.mono_l k
 unfold head_file_note.f
 repeat' first
   | (with_reducible exact ih0 _ _ _ _ _)
   | (with_reducible exact ih1 _ _ _ _ _ _)
   | (with_reducible exact head_file_get.mono _ _ _ _)
   | (with_reducible exact LeO.refl _)
   | (with_reducible exact LeO.none _)
   | (with_reducible refine LeO.ite ?_ ?_)
   | (with_reducible refine LeO.bind ?_ (fun _ => ?_))
   | exact ih0 _ _ _ _ _
   | exact ih1 _ _ _ _ _ _
   | exact head_file_get.mono _ _ _ _
   | exact LeO.none _
   | refine LeO.ite ?_ ?_
   | refine LeO.bind ?_ (fun _ => ?_)
def head_file_note.T3 : Bool × List (List Nat × List Nat) := (true, [([], []), ([], []), ([0, 1], [0, 1]), ([], []), ([], []), ([4], [4]), ([3, 5, 2], [3, 5]), ([2, 6, 0, 1, 2], [2]), ([6, 7, 0, 1, 2, 3, 4, 5, 6, 7], [6])])
def head_file_note.B3 : List Nat := [0, 0, 3, 0, 0, 16, 63, 127, 255]
theorem head_file_note.tab3 : rtab .any (opsOf Tryd.f43 3) = head_file_note.T3 := by kernel_rfl
theorem head_file_note.bits3 : waitsOk head_file_note.T3.2 head_file_note.B3 = true := by kernel_rfl
def head_file_note.T12 : Bool × List (List Nat × List Nat) := (true, [([], []), ([0], [0]), ([], []), ([2], [2]), ([], []), ([4], [4]), ([3, 5], [3, 5]), ([1, 6], [1, 6]), ([], []), ([7, 8], [7, 8]), ([9, 5], [9]), ([0, 1, 2, 3, 4, 5, 6, 7, 8, 9, 10], []), ([11, 10, 10, 0, 1, 2, 3, 4, 5, 6, 7, 8, 9, 10], [10, 11])])
def head_file_note.B12 : List Nat := [0, 1, 0, 4, 0, 16, 60, 127, 0, 511, 1023, 2047, 4095]
theorem head_file_note.tab12 : rtab .any (opsOf Tryd.f43 12) = head_file_note.T12 := by kernel_rfl
theorem head_file_note.bits12 : waitsOk head_file_note.T12.2 head_file_note.B12 = true := by kernel_rfl
def head_file_note.T13 : Bool × List (List Nat × List Nat) := (true, [([], []), ([], []), ([1], [1]), ([2], [2]), ([], []), ([4, 2], [4]), ([3, 5], [3, 5]), ([0, 5, 0], [0]), ([6, 7, 0, 1, 2, 3, 4, 5, 6, 7], [6]), ([8, 0, 1, 2, 3, 4, 5, 6, 7, 8], [])])
def head_file_note.B13 : List Nat := [0, 0, 2, 6, 0, 22, 62, 55, 255, 511]
theorem head_file_note.tab13 : rtab .any (opsOf Tryd.f43 13) = head_file_note.T13 := by kernel_rfl
theorem head_file_note.bits13 : waitsOk head_file_note.T13.2 head_file_note.B13 = true := by kernel_rfl
set_option maxHeartbeats 8000000 in
set_option maxRecDepth 100000 in
theorem head_file_note.calls (k : Nat) (A0_0 : Option Addr) (c0_0 : Nat) (l0_0 : List Int) (a1 : Int) (a2 : Int) (r1 : ByteArray) (r2 : Int) (r3 : List Int) (r4 : Int) (r5 : Option Int) (w : World) (hr0_0 : Kd.C (Kd.int .u8) w A0_0 l0_0.length l0_0) (hc0_0 : l0_0.length ≤ c0_0) (h : head_file_note.f k l0_0 a1 a2 = some (r1, r2, r3, r4, r5)) :
  Calls Tryd.prog 43 #[.agg #[.slice A0_0 l0_0.length c0_0], .int .u64 a1, .int .u64 a2] w fun e w' => ∃ v2_ ve4_ : Value, e = .returned (.tuple #[.agg #[.string r1, .int .u32 r2, v2_], .int .u64 r4, ve4_]) ∧ ErrAt 32 103 105 w' w.heap.size r5 ve4_ ∧ Kd.R (Kd.int .u8) 5 w' w.heap.size (fun _ => True) v2_ r3 ∧ Below w.heap.size w w' := by
 have hu70 := Tryd.underlying70; have hu58 := Tryd.underlying58; have HR0_0 := aM hr0_0; have HC0_0 := aM hc0_0; clear hr0_0 hc0_0; have HB := aM (Below.refl w.heap.size w); have H : (if a2 < 12 then ((head_spot.f 4 a1).bind fun t164 => (some ((⟨#[]⟩ : ByteArray), 0, ([] : List Int), 0, t164))) else ((head_file_get.f k l0_0 a1 4).bind fun t167 => ((head_file_get.f k l0_0 (IntKind.u64.wrap (a1 + 4)) 4).bind fun t168 => ((head_four.f t167).bind fun t169 => (if t169 > (IntKind.u64.wrap (a2 - 12)) then (head_file_note.j0 k a1 t167 t168 true l0_0) else ((head_four.f t167).bind fun t170 => (head_file_note.j0 k a1 t167 t168 (decide (t168 > (IntKind.u64.wrap ((IntKind.u64.wrap (a2 - 12)) - t170)))) l0_0))))))) = some (r1, r2, r3, r4, r5) := h; clear h
 by_cases c4 : a2 < 12
 ·rw [if_pos c4] at H; have c4b0 : decide (a2 < 12) = true := decide_eq_true c4; clear c4; replace H := Option.bind_eq_some_iff.mp H; obtain ⟨t164, A50, H⟩ := H; replace H : (some ((⟨#[]⟩ : ByteArray), 0, ([] : List Int), 0, t164)) = some (r1, r2, r3, r4, r5) := H; have A5 := aM A50; clear A50; simp only [Option.some.injEq, Prod.mk.injEq] at H; obtain ⟨rfl, rfl, rfl, rfl, rfl⟩ := H
  go_enter Tryd.func43, Tryd.ntmps43
  go_wp2_with (first | ((with_reducible refine gate_dst (N := 3) rfl ?_); refine box_event ?hg (N := 3) ?hd (cs := #[.slice A0_0 l0_0.length c0_0]) (t := 70) ?hr ?_; (case hd => rfl); (case hg => rfl); (case hr => first | (go_simp; done) | (go_simp; rfl)); intro gb162 hg w6 hbox hb; have BK162 := aM (hbox); have GW162 := aM ((by rw [hg]; exact (below_size (by repeat (first | (with_reducible first | exact HB.out | apply bA | apply bN | apply bD) | exact HB.out))) : w.heap.size ≤ gb162)); have GE162 := aM ((by rw [hg]; exact (below_size (by repeat (first | (with_reducible first | exact HB.out | apply bA | apply bN | apply bD) | exact HB.out))) : w.heap.size ≤ gb162)); replace HB := aM (below_step (by repeat (first | (with_reducible first | exact HB.out | apply bA | apply bN | apply bD) | exact HB.out)) hb); clear hb hbox hg) | ((with_reducible refine gate_dst (N := 6) rfl ?_); refine box_event ?hg (N := 6) ?hd (cs := #[.string (⟨#[]⟩ : ByteArray), .int .u32 0, .slice none 0 0]) (t := 58) ?hr ?_; (case hd => rfl); (case hg => rfl); (case hr => first | (go_simp; done) | (go_simp; rfl)); intro gb163 hg w7 hbox hb; have BK163 := aM (hbox); have GW163 := aM ((by rw [hg]; exact (below_size (by repeat (first | (with_reducible first | exact HB.out | apply bA | apply bN | apply bD | refine below_set ?_ GE162.out) | exact HB.out))) : w.heap.size ≤ gb163)); have GE163 := aM ((by rw [hg]; exact (below_size (by repeat (first | (with_reducible first | exact HB.out | apply bA | apply bN | apply bD | refine below_set ?_ GE162.out) | exact HB.out))) : w.heap.size ≤ gb163)); replace HB := aM (below_step (by repeat (first | (with_reducible first | exact HB.out | apply bA | apply bN | apply bD | refine below_set ?_ GE162.out) | exact HB.out)) hb); have NB162_163 := aM ((by rw [hg]; exact Nat.ne_of_lt (blk_lt (by (with_reducible repeat (first | refine kN ?_ _ | refine kD ?_ | refine kA ?_ _)); exact BK162.out)) : gb162 ≠ gb163)); have NB163_162 := aM ((by rw [hg]; exact Nat.ne_of_gt (blk_lt (by (with_reducible repeat (first | refine kN ?_ _ | refine kD ?_ | refine kA ?_ _)); exact BK162.out)) : gb163 ≠ gb162)); replace BK162 := aM (blk_below (g := gb162) (o := .cells #[.slice A0_0 l0_0.length c0_0] 70 (0, 0)) (by (with_reducible repeat (first | refine kN ?_ _ | refine kD ?_ | refine kA ?_ _)); exact BK162.out) hb); clear hb hbox hg) | ((with_reducible refine gate_callee (f := 38) rfl ?_); refine goesL_ (some 16) rfl rfl Tryd.func38 (by kernel_rfl) rfl #[.int .i64 4, .int .u64 a1] rfl (by (try simp only [List.map_toArray, List.map_cons, List.map_nil]); first | done | rfl | (simp only [List.length_drop, List.length_take]; rfl)) ?_; (with_reducible refine (head_spot.calls 4 a1 t164 _ A5.out).mono ?_); rintro e w8 ⟨ve166, rfl, hE0_, hb⟩; refine ⟨_, rfl, ?_⟩; replace BK162 := aM (blk_below (g := gb162) (o := .cells #[.slice A0_0 l0_0.length c0_0] 70 (0, 0)) (by (with_reducible repeat (first | refine kN ?_ _ | refine kD ?_ | refine kA ?_ _)); exact BK162.out) hb); replace BK163 := aM (blk_below (g := gb163) (o := .cells #[.string (⟨#[]⟩ : ByteArray), .int .u32 0, .slice none 0 0] 58 (0, 0)) (by (with_reducible repeat (first | refine kN ?_ _ | refine kD ?_ | refine kA ?_ _)); exact BK163.out) hb); have EA166 := aM ((ErrAt.lower (base' := w.heap.size) hE0_ (below_size (by repeat (first | (with_reducible first | exact HB.out | apply bA | apply bN | apply bD | refine below_set ?_ GE162.out | refine below_set ?_ GE163.out) | exact HB.out))))); replace HB := aM (below_step (by repeat (first | (with_reducible first | exact HB.out | apply bA | apply bN | apply bD | refine below_set ?_ GE162.out | refine below_set ?_ GE163.out) | exact HB.out)) hb); (try clear hb); (try clear hb2); (try clear hk); (try clear hi); (try clear hE0_); (try simp only [errW_none, errW_some]); have hnb9 := NB163_162.out; have hnc9 := NB162_163.out; obtain ⟨hcz10_0, hcz10_1, hcz10_2, hfz10_0, hfz10_1, hfz10_2⟩ := bx3 BK163.out))
  refine bodyPost_ret (results_ctt rfl _ _ gb163 58 #[.string (⟨#[]⟩ : ByteArray), .int .u32 0, .slice none 0 0] (0, 0) _ rfl (by (with_reducible repeat (first | refine kN ?_ _ | refine kD ?_ | refine kA ?_ _)); refine blk_put (cs := #[.string (⟨#[]⟩ : ByteArray), .int .u32 0, .slice none 0 0]) ?_ 2 _ rfl; (with_reducible repeat (first | refine kN ?_ _ | refine kD ?_ | refine kA ?_ _)); refine blk_put (cs := #[.string (⟨#[]⟩ : ByteArray), .int .u32 0, .slice none 0 0]) ?_ 1 _ rfl; (with_reducible repeat (first | refine kN ?_ _ | refine kD ?_ | refine kA ?_ _)); refine blk_put (cs := #[.string (⟨#[]⟩ : ByteArray), .int .u32 0, .slice none 0 0]) ?_ 0 _ rfl; (with_reducible repeat (first | refine kN ?_ _ | refine kD ?_ | refine kA ?_ _)); exact BK163.out) Tryd.underlying58 rfl (by kernel_rfl)) rfl ?_; exact ⟨_, ve166, by first | rfl | (simp [errW_none, errW_some] <;> rfl) | (simp [*, errW_none, errW_some] <;> rfl), (by repeat (first | (with_reducible first | exact EA166.out | apply ErrAt.alloc | apply ErrAt.drewN | apply ErrAt.drew | (apply ErrAt.set; rotate_left; (repeat (first | (apply IsRow.of; apply Aside0.out; assumption) | apply IsRow.set | apply IsRow.alloc | apply IsRow.drewN | apply IsRow.drew)); rotate_right) | decide) | exact EA166.out)), by first | exact Kd.R_nil _ _ _ _ _ | exact Kd.N_nil _ _ _ _ _ | exact Kd.V_nil _ _ _ _ _ | exact Kd.Q_nil _ _ _ _ _ | exact Kd.S_nil _ _ _ _ _, by repeat (first | (with_reducible first | exact HB.out | apply bA | apply bN | apply bD | refine below_set ?_ GE162.out | refine below_set ?_ GE163.out) | exact HB.out)⟩
 ·rw [if_neg c4] at H; have c4b0 : decide (a2 < 12) = false := decide_eq_false c4; clear c4; replace H := Option.bind_eq_some_iff.mp H; obtain ⟨t167, A110, H⟩ := H; replace H : ((head_file_get.f k l0_0 (IntKind.u64.wrap (a1 + 4)) 4).bind fun t168 => ((head_four.f t167).bind fun t169 => (if t169 > (IntKind.u64.wrap (a2 - 12)) then (head_file_note.j0 k a1 t167 t168 true l0_0) else ((head_four.f t167).bind fun t170 => (head_file_note.j0 k a1 t167 t168 (decide (t168 > (IntKind.u64.wrap ((IntKind.u64.wrap (a2 - 12)) - t170)))) l0_0))))) = some (r1, r2, r3, r4, r5) := H; have A11 := aM A110; clear A110; replace H := Option.bind_eq_some_iff.mp H; obtain ⟨t168, A120, H⟩ := H; replace H : ((head_four.f t167).bind fun t169 => (if t169 > (IntKind.u64.wrap (a2 - 12)) then (head_file_note.j0 k a1 t167 t168 true l0_0) else ((head_four.f t167).bind fun t170 => (head_file_note.j0 k a1 t167 t168 (decide (t168 > (IntKind.u64.wrap ((IntKind.u64.wrap (a2 - 12)) - t170)))) l0_0)))) = some (r1, r2, r3, r4, r5) := H; have A12 := aM A120; clear A120; have HC13 := aM H; clear H
  go_enter Tryd.func43, Tryd.ntmps43
  try go_wp2_with (first | ((with_reducible refine gate_dst (N := 3) rfl ?_); refine box_event ?hg (N := 3) ?hd (cs := #[.slice A0_0 l0_0.length c0_0]) (t := 70) ?hr ?_; (case hd => rfl); (case hg => rfl); (case hr => first | (go_simp; done) | (go_simp; rfl)); intro gb162 hg w14 hbox hb; have BK162 := aM (hbox); have GW162 := aM ((by rw [hg]; exact (below_size (by repeat (first | (with_reducible first | exact HB.out | apply bA | apply bN | apply bD) | exact HB.out))) : w.heap.size ≤ gb162)); have GE162 := aM ((by rw [hg]; exact (below_size (by repeat (first | (with_reducible first | exact HB.out | apply bA | apply bN | apply bD) | exact HB.out))) : w.heap.size ≤ gb162)); replace HB := aM (below_step (by repeat (first | (with_reducible first | exact HB.out | apply bA | apply bN | apply bD) | exact HB.out)) hb); clear hb hbox hg) | ((with_reducible refine gate_dst (N := 6) rfl ?_); refine box_event ?hg (N := 6) ?hd (cs := #[.string (⟨#[]⟩ : ByteArray), .int .u32 0, .slice none 0 0]) (t := 58) ?hr ?_; (case hd => rfl); (case hg => rfl); (case hr => first | (go_simp; done) | (go_simp; rfl)); intro gb163 hg w15 hbox hb; have BK163 := aM (hbox); have GW163 := aM ((by rw [hg]; exact (below_size (by repeat (first | (with_reducible first | exact HB.out | apply bA | apply bN | apply bD | refine below_set ?_ GE162.out) | exact HB.out))) : w.heap.size ≤ gb163)); have GE163 := aM ((by rw [hg]; exact (below_size (by repeat (first | (with_reducible first | exact HB.out | apply bA | apply bN | apply bD | refine below_set ?_ GE162.out) | exact HB.out))) : w.heap.size ≤ gb163)); replace HB := aM (below_step (by repeat (first | (with_reducible first | exact HB.out | apply bA | apply bN | apply bD | refine below_set ?_ GE162.out) | exact HB.out)) hb); have NB162_163 := aM ((by rw [hg]; exact Nat.ne_of_lt (blk_lt (by (with_reducible repeat (first | refine kN ?_ _ | refine kD ?_ | refine kA ?_ _)); exact BK162.out)) : gb162 ≠ gb163)); have NB163_162 := aM ((by rw [hg]; exact Nat.ne_of_gt (blk_lt (by (with_reducible repeat (first | refine kN ?_ _ | refine kD ?_ | refine kA ?_ _)); exact BK162.out)) : gb163 ≠ gb162)); replace BK162 := aM (blk_below (g := gb162) (o := .cells #[.slice A0_0 l0_0.length c0_0] 70 (0, 0)) (by (with_reducible repeat (first | refine kN ?_ _ | refine kD ?_ | refine kA ?_ _)); exact BK162.out) hb); clear hb hbox hg))
  replace BK162 := aM (blk_drew BK162.out); replace BK163 := aM (blk_drew BK163.out); replace HB := aM (below_drew1 HB.out); refine start_ (n := 9) (S := fun w' => w'.cell? ⟨gb162, 0, none⟩ = some (.slice A0_0 l0_0.length c0_0)) (ds := []) #[false, false, false, false, false, false, false, false, false] (by kernel_rfl) rfl rfl ((blk_cell BK162.out 0).trans rfl) (fun hHeld => ?_); refine with_tabW head_file_note.tab3 head_file_note.bits3 (fun HT_ HW_ => ?_); generalize w15.drew = w16 at BK162 BK163 HB hHeld ⊢; refine pure_ (i := 1) (N := some 18) (v := ?_) (a' := ?_) #[false, true, false, false, false, false, false, false, false] rfl rfl (any_of HT_.out (by kernel_rfl)) (fun _ _ _ h => h) (Or.inl ⟨by rfl, ?_⟩) ?_ ?_; rotate_left
  ·intro w'
   go_simp
   with_reducible rfl
  rotate_left
  ·simp only [Act.put, sA, sZ, sS, i64_w, i32_w]
   rfl
  refine pure_ (i := 4) (N := some 21) (v := ?_) (a' := ?_) #[false, true, false, false, true, false, false, false, false] rfl rfl (any_of HT_.out (by kernel_rfl)) (fun _ _ _ h => h) (Or.inl ⟨by rfl, ?_⟩) ?_ ?_; rotate_left
  ·intro w'
   go_simp
   with_reducible rfl
  rotate_left
  ·simp only [Act.put, sA, sZ, sS, i64_w, i32_w]
   rfl
  refine pure_ (i := 5) (N := some 22) (v := ?_) (a' := ?_) #[false, true, false, false, true, true, false, false, false] rfl rfl (any_of HT_.out (by kernel_rfl)) (fun _ _ _ h => h) (Or.inl ⟨by rfl, ?_⟩) ?_ ?_; rotate_left
  ·intro w'
   go_simp
   with_reducible rfl
  rotate_left
  ·simp only [Act.put, sA, sZ, sS, i64_w, i32_w]
   rfl
  refine take_ (i := 0) (N := some 17) (v := ?_) (a' := ?_) #[true, true, false, false, true, true, false, false, false] rfl rfl (take_ofW HT_.out HW_.out (by kernel_rfl)) (fun _ _ _ h => h) (Or.inl ⟨by rfl, ?_⟩) hHeld ?_ ?_; rotate_left
  ·intro w' s0
   go_simp
   with_reducible rfl
  rotate_left
  ·simp only [Act.put, sA, sZ, sS, i64_w, i32_w]
   rfl
  refine take_ (i := 3) (N := some 20) (v := ?_) (a' := ?_) #[true, true, false, true, true, true, false, false, false] rfl rfl (take_ofW HT_.out HW_.out (by kernel_rfl)) (fun _ _ _ h => h) (Or.inl ⟨by rfl, ?_⟩) hHeld ?_ ?_; rotate_left
  ·intro w' s0
   go_simp
   with_reducible rfl
  rotate_left
  ·simp only [Act.put, sA, sZ, sS, i64_w, i32_w]
   rfl
  refine one_ (i := 2) (N := some 19) #[true, true, true, true, true, true, false, false, false] rfl rfl (one_of HT_.out (by kernel_rfl)) (by decide) (fun K hK => ?_); refine goes_ Tryd.func24 (by kernel_rfl) rfl #[.agg #[.slice A0_0 l0_0.length c0_0], .int .u64 a1, .int .i64 4] (by rfl) rfl rfl (by (try simp only [List.map_toArray, List.map_cons, List.map_nil]); first | done | rfl | (simp only [List.length_drop, List.length_take]; rfl)) ?_
  with_reducible refine (head_file_get.calls k _ _ l0_0 a1 4 t167 _ ?side1 ?side2 A11.out).mono ?_
  (case side1 => repeat (first | exact (Kd.C_below HR0_0.out HB.out) | (with_reducible refine cA ?_ _) | (with_reducible refine cN ?_ _) | (with_reducible refine cD ?_)))
  (case side2 => exact HC0_0.out)
  rintro e w17 ⟨rfl, hb⟩; refine ⟨_, rfl, ?_⟩; have n0_ := aM (blk_below (g := gb162) (o := .cells #[.slice A0_0 l0_0.length c0_0] 70 (0, 0)) (by (with_reducible repeat (first | refine kN ?_ _ | refine kD ?_ | refine kA ?_ _)); exact BK162.out) hb); have n1_ := aM (blk_below (g := gb163) (o := .cells #[.string (⟨#[]⟩ : ByteArray), .int .u32 0, .slice none 0 0] 58 (0, 0)) (by (with_reducible repeat (first | refine kN ?_ _ | refine kD ?_ | refine kA ?_ _)); exact BK163.out) hb); have n2_ := aM (below_step (by repeat (first | (with_reducible first | exact HB.out | apply bA | apply bN | apply bD | refine below_set ?_ GE162.out | refine below_set ?_ GE163.out) | exact HB.out)) hb); clear BK162; clear BK163; clear HB; have BK162 := n0_; have BK163 := n1_; have HB := n2_; clear n0_ n1_ n2_
  (try clear hb)
  (try clear hb2)
  (try clear hk)
  (try clear hi)
  refine hK.out _ _ ((blk_cell BK162.out 0).trans rfl) (fun hHeld => ?_); clear hK K; refine norm_ (a' := ?_) ?_ ?_; rotate_left
  ·show Act.put _ (some 19) _ = _
   simp only [Act.put, sA, sZ, sS, i64_w, i32_w]
   rfl
  refine one_ (i := 6) (N := some 23) #[true, true, true, true, true, true, true, false, false] rfl rfl (one_of HT_.out (by kernel_rfl)) (by decide) (fun K hK => ?_); refine goes_ Tryd.func24 (by kernel_rfl) rfl #[.agg #[.slice A0_0 l0_0.length c0_0], .int .u64 (IntKind.u64.wrap (a1 + 4)), .int .i64 4] (by rfl) rfl rfl (by (try simp only [List.map_toArray, List.map_cons, List.map_nil]); first | done | rfl | (simp only [List.length_drop, List.length_take]; rfl)) ?_
  with_reducible refine (head_file_get.calls k _ _ l0_0 (IntKind.u64.wrap (a1 + 4)) 4 t168 _ ?side1 ?side2 A12.out).mono ?_
  (case side1 => repeat (first | exact (Kd.C_below HR0_0.out HB.out) | (with_reducible refine cA ?_ _) | (with_reducible refine cN ?_ _) | (with_reducible refine cD ?_)))
  (case side2 => exact HC0_0.out)
  rintro e w18 ⟨rfl, hb⟩; refine ⟨_, rfl, ?_⟩; have n0_ := aM (blk_below (g := gb162) (o := .cells #[.slice A0_0 l0_0.length c0_0] 70 (0, 0)) (by (with_reducible repeat (first | refine kN ?_ _ | refine kD ?_ | refine kA ?_ _)); exact BK162.out) hb); have n1_ := aM (blk_below (g := gb163) (o := .cells #[.string (⟨#[]⟩ : ByteArray), .int .u32 0, .slice none 0 0] 58 (0, 0)) (by (with_reducible repeat (first | refine kN ?_ _ | refine kD ?_ | refine kA ?_ _)); exact BK163.out) hb); have n2_ := aM (below_step (by repeat (first | (with_reducible first | exact HB.out | apply bA | apply bN | apply bD | refine below_set ?_ GE162.out | refine below_set ?_ GE163.out) | exact HB.out)) hb); clear BK162; clear BK163; clear HB; have BK162 := n0_; have BK163 := n1_; have HB := n2_; clear n0_ n1_ n2_
  (try clear hb)
  (try clear hb2)
  (try clear hk)
  (try clear hi)
  refine hK.out _ _ ((blk_cell BK162.out 0).trans rfl) (fun hHeld => ?_); clear hK K; refine norm_ (a' := ?_) ?_ ?_; rotate_left
  ·show Act.put _ (some 23) _ = _
   simp only [Act.put, sA, sZ, sS, i64_w, i32_w]
   rfl
  refine pure_ (i := 7) (N := some 9) (v := ?_) (a' := ?_) #[true, true, true, true, true, true, true, true, false] rfl rfl (any_of HT_.out (by kernel_rfl)) (fun _ _ _ h => h) (Or.inl ⟨by rfl, ?_⟩) ?_ ?_; rotate_left
  ·intro w'
   go_simp
   with_reducible rfl
  rotate_left
  ·simp only [Act.put, sA, sZ, sS, i64_w, i32_w]
   rfl
  refine pure_ (i := 8) (N := some 10) (v := ?_) (a' := ?_) #[true, true, true, true, true, true, true, true, true] rfl rfl (any_of HT_.out (by kernel_rfl)) (fun _ _ _ h => h) (Or.inl ⟨by rfl, ?_⟩) ?_ ?_; rotate_left
  ·intro w'
   go_simp
   with_reducible rfl
  rotate_left
  ·simp only [Act.put, sA, sZ, sS, i64_w, i32_w]
   rfl
  refine done_ (done_of HT_.out (by kernel_rfl)) ?_
  go_upto_region 5 with (fail)
  go_cut [37] (fun v37 wc => ∃ (kq : Nat) (x37_12 : Bool), v37 = .bool x37_12 ∧ Aside0 (head_file_note.j0 kq a1 t167 t168 x37_12 l0_0 = some (r1, r2, r3, r4, r5)) ∧ Aside0 (kq ≤ k) ∧ Aside0 (wc.heap[gb162]? = some (.cells #[(.slice A0_0 l0_0.length c0_0)] 70 (0, 0))) ∧ Aside0 (wc.heap[gb163]? = some (.cells #[.string (⟨#[]⟩ : ByteArray), .int .u32 0, (.slice none 0 0)] 58 (0, 0))) ∧ Aside0 (Below w.heap.size w wc))
  case first =>
   have H := HC13.out; clear HC13; replace H := Option.bind_eq_some_iff.mp H; obtain ⟨t169, A190, H⟩ := H; replace H : (if t169 > (IntKind.u64.wrap (a2 - 12)) then (head_file_note.j0 k a1 t167 t168 true l0_0) else ((head_four.f t167).bind fun t170 => (head_file_note.j0 k a1 t167 t168 (decide (t168 > (IntKind.u64.wrap ((IntKind.u64.wrap (a2 - 12)) - t170)))) l0_0))) = some (r1, r2, r3, r4, r5) := H; have A19 := aM A190; clear A190
   by_cases c20 : t169 > (IntKind.u64.wrap (a2 - 12))
   ·rw [if_pos c20] at H; have c20b0 : decide ((IntKind.u64.wrap (a2 - 12)) < t169) = true := decide_eq_true c20; clear c20
    (first | rw [c20b0] | (simp only [i64_w, i32_w]; rw [c20b0]) | skip)
    have H' := aM H; clear H
    go_wp2_with (first | ((with_reducible refine gate_callee (f := 65) rfl ?_); refine goesL_ (some 27) rfl rfl Tryd.func65 (by kernel_rfl) rfl #[.int .u64 t167] rfl (by (try simp only [List.map_toArray, List.map_cons, List.map_nil]); first | done | rfl | (simp only [List.length_drop, List.length_take]; rfl)) ?_; (with_reducible refine (head_four.calls t167 t169 _ A19.out).mono ?_); rintro e w' ⟨rfl, ⟨nd, rfl⟩⟩; refine ⟨_, rfl, ?_⟩))
    go_meet
    case rel => exact ⟨_, (true), (by first | rfl | (simp; done) | (simp [*]; done)), H', ⟨by first | omega | exact Nat.le_refl _⟩, ⟨by (with_reducible repeat (first | refine kN ?_ _ | refine kD ?_ | refine kA ?_ _)); exact BK162.out⟩, ⟨by (with_reducible repeat (first | refine kN ?_ _ | refine kD ?_ | refine kA ?_ _)); exact BK163.out⟩, ⟨by repeat (first | (with_reducible first | exact HB.out | apply bA | apply bN | apply bD | refine below_set ?_ GE162.out | refine below_set ?_ GE163.out) | exact HB.out)⟩⟩
   ·rw [if_neg c20] at H; have c20b0 : decide ((IntKind.u64.wrap (a2 - 12)) < t169) = false := decide_eq_false c20; clear c20
    (first | rw [c20b0] | (simp only [i64_w, i32_w]; rw [c20b0]) | skip)
    replace H := Option.bind_eq_some_iff.mp H; obtain ⟨t170, A210, H⟩ := H; replace H : (head_file_note.j0 k a1 t167 t168 (decide (t168 > (IntKind.u64.wrap ((IntKind.u64.wrap (a2 - 12)) - t170)))) l0_0) = some (r1, r2, r3, r4, r5) := H; have A21 := aM A210; clear A210; have H' := aM H; clear H
    go_wp2_with (first | ((with_reducible refine gate_callee (f := 65) rfl ?_); refine goesL_ (some 27) rfl rfl Tryd.func65 (by kernel_rfl) rfl #[.int .u64 t167] rfl (by (try simp only [List.map_toArray, List.map_cons, List.map_nil]); first | done | rfl | (simp only [List.length_drop, List.length_take]; rfl)) ?_; (with_reducible refine (head_four.calls t167 t169 _ A19.out).mono ?_); rintro e w' ⟨rfl, ⟨nd, rfl⟩⟩; refine ⟨_, rfl, ?_⟩) | (go_at_call 65; (with_reducible refine (head_four.calls t167 t170 _ A21.out).mono ?_); rintro e w' ⟨rfl, ⟨nd, rfl⟩⟩))
    go_meet
    case rel => exact ⟨_, (decide (t168 > (IntKind.u64.wrap ((IntKind.u64.wrap (a2 - 12)) - t170)))), (by first | rfl | (simp; done) | (simp [*]; done)), H', ⟨by first | omega | exact Nat.le_refl _⟩, ⟨by (with_reducible repeat (first | refine kN ?_ _ | refine kD ?_ | refine kA ?_ _)); exact BK162.out⟩, ⟨by (with_reducible repeat (first | refine kN ?_ _ | refine kD ?_ | refine kA ?_ _)); exact BK163.out⟩, ⟨by repeat (first | (with_reducible first | exact HB.out | apply bA | apply bN | apply bD | refine below_set ?_ GE162.out | refine below_set ?_ GE163.out) | exact HB.out)⟩⟩
  case rest =>
   clear HC13
   try clear c2
   try clear p2
   try clear c3
   try clear c4
   try clear c4b0
   try clear c6
   try clear c9
   try clear c20
   try clear c20b0
   try clear hcz10_0
   try clear hcz10_1
   try clear hcz10_2
   try clear hfz10_0
   try clear hfz10_1
   try clear hfz10_2
   obtain ⟨kq, x37_12, rfl, HA, HJ12, BK162, BK163, HB⟩ := hcut
   cases kq with
   | zero => exact absurd HA.out (by simp [head_file_note.j0])
   | succ kj12 =>
    have H := HA.out; clear HA; simp only [head_file_note.j0] at H
    by_cases c22 : x37_12 = true
    ·subst c22
     have H1 : ((head_spot.f 4 a1).bind fun t171 => (some ((⟨#[]⟩ : ByteArray), 0, ([] : List Int), 0, t171))) = some (r1, r2, r3, r4, r5) := by rw [if_pos rfl] at H; exact H
     clear H; have H := H1; clear H1; replace H := Option.bind_eq_some_iff.mp H; obtain ⟨t171, A230, H⟩ := H; replace H : (some ((⟨#[]⟩ : ByteArray), 0, ([] : List Int), 0, t171)) = some (r1, r2, r3, r4, r5) := H; have A23 := aM A230; clear A230; simp only [Option.some.injEq, Prod.mk.injEq] at H; obtain ⟨rfl, rfl, rfl, rfl, rfl⟩ := H
     go_wp2_with (first | ((with_reducible refine gate_callee (f := 38) rfl ?_); refine goesL_ (some 40) rfl rfl Tryd.func38 (by kernel_rfl) rfl #[.int .i64 4, .int .u64 a1] rfl (by (try simp only [List.map_toArray, List.map_cons, List.map_nil]); first | done | rfl | (simp only [List.length_drop, List.length_take]; rfl)) ?_; (with_reducible refine (head_spot.calls 4 a1 t171 _ A23.out).mono ?_); rintro e w24 ⟨ve173, rfl, hE0_, hb⟩; refine ⟨_, rfl, ?_⟩; replace BK162 := aM (blk_below (g := gb162) (o := .cells #[.slice A0_0 l0_0.length c0_0] 70 (0, 0)) (by (with_reducible repeat (first | refine kN ?_ _ | refine kD ?_ | refine kA ?_ _)); exact BK162.out) hb); replace BK163 := aM (blk_below (g := gb163) (o := .cells #[.string (⟨#[]⟩ : ByteArray), .int .u32 0, .slice none 0 0] 58 (0, 0)) (by (with_reducible repeat (first | refine kN ?_ _ | refine kD ?_ | refine kA ?_ _)); exact BK163.out) hb); have EA173 := aM ((ErrAt.lower (base' := w.heap.size) hE0_ (below_size (by repeat (first | (with_reducible first | exact HB.out | apply bA | apply bN | apply bD | refine below_set ?_ GE162.out | refine below_set ?_ GE163.out) | exact HB.out))))); replace HB := aM (below_step (by repeat (first | (with_reducible first | exact HB.out | apply bA | apply bN | apply bD | refine below_set ?_ GE162.out | refine below_set ?_ GE163.out) | exact HB.out)) hb); (try clear hb); (try clear hb2); (try clear hk); (try clear hi); (try clear hE0_); (try simp only [errW_none, errW_some]); have hnb25 := NB163_162.out; have hnc25 := NB162_163.out; obtain ⟨hcz26_0, hcz26_1, hcz26_2, hfz26_0, hfz26_1, hfz26_2⟩ := bx3 BK163.out))
     refine bodyPost_ret (results_ctt rfl _ _ gb163 58 #[.string (⟨#[]⟩ : ByteArray), .int .u32 0, .slice none 0 0] (0, 0) _ rfl (by (with_reducible repeat (first | refine kN ?_ _ | refine kD ?_ | refine kA ?_ _)); refine blk_put (cs := #[.string (⟨#[]⟩ : ByteArray), .int .u32 0, .slice none 0 0]) ?_ 2 _ rfl; (with_reducible repeat (first | refine kN ?_ _ | refine kD ?_ | refine kA ?_ _)); refine blk_put (cs := #[.string (⟨#[]⟩ : ByteArray), .int .u32 0, .slice none 0 0]) ?_ 1 _ rfl; (with_reducible repeat (first | refine kN ?_ _ | refine kD ?_ | refine kA ?_ _)); refine blk_put (cs := #[.string (⟨#[]⟩ : ByteArray), .int .u32 0, .slice none 0 0]) ?_ 0 _ rfl; (with_reducible repeat (first | refine kN ?_ _ | refine kD ?_ | refine kA ?_ _)); exact BK163.out) Tryd.underlying58 rfl (by kernel_rfl)) rfl ?_; exact ⟨_, ve173, by first | rfl | (simp [errW_none, errW_some] <;> rfl) | (simp [*, errW_none, errW_some] <;> rfl), (by repeat (first | (with_reducible first | exact EA173.out | apply ErrAt.alloc | apply ErrAt.drewN | apply ErrAt.drew | (apply ErrAt.set; rotate_left; (repeat (first | (apply IsRow.of; apply Aside0.out; assumption) | apply IsRow.set | apply IsRow.alloc | apply IsRow.drewN | apply IsRow.drew)); rotate_right) | decide) | exact EA173.out)), by first | exact Kd.R_nil _ _ _ _ _ | exact Kd.N_nil _ _ _ _ _ | exact Kd.V_nil _ _ _ _ _ | exact Kd.Q_nil _ _ _ _ _ | exact Kd.S_nil _ _ _ _ _, by repeat (first | (with_reducible first | exact HB.out | apply bA | apply bN | apply bD | refine below_set ?_ GE162.out | refine below_set ?_ GE163.out) | exact HB.out)⟩
    ·replace c22 := Bool.eq_false_iff.mpr c22; subst c22
     have H1 : ((head_file_get.f kj12 l0_0 (IntKind.u64.wrap (a1 + 8)) 4).bind fun t174 => (if t167 > 0 then (if 0 ≤ (IntKind.u64.wrap ((IntKind.u64.wrap ((IntKind.u64.wrap (a1 + 12)) + t167)) - 1)) then (if (IntKind.u64.wrap ((IntKind.u64.wrap ((IntKind.u64.wrap (a1 + 12)) + t167)) - 1)) < (l0_0.length : Int) then (if (rd l0_0 (IntKind.u64.wrap ((IntKind.u64.wrap ((IntKind.u64.wrap (a1 + 12)) + t167)) - 1))) = 0 then (if 0 ≤ (IntKind.u64.wrap (a1 + 12)) then (if (IntKind.u64.wrap (a1 + 12)) ≤ (IntKind.u64.wrap ((IntKind.u64.wrap ((IntKind.u64.wrap (a1 + 12)) + t167)) - 1)) then (if (IntKind.u64.wrap ((IntKind.u64.wrap ((IntKind.u64.wrap (a1 + 12)) + t167)) - 1)) ≤ (l0_0.length : Int) then (head_file_note.j1 kj12 a1 t167 t168 l0_0 (strOfNums ((l0_0.take ((IntKind.u64.wrap ((IntKind.u64.wrap ((IntKind.u64.wrap (a1 + 12)) + t167)) - 1)) : Int).toNat).drop ((IntKind.u64.wrap (a1 + 12)) : Int).toNat)) ((t174) % 4294967296)) else (none)) else (none)) else (none)) else ((head_spot.f 29 a1).bind fun t178 => (some ((⟨#[]⟩ : ByteArray), 0, ([] : List Int), 0, t178)))) else (none)) else (none)) else (head_file_note.j1 kj12 a1 t167 t168 l0_0 (⟨#[]⟩ : ByteArray) ((t174) % 4294967296)))) = some (r1, r2, r3, r4, r5) := by rw [if_neg (show ¬ (false = true) by decide)] at H; exact H
     clear H; have H := H1; clear H1; replace H := Option.bind_eq_some_iff.mp H; obtain ⟨t174, A270, H⟩ := H; replace H : (if t167 > 0 then (if 0 ≤ (IntKind.u64.wrap ((IntKind.u64.wrap ((IntKind.u64.wrap (a1 + 12)) + t167)) - 1)) then (if (IntKind.u64.wrap ((IntKind.u64.wrap ((IntKind.u64.wrap (a1 + 12)) + t167)) - 1)) < (l0_0.length : Int) then (if (rd l0_0 (IntKind.u64.wrap ((IntKind.u64.wrap ((IntKind.u64.wrap (a1 + 12)) + t167)) - 1))) = 0 then (if 0 ≤ (IntKind.u64.wrap (a1 + 12)) then (if (IntKind.u64.wrap (a1 + 12)) ≤ (IntKind.u64.wrap ((IntKind.u64.wrap ((IntKind.u64.wrap (a1 + 12)) + t167)) - 1)) then (if (IntKind.u64.wrap ((IntKind.u64.wrap ((IntKind.u64.wrap (a1 + 12)) + t167)) - 1)) ≤ (l0_0.length : Int) then (head_file_note.j1 kj12 a1 t167 t168 l0_0 (strOfNums ((l0_0.take ((IntKind.u64.wrap ((IntKind.u64.wrap ((IntKind.u64.wrap (a1 + 12)) + t167)) - 1)) : Int).toNat).drop ((IntKind.u64.wrap (a1 + 12)) : Int).toNat)) ((t174) % 4294967296)) else (none)) else (none)) else (none)) else ((head_spot.f 29 a1).bind fun t178 => (some ((⟨#[]⟩ : ByteArray), 0, ([] : List Int), 0, t178)))) else (none)) else (none)) else (head_file_note.j1 kj12 a1 t167 t168 l0_0 (⟨#[]⟩ : ByteArray) ((t174) % 4294967296))) = some (r1, r2, r3, r4, r5) := H; have A27 := aM A270; clear A270; have HC28 := aM H; clear H; have hnb29 := NB162_163.out; have hnc29 := NB163_162.out; obtain ⟨hcz30_0, hfz30_0⟩ := bx1 BK162.out
     go_upto_if 48 with (first | ((with_reducible refine gate_callee (f := 24) rfl ?_); refine goesL_ (some 44) rfl rfl Tryd.func24 (by kernel_rfl) rfl #[.agg #[.slice A0_0 l0_0.length c0_0], .int .u64 (IntKind.u64.wrap (a1 + 8)), .int .i64 4] rfl (by (try simp only [List.map_toArray, List.map_cons, List.map_nil]); first | done | rfl | (simp only [List.length_drop, List.length_take]; rfl)) ?_; (with_reducible refine (head_file_get.calls kj12 _ _ l0_0 (IntKind.u64.wrap (a1 + 8)) 4 t174 _ ?side1 ?side2 A27.out).mono ?_); (case side1 => repeat (first | exact (Kd.C_below HR0_0.out HB.out) | (with_reducible refine cA ?_ _) | (with_reducible refine cN ?_ _) | (with_reducible refine cD ?_))); (case side2 => exact HC0_0.out); rintro e w31 ⟨rfl, hb⟩; refine ⟨_, rfl, ?_⟩; replace BK162 := aM (blk_below (g := gb162) (o := .cells #[.slice A0_0 l0_0.length c0_0] 70 (0, 0)) (by (with_reducible repeat (first | refine kN ?_ _ | refine kD ?_ | refine kA ?_ _)); exact BK162.out) hb); replace BK163 := aM (blk_below (g := gb163) (o := .cells #[.string (⟨#[]⟩ : ByteArray), .int .u32 0, .slice none 0 0] 58 (0, 0)) (by (with_reducible repeat (first | refine kN ?_ _ | refine kD ?_ | refine kA ?_ _)); exact BK163.out) hb); replace HB := aM (below_step (by repeat (first | (with_reducible first | exact HB.out | apply bA | apply bN | apply bD | refine below_set ?_ GE162.out | refine below_set ?_ GE163.out) | exact HB.out)) hb); (try clear hb); (try clear hb2); (try clear hk); (try clear hi)) | ((with_reducible refine gate_dst (N := 11) rfl ?_); refine box_event ?hg (N := 11) ?hd (cs := #[.string (⟨#[]⟩ : ByteArray), .int .u32 0, .slice none 0 0]) (t := 58) ?hr ?_; (case hd => rfl); (case hg => rfl); (case hr => first | (go_simp; done) | (go_simp; rfl)); intro gb175 hg w32 hbox hb; have BK175 := aM (hbox); have GW175 := aM ((by rw [hg]; exact (below_size (by repeat (first | (with_reducible first | exact HB.out | apply bA | apply bN | apply bD | refine below_set ?_ GE162.out | refine below_set ?_ GE163.out) | exact HB.out))) : w.heap.size ≤ gb175)); have GE175 := aM ((by rw [hg]; exact (below_size (by repeat (first | (with_reducible first | exact HB.out | apply bA | apply bN | apply bD | refine below_set ?_ GE162.out | refine below_set ?_ GE163.out) | exact HB.out))) : w.heap.size ≤ gb175)); replace HB := aM (below_step (by repeat (first | (with_reducible first | exact HB.out | apply bA | apply bN | apply bD | refine below_set ?_ GE162.out | refine below_set ?_ GE163.out) | exact HB.out)) hb); have NB162_175 := aM ((by rw [hg]; exact Nat.ne_of_lt (blk_lt (by (with_reducible repeat (first | refine kN ?_ _ | refine kD ?_ | refine kA ?_ _)); exact BK162.out)) : gb162 ≠ gb175)); have NB175_162 := aM ((by rw [hg]; exact Nat.ne_of_gt (blk_lt (by (with_reducible repeat (first | refine kN ?_ _ | refine kD ?_ | refine kA ?_ _)); exact BK162.out)) : gb175 ≠ gb162)); replace BK162 := aM (blk_below (g := gb162) (o := .cells #[.slice A0_0 l0_0.length c0_0] 70 (0, 0)) (by (with_reducible repeat (first | refine kN ?_ _ | refine kD ?_ | refine kA ?_ _)); exact BK162.out) hb); have NB163_175 := aM ((by rw [hg]; exact Nat.ne_of_lt (blk_lt (g := gb163) (o := .cells #[.string (⟨#[]⟩ : ByteArray), .int .u32 0, .slice none 0 0] 58 (0, 0)) (by (with_reducible repeat (first | refine kN ?_ _ | refine kD ?_ | refine kA ?_ _)); exact BK163.out)) : gb163 ≠ gb175)); have NB175_163 := aM ((by rw [hg]; exact Nat.ne_of_gt (blk_lt (g := gb163) (o := .cells #[.string (⟨#[]⟩ : ByteArray), .int .u32 0, .slice none 0 0] 58 (0, 0)) (by (with_reducible repeat (first | refine kN ?_ _ | refine kD ?_ | refine kA ?_ _)); exact BK163.out)) : gb175 ≠ gb163)); replace BK163 := aM (blk_below (g := gb163) (o := .cells #[.string (⟨#[]⟩ : ByteArray), .int .u32 0, .slice none 0 0] 58 (0, 0)) (by (with_reducible repeat (first | refine kN ?_ _ | refine kD ?_ | refine kA ?_ _)); exact BK163.out) hb); clear hb hbox hg; have hnb33 := NB175_162.out; have hnc33 := NB162_175.out; have hnb34 := NB175_163.out; have hnc34 := NB163_175.out; obtain ⟨hcz35_0, hcz35_1, hcz35_2, hfz35_0, hfz35_1, hfz35_2⟩ := bx3 BK175.out))
     (try simp only [Act.put, sA, sZ, sS])
     go_cut [] (fun wc => ∃ (kq : Nat) (x164000_27 : ByteArray) (x164001_27 : Int) (x176000_27 : ByteArray), Aside0 (head_file_note.j1 kq a1 t167 t168 l0_0 x176000_27 ((t174) % 4294967296) = some (r1, r2, r3, r4, r5)) ∧ Aside0 (kq ≤ kj12) ∧ Aside0 (wc.heap[gb162]? = some (.cells #[(.slice A0_0 l0_0.length c0_0)] 70 (0, 0))) ∧ Aside0 (wc.heap[gb163]? = some (.cells #[.string x164000_27, .int .u32 x164001_27, (.slice none 0 0)] 58 (0, 0))) ∧ Aside0 (wc.heap[gb175]? = some (.cells #[.string x176000_27, .int .u32 ((t174) % 4294967296), (.slice none 0 0)] 58 (0, 0))) ∧ Aside0 (Below w.heap.size w wc))
     case first =>
      have H := HC28.out; clear HC28
      by_cases c36 : t167 > 0
      ·rw [if_pos c36] at H; have c36b0 : decide (0 < t167) = true := decide_eq_true c36; clear c36
       (first | rw [c36b0] | (simp only [i64_w, i32_w]; rw [c36b0]) | skip)
       obtain ⟨ji37, hji37⟩ : ∃ j_ : Int, (IntKind.u64.wrap ((IntKind.u64.wrap ((IntKind.u64.wrap (a1 + 12)) + t167)) - 1)) = j_ := ⟨_, rfl⟩
       replace H : (if 0 ≤ (ji37) then (if (ji37) < (l0_0.length : Int) then (if (rd l0_0 (ji37)) = 0 then (if 0 ≤ (IntKind.u64.wrap (a1 + 12)) then (if (IntKind.u64.wrap (a1 + 12)) ≤ (ji37) then (if (ji37) ≤ (l0_0.length : Int) then (head_file_note.j1 kj12 a1 t167 t168 l0_0 (strOfNums ((l0_0.take ((ji37) : Int).toNat).drop ((IntKind.u64.wrap (a1 + 12)) : Int).toNat)) ((t174) % 4294967296)) else (none)) else (none)) else (none)) else ((head_spot.f 29 a1).bind fun t178 => (some ((⟨#[]⟩ : ByteArray), 0, ([] : List Int), 0, t178)))) else (none)) else (none)) = some (r1, r2, r3, r4, r5) := by first | (rw [hji37] at H; exact H) | (simp only [hji37] at H ⊢; exact H)
       by_cases c38 : 0 ≤ (ji37)
       ·rw [if_pos c38] at H; have c38b0 : decide (0 ≤ (ji37)) = true := decide_eq_true c38; clear c38
        by_cases c39 : (ji37) < (l0_0.length : Int)
        ·rw [if_pos c39] at H; have c39b0 : decide ((ji37) < (l0_0.length : Int)) = true := decide_eq_true c39; clear c39
         by_cases c40 : (rd l0_0 (ji37)) = 0
         ·rw [if_pos c40] at H; have c40b0 : ((rd l0_0 (ji37)) == 0) = true := beq_iff_eq.mpr c40; have c40b1 : ((rd l0_0 (ji37)) != 0) = false := bne_eq_false_iff_eq.mpr c40; clear c40; obtain ⟨ji41, hji41⟩ : ∃ j_ : Int, (IntKind.u64.wrap (a1 + 12)) = j_ := ⟨_, rfl⟩
          try simp only [hji41] at hji37
          replace H : (if 0 ≤ (ji41) then (if (ji41) ≤ (ji37) then (if (ji37) ≤ (l0_0.length : Int) then (head_file_note.j1 kj12 a1 t167 t168 l0_0 (strOfNums ((l0_0.take ((ji37) : Int).toNat).drop ((ji41) : Int).toNat)) ((t174) % 4294967296)) else (none)) else (none)) else (none)) = some (r1, r2, r3, r4, r5) := by first | (rw [hji41] at H; exact H) | (simp only [hji41] at H ⊢; exact H)
          by_cases c42 : 0 ≤ (ji41)
          ·rw [if_pos c42] at H; have c42b0 := eq_true c42; have c42b1 : decide (0 ≤ (ji41)) = true := decide_eq_true c42; clear c42
           by_cases c43 : (ji41) ≤ (ji37)
           ·rw [if_pos c43] at H; have c43b0 := eq_true c43; have c43b1 : decide ((ji41) ≤ (ji37)) = true := decide_eq_true c43; clear c43
            by_cases c44 : (ji37) ≤ (l0_0.length : Int)
            ·rw [if_pos c44] at H; have c44b0 := eq_true c44; have c44b1 : decide ((ji37) ≤ (l0_0.length : Int)) = true := decide_eq_true c44; clear c44; have H' := aM H; clear H; have hnb45 := NB162_163.out; have hnc45 := NB163_162.out; have hnb46 := NB162_175.out; have hnc46 := NB175_162.out; obtain ⟨hcz47_0, hfz47_0⟩ := bx1 BK162.out; have p176 : 0 ≤ ((ji37) : Int) := of_decide_eq_true (by first | (with_reducible assumption) | assumption); have q176 : (ji37) < (l0_0.length : Int) := of_decide_eq_true (by first | (with_reducible assumption) | assumption); obtain ⟨ad176, e176, hx176_0⟩ := Kd.at_int HR0_0.out (ji37) p176 q176
             cases e176
             have hn176_0 : ad176.block ≠ gb175 := Nat.ne_of_lt (Nat.lt_of_lt_of_le (by have := World.block_lt_of_cell? _ _ hx176_0; first | rwa [add_block] at this | exact this) GW175.out); have hn176_1 : ad176.block ≠ gb175 := Nat.ne_of_lt (Nat.lt_of_lt_of_le (by have := World.block_lt_of_cell? _ _ hx176_0; first | rwa [add_block] at this | exact this) GW175.out); have hn176_2 : ad176.block ≠ gb175 := Nat.ne_of_lt (Nat.lt_of_lt_of_le (by have := World.block_lt_of_cell? _ _ hx176_0; first | rwa [add_block] at this | exact this) GW175.out); replace hx176_0 := (HB.out.cell (World.block_lt_of_cell? w _ hx176_0)).trans hx176_0; replace hx176_0 := (cell_far (p := ⟨gb175, 0, none⟩) (by first | (rw [add_block]; exact hn176_0) | (show (Addr.add _ _).block ≠ _; rw [add_block]; exact hn176_0) | exact hn176_0) (.string (⟨#[]⟩ : ByteArray))).trans hx176_0; replace hx176_0 := (cell_far (p := ⟨gb175, 1, none⟩) (by first | (rw [add_block]; exact hn176_1) | (show (Addr.add _ _).block ≠ _; rw [add_block]; exact hn176_1) | exact hn176_1) (.int .u32 ((t174) % 4294967296))).trans hx176_0; replace hx176_0 := (cell_far (p := ⟨gb175, 2, none⟩) (by first | (rw [add_block]; exact hn176_2) | (show (Addr.add _ _).block ≠ _; rw [add_block]; exact hn176_2) | exact hn176_2) (.slice none 0 0)).trans hx176_0; clear hn176_0; clear hn176_1; clear hn176_2; replace p176 := eq_true p176; replace q176 := eq_true q176; obtain ⟨i048, hi048, _, hsz48, _⟩ := info_parts info5; obtain ⟨A48, hcut48, hA48, hC48⟩ := print_mid_of (P := Tryd.prog) (Value.int .u8) 0 22 5 .u64 .u64 Tryd.underlying22 hi048 hsz48 (some ad176) c0_0 l0_0 (ji41) (ji37) (of_decide_eq_true (by first | (with_reducible assumption) | assumption)) (by first | omega | exact of_decide_eq_true (by first | (with_reducible assumption) | assumption)) (of_decide_eq_true (by first | (with_reducible assumption) | assumption)) HC0_0.out; have HR177 := aM (Kd.C_of_reads (h1 := fun _ => rfl) (hA48 _ (Kd.reads_of_C HR0_0.out))); have HC177 := aM hC48; clear hA48 hC48 hi048 hsz48; have hcv49 := Kd.C_string (P := Tryd.prog) (w := (((w32.setCell ⟨gb175, 0, none⟩ (.string ⟨#[]⟩)).setCell ⟨gb175, 1, none⟩ (.int .u32 (t174 % 4294967296))).setCell ⟨gb175, 2, none⟩ (.slice none 0 0))) (A := A48) (c := (c0_0 - (ji41).toNat)) Tryd.underlying22 Tryd.underlying5 Tryd.underlying9 (Kd.C_below HR177.out (by repeat (first | exact HB.out | refine below_set ?_ GE175.out)))
             have hcv49n := fun nq => Kd.C_string (P := Tryd.prog) (A := A48) (c := (c0_0 - (ji41).toNat)) Tryd.underlying22 Tryd.underlying5 Tryd.underlying9 (Kd.C_drewN (Kd.C_below HR177.out HB.out) nq)
             (try rw [show ((l0_0.take ((ji37) : Int).toNat).drop ((ji41) : Int).toNat).length = ((ji37).toNat - (ji41).toNat) from (by rw [List.length_drop, List.length_take]; have h_ : ((ji37) : Int) ≤ (l0_0.length : Int) := of_decide_eq_true (by first | (with_reducible assumption) | assumption); omega)] at hcv49)
             (try rw [show ((l0_0.take ((ji37) : Int).toNat).drop ((ji41) : Int).toNat).length = ((ji37).toNat - (ji41).toNat) from (by rw [List.length_drop, List.length_take]; have h_ : ((ji37) : Int) ≤ (l0_0.length : Int) := of_decide_eq_true (by first | (with_reducible assumption) | assumption); omega)] at hcv49n)
             have hnb50 := NB175_163.out; have hnc50 := NB163_175.out; obtain ⟨hcz51_0, hcz51_1, hcz51_2, hfz51_0, hfz51_1, hfz51_2⟩ := bx3 BK175.out
             go_wp2
             go_meet
             case rel => exact ⟨_, ((⟨#[]⟩ : ByteArray)), (0), (strOfNums ((l0_0.take ((ji37) : Int).toNat).drop ((ji41) : Int).toNat)), H', ⟨by have := HJ12.out; first | omega | exact Nat.le_refl _⟩, ⟨by (with_reducible repeat (first | refine kN ?_ _ | refine kD ?_ | refine kA ?_ _)); refine blk_far ?_ NB162_175.out _; (with_reducible repeat (first | refine kN ?_ _ | refine kD ?_ | refine kA ?_ _)); refine blk_far ?_ NB162_175.out _; (with_reducible repeat (first | refine kN ?_ _ | refine kD ?_ | refine kA ?_ _)); refine blk_far ?_ NB162_175.out _; (with_reducible repeat (first | refine kN ?_ _ | refine kD ?_ | refine kA ?_ _)); refine blk_far ?_ NB162_175.out _; (with_reducible repeat (first | refine kN ?_ _ | refine kD ?_ | refine kA ?_ _)); exact BK162.out⟩, ⟨by (with_reducible repeat (first | refine kN ?_ _ | refine kD ?_ | refine kA ?_ _)); refine blk_far ?_ NB163_175.out _; (with_reducible repeat (first | refine kN ?_ _ | refine kD ?_ | refine kA ?_ _)); refine blk_far ?_ NB163_175.out _; (with_reducible repeat (first | refine kN ?_ _ | refine kD ?_ | refine kA ?_ _)); refine blk_far ?_ NB163_175.out _; (with_reducible repeat (first | refine kN ?_ _ | refine kD ?_ | refine kA ?_ _)); refine blk_far ?_ NB163_175.out _; (with_reducible repeat (first | refine kN ?_ _ | refine kD ?_ | refine kA ?_ _)); exact BK163.out⟩, ⟨by (with_reducible repeat (first | refine kN ?_ _ | refine kD ?_ | refine kA ?_ _)); refine blk_put (cs := #[.string (⟨#[]⟩ : ByteArray), .int .u32 ((t174) % 4294967296), .slice none 0 0]) ?_ 0 _ rfl; (with_reducible repeat (first | refine kN ?_ _ | refine kD ?_ | refine kA ?_ _)); refine blk_put (cs := #[.string (⟨#[]⟩ : ByteArray), .int .u32 ((t174) % 4294967296), .slice none 0 0]) ?_ 2 _ rfl; (with_reducible repeat (first | refine kN ?_ _ | refine kD ?_ | refine kA ?_ _)); refine blk_put (cs := #[.string (⟨#[]⟩ : ByteArray), .int .u32 0, .slice none 0 0]) ?_ 1 _ rfl; (with_reducible repeat (first | refine kN ?_ _ | refine kD ?_ | refine kA ?_ _)); refine blk_put (cs := #[.string (⟨#[]⟩ : ByteArray), .int .u32 0, .slice none 0 0]) ?_ 0 _ rfl; (with_reducible repeat (first | refine kN ?_ _ | refine kD ?_ | refine kA ?_ _)); exact BK175.out⟩, ⟨by repeat (first | (with_reducible first | exact HB.out | apply bA | apply bN | apply bD | refine below_set ?_ GE162.out | refine below_set ?_ GE163.out | refine below_set ?_ GE175.out) | exact HB.out)⟩⟩
            ·rw [if_neg c44] at H; exact absurd H (by simp)
           ·rw [if_neg c43] at H; exact absurd H (by simp)
          ·rw [if_neg c42] at H; exact absurd H (by simp)
         ·rw [if_neg c40] at H; have c40b0 : ((rd l0_0 (ji37)) == 0) = false := beq_eq_false_iff_ne.mpr c40; have c40b1 : ((rd l0_0 (ji37)) != 0) = true := bne_iff_ne.mpr c40; replace H := Option.bind_eq_some_iff.mp H; obtain ⟨t178, A520, H⟩ := H; replace H : (some ((⟨#[]⟩ : ByteArray), 0, ([] : List Int), 0, t178)) = some (r1, r2, r3, r4, r5) := H; have A52 := aM A520; clear A520; simp only [Option.some.injEq, Prod.mk.injEq] at H; obtain ⟨rfl, rfl, rfl, rfl, rfl⟩ := H; have hnb53 := NB162_163.out; have hnc53 := NB163_162.out; have hnb54 := NB162_175.out; have hnc54 := NB175_162.out; obtain ⟨hcz55_0, hfz55_0⟩ := bx1 BK162.out; have p176 : 0 ≤ ((ji37) : Int) := of_decide_eq_true (by first | (with_reducible assumption) | assumption); have q176 : (ji37) < (l0_0.length : Int) := of_decide_eq_true (by first | (with_reducible assumption) | assumption); obtain ⟨ad176, e176, hx176_0⟩ := Kd.at_int HR0_0.out (ji37) p176 q176
          cases e176
          have hn176_0 : ad176.block ≠ gb175 := Nat.ne_of_lt (Nat.lt_of_lt_of_le (by have := World.block_lt_of_cell? _ _ hx176_0; first | rwa [add_block] at this | exact this) GW175.out); have hn176_1 : ad176.block ≠ gb175 := Nat.ne_of_lt (Nat.lt_of_lt_of_le (by have := World.block_lt_of_cell? _ _ hx176_0; first | rwa [add_block] at this | exact this) GW175.out); have hn176_2 : ad176.block ≠ gb175 := Nat.ne_of_lt (Nat.lt_of_lt_of_le (by have := World.block_lt_of_cell? _ _ hx176_0; first | rwa [add_block] at this | exact this) GW175.out); replace hx176_0 := (HB.out.cell (World.block_lt_of_cell? w _ hx176_0)).trans hx176_0; replace hx176_0 := (cell_far (p := ⟨gb175, 0, none⟩) (by first | (rw [add_block]; exact hn176_0) | (show (Addr.add _ _).block ≠ _; rw [add_block]; exact hn176_0) | exact hn176_0) (.string (⟨#[]⟩ : ByteArray))).trans hx176_0; replace hx176_0 := (cell_far (p := ⟨gb175, 1, none⟩) (by first | (rw [add_block]; exact hn176_1) | (show (Addr.add _ _).block ≠ _; rw [add_block]; exact hn176_1) | exact hn176_1) (.int .u32 ((t174) % 4294967296))).trans hx176_0; replace hx176_0 := (cell_far (p := ⟨gb175, 2, none⟩) (by first | (rw [add_block]; exact hn176_2) | (show (Addr.add _ _).block ≠ _; rw [add_block]; exact hn176_2) | exact hn176_2) (.slice none 0 0)).trans hx176_0; clear hn176_0; clear hn176_1; clear hn176_2; replace p176 := eq_true p176; replace q176 := eq_true q176
          go_wp2_with (first | ((with_reducible refine gate_callee (f := 38) rfl ?_); refine goesL_ (some 61) rfl rfl Tryd.func38 (by kernel_rfl) rfl #[.int .i64 29, .int .u64 a1] rfl (by (try simp only [List.map_toArray, List.map_cons, List.map_nil]); first | done | rfl | (simp only [List.length_drop, List.length_take]; rfl)) ?_; (with_reducible refine (head_spot.calls 29 a1 t178 _ A52.out).mono ?_); rintro e w56 ⟨ve180, rfl, hE0_, hb⟩; refine ⟨_, rfl, ?_⟩; replace BK162 := aM (blk_below (g := gb162) (o := .cells #[.slice (some ad176) l0_0.length c0_0] 70 (0, 0)) (by (with_reducible repeat (first | refine kN ?_ _ | refine kD ?_ | refine kA ?_ _)); refine blk_far ?_ NB162_175.out _; (with_reducible repeat (first | refine kN ?_ _ | refine kD ?_ | refine kA ?_ _)); refine blk_far ?_ NB162_175.out _; (with_reducible repeat (first | refine kN ?_ _ | refine kD ?_ | refine kA ?_ _)); refine blk_far ?_ NB162_175.out _; (with_reducible repeat (first | refine kN ?_ _ | refine kD ?_ | refine kA ?_ _)); exact BK162.out) hb); replace BK163 := aM (blk_below (g := gb163) (o := .cells #[.string (⟨#[]⟩ : ByteArray), .int .u32 0, .slice none 0 0] 58 (0, 0)) (by (with_reducible repeat (first | refine kN ?_ _ | refine kD ?_ | refine kA ?_ _)); refine blk_far ?_ NB163_175.out _; (with_reducible repeat (first | refine kN ?_ _ | refine kD ?_ | refine kA ?_ _)); refine blk_far ?_ NB163_175.out _; (with_reducible repeat (first | refine kN ?_ _ | refine kD ?_ | refine kA ?_ _)); refine blk_far ?_ NB163_175.out _; (with_reducible repeat (first | refine kN ?_ _ | refine kD ?_ | refine kA ?_ _)); exact BK163.out) hb); replace BK175 := aM (blk_below (g := gb175) (o := .cells #[.string (⟨#[]⟩ : ByteArray), .int .u32 ((t174) % 4294967296), .slice none 0 0] 58 (0, 0)) (by (with_reducible repeat (first | refine kN ?_ _ | refine kD ?_ | refine kA ?_ _)); refine blk_put (cs := #[.string (⟨#[]⟩ : ByteArray), .int .u32 ((t174) % 4294967296), .slice none 0 0]) ?_ 2 _ rfl; (with_reducible repeat (first | refine kN ?_ _ | refine kD ?_ | refine kA ?_ _)); refine blk_put (cs := #[.string (⟨#[]⟩ : ByteArray), .int .u32 0, .slice none 0 0]) ?_ 1 _ rfl; (with_reducible repeat (first | refine kN ?_ _ | refine kD ?_ | refine kA ?_ _)); refine blk_put (cs := #[.string (⟨#[]⟩ : ByteArray), .int .u32 0, .slice none 0 0]) ?_ 0 _ rfl; (with_reducible repeat (first | refine kN ?_ _ | refine kD ?_ | refine kA ?_ _)); exact BK175.out) hb); have EA180 := aM ((ErrAt.lower (base' := w.heap.size) hE0_ (below_size (by repeat (first | (with_reducible first | exact HB.out | apply bA | apply bN | apply bD | refine below_set ?_ GE162.out | refine below_set ?_ GE163.out | refine below_set ?_ GE175.out) | exact HB.out))))); replace HB := aM (below_step (by repeat (first | (with_reducible first | exact HB.out | apply bA | apply bN | apply bD | refine below_set ?_ GE162.out | refine below_set ?_ GE163.out | refine below_set ?_ GE175.out) | exact HB.out)) hb); (try clear hb); (try clear hb2); (try clear hk); (try clear hi); (try clear hE0_); (try simp only [errW_none, errW_some]); have hnb57 := NB163_175.out; have hnc57 := NB175_163.out; obtain ⟨hcz58_0, hcz58_1, hcz58_2, hfz58_0, hfz58_1, hfz58_2⟩ := bx3 BK163.out))
          refine bodyPost_ret (results_ctt rfl _ _ gb163 58 #[.string (⟨#[]⟩ : ByteArray), .int .u32 0, .slice none 0 0] (0, 0) _ rfl (by (with_reducible repeat (first | refine kN ?_ _ | refine kD ?_ | refine kA ?_ _)); refine blk_put (cs := #[.string (⟨#[]⟩ : ByteArray), .int .u32 0, .slice none 0 0]) ?_ 2 _ rfl; (with_reducible repeat (first | refine kN ?_ _ | refine kD ?_ | refine kA ?_ _)); refine blk_put (cs := #[.string (⟨#[]⟩ : ByteArray), .int .u32 0, .slice none 0 0]) ?_ 1 _ rfl; (with_reducible repeat (first | refine kN ?_ _ | refine kD ?_ | refine kA ?_ _)); refine blk_put (cs := #[.string (⟨#[]⟩ : ByteArray), .int .u32 0, .slice none 0 0]) ?_ 0 _ rfl; (with_reducible repeat (first | refine kN ?_ _ | refine kD ?_ | refine kA ?_ _)); exact BK163.out) Tryd.underlying58 rfl (by kernel_rfl)) rfl ?_; exact ⟨_, ve180, by first | rfl | (simp [errW_none, errW_some] <;> rfl) | (simp only [← hji37]; first | rfl | (simp [errW_none, errW_some] <;> rfl)) | (simp [*, errW_none, errW_some] <;> rfl), (by repeat (first | (with_reducible first | exact EA180.out | apply ErrAt.alloc | apply ErrAt.drewN | apply ErrAt.drew | (apply ErrAt.set; rotate_left; (repeat (first | (apply IsRow.of; apply Aside0.out; assumption) | apply IsRow.set | apply IsRow.alloc | apply IsRow.drewN | apply IsRow.drew)); rotate_right) | decide) | exact EA180.out)), by first | exact Kd.R_nil _ _ _ _ _ | exact Kd.N_nil _ _ _ _ _ | exact Kd.V_nil _ _ _ _ _ | exact Kd.Q_nil _ _ _ _ _ | exact Kd.S_nil _ _ _ _ _, by repeat (first | (with_reducible first | exact HB.out | apply bA | apply bN | apply bD | refine below_set ?_ GE162.out | refine below_set ?_ GE163.out | refine below_set ?_ GE175.out) | exact HB.out)⟩
        ·rw [if_neg c39] at H; exact absurd H (by simp)
       ·rw [if_neg c38] at H; exact absurd H (by simp)
      ·rw [if_neg c36] at H; have c36b0 : decide (0 < t167) = false := decide_eq_false c36; clear c36
       (first | rw [c36b0] | (simp only [i64_w, i32_w]; rw [c36b0]) | skip)
       have H' := aM H; clear H
       go_wp2
       go_meet
       case rel => exact ⟨_, ((⟨#[]⟩ : ByteArray)), (0), ((⟨#[]⟩ : ByteArray)), H', ⟨by have := HJ12.out; first | omega | exact Nat.le_refl _⟩, ⟨by (with_reducible repeat (first | refine kN ?_ _ | refine kD ?_ | refine kA ?_ _)); refine blk_far ?_ NB162_175.out _; (with_reducible repeat (first | refine kN ?_ _ | refine kD ?_ | refine kA ?_ _)); refine blk_far ?_ NB162_175.out _; (with_reducible repeat (first | refine kN ?_ _ | refine kD ?_ | refine kA ?_ _)); refine blk_far ?_ NB162_175.out _; (with_reducible repeat (first | refine kN ?_ _ | refine kD ?_ | refine kA ?_ _)); exact BK162.out⟩, ⟨by (with_reducible repeat (first | refine kN ?_ _ | refine kD ?_ | refine kA ?_ _)); refine blk_far ?_ NB163_175.out _; (with_reducible repeat (first | refine kN ?_ _ | refine kD ?_ | refine kA ?_ _)); refine blk_far ?_ NB163_175.out _; (with_reducible repeat (first | refine kN ?_ _ | refine kD ?_ | refine kA ?_ _)); refine blk_far ?_ NB163_175.out _; (with_reducible repeat (first | refine kN ?_ _ | refine kD ?_ | refine kA ?_ _)); exact BK163.out⟩, ⟨by (with_reducible repeat (first | refine kN ?_ _ | refine kD ?_ | refine kA ?_ _)); refine blk_put (cs := #[.string (⟨#[]⟩ : ByteArray), .int .u32 ((t174) % 4294967296), .slice none 0 0]) ?_ 2 _ rfl; (with_reducible repeat (first | refine kN ?_ _ | refine kD ?_ | refine kA ?_ _)); refine blk_put (cs := #[.string (⟨#[]⟩ : ByteArray), .int .u32 0, .slice none 0 0]) ?_ 1 _ rfl; (with_reducible repeat (first | refine kN ?_ _ | refine kD ?_ | refine kA ?_ _)); refine blk_put (cs := #[.string (⟨#[]⟩ : ByteArray), .int .u32 0, .slice none 0 0]) ?_ 0 _ rfl; (with_reducible repeat (first | refine kN ?_ _ | refine kD ?_ | refine kA ?_ _)); exact BK175.out⟩, ⟨by repeat (first | (with_reducible first | exact HB.out | apply bA | apply bN | apply bD | refine below_set ?_ GE162.out | refine below_set ?_ GE163.out | refine below_set ?_ GE175.out) | exact HB.out)⟩⟩
     case rest =>
      clear HC28
      try clear p1
      try clear q1
      try clear hx1
      try clear c2
      try clear p2
      try clear c3
      try clear c4
      try clear c4b0
      try clear hcv4
      try clear c5
      try clear c6
      try clear c9
      try clear p17
      try clear q17
      try clear hx17
      try clear c20
      try clear c20b0
      try clear c22
      try clear c24
      try clear c25
      try clear c29
      try clear c33
      try clear c34
      try clear c36
      try clear c36b0
      try clear c38
      try clear c38b0
      try clear c39
      try clear c39b0
      try clear c40
      try clear c40b0
      try clear c40b1
      try clear c42
      try clear c42b0
      try clear c42b1
      try clear c43
      try clear c43b0
      try clear c43b1
      try clear c44
      try clear c44b0
      try clear c44b1
      try clear c45
      try clear c46
      try clear hcv49
      try clear hcv49n
      try clear c50
      try clear c53
      try clear c54
      try clear c57
      try clear hcz10_0
      try clear hcz10_1
      try clear hcz10_2
      try clear hcz26_0
      try clear hcz26_1
      try clear hcz26_2
      try clear hcz30_0
      try clear hcz35_0
      try clear hcz35_1
      try clear hcz35_2
      try clear hcz47_0
      try clear hcz51_0
      try clear hcz51_1
      try clear hcz51_2
      try clear hcz55_0
      try clear hcz58_0
      try clear hcz58_1
      try clear hcz58_2
      try clear hfz10_0
      try clear hfz10_1
      try clear hfz10_2
      try clear hfz26_0
      try clear hfz26_1
      try clear hfz26_2
      try clear hfz30_0
      try clear hfz35_0
      try clear hfz35_1
      try clear hfz35_2
      try clear hfz47_0
      try clear hfz51_0
      try clear hfz51_1
      try clear hfz51_2
      try clear hfz55_0
      try clear hfz58_0
      try clear hfz58_1
      try clear hfz58_2
      try clear hx176_0
      try clear p176
      try clear p2
      try clear q176
      obtain ⟨kq, x164000_27, x164001_27, x176000_27, HA, HJ27, BK162, BK163, BK175, HB⟩ := hcut
      cases kq with
      | zero => exact absurd HA.out (by simp [head_file_note.j1])
      | succ kj27 =>
       have H := HA.out; clear HA; simp only [head_file_note.j1] at H; replace H := Option.bind_eq_some_iff.mp H; obtain ⟨t181, A590, H⟩ := H; replace H : (if 0 ≤ (IntKind.u64.wrap ((IntKind.u64.wrap (a1 + 12)) + t181)) then (if (IntKind.u64.wrap ((IntKind.u64.wrap (a1 + 12)) + t181)) ≤ (l0_0.length : Int) then (if 0 ≤ t168 then (if t168 ≤ ((l0_0.drop ((IntKind.u64.wrap ((IntKind.u64.wrap (a1 + 12)) + t181)) : Int).toNat).length : Int) then ((slices_Clone_byte_byte.f ((l0_0.drop ((IntKind.u64.wrap ((IntKind.u64.wrap (a1 + 12)) + t181)) : Int).toNat).take (t168 : Int).toNat)).bind fun t184 => ((head_four.f t167).bind fun t187 => ((head_four.f t168).bind fun t188 => (some (x176000_27, ((t174) % 4294967296), t184, IntKind.u64.wrap ((IntKind.u64.wrap (12 + t187)) + t188), none))))) else (none)) else (none)) else (none)) else (none)) = some (r1, r2, r3, r4, r5) := H; have A59 := aM A590; clear A590; obtain ⟨ji60, hji60⟩ : ∃ j_ : Int, (IntKind.u64.wrap ((IntKind.u64.wrap (a1 + 12)) + t181)) = j_ := ⟨_, rfl⟩
       replace H : (if 0 ≤ (ji60) then (if (ji60) ≤ (l0_0.length : Int) then (if 0 ≤ t168 then (if t168 ≤ ((l0_0.drop ((ji60) : Int).toNat).length : Int) then ((slices_Clone_byte_byte.f ((l0_0.drop ((ji60) : Int).toNat).take (t168 : Int).toNat)).bind fun t184 => ((head_four.f t167).bind fun t187 => ((head_four.f t168).bind fun t188 => (some (x176000_27, ((t174) % 4294967296), t184, IntKind.u64.wrap ((IntKind.u64.wrap (12 + t187)) + t188), none))))) else (none)) else (none)) else (none)) else (none)) = some (r1, r2, r3, r4, r5) := by first | (rw [hji60] at H; exact H) | (simp only [hji60] at H ⊢; exact H)
       (try rw [hji60] at A59)
       by_cases c61 : 0 ≤ (ji60)
       ·rw [if_pos c61] at H; have c61b0 := eq_true c61; have c61b1 : decide (0 ≤ (ji60)) = true := decide_eq_true c61; clear c61
        by_cases c62 : (ji60) ≤ (l0_0.length : Int)
        ·rw [if_pos c62] at H; have c62b0 := eq_true c62; have c62b1 : decide ((ji60) ≤ (l0_0.length : Int)) = true := decide_eq_true c62; clear c62
         by_cases c63 : 0 ≤ t168
         ·rw [if_pos c63] at H; have c63b0 := eq_true c63; have c63b1 : decide (0 ≤ t168) = true := decide_eq_true c63; clear c63
          by_cases c64 : t168 ≤ ((l0_0.drop ((ji60) : Int).toNat).length : Int)
          ·rw [if_pos c64] at H; have c64b0 := eq_true c64; have c64b1 : decide (t168 ≤ ((l0_0.drop ((ji60) : Int).toNat).length : Int)) = true := decide_eq_true c64; clear c64; replace H := Option.bind_eq_some_iff.mp H; obtain ⟨t184, A650, H⟩ := H; replace H : ((head_four.f t167).bind fun t187 => ((head_four.f t168).bind fun t188 => (some (x176000_27, ((t174) % 4294967296), t184, IntKind.u64.wrap ((IntKind.u64.wrap (12 + t187)) + t188), none)))) = some (r1, r2, r3, r4, r5) := H; have A65 := aM A650; clear A650; replace H := Option.bind_eq_some_iff.mp H; obtain ⟨t187, A660, H⟩ := H; replace H : ((head_four.f t168).bind fun t188 => (some (x176000_27, ((t174) % 4294967296), t184, IntKind.u64.wrap ((IntKind.u64.wrap (12 + t187)) + t188), none))) = some (r1, r2, r3, r4, r5) := H; have A66 := aM A660; clear A660; replace H := Option.bind_eq_some_iff.mp H; obtain ⟨t188, A670, H⟩ := H; replace H : (some (x176000_27, ((t174) % 4294967296), t184, IntKind.u64.wrap ((IntKind.u64.wrap (12 + t187)) + t188), none)) = some (r1, r2, r3, r4, r5) := H; have A67 := aM A670; clear A670; simp only [Option.some.injEq, Prod.mk.injEq] at H; obtain ⟨rfl, rfl, rfl, rfl, rfl⟩ := H
           try go_wp2
           replace BK162 := aM (blk_drew BK162.out); replace BK163 := aM (blk_drew BK163.out); replace BK175 := aM (blk_drew BK175.out); replace HB := aM (below_drew1 HB.out); refine start_ (n := 13) (S := fun w' => w'.cell? ⟨gb162, 0, none⟩ = some (.slice A0_0 l0_0.length c0_0)) (ds := []) #[false, false, false, false, false, false, false, false, false, false, false, false, false] (by kernel_rfl) rfl rfl ((blk_cell BK162.out 0).trans rfl) (fun hHeld => ?_); refine with_tabW head_file_note.tab12 head_file_note.bits12 (fun HT_ HW_ => ?_); generalize wc.drew = w68 at BK162 BK163 BK175 HB hHeld ⊢; refine pure_ (i := 0) (N := some 74) (v := ?_) (a' := ?_) #[true, false, false, false, false, false, false, false, false, false, false, false, false] rfl rfl (any_of HT_.out (by kernel_rfl)) (fun _ _ _ h => h) (Or.inl ⟨by rfl, ?_⟩) ?_ ?_; rotate_left
           ·intro w'
            go_simp
            with_reducible rfl
           rotate_left
           ·simp only [Act.put, sA, sZ, sS, i64_w, i32_w]
            rfl
           refine pure_ (i := 2) (N := some 76) (v := ?_) (a' := ?_) #[true, false, true, false, false, false, false, false, false, false, false, false, false] rfl rfl (any_of HT_.out (by kernel_rfl)) (fun _ _ _ h => h) (Or.inl ⟨by rfl, ?_⟩) ?_ ?_; rotate_left
           ·intro w'
            go_simp
            with_reducible rfl
           rotate_left
           ·simp only [Act.put, sA, sZ, sS, i64_w, i32_w]
            rfl
           refine pure_ (i := 3) (N := some 77) (v := ?_) (a' := ?_) #[true, false, true, true, false, false, false, false, false, false, false, false, false] rfl rfl (any_of HT_.out (by kernel_rfl)) (fun _ _ _ h => h) (Or.inl ⟨by rfl, ?_⟩) ?_ ?_; rotate_left
           ·intro w'
            go_simp
            with_reducible rfl
           rotate_left
           ·simp only [Act.put, sA, sZ, sS, i64_w, i32_w]
            rfl
           refine pure_ (i := 4) (N := some 78) (v := ?_) (a' := ?_) #[true, false, true, true, true, false, false, false, false, false, false, false, false] rfl rfl (any_of HT_.out (by kernel_rfl)) (fun _ _ _ h => h) (Or.inl ⟨by rfl, ?_⟩) ?_ ?_; rotate_left
           ·intro w'
            go_simp
            with_reducible rfl
           rotate_left
           ·simp only [Act.put, sA, sZ, sS, i64_w, i32_w]
            rfl
           refine pure_ (i := 8) (N := some 82) (v := ?_) (a' := ?_) #[true, false, true, true, true, false, false, false, true, false, false, false, false] rfl rfl (any_of HT_.out (by kernel_rfl)) (fun _ _ _ h => h) (Or.inl ⟨by rfl, ?_⟩) ?_ ?_; rotate_left
           ·intro w'
            go_simp
            with_reducible rfl
           rotate_left
           ·simp only [Act.put, sA, sZ, sS, i64_w, i32_w]
            rfl
           refine take_ (i := 1) (N := some 75) (v := ?_) (a' := ?_) #[true, true, true, true, true, false, false, false, true, false, false, false, false] rfl rfl (take_ofW HT_.out HW_.out (by kernel_rfl)) (fun _ _ _ h => h) (Or.inl ⟨by rfl, ?_⟩) hHeld ?_ ?_; rotate_left
           ·intro w' s0
            go_simp
            with_reducible rfl
           rotate_left
           ·simp only [Act.put, sA, sZ, sS, i64_w, i32_w]
            rfl
           refine one_ (i := 5) (N := some 79) #[true, true, true, true, true, true, false, false, true, false, false, false, false] rfl rfl (one_of HT_.out (by kernel_rfl)) (by decide) (fun K hK => ?_); refine goes_ Tryd.func65 (by kernel_rfl) rfl #[.int .u64 t167] (by rfl) rfl rfl (by (try simp only [List.map_toArray, List.map_cons, List.map_nil]); first | done | rfl | (simp only [List.length_drop, List.length_take]; rfl)) ?_
           with_reducible refine (head_four.calls t167 t181 _ A59.out).mono ?_
           rintro e w' ⟨rfl, ⟨nd, rfl⟩⟩; refine ⟨_, rfl, ?_⟩; obtain ⟨i069, hi069, _, hsz69, _⟩ := info_parts info5; obtain ⟨A69, hcut69, hA69, hC69⟩ := print_drop_of (P := Tryd.prog) (Value.int .u8) 0 22 5 .u64 Tryd.underlying22 hi069 hsz69 A0_0 c0_0 l0_0 (ji60) (of_decide_eq_true (by first | (with_reducible assumption) | assumption)) (of_decide_eq_true (by first | (with_reducible assumption) | assumption)) HC0_0.out; have HR182 := aM (Kd.C_of_reads (h1 := fun _ => rfl) (hA69 _ (Kd.reads_of_C HR0_0.out))); have HC182 := aM hC69; clear hA69 hC69 hi069 hsz69; obtain ⟨i070, hi070, _, hsz70, _⟩ := info_parts info5; obtain ⟨hcut70, hA70, hC70⟩ := print_take_of (P := Tryd.prog) (Value.int .u8) 0 22 5 .u64 Tryd.underlying22 hi070 hsz70 A69 (c0_0 - (ji60).toNat) (l0_0.drop ((ji60) : Int).toNat) t168 (of_decide_eq_true (by first | (with_reducible assumption) | assumption)) (of_decide_eq_true (by first | (with_reducible assumption) | assumption)) HC182.out
           have hq70 : (t168 ≤ ((c0_0 - (ji60 : Int).toNat : Nat) : Int)) := by
             have h_ : (t168 : Int) ≤ ((l0_0.drop ((ji60) : Int).toNat).length : Int) := of_decide_eq_true (by first | (with_reducible assumption) | assumption)
             have h2_ := HC182.out
             omega
           have HR183 := aM (Kd.C_of_reads (h1 := fun _ => rfl) (hA70 _ (Kd.reads_of_C HR182.out))); have HC183 := aM hC70; clear hA70 hC70 hi070 hsz70; refine hK.out _ _ ((blk_cell BK162.out 0).trans rfl) (fun hHeld => ?_); clear hK K; refine norm_ (a' := ?_) ?_ ?_; rotate_left
           ·show Act.put _ (some 79) _ = _
            simp only [Act.put, sA, sZ, sS, i64_w, i32_w]
            rfl
           refine pure_ (i := 6) (N := some 80) (v := ?_) (a' := ?_) #[true, true, true, true, true, true, true, false, true, false, false, false, false] rfl rfl (any_of HT_.out (by kernel_rfl)) (fun _ _ _ h => h) (Or.inl ⟨by rfl, ?_⟩) ?_ ?_; rotate_left
           ·intro w'
            go_simp
            with_reducible rfl
           rotate_left
           ·simp only [Act.put, sA, sZ, sS, i64_w, i32_w]
            rfl
           refine pure_ (i := 7) (N := some 81) (v := ?_) (a' := ?_) #[true, true, true, true, true, true, true, true, true, false, false, false, false] rfl rfl (any_of HT_.out (by kernel_rfl)) (fun _ _ _ h => h) (Or.inl ⟨by rfl, ?_⟩) ?_ ?_; rotate_left
           ·intro w'
            go_simp
            with_reducible rfl
           rotate_left
           ·simp only [Act.put, sA, sZ, sS, i64_w, i32_w]
            rfl
           refine pure_ (i := 9) (N := some 83) (v := ?_) (a' := ?_) #[true, true, true, true, true, true, true, true, true, true, false, false, false] rfl rfl (any_of HT_.out (by kernel_rfl)) (fun _ _ _ h => h) (Or.inl ⟨by rfl, ?_⟩) ?_ ?_; rotate_left
           ·intro w'
            go_simp
            with_reducible rfl
           rotate_left
           ·simp only [Act.put, sA, sZ, sS, i64_w, i32_w]
            rfl
           refine one_ (i := 10) (N := some 84) #[true, true, true, true, true, true, true, true, true, true, true, false, false] rfl rfl (one_of HT_.out (by kernel_rfl)) (by decide) (fun K hK => ?_); refine goes_ Tryd.func66 (by kernel_rfl) rfl #[.slice A69 ((l0_0.drop ((ji60) : Int).toNat).take (t168 : Int).toNat).length (c0_0 - (ji60).toNat)] (by rfl) rfl rfl (by (try simp only [List.map_toArray, List.map_cons, List.map_nil]); first | done | (rw [show ((l0_0.drop ((ji60) : Int).toNat).take (t168 : Int).toNat).length = t168.toNat from (by rw [List.length_take]; have h_ : (t168 : Int) ≤ ((l0_0.drop ((ji60) : Int).toNat).length : Int) := of_decide_eq_true (by first | (with_reducible assumption) | assumption); omega)] <;> rfl) | (simp only [hji60]; rfl) | rfl | (simp only [List.length_drop, List.length_take]; rfl)) ?_
           with_reducible refine (slices_Clone_byte_byte.calls _ _ ((l0_0.drop ((ji60) : Int).toNat).take (t168 : Int).toNat) t184 _ ?side1 ?side2 A65.out).mono ?_
           (case side1 => repeat (first | exact (Kd.C_below HR183.out (by repeat (first | (with_reducible first | exact HB.out | apply bA | apply bN | apply bD | refine below_set ?_ GE162.out | refine below_set ?_ GE163.out | refine below_set ?_ GE175.out) | exact HB.out))) | (with_reducible refine cA ?_ _) | (with_reducible refine cN ?_ _) | (with_reducible refine cD ?_)))
           (case side2 => exact HC183.out)
           rintro e w71 ⟨v185, rfl, ho0, hb⟩; refine ⟨_, rfl, ?_⟩; have n0_ := aM (Kd.R_lower ho0 (below_size (by repeat (first | (with_reducible first | exact HB.out | apply bA | apply bN | apply bD | refine below_set ?_ GE162.out | refine below_set ?_ GE163.out | refine below_set ?_ GE175.out) | exact HB.out)))); have n1_ := aM (blk_below (g := gb162) (o := .cells #[.slice A0_0 l0_0.length c0_0] 70 (0, 0)) (by (with_reducible repeat (first | refine kN ?_ _ | refine kD ?_ | refine kA ?_ _)); exact BK162.out) hb); have n2_ := aM (blk_below (g := gb163) (o := .cells #[.string x164000_27, .int .u32 x164001_27, .slice none 0 0] 58 (0, 0)) (by (with_reducible repeat (first | refine kN ?_ _ | refine kD ?_ | refine kA ?_ _)); exact BK163.out) hb); have n3_ := aM (blk_below (g := gb175) (o := .cells #[.string x176000_27, .int .u32 ((t174) % 4294967296), .slice none 0 0] 58 (0, 0)) (by (with_reducible repeat (first | refine kN ?_ _ | refine kD ?_ | refine kA ?_ _)); exact BK175.out) hb); have n4_ := aM (below_step (by repeat (first | (with_reducible first | exact HB.out | apply bA | apply bN | apply bD | refine below_set ?_ GE162.out | refine below_set ?_ GE163.out | refine below_set ?_ GE175.out) | exact HB.out)) hb); clear BK162; clear BK163; clear BK175; clear HB; have HO186 := n0_; have BK162 := n1_; have BK163 := n2_; have BK175 := n3_; have HB := n4_; clear n0_ n1_ n2_ n3_ n4_
           (try clear hb)
           (try clear hb2)
           (try clear hk)
           (try clear hi)
           (try clear ho0)
           obtain ⟨Ao72, co72, eo72⟩ := Kd.R_slice HO186.out
           (first | subst eo72 | (injection eo72 with f1_ f2_ f3_; have f4_ := f1_.symm; have f5_ := f3_.symm; clear f1_ f2_ f3_; subst f4_; subst f5_))
           refine hK.out _ _ ((blk_cell BK162.out 0).trans rfl) (fun hHeld => ?_); clear hK K; refine norm_ (a' := ?_) ?_ ?_; rotate_left
           ·show Act.put _ (some 84) _ = _
            simp only [Act.put, sA, sZ, sS, i64_w, i32_w]
            rfl
           refine pure_ (i := 11) (N := some 85) (v := ?_) (a' := ?_) #[true, true, true, true, true, true, true, true, true, true, true, true, false] rfl rfl (any_of HT_.out (by kernel_rfl)) (fun _ _ _ h => h) (Or.inl ⟨by rfl, ?_⟩) ?_ ?_; rotate_left
           ·intro w'
            go_simp
            with_reducible rfl
           rotate_left
           ·simp only [Act.put, sA, sZ, sS, i64_w, i32_w]
            rfl
           refine one_ (i := 12) (N := none) #[true, true, true, true, true, true, true, true, true, true, true, true, true] rfl rfl (one_of HT_.out (by kernel_rfl)) (by decide) (fun K hK => ?_); have hs73 : w71.cell? ⟨gb175, 2, none⟩ = some (.slice none 0 0) := (blk_cell BK175.out 2).trans rfl; have hfs73 := blk_frozen BK175.out 2; have hns73_0 := NB162_175.out; have hns73_1 := NB163_175.out; have hms73_0 := NB175_162.out; have hms73_1 := NB175_163.out; refine skip_ (w1 := ?_) (by rfl) rfl ?_ ?_; rotate_left
           ·go_simp
            rfl
           refine hK.out _ _ (((cell_far (p := ⟨gb175, _, none⟩) NB162_175.out _).trans (hHeld))) (fun hHeld => ?_); clear hK K; refine done_ (done_of HT_.out (by kernel_rfl)) ?_
           try go_wp2
           have n0_ : Aside0 (Kd.R (Kd.int .u8) 5 (w71.setCell ⟨gb175, 2, none⟩ (.slice Ao72 t184.length co72)) w.heap.size (fun _ => True) (.slice Ao72 t184.length co72) t184) := ⟨by (with_reducible repeat (first | apply rA | apply rN | apply rD)); exact Kd.R_mono (Kd.R_far (p := ⟨gb175, 2, none⟩) (Kd.R_types HO186.out BK175.out (by decide)) (fun _ hk => hk.2) (.slice Ao72 t184.length co72)) (fun _ hk => trivial)⟩; have n1_ : Aside0 ((w71.setCell ⟨gb175, 2, none⟩ (.slice Ao72 t184.length co72)).heap[gb162]? = some (.cells #[.slice A0_0 l0_0.length c0_0] 70 (0, 0))) := ⟨by (with_reducible repeat (first | refine kN ?_ _ | refine kD ?_ | refine kA ?_ _)); refine blk_far ?_ NB162_175.out _; (with_reducible repeat (first | refine kN ?_ _ | refine kD ?_ | refine kA ?_ _)); exact BK162.out⟩; have n2_ : Aside0 ((w71.setCell ⟨gb175, 2, none⟩ (.slice Ao72 t184.length co72)).heap[gb163]? = some (.cells #[.string x164000_27, .int .u32 x164001_27, .slice none 0 0] 58 (0, 0))) := ⟨by (with_reducible repeat (first | refine kN ?_ _ | refine kD ?_ | refine kA ?_ _)); refine blk_far ?_ NB163_175.out _; (with_reducible repeat (first | refine kN ?_ _ | refine kD ?_ | refine kA ?_ _)); exact BK163.out⟩; have n3_ : Aside0 ((w71.setCell ⟨gb175, 2, none⟩ (.slice Ao72 t184.length co72)).heap[gb175]? = some (.cells #[.string x176000_27, .int .u32 ((t174) % 4294967296), .slice Ao72 t184.length co72] 58 (0, 0))) := ⟨by (with_reducible repeat (first | refine kN ?_ _ | refine kD ?_ | refine kA ?_ _)); refine blk_put (cs := #[.string x176000_27, .int .u32 ((t174) % 4294967296), .slice none 0 0]) ?_ 2 _ rfl; (with_reducible repeat (first | refine kN ?_ _ | refine kD ?_ | refine kA ?_ _)); exact BK175.out⟩; have n4_ : Aside0 (Below w.heap.size w (w71.setCell ⟨gb175, 2, none⟩ (.slice Ao72 t184.length co72))) := ⟨by repeat (first | (with_reducible first | exact HB.out | apply bA | apply bN | apply bD | refine below_set ?_ GE162.out | refine below_set ?_ GE163.out | refine below_set ?_ GE175.out) | exact HB.out)⟩
           (try clear HO186)
           (try clear BK162)
           (try clear BK163)
           (try clear BK175)
           (try clear HB)
           generalize (w71.setCell ⟨gb175, 2, none⟩ (.slice Ao72 t184.length co72)) = w74 at n0_ n1_ n2_ n3_ n4_ ⊢; have HO186 := n0_; have BK162 := n1_; have BK163 := n2_; have BK175 := n3_; have HB := n4_; clear n0_ n1_ n2_ n3_ n4_; replace HO186 := aM (Kd.R_drew HO186.out); replace BK162 := aM (blk_drew BK162.out); replace BK163 := aM (blk_drew BK163.out); replace BK175 := aM (blk_drew BK175.out); replace HB := aM (below_drew1 HB.out); refine start_ (n := 10) (S := fun w' => w'.cell? ⟨gb175, 0, none⟩ = some (.string x176000_27) ∧ w'.cell? ⟨gb175, 1, none⟩ = some (.int .u32 ((t174) % 4294967296)) ∧ w'.cell? ⟨gb175, 2, none⟩ = some (.slice Ao72 t184.length co72)) (ds := []) #[false, false, false, false, false, false, false, false, false, false] (by kernel_rfl) rfl rfl ⟨(blk_cell BK175.out 0).trans rfl, (blk_cell BK175.out 1).trans rfl, (blk_cell BK175.out 2).trans rfl⟩ (fun hHeld => ?_); refine with_tabW head_file_note.tab13 head_file_note.bits13 (fun HT_ HW_ => ?_); generalize w74.drew = w75 at HO186 BK162 BK163 BK175 HB hHeld ⊢; refine pure_ (i := 1) (N := some 87) (v := ?_) (a' := ?_) #[false, true, false, false, false, false, false, false, false, false] rfl rfl (any_of HT_.out (by kernel_rfl)) (fun _ _ _ h => h) (Or.inl ⟨by rfl, ?_⟩) ?_ ?_; rotate_left
           ·intro w'
            go_simp
            with_reducible rfl
           rotate_left
           ·simp only [Act.put, sA, sZ, sS, i64_w, i32_w]
            rfl
           refine pure_ (i := 4) (N := some 90) (v := ?_) (a' := ?_) #[false, true, false, false, true, false, false, false, false, false] rfl rfl (any_of HT_.out (by kernel_rfl)) (fun _ _ _ h => h) (Or.inl ⟨by rfl, ?_⟩) ?_ ?_; rotate_left
           ·intro w'
            go_simp
            with_reducible rfl
           rotate_left
           ·simp only [Act.put, sA, sZ, sS, i64_w, i32_w]
            rfl
           refine take_ (i := 0) (N := some 86) (v := ?_) (a' := ?_) #[true, true, false, false, true, false, false, false, false, false] rfl rfl (take_ofW HT_.out HW_.out (by kernel_rfl)) (fun _ _ _ h => h) (Or.inl ⟨by rfl, ?_⟩) hHeld ?_ ?_; rotate_left
           ·rintro w' ⟨s0, s1, s2⟩
            go_simp
            with_reducible rfl
           rotate_left
           ·simp only [Act.put, sA, sZ, sS, i64_w, i32_w]
            rfl
           refine one_ (i := 2) (N := some 88) #[true, true, true, false, true, false, false, false, false, false] rfl rfl (one_of HT_.out (by kernel_rfl)) (by decide) (fun K hK => ?_); refine goes_ Tryd.func65 (by kernel_rfl) rfl #[.int .u64 t167] (by rfl) rfl rfl (by (try simp only [List.map_toArray, List.map_cons, List.map_nil]); first | done | rfl | (simp only [List.length_drop, List.length_take]; rfl)) ?_
           with_reducible refine (head_four.calls t167 t187 _ A66.out).mono ?_
           rintro e w' ⟨rfl, ⟨nd, rfl⟩⟩; refine ⟨_, rfl, ?_⟩; refine hK.out _ _ ⟨(blk_cell BK175.out 0).trans rfl, (blk_cell BK175.out 1).trans rfl, (blk_cell BK175.out 2).trans rfl⟩ (fun hHeld => ?_); clear hK K; refine norm_ (a' := ?_) ?_ ?_; rotate_left
           ·show Act.put _ (some 88) _ = _
            simp only [Act.put, sA, sZ, sS, i64_w, i32_w]
            rfl
           refine pure_ (i := 3) (N := some 89) (v := ?_) (a' := ?_) #[true, true, true, true, true, false, false, false, false, false] rfl rfl (any_of HT_.out (by kernel_rfl)) (fun _ _ _ h => h) (Or.inl ⟨by rfl, ?_⟩) ?_ ?_; rotate_left
           ·intro w'
            go_simp
            with_reducible rfl
           rotate_left
           ·simp only [Act.put, sA, sZ, sS, i64_w, i32_w]
            rfl
           refine one_ (i := 5) (N := some 91) #[true, true, true, true, true, true, false, false, false, false] rfl rfl (one_of HT_.out (by kernel_rfl)) (by decide) (fun K hK => ?_); refine goes_ Tryd.func65 (by kernel_rfl) rfl #[.int .u64 t168] (by rfl) rfl rfl (by (try simp only [List.map_toArray, List.map_cons, List.map_nil]); first | done | rfl | (simp only [List.length_drop, List.length_take]; rfl)) ?_
           with_reducible refine (head_four.calls t168 t188 _ A67.out).mono ?_
           rintro e w' ⟨rfl, ⟨nd, rfl⟩⟩; refine ⟨_, rfl, ?_⟩; refine hK.out _ _ ⟨(blk_cell BK175.out 0).trans rfl, (blk_cell BK175.out 1).trans rfl, (blk_cell BK175.out 2).trans rfl⟩ (fun hHeld => ?_); clear hK K; refine norm_ (a' := ?_) ?_ ?_; rotate_left
           ·show Act.put _ (some 91) _ = _
            simp only [Act.put, sA, sZ, sS, i64_w, i32_w]
            rfl
           refine pure_ (i := 6) (N := some 92) (v := ?_) (a' := ?_) #[true, true, true, true, true, true, true, false, false, false] rfl rfl (any_of HT_.out (by kernel_rfl)) (fun _ _ _ h => h) (Or.inl ⟨by rfl, ?_⟩) ?_ ?_; rotate_left
           ·intro w'
            go_simp
            with_reducible rfl
           rotate_left
           ·simp only [Act.put, sA, sZ, sS, i64_w, i32_w]
            rfl
           refine one_ (i := 7) (N := none) #[true, true, true, true, true, true, true, true, false, false] rfl rfl (one_of HT_.out (by kernel_rfl)) (by decide) (fun K hK => ?_); have hs76 : w75.cell? ⟨gb163, 0, none⟩ = some (.string x164000_27) := (blk_cell BK163.out 0).trans rfl; have hfs76 := blk_frozen BK163.out 0; have hns76_0 := NB162_163.out; have hns76_2 := NB175_163.out; have hms76_0 := NB163_162.out; have hms76_2 := NB163_175.out; have hs77 : w75.cell? ⟨gb163, 1, none⟩ = some (.int .u32 x164001_27) := (blk_cell BK163.out 1).trans rfl; have hfs77 := blk_frozen BK163.out 1; have hns77_0 := NB162_163.out; have hns77_2 := NB175_163.out; have hms77_0 := NB163_162.out; have hms77_2 := NB163_175.out; have hs78 : w75.cell? ⟨gb163, 2, none⟩ = some (.slice none 0 0) := (blk_cell BK163.out 2).trans rfl; have hfs78 := blk_frozen BK163.out 2; have hns78_0 := NB162_163.out; have hns78_2 := NB175_163.out; have hms78_0 := NB163_162.out; have hms78_2 := NB163_175.out; refine skip_ (w1 := ?_) (by rfl) rfl ?_ ?_; rotate_left
           ·go_simp
            rfl
           refine hK.out _ _ ⟨((cell_far (p := ⟨gb163, _, none⟩) NB175_163.out _).trans (((cell_far (p := ⟨gb163, _, none⟩) NB175_163.out _).trans (((cell_far (p := ⟨gb163, _, none⟩) NB175_163.out _).trans (hHeld.1)))))), ((cell_far (p := ⟨gb163, _, none⟩) NB175_163.out _).trans (((cell_far (p := ⟨gb163, _, none⟩) NB175_163.out _).trans (((cell_far (p := ⟨gb163, _, none⟩) NB175_163.out _).trans (hHeld.2.1)))))), ((cell_far (p := ⟨gb163, _, none⟩) NB175_163.out _).trans (((cell_far (p := ⟨gb163, _, none⟩) NB175_163.out _).trans (((cell_far (p := ⟨gb163, _, none⟩) NB175_163.out _).trans (hHeld.2.2))))))⟩ (fun hHeld => ?_); clear hK K; refine pure_ (i := 8) (N := some 7) (v := ?_) (a' := ?_) #[true, true, true, true, true, true, true, true, true, false] rfl rfl (any_of HT_.out (by kernel_rfl)) (fun _ _ _ h => h) (Or.inl ⟨by rfl, ?_⟩) ?_ ?_; rotate_left
           ·intro w'
            go_simp
            with_reducible rfl
           rotate_left
           ·simp only [Act.put, sA, sZ, sS, i64_w, i32_w]
            rfl
           refine pure_ (i := 9) (N := some 8) (v := ?_) (a' := ?_) #[true, true, true, true, true, true, true, true, true, true] rfl rfl (any_of HT_.out (by kernel_rfl)) (fun _ _ _ h => h) (Or.inl ⟨by rfl, ?_⟩) ?_ ?_; rotate_left
           ·intro w'
            go_simp
            with_reducible rfl
           rotate_left
           ·simp only [Act.put, sA, sZ, sS, i64_w, i32_w]
            rfl
           refine done_ (done_of HT_.out (by kernel_rfl)) ?_
           try go_wp2
           refine bodyPost_ret (results_ctt rfl _ _ gb163 58 #[.string x176000_27, .int .u32 ((t174) % 4294967296), .slice Ao72 t184.length co72] (0, 0) _ rfl (by (with_reducible repeat (first | refine kN ?_ _ | refine kD ?_ | refine kA ?_ _)); refine blk_put (cs := #[.string x176000_27, .int .u32 ((t174) % 4294967296), .slice none 0 0]) ?_ 2 _ rfl; (with_reducible repeat (first | refine kN ?_ _ | refine kD ?_ | refine kA ?_ _)); refine blk_put (cs := #[.string x176000_27, .int .u32 x164001_27, .slice none 0 0]) ?_ 1 _ rfl; (with_reducible repeat (first | refine kN ?_ _ | refine kD ?_ | refine kA ?_ _)); refine blk_put (cs := #[.string x164000_27, .int .u32 x164001_27, .slice none 0 0]) ?_ 0 _ rfl; (with_reducible repeat (first | refine kN ?_ _ | refine kD ?_ | refine kA ?_ _)); exact BK163.out) Tryd.underlying58 rfl (by kernel_rfl)) rfl ?_; exact ⟨_, .nilIface, by first | rfl | (simp [errW_none, errW_some] <;> rfl) | (simp only [← hji60]; first | rfl | (simp [errW_none, errW_some] <;> rfl)) | (simp [*, errW_none, errW_some] <;> rfl), ErrAt.of_none, by (with_reducible repeat (first | apply rA | apply rN | apply rD)); exact Kd.R_mono (Kd.R_far (p := ⟨gb163, 2, none⟩) (Kd.R_far (p := ⟨gb163, 1, none⟩) (Kd.R_far (p := ⟨gb163, 0, none⟩) (Kd.R_types HO186.out BK163.out (by decide)) (fun _ hk => hk.2) (.string x176000_27)) (fun _ hk => hk.2) (.int .u32 ((t174) % 4294967296))) (fun _ hk => hk.2) (.slice Ao72 t184.length co72)) (fun _ hk => trivial), by repeat (first | (with_reducible first | exact HB.out | apply bA | apply bN | apply bD | refine below_set ?_ GE162.out | refine below_set ?_ GE163.out | refine below_set ?_ GE175.out) | exact HB.out)⟩
          ·rw [if_neg c64] at H; exact absurd H (by simp)
         ·rw [if_neg c63] at H; exact absurd H (by simp)
        ·rw [if_neg c62] at H; exact absurd H (by simp)
       ·rw [if_neg c61] at H; exact absurd H (by simp)

end Go.Proofs.YtjohdgejjnbddaaDoor.PHeadNotes
