/- Printed by this session's own program (wip/tools: a turn of the kit's print) out of the translation: each Go function that the law reaches as a Lean function, and that the machine's call comes to what that function tells; no condition but what each theorem names. -/
import Derived.Test.YtjohdgejjnbddaaDoorPHeadNotesx0
import Derived.Test.YtjohdgejjnbddaaDoorPHeadNotesx9
namespace Go.Proofs.YtjohdgejjnbddaaDoor.PHeadNotes
open Go.RowKit Go.Proofs.YtjohdgejjnbddaaDoorW.PrintWords Go.Proofs.YtjohdgejjnbddaaDoorW.PrintLast Go.Proofs.YtjohdgejjnbddaaDoorW.PrintMore Go.Proofs.YtjohdgejjnbddaaDoorX
attribute [local go_sem] max2_int min2_int max_two min_two max_three min_three max_four min_four   -- for this text's walks alone
set_option linter.unusedVariables false
set_option linter.unusedSimpArgs false

/-! ### shackleref04_Notes: function 18 -/
mutual
def shackleref04_Notes.l0 : Nat → List Int → List (S58) → Int → Int → Int → List (S50) → Option ((List (S58)) × Int × Bool × Int)
 | 0, _, _, _, _, _, _ => none
 | k + 1, x0, x6, x7, x226000, x226001, x226002 => if x7 < (x226002.length : Int) then (if 0 ≤ x7 then (if ((rd_T50 x226002 x7).f0) = 4 then ((shackleref01_In.f (IntKind.u64.wrap ((x0.length : Int))) ((rd_T50 x226002 x7).f2) ((rd_T50 x226002 x7).f4)).bind fun t229 => (if t229 = true then (shackleref04_Notes.l1 k x0 x6 x7 (IntKind.u64.wrap (((rd_T50 x226002 x7).f2) + ((rd_T50 x226002 x7).f4))) ((rd_T50 x226002 x7).f2) x226000 x226001 x226002) else ((shackleref04_at.f 4 ((rd_T50 x226002 x7).f2)).bind fun bt230 => (some (([] : List (S58)), bt230.1, bt230.2.1, bt230.2.2))))) else (shackleref04_Notes.l0 k x0 x6 (wrap64 (x7 + 1)) x226000 x226001 x226002)) else (none)) else (some (x6, 0, false, 0))
def shackleref04_Notes.l1 : Nat → List Int → List (S58) → Int → Int → Int → Int → Int → List (S50) → Option ((List (S58)) × Int × Bool × Int)
 | 0, _, _, _, _, _, _, _, _ => none
 | k + 1, x0, x6, x7, x10, x11, x226000, x226001, x226002 => if x11 < x10 then (if (IntKind.u64.wrap (x10 - x11)) < 12 then ((shackleref04_at.f 4 x11).bind fun bt233 => (some (([] : List (S58)), bt233.1, bt233.2.1, bt233.2.2))) else ((shackleref04_num.f k x0 x11 4).bind fun t236 => ((shackleref04_num.f k x0 (IntKind.u64.wrap (x11 + 4)) 4).bind fun t237 => ((shackleref04_four.f t236).bind fun t238 => (if t238 > (IntKind.u64.wrap ((IntKind.u64.wrap (x10 - x11)) - 12)) then (shackleref04_Notes.j2 k x0 x6 x7 x10 x11 t236 t237 true x226000 x226001 x226002) else ((shackleref04_four.f t236).bind fun t239 => (shackleref04_Notes.j2 k x0 x6 x7 x10 x11 t236 t237 (decide (t237 > (IntKind.u64.wrap ((IntKind.u64.wrap ((IntKind.u64.wrap (x10 - x11)) - 12)) - t239)))) x226000 x226001 x226002))))))) else (shackleref04_Notes.l0 k x0 x6 (wrap64 (x7 + 1)) x226000 x226001 x226002)
def shackleref04_Notes.j2 : Nat → List Int → List (S58) → Int → Int → Int → Int → Int → Bool → Int → Int → List (S50) → Option ((List (S58)) × Int × Bool × Int)
 | 0, _, _, _, _, _, _, _, _, _, _, _ => none
 | k + 1, x0, x6, x7, x10, x11, x12, x13, x84, x226000, x226001, x226002 => if x84 = true then ((shackleref04_at.f 4 x11).bind fun bt240 => (some (([] : List (S58)), bt240.1, bt240.2.1, bt240.2.2))) else (if 0 ≤ (IntKind.u64.wrap (x11 + 12)) then (if (IntKind.u64.wrap (x11 + 12)) ≤ (IntKind.u64.wrap ((IntKind.u64.wrap (x11 + 12)) + x12)) then (if (IntKind.u64.wrap ((IntKind.u64.wrap (x11 + 12)) + x12)) ≤ (x0.length : Int) then (if x12 > 0 then (if 0 ≤ (IntKind.u64.wrap (x12 - 1)) then (if (IntKind.u64.wrap (x12 - 1)) < (((x0.take ((IntKind.u64.wrap ((IntKind.u64.wrap (x11 + 12)) + x12)) : Int).toNat).drop ((IntKind.u64.wrap (x11 + 12)) : Int).toNat).length : Int) then (shackleref04_Notes.j3 k x0 x6 x7 x10 x11 x12 x13 ((x0.take ((IntKind.u64.wrap ((IntKind.u64.wrap (x11 + 12)) + x12)) : Int).toNat).drop ((IntKind.u64.wrap (x11 + 12)) : Int).toNat) ((rd ((x0.take ((IntKind.u64.wrap ((IntKind.u64.wrap (x11 + 12)) + x12)) : Int).toNat).drop ((IntKind.u64.wrap (x11 + 12)) : Int).toNat) (IntKind.u64.wrap (x12 - 1))) != 0) x226000 x226001 x226002) else (none)) else (none)) else (shackleref04_Notes.j3 k x0 x6 x7 x10 x11 x12 x13 ((x0.take ((IntKind.u64.wrap ((IntKind.u64.wrap (x11 + 12)) + x12)) : Int).toNat).drop ((IntKind.u64.wrap (x11 + 12)) : Int).toNat) false x226000 x226001 x226002)) else (none)) else (none)) else (none))
def shackleref04_Notes.j3 : Nat → List Int → List (S58) → Int → Int → Int → Int → Int → List Int → Bool → Int → Int → List (S50) → Option ((List (S58)) × Int × Bool × Int)
 | 0, _, _, _, _, _, _, _, _, _, _, _, _ => none
 | k + 1, x0, x6, x7, x10, x11, x12, x13, x14, x104, x226000, x226001, x226002 => if x104 = true then ((shackleref04_at.f 29 x11).bind fun bt245 => (some (([] : List (S58)), bt245.1, bt245.2.1, bt245.2.2))) else ((shackleref04_num.f k x0 (IntKind.u64.wrap (x11 + 8)) 4).bind fun t248 => (if x12 > 0 then (if 0 ≤ (IntKind.u64.wrap (x12 - 1)) then (if (IntKind.u64.wrap (x12 - 1)) ≤ (x14.length : Int) then (shackleref04_Notes.j4 k x0 x6 x7 x10 x11 x12 x13 x226000 x226001 x226002 (strOfNums (x14.take ((IntKind.u64.wrap (x12 - 1)) : Int).toNat)) ((t248) % 4294967296)) else (none)) else (none)) else (shackleref04_Notes.j4 k x0 x6 x7 x10 x11 x12 x13 x226000 x226001 x226002 (⟨#[]⟩ : ByteArray) ((t248) % 4294967296))))
def shackleref04_Notes.j4 : Nat → List Int → List (S58) → Int → Int → Int → Int → Int → Int → Int → List (S50) → ByteArray → Int → Option ((List (S58)) × Int × Bool × Int)
 | 0, _, _, _, _, _, _, _, _, _, _, _, _ => none
 | k + 1, x0, x6, x7, x10, x11, x12, x13, x226000, x226001, x226002, x250000, x250001 => (shackleref04_four.f x12).bind fun t251 => ((shackleref01_Cut.f k x0 (IntKind.u64.wrap ((IntKind.u64.wrap (x11 + 12)) + t251)) x13).bind fun bt252 => (if x6.length < 2932031007402 then ((shackleref04_four.f x12).bind fun t259 => ((shackleref04_four.f x13).bind fun t260 => (shackleref04_Notes.l1 k x0 (x6 ++ [(⟨x250000, x250001, bt252.1⟩ : S58)]) x7 x10 (IntKind.u64.wrap ((IntKind.u64.wrap ((IntKind.u64.wrap (x11 + 12)) + t259)) + t260)) x226000 x226001 x226002))) else (none)))
end
def shackleref04_Notes.f (k : Nat) (l0 : List Int) (a1_0 : Int) (a1_1 : Int) (l1_2 : List (S50)) : Option ((List (S58)) × Int × Bool × Int) := shackleref04_Notes.l0 k l0 ([] : List (S58)) 0 a1_0 a1_1 l1_2
theorem shackleref04_Notes.mono_l : ∀ k, (∀ y0 y1 y2 y3 y4 y5, LeO (shackleref04_Notes.l0 k y0 y1 y2 y3 y4 y5) (shackleref04_Notes.l0 (k + 1) y0 y1 y2 y3 y4 y5)) ∧ (∀ y0 y1 y2 y3 y4 y5 y6 y7, LeO (shackleref04_Notes.l1 k y0 y1 y2 y3 y4 y5 y6 y7) (shackleref04_Notes.l1 (k + 1) y0 y1 y2 y3 y4 y5 y6 y7)) ∧ (∀ y0 y1 y2 y3 y4 y5 y6 y7 y8 y9 y10, LeO (shackleref04_Notes.j2 k y0 y1 y2 y3 y4 y5 y6 y7 y8 y9 y10) (shackleref04_Notes.j2 (k + 1) y0 y1 y2 y3 y4 y5 y6 y7 y8 y9 y10)) ∧ (∀ y0 y1 y2 y3 y4 y5 y6 y7 y8 y9 y10 y11, LeO (shackleref04_Notes.j3 k y0 y1 y2 y3 y4 y5 y6 y7 y8 y9 y10 y11) (shackleref04_Notes.j3 (k + 1) y0 y1 y2 y3 y4 y5 y6 y7 y8 y9 y10 y11)) ∧ (∀ y0 y1 y2 y3 y4 y5 y6 y7 y8 y9 y10 y11, LeO (shackleref04_Notes.j4 k y0 y1 y2 y3 y4 y5 y6 y7 y8 y9 y10 y11) (shackleref04_Notes.j4 (k + 1) y0 y1 y2 y3 y4 y5 y6 y7 y8 y9 y10 y11))
 | 0 => ⟨fun _ _ _ _ _ _ r h => by simp [shackleref04_Notes.l0] at h, fun _ _ _ _ _ _ _ _ r h => by simp [shackleref04_Notes.l1] at h, fun _ _ _ _ _ _ _ _ _ _ _ r h => by simp [shackleref04_Notes.j2] at h, fun _ _ _ _ _ _ _ _ _ _ _ _ r h => by simp [shackleref04_Notes.j3] at h, fun _ _ _ _ _ _ _ _ _ _ _ _ r h => by simp [shackleref04_Notes.j4] at h⟩
 | k + 1 => by
  obtain ⟨ih0, ih1, ih2, ih3, ih4⟩ := shackleref04_Notes.mono_l k; refine ⟨?_, ?_, ?_, ?_, ?_⟩
  ·intro y0 y1 y2 y3 y4 y5
   unfold shackleref04_Notes.l0
   repeat' first
   | (with_reducible exact ih0 _ _ _ _ _ _)
   | (with_reducible exact ih1 _ _ _ _ _ _ _ _)
   | (with_reducible exact ih2 _ _ _ _ _ _ _ _ _ _ _)
   | (with_reducible exact ih3 _ _ _ _ _ _ _ _ _ _ _ _)
   | (with_reducible exact ih4 _ _ _ _ _ _ _ _ _ _ _ _)
   | (with_reducible exact shackleref01_Cut.mono _ _ _ _)
   | (with_reducible exact shackleref04_num.mono _ _ _ _)
   | (with_reducible exact LeO.refl _)
   | (with_reducible exact LeO.none _)
   | (with_reducible refine LeO.ite ?_ ?_)
   | (with_reducible refine LeO.bind ?_ (fun _ => ?_))
   | exact ih0 _ _ _ _ _ _
   | exact ih1 _ _ _ _ _ _ _ _
   | exact ih2 _ _ _ _ _ _ _ _ _ _ _
   | exact ih3 _ _ _ _ _ _ _ _ _ _ _ _
   | exact ih4 _ _ _ _ _ _ _ _ _ _ _ _
   | exact shackleref01_Cut.mono _ _ _ _
   | exact shackleref04_num.mono _ _ _ _
   | exact LeO.none _
   | refine LeO.ite ?_ ?_
   | refine LeO.bind ?_ (fun _ => ?_)
  ·intro y0 y1 y2 y3 y4 y5 y6 y7
   unfold shackleref04_Notes.l1
   repeat' first
   | (with_reducible exact ih0 _ _ _ _ _ _)
   | (with_reducible exact ih1 _ _ _ _ _ _ _ _)
   | (with_reducible exact ih2 _ _ _ _ _ _ _ _ _ _ _)
   | (with_reducible exact ih3 _ _ _ _ _ _ _ _ _ _ _ _)
   | (with_reducible exact ih4 _ _ _ _ _ _ _ _ _ _ _ _)
   | (with_reducible exact shackleref01_Cut.mono _ _ _ _)
   | (with_reducible exact shackleref04_num.mono _ _ _ _)
   | (with_reducible exact LeO.refl _)
   | (with_reducible exact LeO.none _)
   | (with_reducible refine LeO.ite ?_ ?_)
   | (with_reducible refine LeO.bind ?_ (fun _ => ?_))
   | exact ih0 _ _ _ _ _ _
   | exact ih1 _ _ _ _ _ _ _ _
   | exact ih2 _ _ _ _ _ _ _ _ _ _ _
   | exact ih3 _ _ _ _ _ _ _ _ _ _ _ _
   | exact ih4 _ _ _ _ _ _ _ _ _ _ _ _
   | exact shackleref01_Cut.mono _ _ _ _
   | exact shackleref04_num.mono _ _ _ _
   | exact LeO.none _
   | refine LeO.ite ?_ ?_
   | refine LeO.bind ?_ (fun _ => ?_)
  ·intro y0 y1 y2 y3 y4 y5 y6 y7 y8 y9 y10
   unfold shackleref04_Notes.j2
   repeat' first
   | (with_reducible exact ih0 _ _ _ _ _ _)
   | (with_reducible exact ih1 _ _ _ _ _ _ _ _)
   | (with_reducible exact ih2 _ _ _ _ _ _ _ _ _ _ _)
   | (with_reducible exact ih3 _ _ _ _ _ _ _ _ _ _ _ _)
   | (with_reducible exact ih4 _ _ _ _ _ _ _ _ _ _ _ _)
   | (with_reducible exact shackleref01_Cut.mono _ _ _ _)
   | (with_reducible exact shackleref04_num.mono _ _ _ _)
   | (with_reducible exact LeO.refl _)
   | (with_reducible exact LeO.none _)
   | (with_reducible refine LeO.ite ?_ ?_)
   | (with_reducible refine LeO.bind ?_ (fun _ => ?_))
   | exact ih0 _ _ _ _ _ _
   | exact ih1 _ _ _ _ _ _ _ _
   | exact ih2 _ _ _ _ _ _ _ _ _ _ _
   | exact ih3 _ _ _ _ _ _ _ _ _ _ _ _
   | exact ih4 _ _ _ _ _ _ _ _ _ _ _ _
   | exact shackleref01_Cut.mono _ _ _ _
   | exact shackleref04_num.mono _ _ _ _
   | exact LeO.none _
   | refine LeO.ite ?_ ?_
   | refine LeO.bind ?_ (fun _ => ?_)
  ·intro y0 y1 y2 y3 y4 y5 y6 y7 y8 y9 y10 y11
   unfold shackleref04_Notes.j3
   repeat' first
   | (with_reducible exact ih0 _ _ _ _ _ _)
   | (with_reducible exact ih1 _ _ _ _ _ _ _ _)
   | (with_reducible exact ih2 _ _ _ _ _ _ _ _ _ _ _)
   | (with_reducible exact ih3 _ _ _ _ _ _ _ _ _ _ _ _)
   | (with_reducible exact ih4 _ _ _ _ _ _ _ _ _ _ _ _)
   | (with_reducible exact shackleref01_Cut.mono _ _ _ _)
   | (with_reducible exact shackleref04_num.mono _ _ _ _)
   | (with_reducible exact LeO.refl _)
   | (with_reducible exact LeO.none _)
   | (with_reducible refine LeO.ite ?_ ?_)
   | (with_reducible refine LeO.bind ?_ (fun _ => ?_))
   | exact ih0 _ _ _ _ _ _
   | exact ih1 _ _ _ _ _ _ _ _
   | exact ih2 _ _ _ _ _ _ _ _ _ _ _
   | exact ih3 _ _ _ _ _ _ _ _ _ _ _ _
   | exact ih4 _ _ _ _ _ _ _ _ _ _ _ _
   | exact shackleref01_Cut.mono _ _ _ _
   | exact shackleref04_num.mono _ _ _ _
   | exact LeO.none _
   | refine LeO.ite ?_ ?_
   | refine LeO.bind ?_ (fun _ => ?_)
  ·intro y0 y1 y2 y3 y4 y5 y6 y7 y8 y9 y10 y11
   unfold shackleref04_Notes.j4
   repeat' first
   | (with_reducible exact ih0 _ _ _ _ _ _)
   | (with_reducible exact ih1 _ _ _ _ _ _ _ _)
   | (with_reducible exact ih2 _ _ _ _ _ _ _ _ _ _ _)
   | (with_reducible exact ih3 _ _ _ _ _ _ _ _ _ _ _ _)
   | (with_reducible exact ih4 _ _ _ _ _ _ _ _ _ _ _ _)
   | (with_reducible exact shackleref01_Cut.mono _ _ _ _)
   | (with_reducible exact shackleref04_num.mono _ _ _ _)
   | (with_reducible exact LeO.refl _)
   | (with_reducible exact LeO.none _)
   | (with_reducible refine LeO.ite ?_ ?_)
   | (with_reducible refine LeO.bind ?_ (fun _ => ?_))
   | exact ih0 _ _ _ _ _ _
   | exact ih1 _ _ _ _ _ _ _ _
   | exact ih2 _ _ _ _ _ _ _ _ _ _ _
   | exact ih3 _ _ _ _ _ _ _ _ _ _ _ _
   | exact ih4 _ _ _ _ _ _ _ _ _ _ _ _
   | exact shackleref01_Cut.mono _ _ _ _
   | exact shackleref04_num.mono _ _ _ _
   | exact LeO.none _
   | refine LeO.ite ?_ ?_
   | refine LeO.bind ?_ (fun _ => ?_)
theorem shackleref04_Notes.mono : ∀ a0 a1 a2 a3 k, LeO (shackleref04_Notes.f k a0 a1 a2 a3) (shackleref04_Notes.f (k + 1) a0 a1 a2 a3) := by
 intro a0 a1 a2 a3 k; obtain ⟨ih0, ih1, ih2, ih3, ih4⟩ := shackleref04_Notes.mono_l k
 unfold shackleref04_Notes.f
 repeat' first
   | (with_reducible exact ih0 _ _ _ _ _ _)
   | (with_reducible exact ih1 _ _ _ _ _ _ _ _)
   | (with_reducible exact ih2 _ _ _ _ _ _ _ _ _ _ _)
   | (with_reducible exact ih3 _ _ _ _ _ _ _ _ _ _ _ _)
   | (with_reducible exact ih4 _ _ _ _ _ _ _ _ _ _ _ _)
   | (with_reducible exact shackleref01_Cut.mono _ _ _ _)
   | (with_reducible exact shackleref04_num.mono _ _ _ _)
   | (with_reducible exact LeO.refl _)
   | (with_reducible exact LeO.none _)
   | (with_reducible refine LeO.ite ?_ ?_)
   | (with_reducible refine LeO.bind ?_ (fun _ => ?_))
   | exact ih0 _ _ _ _ _ _
   | exact ih1 _ _ _ _ _ _ _ _
   | exact ih2 _ _ _ _ _ _ _ _ _ _ _
   | exact ih3 _ _ _ _ _ _ _ _ _ _ _ _
   | exact ih4 _ _ _ _ _ _ _ _ _ _ _ _
   | exact shackleref01_Cut.mono _ _ _ _
   | exact shackleref04_num.mono _ _ _ _
   | exact LeO.none _
   | refine LeO.ite ?_ ?_
   | refine LeO.bind ?_ (fun _ => ?_)
set_option maxHeartbeats 8000000 in
set_option maxRecDepth 100000 in
theorem shackleref04_Notes.calls (k : Nat) (A0 : Option Addr) (c0 : Nat) (l0 : List Int) (a1_0 : Int) (a1_1 : Int) (A1_2 : Option Addr) (c1_2 : Nat) (l1_2 : List (S50)) (r1 : List (S58)) (r2 : Int) (r3 : Bool) (r4 : Int) (w : World) (hr0 : Kd.C (Kd.int .u8) w A0 l0.length l0) (hc0 : l0.length ≤ c0) (hr1_2 : Kd.C k50 w A1_2 l1_2.length l1_2) (hc1_2 : l1_2.length ≤ c1_2) (h : shackleref04_Notes.f k l0 a1_0 a1_1 l1_2 = some (r1, r2, r3, r4)) :
  Calls Tryd.prog 18 #[.slice A0 l0.length c0, .agg #[.int .i64 a1_0, .int .u64 a1_1, .slice A1_2 l1_2.length c1_2]] w fun e w' => ∃ v0_ : Value, e = .returned (.tuple #[v0_, .agg #[.int .i64 r2, .bool r3, .int .u64 r4]]) ∧ Kd.S k58 58 w' w.heap.size (fun _ => True) v0_ r1 ∧ Below w.heap.size w w' := by
 have hu27 := Tryd.underlying27; have hu34 := Tryd.underlying34; have hu50 := Tryd.underlying50; have hu58 := Tryd.underlying58; have HR0 := aM hr0; have HC0 := aM hc0; clear hr0 hc0; have HR1_2 := aM hr1_2; have HC1_2 := aM hc1_2; clear hr1_2 hc1_2; have HB := aM (Below.refl w.heap.size w); have H : (shackleref04_Notes.l0 k l0 ([] : List (S58)) 0 a1_0 a1_1 l1_2) = some (r1, r2, r3, r4) := h; clear h; have H' := aM H; clear H
 go_enter Tryd.func18, Tryd.ntmps18
 go_wp2_with (first | ((with_reducible refine gate_dst (N := 3) rfl ?_); refine box_event ?hg (N := 3) ?hd (cs := #[.int .i64 a1_0, .int .u64 a1_1, .slice A1_2 l1_2.length c1_2]) (t := 27) ?hr ?_; (case hd => rfl); (case hg => rfl); (case hr => first | (go_simp; done) | (go_simp; rfl)); intro gb225 hg w3 hbox hb; have BK225 := aM (hbox); have GW225 := aM ((by rw [hg]; exact (below_size (by repeat (first | (with_reducible first | exact HB.out | apply bA | apply bN | apply bD) | exact HB.out))) : w.heap.size ≤ gb225)); have GE225 := aM ((by rw [hg]; exact (below_size (by repeat (first | (with_reducible first | exact HB.out | apply bA | apply bN | apply bD) | exact HB.out))) : w.heap.size ≤ gb225)); replace HB := aM (below_step (by repeat (first | (with_reducible first | exact HB.out | apply bA | apply bN | apply bD) | exact HB.out)) hb); clear hb hbox hg) | ((with_reducible refine gate_dst (N := 5) rfl ?_); refine box_event ?hg (N := 5) ?hd (cs := #[.int .i64 0, .bool false, .int .u64 0]) (t := 34) ?hr ?_; (case hd => rfl); (case hg => rfl); (case hr => first | (go_simp; done) | (go_simp; rfl)); intro gb226 hg w4 hbox hb; have BK226 := aM (hbox); have GW226 := aM ((by rw [hg]; exact (below_size (by repeat (first | (with_reducible first | exact HB.out | apply bA | apply bN | apply bD | refine below_set ?_ GE225.out) | exact HB.out))) : w.heap.size ≤ gb226)); have GE226 := aM ((by rw [hg]; exact (below_size (by repeat (first | (with_reducible first | exact HB.out | apply bA | apply bN | apply bD | refine below_set ?_ GE225.out) | exact HB.out))) : w.heap.size ≤ gb226)); replace HB := aM (below_step (by repeat (first | (with_reducible first | exact HB.out | apply bA | apply bN | apply bD | refine below_set ?_ GE225.out) | exact HB.out)) hb); have NB225_226 := aM ((by rw [hg]; exact Nat.ne_of_lt (blk_lt (by (with_reducible repeat (first | refine kN ?_ _ | refine kD ?_ | refine kA ?_ _)); exact BK225.out)) : gb225 ≠ gb226)); have NB226_225 := aM ((by rw [hg]; exact Nat.ne_of_gt (blk_lt (by (with_reducible repeat (first | refine kN ?_ _ | refine kD ?_ | refine kA ?_ _)); exact BK225.out)) : gb226 ≠ gb225)); replace BK225 := aM (blk_below (g := gb225) (o := .cells #[.int .i64 a1_0, .int .u64 a1_1, .slice A1_2 l1_2.length c1_2] 27 (0, 0)) (by (with_reducible repeat (first | refine kN ?_ _ | refine kD ?_ | refine kA ?_ _)); exact BK225.out) hb); clear hb hbox hg))
 go_loopg [6, 7] k (fun kq v6 v7 w' => ∃ (x6_1 : List (S58)) (x7_1 : Int) (x227000_1 : Int) (x227001_1 : Bool) (x227002_1 : Int), v7 = .int .i64 x7_1 ∧ Aside0 (shackleref04_Notes.l0 kq l0 x6_1 x7_1 a1_0 a1_1 l1_2 = some (r1, r2, r3, r4)) ∧ Aside0 (kq ≤ k) ∧ Aside0 (Kd.S k58 58 w' w.heap.size (fun _ => True) v6 x6_1) ∧ Aside0 (w'.heap[gb225]? = some (.cells #[.int .i64 a1_0, .int .u64 a1_1, (.slice A1_2 l1_2.length c1_2)] 27 (0, 0))) ∧ Aside0 (w'.heap[gb226]? = some (.cells #[.int .i64 x227000_1, .bool x227001_1, .int .u64 x227002_1] 34 (0, 0))) ∧ Aside0 (Below w.heap.size w w'))
 case atStart => exact ⟨(([] : List (S58))), (0), (0), (false), (0), (by first | rfl | (simp; done) | (simp [*]; done)), H', ⟨Nat.le_refl _⟩, ⟨by first | exact Kd.S_nil _ _ _ _ _ | exact Kd.N_nil _ _ _ _ _ | exact Kd.V_nil _ _ _ _ _ | exact Kd.Q_nil _ _ _ _ _ | exact Kd.R_nil _ _ _ _ _⟩, ⟨by (with_reducible repeat (first | refine kN ?_ _ | refine kD ?_ | refine kA ?_ _)); exact BK225.out⟩, ⟨by (with_reducible repeat (first | refine kN ?_ _ | refine kD ?_ | refine kA ?_ _)); exact BK226.out⟩, ⟨by repeat (first | (with_reducible first | exact HB.out | apply bA | apply bN | apply bD | refine below_set ?_ GE225.out | refine below_set ?_ GE226.out) | exact HB.out)⟩⟩
 case round =>
  clear H'
  try clear c1
  try clear p2
  obtain ⟨x6_1, x7_1, x227000_1, x227001_1, x227002_1, rfl, HA, HK1, HO_6, BK225, BK226, HB⟩ := hrel
  cases gk with
  | zero => exact absurd HA.out (by simp [shackleref04_Notes.l0])
  | succ k1 =>
   have H := HA.out; clear HA; simp only [shackleref04_Notes.l0] at H
   by_cases c5 : x7_1 < (l1_2.length : Int)
   ·rw [if_pos c5] at H; have c5b0 : decide (x7_1 < (l1_2.length : Int)) = true := decide_eq_true c5; clear c5
    by_cases c6 : 0 ≤ x7_1
    ·rw [if_pos c6] at H; have c6b0 : decide (0 ≤ x7_1) = true := decide_eq_true c6; clear c6
     by_cases c7 : ((rd_T50 l1_2 x7_1).f0) = 4
     ·rw [if_pos c7] at H; have c7b0 : (((rd_T50 l1_2 x7_1).f0) == 4) = true := beq_iff_eq.mpr c7; have c7b1 : (((rd_T50 l1_2 x7_1).f0) != 4) = false := bne_eq_false_iff_eq.mpr c7; clear c7; replace H := Option.bind_eq_some_iff.mp H; obtain ⟨t229, A80, H⟩ := H; replace H : (if t229 = true then (shackleref04_Notes.l1 k1 l0 x6_1 x7_1 (IntKind.u64.wrap (((rd_T50 l1_2 x7_1).f2) + ((rd_T50 l1_2 x7_1).f4))) ((rd_T50 l1_2 x7_1).f2) a1_0 a1_1 l1_2) else ((shackleref04_at.f 4 ((rd_T50 l1_2 x7_1).f2)).bind fun bt230 => (some (([] : List (S58)), bt230.1, bt230.2.1, bt230.2.2)))) = some (r1, r2, r3, r4) := H; have A8 := aM A80; clear A80
      by_cases c9 : t229 = true
      ·subst c9
       have H1 : (shackleref04_Notes.l1 k1 l0 x6_1 x7_1 (IntKind.u64.wrap (((rd_T50 l1_2 x7_1).f2) + ((rd_T50 l1_2 x7_1).f4))) ((rd_T50 l1_2 x7_1).f2) a1_0 a1_1 l1_2) = some (r1, r2, r3, r4) := by rw [if_pos rfl] at H; exact H
       clear H; have H := H1; clear H1; have H' := aM H; clear H; have hnb10 := NB225_226.out; have hnc10 := NB226_225.out; obtain ⟨hcz11_0, hcz11_1, hcz11_2, hfz11_0, hfz11_1, hfz11_2⟩ := bx3 BK225.out; have p227 : 0 ≤ (x7_1 : Int) := of_decide_eq_true (by first | (with_reducible assumption) | assumption); have q227 : x7_1 < (l1_2.length : Int) := of_decide_eq_true (by first | (with_reducible assumption) | assumption); obtain ⟨ad227, e227, hx227_0, hx227_1, hx227_2, hx227_3, hx227_4, hx227_5, hx227_6⟩ := at_T50 HR1_2.out x7_1 p227 q227
       cases e227
       replace hx227_0 := (HB.out.cell (World.block_lt_of_cell? w _ hx227_0)).trans hx227_0; replace hx227_1 := (HB.out.cell (World.block_lt_of_cell? w _ hx227_1)).trans hx227_1; replace hx227_2 := (HB.out.cell (World.block_lt_of_cell? w _ hx227_2)).trans hx227_2; replace hx227_3 := (HB.out.cell (World.block_lt_of_cell? w _ hx227_3)).trans hx227_3; replace hx227_4 := (HB.out.cell (World.block_lt_of_cell? w _ hx227_4)).trans hx227_4; replace hx227_5 := (HB.out.cell (World.block_lt_of_cell? w _ hx227_5)).trans hx227_5; replace hx227_6 := (HB.out.cell (World.block_lt_of_cell? w _ hx227_6)).trans hx227_6; replace p227 := eq_true p227; replace q227 := eq_true q227
       go_wp2_with (first | ((with_reducible refine gate_dst (N := 8) rfl ?_); refine box_event ?hg (N := 8) ?hd (cs := #[.int .u32 0, .int .u32 0, .int .u64 0, .int .u64 0, .int .u64 0, .int .u64 0, .int .u64 0]) (t := 50) ?hr ?_; (case hd => rfl); (case hg => rfl); (case hr => first | (go_simp; done) | (go_simp; rfl)); intro gb228 hg w12 hbox hb; replace HO_6 := aM (Kd.S_below (by (with_reducible repeat (first | apply Kd.S_alloc | apply Kd.S_drewN | apply Kd.S_drew)); exact HO_6.out) hb); have BK228 := aM (hbox); have GW228 := aM ((by rw [hg]; exact (below_size (by repeat (first | (with_reducible first | exact HB.out | apply bA | apply bN | apply bD | refine below_set ?_ GE225.out | refine below_set ?_ GE226.out) | exact HB.out))) : w.heap.size ≤ gb228)); have GE228 := aM ((by rw [hg]; exact (below_size (by repeat (first | (with_reducible first | exact HB.out | apply bA | apply bN | apply bD | refine below_set ?_ GE225.out | refine below_set ?_ GE226.out) | exact HB.out))) : w.heap.size ≤ gb228)); replace HB := aM (below_step (by repeat (first | (with_reducible first | exact HB.out | apply bA | apply bN | apply bD | refine below_set ?_ GE225.out | refine below_set ?_ GE226.out) | exact HB.out)) hb); have NB225_228 := aM ((by rw [hg]; exact Nat.ne_of_lt (blk_lt (by (with_reducible repeat (first | refine kN ?_ _ | refine kD ?_ | refine kA ?_ _)); exact BK225.out)) : gb225 ≠ gb228)); have NB228_225 := aM ((by rw [hg]; exact Nat.ne_of_gt (blk_lt (by (with_reducible repeat (first | refine kN ?_ _ | refine kD ?_ | refine kA ?_ _)); exact BK225.out)) : gb228 ≠ gb225)); replace BK225 := aM (blk_below (g := gb225) (o := .cells #[.int .i64 a1_0, .int .u64 a1_1, .slice (some ad227) l1_2.length c1_2] 27 (0, 0)) (by (with_reducible repeat (first | refine kN ?_ _ | refine kD ?_ | refine kA ?_ _)); exact BK225.out) hb); have NB226_228 := aM ((by rw [hg]; exact Nat.ne_of_lt (blk_lt (by (with_reducible repeat (first | refine kN ?_ _ | refine kD ?_ | refine kA ?_ _)); exact BK226.out)) : gb226 ≠ gb228)); have NB228_226 := aM ((by rw [hg]; exact Nat.ne_of_gt (blk_lt (by (with_reducible repeat (first | refine kN ?_ _ | refine kD ?_ | refine kA ?_ _)); exact BK226.out)) : gb228 ≠ gb226)); replace BK226 := aM (blk_below (g := gb226) (o := .cells #[.int .i64 x227000_1, .bool x227001_1, .int .u64 x227002_1] 34 (0, 0)) (by (with_reducible repeat (first | refine kN ?_ _ | refine kD ?_ | refine kA ?_ _)); exact BK226.out) hb); clear hb hbox hg; have hnb13 := NB228_225.out; have hnc13 := NB225_228.out; have hnb14 := NB228_226.out; have hnc14 := NB226_228.out; obtain ⟨hcz15_0, hcz15_1, hcz15_2, hcz15_3, hcz15_4, hcz15_5, hcz15_6, hfz15_0, hfz15_1, hfz15_2, hfz15_3, hfz15_4, hfz15_5, hfz15_6⟩ := bx7 BK228.out) | ((with_reducible refine gate_callee (f := 31) rfl ?_); refine goesL_ (some 38) rfl rfl Tryd.func31 (by kernel_rfl) rfl #[.int .u64 (IntKind.u64.wrap ((l0.length : Int))), .int .u64 ((rd_T50 l1_2 x7_1).f2), .int .u64 ((rd_T50 l1_2 x7_1).f4)] rfl (by (try simp only [List.map_toArray, List.map_cons, List.map_nil]); first | done | rfl | (simp only [List.length_drop, List.length_take]; rfl)) ?_; (with_reducible refine (shackleref01_In.calls (IntKind.u64.wrap ((l0.length : Int))) ((rd_T50 l1_2 x7_1).f2) ((rd_T50 l1_2 x7_1).f4) true _ A8.out).mono ?_); rintro e w' ⟨rfl, ⟨nd, rfl⟩⟩; refine ⟨_, rfl, ?_⟩))
       go_loopg [6, 11] k1 (fun kq v6 v11 w' => ∃ (x6_2 : List (S58)) (x11_2 : Int) (x227000_2 : Int) (x227001_2 : Bool) (x227002_2 : Int), v11 = .int .u64 x11_2 ∧ Aside0 (shackleref04_Notes.l1 kq l0 x6_2 x7_1 (IntKind.u64.wrap (((rd_T50 l1_2 x7_1).f2) + ((rd_T50 l1_2 x7_1).f4))) x11_2 a1_0 a1_1 l1_2 = some (r1, r2, r3, r4)) ∧ Aside0 (kq ≤ k1) ∧ Aside0 (Kd.S k58 58 w' w.heap.size (fun _ => True) v6 x6_2) ∧ Aside0 (w'.heap[gb225]? = some (.cells #[.int .i64 a1_0, .int .u64 a1_1, (.slice (some ad227) l1_2.length c1_2)] 27 (0, 0))) ∧ Aside0 (w'.heap[gb226]? = some (.cells #[.int .i64 x227000_2, .bool x227001_2, .int .u64 x227002_2] 34 (0, 0))) ∧ Aside0 (w'.heap[gb228]? = some (.cells #[.int .u32 ((rd_T50 l1_2 x7_1).f0), .int .u32 ((rd_T50 l1_2 x7_1).f1), .int .u64 ((rd_T50 l1_2 x7_1).f2), .int .u64 ((rd_T50 l1_2 x7_1).f3), .int .u64 ((rd_T50 l1_2 x7_1).f4), .int .u64 ((rd_T50 l1_2 x7_1).f5), .int .u64 ((rd_T50 l1_2 x7_1).f6)] 50 (0, 0))) ∧ Aside0 (Below w.heap.size w w'))
       case atStart => exact ⟨(x6_1), ((rd_T50 l1_2 x7_1).f2), (x227000_1), (x227001_1), (x227002_1), (by first | rfl | (simp; done) | (simp [*]; done)), H', ⟨Nat.le_refl _⟩, ⟨by (with_reducible repeat (first | apply Kd.S_alloc | apply Kd.S_drewN | apply Kd.S_drew)); exact Kd.S_mono (Kd.S_far (p := ⟨gb228, 6, none⟩) (Kd.S_far (p := ⟨gb228, 5, none⟩) (Kd.S_far (p := ⟨gb228, 4, none⟩) (Kd.S_far (p := ⟨gb228, 3, none⟩) (Kd.S_far (p := ⟨gb228, 2, none⟩) (Kd.S_far (p := ⟨gb228, 1, none⟩) (Kd.S_far (p := ⟨gb228, 0, none⟩) (Kd.S_types HO_6.out BK228.out (by decide)) (fun _ hk => hk.2) (.int .u32 ((rd_T50 l1_2 x7_1).f0))) (fun _ hk => hk.2) (.int .u32 ((rd_T50 l1_2 x7_1).f1))) (fun _ hk => hk.2) (.int .u64 ((rd_T50 l1_2 x7_1).f2))) (fun _ hk => hk.2) (.int .u64 ((rd_T50 l1_2 x7_1).f3))) (fun _ hk => hk.2) (.int .u64 ((rd_T50 l1_2 x7_1).f4))) (fun _ hk => hk.2) (.int .u64 ((rd_T50 l1_2 x7_1).f5))) (fun _ hk => hk.2) (.int .u64 ((rd_T50 l1_2 x7_1).f6))) (fun _ hk => trivial)⟩, ⟨by (with_reducible repeat (first | refine kN ?_ _ | refine kD ?_ | refine kA ?_ _)); refine blk_far ?_ NB225_228.out _; (with_reducible repeat (first | refine kN ?_ _ | refine kD ?_ | refine kA ?_ _)); refine blk_far ?_ NB225_228.out _; (with_reducible repeat (first | refine kN ?_ _ | refine kD ?_ | refine kA ?_ _)); refine blk_far ?_ NB225_228.out _; (with_reducible repeat (first | refine kN ?_ _ | refine kD ?_ | refine kA ?_ _)); refine blk_far ?_ NB225_228.out _; (with_reducible repeat (first | refine kN ?_ _ | refine kD ?_ | refine kA ?_ _)); refine blk_far ?_ NB225_228.out _; (with_reducible repeat (first | refine kN ?_ _ | refine kD ?_ | refine kA ?_ _)); refine blk_far ?_ NB225_228.out _; (with_reducible repeat (first | refine kN ?_ _ | refine kD ?_ | refine kA ?_ _)); refine blk_far ?_ NB225_228.out _; (with_reducible repeat (first | refine kN ?_ _ | refine kD ?_ | refine kA ?_ _)); exact BK225.out⟩, ⟨by (with_reducible repeat (first | refine kN ?_ _ | refine kD ?_ | refine kA ?_ _)); refine blk_far ?_ NB226_228.out _; (with_reducible repeat (first | refine kN ?_ _ | refine kD ?_ | refine kA ?_ _)); refine blk_far ?_ NB226_228.out _; (with_reducible repeat (first | refine kN ?_ _ | refine kD ?_ | refine kA ?_ _)); refine blk_far ?_ NB226_228.out _; (with_reducible repeat (first | refine kN ?_ _ | refine kD ?_ | refine kA ?_ _)); refine blk_far ?_ NB226_228.out _; (with_reducible repeat (first | refine kN ?_ _ | refine kD ?_ | refine kA ?_ _)); refine blk_far ?_ NB226_228.out _; (with_reducible repeat (first | refine kN ?_ _ | refine kD ?_ | refine kA ?_ _)); refine blk_far ?_ NB226_228.out _; (with_reducible repeat (first | refine kN ?_ _ | refine kD ?_ | refine kA ?_ _)); refine blk_far ?_ NB226_228.out _; (with_reducible repeat (first | refine kN ?_ _ | refine kD ?_ | refine kA ?_ _)); exact BK226.out⟩, ⟨by (with_reducible repeat (first | refine kN ?_ _ | refine kD ?_ | refine kA ?_ _)); refine blk_put (cs := #[.int .u32 ((rd_T50 l1_2 x7_1).f0), .int .u32 ((rd_T50 l1_2 x7_1).f1), .int .u64 ((rd_T50 l1_2 x7_1).f2), .int .u64 ((rd_T50 l1_2 x7_1).f3), .int .u64 ((rd_T50 l1_2 x7_1).f4), .int .u64 ((rd_T50 l1_2 x7_1).f5), .int .u64 0]) ?_ 6 _ rfl; (with_reducible repeat (first | refine kN ?_ _ | refine kD ?_ | refine kA ?_ _)); refine blk_put (cs := #[.int .u32 ((rd_T50 l1_2 x7_1).f0), .int .u32 ((rd_T50 l1_2 x7_1).f1), .int .u64 ((rd_T50 l1_2 x7_1).f2), .int .u64 ((rd_T50 l1_2 x7_1).f3), .int .u64 ((rd_T50 l1_2 x7_1).f4), .int .u64 0, .int .u64 0]) ?_ 5 _ rfl; (with_reducible repeat (first | refine kN ?_ _ | refine kD ?_ | refine kA ?_ _)); refine blk_put (cs := #[.int .u32 ((rd_T50 l1_2 x7_1).f0), .int .u32 ((rd_T50 l1_2 x7_1).f1), .int .u64 ((rd_T50 l1_2 x7_1).f2), .int .u64 ((rd_T50 l1_2 x7_1).f3), .int .u64 0, .int .u64 0, .int .u64 0]) ?_ 4 _ rfl; (with_reducible repeat (first | refine kN ?_ _ | refine kD ?_ | refine kA ?_ _)); refine blk_put (cs := #[.int .u32 ((rd_T50 l1_2 x7_1).f0), .int .u32 ((rd_T50 l1_2 x7_1).f1), .int .u64 ((rd_T50 l1_2 x7_1).f2), .int .u64 0, .int .u64 0, .int .u64 0, .int .u64 0]) ?_ 3 _ rfl; (with_reducible repeat (first | refine kN ?_ _ | refine kD ?_ | refine kA ?_ _)); refine blk_put (cs := #[.int .u32 ((rd_T50 l1_2 x7_1).f0), .int .u32 ((rd_T50 l1_2 x7_1).f1), .int .u64 0, .int .u64 0, .int .u64 0, .int .u64 0, .int .u64 0]) ?_ 2 _ rfl; (with_reducible repeat (first | refine kN ?_ _ | refine kD ?_ | refine kA ?_ _)); refine blk_put (cs := #[.int .u32 ((rd_T50 l1_2 x7_1).f0), .int .u32 0, .int .u64 0, .int .u64 0, .int .u64 0, .int .u64 0, .int .u64 0]) ?_ 1 _ rfl; (with_reducible repeat (first | refine kN ?_ _ | refine kD ?_ | refine kA ?_ _)); refine blk_put (cs := #[.int .u32 0, .int .u32 0, .int .u64 0, .int .u64 0, .int .u64 0, .int .u64 0, .int .u64 0]) ?_ 0 _ rfl; (with_reducible repeat (first | refine kN ?_ _ | refine kD ?_ | refine kA ?_ _)); exact BK228.out⟩, ⟨by repeat (first | (with_reducible first | exact HB.out | apply bA | apply bN | apply bD | refine below_set ?_ GE225.out | refine below_set ?_ GE226.out | refine below_set ?_ GE228.out) | exact HB.out)⟩⟩
       case round =>
        clear H'
        try clear c1
        try clear p2
        try clear q2
        try clear hx2
        try clear c3
        try clear c5
        try clear c5b0
        try clear c6
        try clear c6b0
        try clear c7
        try clear c7b0
        try clear c7b1
        try clear c9
        try clear c10
        try clear c13
        try clear c14
        try clear hcz11_0
        try clear hcz11_1
        try clear hcz11_2
        try clear hcz15_0
        try clear hcz15_1
        try clear hcz15_2
        try clear hcz15_3
        try clear hcz15_4
        try clear hcz15_5
        try clear hcz15_6
        try clear hfz11_0
        try clear hfz11_1
        try clear hfz11_2
        try clear hfz15_0
        try clear hfz15_1
        try clear hfz15_2
        try clear hfz15_3
        try clear hfz15_4
        try clear hfz15_5
        try clear hfz15_6
        try clear hx227_0
        try clear hx227_1
        try clear hx227_2
        try clear hx227_3
        try clear hx227_4
        try clear hx227_5
        try clear hx227_6
        try clear p2
        try clear p227
        try clear q227
        obtain ⟨x6_2, x11_2, x227000_2, x227001_2, x227002_2, rfl, HA, HK2, HO_6, BK225, BK226, BK228, HB⟩ := hrel
        cases gk with
        | zero => exact absurd HA.out (by simp [shackleref04_Notes.l1])
        | succ k2 =>
         have H := HA.out; clear HA; simp only [shackleref04_Notes.l1] at H
         by_cases c16 : x11_2 < (IntKind.u64.wrap (((rd_T50 l1_2 x7_1).f2) + ((rd_T50 l1_2 x7_1).f4)))
         ·rw [if_pos c16] at H; have c16b0 : decide (x11_2 < (IntKind.u64.wrap (((rd_T50 l1_2 x7_1).f2) + ((rd_T50 l1_2 x7_1).f4)))) = true := decide_eq_true c16; clear c16
          by_cases c17 : (IntKind.u64.wrap ((IntKind.u64.wrap (((rd_T50 l1_2 x7_1).f2) + ((rd_T50 l1_2 x7_1).f4))) - x11_2)) < 12
          ·rw [if_pos c17] at H; have c17b0 : decide ((IntKind.u64.wrap ((IntKind.u64.wrap (((rd_T50 l1_2 x7_1).f2) + ((rd_T50 l1_2 x7_1).f4))) - x11_2)) < 12) = true := decide_eq_true c17; clear c17; replace H := Option.bind_eq_some_iff.mp H; obtain ⟨⟨t233, t234, t235⟩, A180, H⟩ := H; replace H : (some (([] : List (S58)), t233, t234, t235)) = some (r1, r2, r3, r4) := H; have A18 := aM A180; clear A180; simp only [Option.some.injEq, Prod.mk.injEq] at H; obtain ⟨rfl, rfl, rfl, rfl⟩ := H
           go_wp2_with (first | ((with_reducible refine gate_callee (f := 30) rfl ?_); refine goesL_ (some 59) rfl rfl Tryd.func30 (by kernel_rfl) rfl #[.int .i64 4, .int .u64 x11_2] rfl (by (try simp only [List.map_toArray, List.map_cons, List.map_nil]); first | done | rfl | (simp only [List.length_drop, List.length_take]; rfl)) ?_; (with_reducible refine (shackleref04_at.calls 4 x11_2 t233 t234 t235 _ A18.out).mono ?_); rintro e w19 ⟨rfl, hb⟩; refine ⟨_, rfl, ?_⟩; replace HO_6 := aM (Kd.S_below (by (with_reducible repeat (first | apply Kd.S_alloc | apply Kd.S_drewN | apply Kd.S_drew)); exact HO_6.out) hb); replace BK225 := aM (blk_below (g := gb225) (o := .cells #[.int .i64 a1_0, .int .u64 a1_1, .slice (some ad227) l1_2.length c1_2] 27 (0, 0)) (by (with_reducible repeat (first | refine kN ?_ _ | refine kD ?_ | refine kA ?_ _)); exact BK225.out) hb); replace BK226 := aM (blk_below (g := gb226) (o := .cells #[.int .i64 x227000_2, .bool x227001_2, .int .u64 x227002_2] 34 (0, 0)) (by (with_reducible repeat (first | refine kN ?_ _ | refine kD ?_ | refine kA ?_ _)); exact BK226.out) hb); replace BK228 := aM (blk_below (g := gb228) (o := .cells #[.int .u32 ((rd_T50 l1_2 x7_1).f0), .int .u32 ((rd_T50 l1_2 x7_1).f1), .int .u64 ((rd_T50 l1_2 x7_1).f2), .int .u64 ((rd_T50 l1_2 x7_1).f3), .int .u64 ((rd_T50 l1_2 x7_1).f4), .int .u64 ((rd_T50 l1_2 x7_1).f5), .int .u64 ((rd_T50 l1_2 x7_1).f6)] 50 (0, 0)) (by (with_reducible repeat (first | refine kN ?_ _ | refine kD ?_ | refine kA ?_ _)); exact BK228.out) hb); replace HB := aM (below_step (by repeat (first | (with_reducible first | exact HB.out | apply bA | apply bN | apply bD | refine below_set ?_ GE225.out | refine below_set ?_ GE226.out | refine below_set ?_ GE228.out) | exact HB.out)) hb); (try clear hb); (try clear hb2); (try clear hk); (try clear hi); have hnb20 := NB226_225.out; have hnc20 := NB225_226.out; have hnb21 := NB226_228.out; have hnc21 := NB228_226.out; obtain ⟨hcz22_0, hcz22_1, hcz22_2, hfz22_0, hfz22_1, hfz22_2⟩ := bx3 BK226.out))
           refine bodyPost_ret (results_tc rfl _ _ gb226 34 #[.int .i64 t233, .bool t234, .int .u64 t235] (0, 0) _ rfl (by (with_reducible repeat (first | refine kN ?_ _ | refine kD ?_ | refine kA ?_ _)); refine blk_put (cs := #[.int .i64 t233, .bool t234, .int .u64 x227002_2]) ?_ 2 _ rfl; (with_reducible repeat (first | refine kN ?_ _ | refine kD ?_ | refine kA ?_ _)); refine blk_put (cs := #[.int .i64 t233, .bool x227001_2, .int .u64 x227002_2]) ?_ 1 _ rfl; (with_reducible repeat (first | refine kN ?_ _ | refine kD ?_ | refine kA ?_ _)); refine blk_put (cs := #[.int .i64 x227000_2, .bool x227001_2, .int .u64 x227002_2]) ?_ 0 _ rfl; (with_reducible repeat (first | refine kN ?_ _ | refine kD ?_ | refine kA ?_ _)); exact BK226.out) Tryd.underlying34 rfl (by kernel_rfl)) rfl ?_; exact ⟨_, by first | rfl | (simp [errW_none, errW_some] <;> rfl) | (simp [*, errW_none, errW_some] <;> rfl), by first | exact Kd.S_nil _ _ _ _ _ | exact Kd.N_nil _ _ _ _ _ | exact Kd.V_nil _ _ _ _ _ | exact Kd.Q_nil _ _ _ _ _ | exact Kd.R_nil _ _ _ _ _, by repeat (first | (with_reducible first | exact HB.out | apply bA | apply bN | apply bD | refine below_set ?_ GE225.out | refine below_set ?_ GE226.out | refine below_set ?_ GE228.out) | exact HB.out)⟩
          ·rw [if_neg c17] at H; have c17b0 : decide ((IntKind.u64.wrap ((IntKind.u64.wrap (((rd_T50 l1_2 x7_1).f2) + ((rd_T50 l1_2 x7_1).f4))) - x11_2)) < 12) = false := decide_eq_false c17; clear c17; replace H := Option.bind_eq_some_iff.mp H; obtain ⟨t236, A230, H⟩ := H; replace H : ((shackleref04_num.f k2 l0 (IntKind.u64.wrap (x11_2 + 4)) 4).bind fun t237 => ((shackleref04_four.f t236).bind fun t238 => (if t238 > (IntKind.u64.wrap ((IntKind.u64.wrap ((IntKind.u64.wrap (((rd_T50 l1_2 x7_1).f2) + ((rd_T50 l1_2 x7_1).f4))) - x11_2)) - 12)) then (shackleref04_Notes.j2 k2 l0 x6_2 x7_1 (IntKind.u64.wrap (((rd_T50 l1_2 x7_1).f2) + ((rd_T50 l1_2 x7_1).f4))) x11_2 t236 t237 true a1_0 a1_1 l1_2) else ((shackleref04_four.f t236).bind fun t239 => (shackleref04_Notes.j2 k2 l0 x6_2 x7_1 (IntKind.u64.wrap (((rd_T50 l1_2 x7_1).f2) + ((rd_T50 l1_2 x7_1).f4))) x11_2 t236 t237 (decide (t237 > (IntKind.u64.wrap ((IntKind.u64.wrap ((IntKind.u64.wrap ((IntKind.u64.wrap (((rd_T50 l1_2 x7_1).f2) + ((rd_T50 l1_2 x7_1).f4))) - x11_2)) - 12)) - t239)))) a1_0 a1_1 l1_2))))) = some (r1, r2, r3, r4) := H; have A23 := aM A230; clear A230; replace H := Option.bind_eq_some_iff.mp H; obtain ⟨t237, A240, H⟩ := H; replace H : ((shackleref04_four.f t236).bind fun t238 => (if t238 > (IntKind.u64.wrap ((IntKind.u64.wrap ((IntKind.u64.wrap (((rd_T50 l1_2 x7_1).f2) + ((rd_T50 l1_2 x7_1).f4))) - x11_2)) - 12)) then (shackleref04_Notes.j2 k2 l0 x6_2 x7_1 (IntKind.u64.wrap (((rd_T50 l1_2 x7_1).f2) + ((rd_T50 l1_2 x7_1).f4))) x11_2 t236 t237 true a1_0 a1_1 l1_2) else ((shackleref04_four.f t236).bind fun t239 => (shackleref04_Notes.j2 k2 l0 x6_2 x7_1 (IntKind.u64.wrap (((rd_T50 l1_2 x7_1).f2) + ((rd_T50 l1_2 x7_1).f4))) x11_2 t236 t237 (decide (t237 > (IntKind.u64.wrap ((IntKind.u64.wrap ((IntKind.u64.wrap ((IntKind.u64.wrap (((rd_T50 l1_2 x7_1).f2) + ((rd_T50 l1_2 x7_1).f4))) - x11_2)) - 12)) - t239)))) a1_0 a1_1 l1_2)))) = some (r1, r2, r3, r4) := H; have A24 := aM A240; clear A240; have HC25 := aM H; clear H
           go_upto_region 17 with (first | ((with_reducible refine gate_callee (f := 29) rfl ?_); refine goesL_ (some 62) rfl rfl Tryd.func29 (by kernel_rfl) rfl #[.slice A0 l0.length c0, .int .u64 x11_2, .int .i64 4] rfl (by (try simp only [List.map_toArray, List.map_cons, List.map_nil]); first | done | rfl | (simp only [List.length_drop, List.length_take]; rfl)) ?_; (with_reducible refine (shackleref04_num.calls k2 _ _ l0 x11_2 4 t236 _ ?side1 ?side2 A23.out).mono ?_); (case side1 => repeat (first | exact (Kd.C_below HR0.out HB.out) | (with_reducible refine cA ?_ _) | (with_reducible refine cN ?_ _) | (with_reducible refine cD ?_))); (case side2 => exact HC0.out); rintro e w26 ⟨rfl, hb⟩; refine ⟨_, rfl, ?_⟩; replace HO_6 := aM (Kd.S_below (by (with_reducible repeat (first | apply Kd.S_alloc | apply Kd.S_drewN | apply Kd.S_drew)); exact HO_6.out) hb); replace BK225 := aM (blk_below (g := gb225) (o := .cells #[.int .i64 a1_0, .int .u64 a1_1, .slice (some ad227) l1_2.length c1_2] 27 (0, 0)) (by (with_reducible repeat (first | refine kN ?_ _ | refine kD ?_ | refine kA ?_ _)); exact BK225.out) hb); replace BK226 := aM (blk_below (g := gb226) (o := .cells #[.int .i64 x227000_2, .bool x227001_2, .int .u64 x227002_2] 34 (0, 0)) (by (with_reducible repeat (first | refine kN ?_ _ | refine kD ?_ | refine kA ?_ _)); exact BK226.out) hb); replace BK228 := aM (blk_below (g := gb228) (o := .cells #[.int .u32 ((rd_T50 l1_2 x7_1).f0), .int .u32 ((rd_T50 l1_2 x7_1).f1), .int .u64 ((rd_T50 l1_2 x7_1).f2), .int .u64 ((rd_T50 l1_2 x7_1).f3), .int .u64 ((rd_T50 l1_2 x7_1).f4), .int .u64 ((rd_T50 l1_2 x7_1).f5), .int .u64 ((rd_T50 l1_2 x7_1).f6)] 50 (0, 0)) (by (with_reducible repeat (first | refine kN ?_ _ | refine kD ?_ | refine kA ?_ _)); exact BK228.out) hb); replace HB := aM (below_step (by repeat (first | (with_reducible first | exact HB.out | apply bA | apply bN | apply bD | refine below_set ?_ GE225.out | refine below_set ?_ GE226.out | refine below_set ?_ GE228.out) | exact HB.out)) hb); (try clear hb); (try clear hb2); (try clear hk); (try clear hi)) | ((with_reducible refine gate_callee (f := 29) rfl ?_); refine goesL_ (some 66) rfl rfl Tryd.func29 (by kernel_rfl) rfl #[.slice A0 l0.length c0, .int .u64 (IntKind.u64.wrap (x11_2 + 4)), .int .i64 4] rfl (by (try simp only [List.map_toArray, List.map_cons, List.map_nil]); first | done | rfl | (simp only [List.length_drop, List.length_take]; rfl)) ?_; (with_reducible refine (shackleref04_num.calls k2 _ _ l0 (IntKind.u64.wrap (x11_2 + 4)) 4 t237 _ ?side1 ?side2 A24.out).mono ?_); (case side1 => repeat (first | exact (Kd.C_below HR0.out HB.out) | (with_reducible refine cA ?_ _) | (with_reducible refine cN ?_ _) | (with_reducible refine cD ?_))); (case side2 => exact HC0.out); rintro e w27 ⟨rfl, hb⟩; refine ⟨_, rfl, ?_⟩; replace HO_6 := aM (Kd.S_below (by (with_reducible repeat (first | apply Kd.S_alloc | apply Kd.S_drewN | apply Kd.S_drew)); exact HO_6.out) hb); replace BK225 := aM (blk_below (g := gb225) (o := .cells #[.int .i64 a1_0, .int .u64 a1_1, .slice (some ad227) l1_2.length c1_2] 27 (0, 0)) (by (with_reducible repeat (first | refine kN ?_ _ | refine kD ?_ | refine kA ?_ _)); exact BK225.out) hb); replace BK226 := aM (blk_below (g := gb226) (o := .cells #[.int .i64 x227000_2, .bool x227001_2, .int .u64 x227002_2] 34 (0, 0)) (by (with_reducible repeat (first | refine kN ?_ _ | refine kD ?_ | refine kA ?_ _)); exact BK226.out) hb); replace BK228 := aM (blk_below (g := gb228) (o := .cells #[.int .u32 ((rd_T50 l1_2 x7_1).f0), .int .u32 ((rd_T50 l1_2 x7_1).f1), .int .u64 ((rd_T50 l1_2 x7_1).f2), .int .u64 ((rd_T50 l1_2 x7_1).f3), .int .u64 ((rd_T50 l1_2 x7_1).f4), .int .u64 ((rd_T50 l1_2 x7_1).f5), .int .u64 ((rd_T50 l1_2 x7_1).f6)] 50 (0, 0)) (by (with_reducible repeat (first | refine kN ?_ _ | refine kD ?_ | refine kA ?_ _)); exact BK228.out) hb); replace HB := aM (below_step (by repeat (first | (with_reducible first | exact HB.out | apply bA | apply bN | apply bD | refine below_set ?_ GE225.out | refine below_set ?_ GE226.out | refine below_set ?_ GE228.out) | exact HB.out)) hb); (try clear hb); (try clear hb2); (try clear hk); (try clear hi)))
           (try simp only [Act.put, sA, sZ, sS])
           go_cut [84] (fun v84 wc => ∃ (kq : Nat) (x84_24 : Bool), v84 = .bool x84_24 ∧ Aside0 (shackleref04_Notes.j2 kq l0 x6_2 x7_1 (IntKind.u64.wrap (((rd_T50 l1_2 x7_1).f2) + ((rd_T50 l1_2 x7_1).f4))) x11_2 t236 t237 x84_24 a1_0 a1_1 l1_2 = some (r1, r2, r3, r4)) ∧ Aside0 (kq ≤ k2) ∧ Aside0 (Kd.S k58 58 wc w.heap.size (fun _ => True) u6 x6_2) ∧ Aside0 (wc.heap[gb225]? = some (.cells #[.int .i64 a1_0, .int .u64 a1_1, (.slice (some ad227) l1_2.length c1_2)] 27 (0, 0))) ∧ Aside0 (wc.heap[gb226]? = some (.cells #[.int .i64 x227000_2, .bool x227001_2, .int .u64 x227002_2] 34 (0, 0))) ∧ Aside0 (wc.heap[gb228]? = some (.cells #[.int .u32 ((rd_T50 l1_2 x7_1).f0), .int .u32 ((rd_T50 l1_2 x7_1).f1), .int .u64 ((rd_T50 l1_2 x7_1).f2), .int .u64 ((rd_T50 l1_2 x7_1).f3), .int .u64 ((rd_T50 l1_2 x7_1).f4), .int .u64 ((rd_T50 l1_2 x7_1).f5), .int .u64 ((rd_T50 l1_2 x7_1).f6)] 50 (0, 0))) ∧ Aside0 (Below w.heap.size w wc))
           case first =>
            have H := HC25.out; clear HC25; replace H := Option.bind_eq_some_iff.mp H; obtain ⟨t238, A280, H⟩ := H; replace H : (if t238 > (IntKind.u64.wrap ((IntKind.u64.wrap ((IntKind.u64.wrap (((rd_T50 l1_2 x7_1).f2) + ((rd_T50 l1_2 x7_1).f4))) - x11_2)) - 12)) then (shackleref04_Notes.j2 k2 l0 x6_2 x7_1 (IntKind.u64.wrap (((rd_T50 l1_2 x7_1).f2) + ((rd_T50 l1_2 x7_1).f4))) x11_2 t236 t237 true a1_0 a1_1 l1_2) else ((shackleref04_four.f t236).bind fun t239 => (shackleref04_Notes.j2 k2 l0 x6_2 x7_1 (IntKind.u64.wrap (((rd_T50 l1_2 x7_1).f2) + ((rd_T50 l1_2 x7_1).f4))) x11_2 t236 t237 (decide (t237 > (IntKind.u64.wrap ((IntKind.u64.wrap ((IntKind.u64.wrap ((IntKind.u64.wrap (((rd_T50 l1_2 x7_1).f2) + ((rd_T50 l1_2 x7_1).f4))) - x11_2)) - 12)) - t239)))) a1_0 a1_1 l1_2))) = some (r1, r2, r3, r4) := H; have A28 := aM A280; clear A280
            by_cases c29 : t238 > (IntKind.u64.wrap ((IntKind.u64.wrap ((IntKind.u64.wrap (((rd_T50 l1_2 x7_1).f2) + ((rd_T50 l1_2 x7_1).f4))) - x11_2)) - 12))
            ·rw [if_pos c29] at H; have c29b0 : decide ((IntKind.u64.wrap ((IntKind.u64.wrap ((IntKind.u64.wrap (((rd_T50 l1_2 x7_1).f2) + ((rd_T50 l1_2 x7_1).f4))) - x11_2)) - 12)) < t238) = true := decide_eq_true c29; clear c29
             (first | rw [c29b0] | (simp only [i64_w, i32_w]; rw [c29b0]) | skip)
             have H' := aM H; clear H
             go_wp2_with (first | ((with_reducible refine gate_callee (f := 44) rfl ?_); refine goesL_ (some 68) rfl rfl Tryd.func44 (by kernel_rfl) rfl #[.int .u64 t236] rfl (by (try simp only [List.map_toArray, List.map_cons, List.map_nil]); first | done | rfl | (simp only [List.length_drop, List.length_take]; rfl)) ?_; (with_reducible refine (shackleref04_four.calls t236 t238 _ A28.out).mono ?_); rintro e w' ⟨rfl, ⟨nd, rfl⟩⟩; refine ⟨_, rfl, ?_⟩))
             go_meet
             case rel => exact ⟨_, (true), (by first | rfl | (simp; done) | (simp [*]; done)), H', ⟨by have := HK1.out; have := HK2.out; first | omega | exact Nat.le_refl _⟩, ⟨by (with_reducible repeat (first | apply Kd.S_alloc | apply Kd.S_drewN | apply Kd.S_drew)); exact HO_6.out⟩, ⟨by (with_reducible repeat (first | refine kN ?_ _ | refine kD ?_ | refine kA ?_ _)); exact BK225.out⟩, ⟨by (with_reducible repeat (first | refine kN ?_ _ | refine kD ?_ | refine kA ?_ _)); exact BK226.out⟩, ⟨by (with_reducible repeat (first | refine kN ?_ _ | refine kD ?_ | refine kA ?_ _)); exact BK228.out⟩, ⟨by repeat (first | (with_reducible first | exact HB.out | apply bA | apply bN | apply bD | refine below_set ?_ GE225.out | refine below_set ?_ GE226.out | refine below_set ?_ GE228.out) | exact HB.out)⟩⟩
            ·rw [if_neg c29] at H; have c29b0 : decide ((IntKind.u64.wrap ((IntKind.u64.wrap ((IntKind.u64.wrap (((rd_T50 l1_2 x7_1).f2) + ((rd_T50 l1_2 x7_1).f4))) - x11_2)) - 12)) < t238) = false := decide_eq_false c29; clear c29
             (first | rw [c29b0] | (simp only [i64_w, i32_w]; rw [c29b0]) | skip)
             replace H := Option.bind_eq_some_iff.mp H; obtain ⟨t239, A300, H⟩ := H; replace H : (shackleref04_Notes.j2 k2 l0 x6_2 x7_1 (IntKind.u64.wrap (((rd_T50 l1_2 x7_1).f2) + ((rd_T50 l1_2 x7_1).f4))) x11_2 t236 t237 (decide (t237 > (IntKind.u64.wrap ((IntKind.u64.wrap ((IntKind.u64.wrap ((IntKind.u64.wrap (((rd_T50 l1_2 x7_1).f2) + ((rd_T50 l1_2 x7_1).f4))) - x11_2)) - 12)) - t239)))) a1_0 a1_1 l1_2) = some (r1, r2, r3, r4) := H; have A30 := aM A300; clear A300; have H' := aM H; clear H
             go_wp2_with (first | ((with_reducible refine gate_callee (f := 44) rfl ?_); refine goesL_ (some 68) rfl rfl Tryd.func44 (by kernel_rfl) rfl #[.int .u64 t236] rfl (by (try simp only [List.map_toArray, List.map_cons, List.map_nil]); first | done | rfl | (simp only [List.length_drop, List.length_take]; rfl)) ?_; (with_reducible refine (shackleref04_four.calls t236 t238 _ A28.out).mono ?_); rintro e w' ⟨rfl, ⟨nd, rfl⟩⟩; refine ⟨_, rfl, ?_⟩) | (go_at_call 44; (with_reducible refine (shackleref04_four.calls t236 t239 _ A30.out).mono ?_); rintro e w' ⟨rfl, ⟨nd, rfl⟩⟩))
             go_meet
             case rel => exact ⟨_, (decide (t237 > (IntKind.u64.wrap ((IntKind.u64.wrap ((IntKind.u64.wrap ((IntKind.u64.wrap (((rd_T50 l1_2 x7_1).f2) + ((rd_T50 l1_2 x7_1).f4))) - x11_2)) - 12)) - t239)))), (by first | rfl | (simp; done) | (simp [*]; done)), H', ⟨by have := HK1.out; have := HK2.out; first | omega | exact Nat.le_refl _⟩, ⟨by (with_reducible repeat (first | apply Kd.S_alloc | apply Kd.S_drewN | apply Kd.S_drew)); exact HO_6.out⟩, ⟨by (with_reducible repeat (first | refine kN ?_ _ | refine kD ?_ | refine kA ?_ _)); exact BK225.out⟩, ⟨by (with_reducible repeat (first | refine kN ?_ _ | refine kD ?_ | refine kA ?_ _)); exact BK226.out⟩, ⟨by (with_reducible repeat (first | refine kN ?_ _ | refine kD ?_ | refine kA ?_ _)); exact BK228.out⟩, ⟨by repeat (first | (with_reducible first | exact HB.out | apply bA | apply bN | apply bD | refine below_set ?_ GE225.out | refine below_set ?_ GE226.out | refine below_set ?_ GE228.out) | exact HB.out)⟩⟩
           case rest =>
            clear HC25
            try clear c1
            try clear c2
            try clear p2
            try clear q2
            try clear hx2
            try clear c3
            try clear c4
            try clear c5
            try clear c5b0
            try clear c6
            try clear c6b0
            try clear c7
            try clear c7b0
            try clear c7b1
            try clear c9
            try clear c10
            try clear c13
            try clear c14
            try clear c16
            try clear c16b0
            try clear c17
            try clear c17b0
            try clear c18
            try clear c20
            try clear c21
            try clear p22
            try clear q22
            try clear hx22
            try clear c29
            try clear c29b0
            try clear c30
            try clear hcz11_0
            try clear hcz11_1
            try clear hcz11_2
            try clear hcz15_0
            try clear hcz15_1
            try clear hcz15_2
            try clear hcz15_3
            try clear hcz15_4
            try clear hcz15_5
            try clear hcz15_6
            try clear hcz22_0
            try clear hcz22_1
            try clear hcz22_2
            try clear hfz11_0
            try clear hfz11_1
            try clear hfz11_2
            try clear hfz15_0
            try clear hfz15_1
            try clear hfz15_2
            try clear hfz15_3
            try clear hfz15_4
            try clear hfz15_5
            try clear hfz15_6
            try clear hfz22_0
            try clear hfz22_1
            try clear hfz22_2
            try clear hx227_0
            try clear hx227_1
            try clear hx227_2
            try clear hx227_3
            try clear hx227_4
            try clear hx227_5
            try clear hx227_6
            try clear p2
            try clear p227
            try clear q2
            try clear q227
            obtain ⟨kq, x84_24, rfl, HA, HJ24, HO_6, BK225, BK226, BK228, HB⟩ := hcut
            cases kq with
            | zero => exact absurd HA.out (by simp [shackleref04_Notes.j2])
            | succ kj24 =>
             have H := HA.out; clear HA; simp only [shackleref04_Notes.j2] at H
             by_cases c31 : x84_24 = true
             ·subst c31
              have H1 : ((shackleref04_at.f 4 x11_2).bind fun bt240 => (some (([] : List (S58)), bt240.1, bt240.2.1, bt240.2.2))) = some (r1, r2, r3, r4) := by rw [if_pos rfl] at H; exact H
              clear H; have H := H1; clear H1; replace H := Option.bind_eq_some_iff.mp H; obtain ⟨⟨t240, t241, t242⟩, A320, H⟩ := H; replace H : (some (([] : List (S58)), t240, t241, t242)) = some (r1, r2, r3, r4) := H; have A32 := aM A320; clear A320; simp only [Option.some.injEq, Prod.mk.injEq] at H; obtain ⟨rfl, rfl, rfl, rfl⟩ := H
              go_wp2_with (first | ((with_reducible refine gate_callee (f := 30) rfl ?_); refine goesL_ (some 86) rfl rfl Tryd.func30 (by kernel_rfl) rfl #[.int .i64 4, .int .u64 x11_2] rfl (by (try simp only [List.map_toArray, List.map_cons, List.map_nil]); first | done | rfl | (simp only [List.length_drop, List.length_take]; rfl)) ?_; (with_reducible refine (shackleref04_at.calls 4 x11_2 t240 t241 t242 _ A32.out).mono ?_); rintro e w33 ⟨rfl, hb⟩; refine ⟨_, rfl, ?_⟩; replace HO_6 := aM (Kd.S_below (by (with_reducible repeat (first | apply Kd.S_alloc | apply Kd.S_drewN | apply Kd.S_drew)); exact HO_6.out) hb); replace BK225 := aM (blk_below (g := gb225) (o := .cells #[.int .i64 a1_0, .int .u64 a1_1, .slice (some ad227) l1_2.length c1_2] 27 (0, 0)) (by (with_reducible repeat (first | refine kN ?_ _ | refine kD ?_ | refine kA ?_ _)); exact BK225.out) hb); replace BK226 := aM (blk_below (g := gb226) (o := .cells #[.int .i64 x227000_2, .bool x227001_2, .int .u64 x227002_2] 34 (0, 0)) (by (with_reducible repeat (first | refine kN ?_ _ | refine kD ?_ | refine kA ?_ _)); exact BK226.out) hb); replace BK228 := aM (blk_below (g := gb228) (o := .cells #[.int .u32 ((rd_T50 l1_2 x7_1).f0), .int .u32 ((rd_T50 l1_2 x7_1).f1), .int .u64 ((rd_T50 l1_2 x7_1).f2), .int .u64 ((rd_T50 l1_2 x7_1).f3), .int .u64 ((rd_T50 l1_2 x7_1).f4), .int .u64 ((rd_T50 l1_2 x7_1).f5), .int .u64 ((rd_T50 l1_2 x7_1).f6)] 50 (0, 0)) (by (with_reducible repeat (first | refine kN ?_ _ | refine kD ?_ | refine kA ?_ _)); exact BK228.out) hb); replace HB := aM (below_step (by repeat (first | (with_reducible first | exact HB.out | apply bA | apply bN | apply bD | refine below_set ?_ GE225.out | refine below_set ?_ GE226.out | refine below_set ?_ GE228.out) | exact HB.out)) hb); (try clear hb); (try clear hb2); (try clear hk); (try clear hi); have hnb34 := NB226_225.out; have hnc34 := NB225_226.out; have hnb35 := NB226_228.out; have hnc35 := NB228_226.out; obtain ⟨hcz36_0, hcz36_1, hcz36_2, hfz36_0, hfz36_1, hfz36_2⟩ := bx3 BK226.out))
              refine bodyPost_ret (results_tc rfl _ _ gb226 34 #[.int .i64 t240, .bool t241, .int .u64 t242] (0, 0) _ rfl (by (with_reducible repeat (first | refine kN ?_ _ | refine kD ?_ | refine kA ?_ _)); refine blk_put (cs := #[.int .i64 t240, .bool t241, .int .u64 x227002_2]) ?_ 2 _ rfl; (with_reducible repeat (first | refine kN ?_ _ | refine kD ?_ | refine kA ?_ _)); refine blk_put (cs := #[.int .i64 t240, .bool x227001_2, .int .u64 x227002_2]) ?_ 1 _ rfl; (with_reducible repeat (first | refine kN ?_ _ | refine kD ?_ | refine kA ?_ _)); refine blk_put (cs := #[.int .i64 x227000_2, .bool x227001_2, .int .u64 x227002_2]) ?_ 0 _ rfl; (with_reducible repeat (first | refine kN ?_ _ | refine kD ?_ | refine kA ?_ _)); exact BK226.out) Tryd.underlying34 rfl (by kernel_rfl)) rfl ?_; exact ⟨_, by first | rfl | (simp [errW_none, errW_some] <;> rfl) | (simp [*, errW_none, errW_some] <;> rfl), by first | exact Kd.S_nil _ _ _ _ _ | exact Kd.N_nil _ _ _ _ _ | exact Kd.V_nil _ _ _ _ _ | exact Kd.Q_nil _ _ _ _ _ | exact Kd.R_nil _ _ _ _ _, by repeat (first | (with_reducible first | exact HB.out | apply bA | apply bN | apply bD | refine below_set ?_ GE225.out | refine below_set ?_ GE226.out | refine below_set ?_ GE228.out) | exact HB.out)⟩
             ·replace c31 := Bool.eq_false_iff.mpr c31; subst c31
              have H1 : (if 0 ≤ (IntKind.u64.wrap (x11_2 + 12)) then (if (IntKind.u64.wrap (x11_2 + 12)) ≤ (IntKind.u64.wrap ((IntKind.u64.wrap (x11_2 + 12)) + t236)) then (if (IntKind.u64.wrap ((IntKind.u64.wrap (x11_2 + 12)) + t236)) ≤ (l0.length : Int) then (if t236 > 0 then (if 0 ≤ (IntKind.u64.wrap (t236 - 1)) then (if (IntKind.u64.wrap (t236 - 1)) < (((l0.take ((IntKind.u64.wrap ((IntKind.u64.wrap (x11_2 + 12)) + t236)) : Int).toNat).drop ((IntKind.u64.wrap (x11_2 + 12)) : Int).toNat).length : Int) then (shackleref04_Notes.j3 kj24 l0 x6_2 x7_1 (IntKind.u64.wrap (((rd_T50 l1_2 x7_1).f2) + ((rd_T50 l1_2 x7_1).f4))) x11_2 t236 t237 ((l0.take ((IntKind.u64.wrap ((IntKind.u64.wrap (x11_2 + 12)) + t236)) : Int).toNat).drop ((IntKind.u64.wrap (x11_2 + 12)) : Int).toNat) ((rd ((l0.take ((IntKind.u64.wrap ((IntKind.u64.wrap (x11_2 + 12)) + t236)) : Int).toNat).drop ((IntKind.u64.wrap (x11_2 + 12)) : Int).toNat) (IntKind.u64.wrap (t236 - 1))) != 0) a1_0 a1_1 l1_2) else (none)) else (none)) else (shackleref04_Notes.j3 kj24 l0 x6_2 x7_1 (IntKind.u64.wrap (((rd_T50 l1_2 x7_1).f2) + ((rd_T50 l1_2 x7_1).f4))) x11_2 t236 t237 ((l0.take ((IntKind.u64.wrap ((IntKind.u64.wrap (x11_2 + 12)) + t236)) : Int).toNat).drop ((IntKind.u64.wrap (x11_2 + 12)) : Int).toNat) false a1_0 a1_1 l1_2)) else (none)) else (none)) else (none)) = some (r1, r2, r3, r4) := by rw [if_neg (show ¬ (false = true) by decide)] at H; exact H
              clear H; have H := H1; clear H1; obtain ⟨ji37, hji37⟩ : ∃ j_ : Int, (IntKind.u64.wrap (x11_2 + 12)) = j_ := ⟨_, rfl⟩
              replace H : (if 0 ≤ (ji37) then (if (ji37) ≤ (IntKind.u64.wrap ((ji37) + t236)) then (if (IntKind.u64.wrap ((ji37) + t236)) ≤ (l0.length : Int) then (if t236 > 0 then (if 0 ≤ (IntKind.u64.wrap (t236 - 1)) then (if (IntKind.u64.wrap (t236 - 1)) < (((l0.take ((IntKind.u64.wrap ((ji37) + t236)) : Int).toNat).drop ((ji37) : Int).toNat).length : Int) then (shackleref04_Notes.j3 kj24 l0 x6_2 x7_1 (IntKind.u64.wrap (((rd_T50 l1_2 x7_1).f2) + ((rd_T50 l1_2 x7_1).f4))) x11_2 t236 t237 ((l0.take ((IntKind.u64.wrap ((ji37) + t236)) : Int).toNat).drop ((ji37) : Int).toNat) ((rd ((l0.take ((IntKind.u64.wrap ((ji37) + t236)) : Int).toNat).drop ((ji37) : Int).toNat) (IntKind.u64.wrap (t236 - 1))) != 0) a1_0 a1_1 l1_2) else (none)) else (none)) else (shackleref04_Notes.j3 kj24 l0 x6_2 x7_1 (IntKind.u64.wrap (((rd_T50 l1_2 x7_1).f2) + ((rd_T50 l1_2 x7_1).f4))) x11_2 t236 t237 ((l0.take ((IntKind.u64.wrap ((ji37) + t236)) : Int).toNat).drop ((ji37) : Int).toNat) false a1_0 a1_1 l1_2)) else (none)) else (none)) else (none)) = some (r1, r2, r3, r4) := by first | (rw [hji37] at H; exact H) | (simp only [hji37] at H ⊢; exact H)
              by_cases c38 : 0 ≤ (ji37)
              ·rw [if_pos c38] at H; have c38b0 := eq_true c38; have c38b1 : decide (0 ≤ (ji37)) = true := decide_eq_true c38; clear c38
               by_cases c39 : (ji37) ≤ (IntKind.u64.wrap ((ji37) + t236))
               ·rw [if_pos c39] at H; have c39b0 := eq_true c39; have c39b1 : decide ((ji37) ≤ (IntKind.u64.wrap ((ji37) + t236))) = true := decide_eq_true c39
                by_cases c40 : (IntKind.u64.wrap ((ji37) + t236)) ≤ (l0.length : Int)
                ·rw [if_pos c40] at H; have c40b0 := eq_true c40; have c40b1 : decide ((IntKind.u64.wrap ((ji37) + t236)) ≤ (l0.length : Int)) = true := decide_eq_true c40; have HC41 := aM H; clear H; obtain ⟨i042, hi042, _, hsz42, _⟩ := info_parts info5; obtain ⟨A42, hcut42, hA42, hC42⟩ := print_mid_of (P := Tryd.prog) (Value.int .u8) 0 22 5 .u64 .u64 Tryd.underlying22 hi042 hsz42 A0 c0 l0 (ji37) (IntKind.u64.wrap ((ji37) + t236)) (of_decide_eq_true (by first | (with_reducible assumption) | assumption)) (by first | omega | exact of_decide_eq_true (by first | (with_reducible assumption) | assumption)) (of_decide_eq_true (by first | (with_reducible assumption) | assumption)) HC0.out; have HR243 := aM (Kd.C_of_reads (h1 := fun _ => rfl) (hA42 _ (Kd.reads_of_C HR0.out))); have HC243 := aM hC42; clear hA42 hC42 hi042 hsz42
                 go_upto_region 20 with (fail)
                 go_cut [104] (fun v104 wc => ∃ (kq : Nat) (x104_40 : Bool), v104 = .bool x104_40 ∧ Aside0 (shackleref04_Notes.j3 kq l0 x6_2 x7_1 (IntKind.u64.wrap (((rd_T50 l1_2 x7_1).f2) + ((rd_T50 l1_2 x7_1).f4))) x11_2 t236 t237 ((l0.take ((IntKind.u64.wrap ((ji37) + t236)) : Int).toNat).drop ((ji37) : Int).toNat) x104_40 a1_0 a1_1 l1_2 = some (r1, r2, r3, r4)) ∧ Aside0 (kq ≤ kj24) ∧ Aside0 (Kd.S k58 58 wc w.heap.size (fun _ => True) u6 x6_2) ∧ Aside0 (wc.heap[gb225]? = some (.cells #[.int .i64 a1_0, .int .u64 a1_1, (.slice (some ad227) l1_2.length c1_2)] 27 (0, 0))) ∧ Aside0 (wc.heap[gb226]? = some (.cells #[.int .i64 x227000_2, .bool x227001_2, .int .u64 x227002_2] 34 (0, 0))) ∧ Aside0 (wc.heap[gb228]? = some (.cells #[.int .u32 ((rd_T50 l1_2 x7_1).f0), .int .u32 ((rd_T50 l1_2 x7_1).f1), .int .u64 ((rd_T50 l1_2 x7_1).f2), .int .u64 ((rd_T50 l1_2 x7_1).f3), .int .u64 ((rd_T50 l1_2 x7_1).f4), .int .u64 ((rd_T50 l1_2 x7_1).f5), .int .u64 ((rd_T50 l1_2 x7_1).f6)] 50 (0, 0))) ∧ Aside0 (Below w.heap.size w wc))
                 case first =>
                  have H := HC41.out; clear HC41
                  by_cases c43 : t236 > 0
                  ·rw [if_pos c43] at H; have c43b0 : decide (0 < t236) = true := decide_eq_true c43; clear c43
                   (first | rw [c43b0] | (simp only [i64_w, i32_w]; rw [c43b0]) | skip)
                   obtain ⟨ji44, hji44⟩ : ∃ j_ : Int, (IntKind.u64.wrap (t236 - 1)) = j_ := ⟨_, rfl⟩
                   try simp only [hji44] at hji37
                   replace H : (if 0 ≤ (ji44) then (if (ji44) < (((l0.take ((IntKind.u64.wrap ((ji37) + t236)) : Int).toNat).drop ((ji37) : Int).toNat).length : Int) then (shackleref04_Notes.j3 kj24 l0 x6_2 x7_1 (IntKind.u64.wrap (((rd_T50 l1_2 x7_1).f2) + ((rd_T50 l1_2 x7_1).f4))) x11_2 t236 t237 ((l0.take ((IntKind.u64.wrap ((ji37) + t236)) : Int).toNat).drop ((ji37) : Int).toNat) ((rd ((l0.take ((IntKind.u64.wrap ((ji37) + t236)) : Int).toNat).drop ((ji37) : Int).toNat) (ji44)) != 0) a1_0 a1_1 l1_2) else (none)) else (none)) = some (r1, r2, r3, r4) := by first | (rw [hji44] at H; exact H) | (simp only [hji44] at H ⊢; exact H)
                   by_cases c45 : 0 ≤ (ji44)
                   ·rw [if_pos c45] at H; have c45b0 : decide (0 ≤ (ji44)) = true := decide_eq_true c45; clear c45
                    by_cases c46 : (ji44) < (((l0.take ((IntKind.u64.wrap ((ji37) + t236)) : Int).toNat).drop ((ji37) : Int).toNat).length : Int)
                    ·rw [if_pos c46] at H; have c46b0 : decide ((ji44) < (((l0.take ((IntKind.u64.wrap ((ji37) + t236)) : Int).toNat).drop ((ji37) : Int).toNat).length : Int)) = true := decide_eq_true c46; clear c46; have H' := aM H; clear H; have p244 : 0 ≤ ((ji44) : Int) := of_decide_eq_true (by first | (with_reducible assumption) | assumption); have q244 : (ji44) < (((l0.take ((IntKind.u64.wrap ((ji37) + t236)) : Int).toNat).drop ((ji37) : Int).toNat).length : Int) := of_decide_eq_true (by first | (with_reducible assumption) | assumption); obtain ⟨ad244, e244, hx244_0⟩ := Kd.at_int HR243.out (ji44) p244 q244
                     cases e244
                     have hq244 : (ji44 < (((IntKind.u64.wrap (ji37 + t236)).toNat - ji37.toNat : Nat) : Int)) = True := by
                       have h_ := q244
                       rw [List.length_drop, List.length_take] at h_
                       have h2_ : (IntKind.u64.wrap (ji37 + t236)) ≤ (l0.length : Int) := of_decide_eq_true (by first | (with_reducible assumption) | assumption)
                       exact eq_true (by omega)
                     replace hx244_0 := (HB.out.cell (World.block_lt_of_cell? w _ hx244_0)).trans hx244_0; replace p244 := eq_true p244; replace q244 := eq_true q244
                     go_wp2
                     go_meet
                     case rel => exact ⟨_, (((rd ((l0.take ((IntKind.u64.wrap ((ji37) + t236)) : Int).toNat).drop ((ji37) : Int).toNat) (ji44)) != 0)), (by first | rfl | (simp; done) | (simp only [← hji37, ← hji44] <;> (first | rfl | simp)) | (simp [*]; done)), H', ⟨by have := HK1.out; have := HK2.out; have := HJ24.out; first | omega | exact Nat.le_refl _⟩, ⟨by (with_reducible repeat (first | apply Kd.S_alloc | apply Kd.S_drewN | apply Kd.S_drew)); exact HO_6.out⟩, ⟨by (with_reducible repeat (first | refine kN ?_ _ | refine kD ?_ | refine kA ?_ _)); exact BK225.out⟩, ⟨by (with_reducible repeat (first | refine kN ?_ _ | refine kD ?_ | refine kA ?_ _)); exact BK226.out⟩, ⟨by (with_reducible repeat (first | refine kN ?_ _ | refine kD ?_ | refine kA ?_ _)); exact BK228.out⟩, ⟨by repeat (first | (with_reducible first | exact HB.out | apply bA | apply bN | apply bD | refine below_set ?_ GE225.out | refine below_set ?_ GE226.out | refine below_set ?_ GE228.out) | exact HB.out)⟩⟩
                    ·rw [if_neg c46] at H; exact absurd H (by simp)
                   ·rw [if_neg c45] at H; exact absurd H (by simp)
                  ·rw [if_neg c43] at H; have c43b0 : decide (0 < t236) = false := decide_eq_false c43; clear c43
                   (first | rw [c43b0] | (simp only [i64_w, i32_w]; rw [c43b0]) | skip)
                   have H' := aM H; clear H
                   go_wp2
                   go_meet
                   case rel => exact ⟨_, (false), (by first | rfl | (simp; done) | (simp [*]; done)), H', ⟨by have := HK1.out; have := HK2.out; have := HJ24.out; first | omega | exact Nat.le_refl _⟩, ⟨by (with_reducible repeat (first | apply Kd.S_alloc | apply Kd.S_drewN | apply Kd.S_drew)); exact HO_6.out⟩, ⟨by (with_reducible repeat (first | refine kN ?_ _ | refine kD ?_ | refine kA ?_ _)); exact BK225.out⟩, ⟨by (with_reducible repeat (first | refine kN ?_ _ | refine kD ?_ | refine kA ?_ _)); exact BK226.out⟩, ⟨by (with_reducible repeat (first | refine kN ?_ _ | refine kD ?_ | refine kA ?_ _)); exact BK228.out⟩, ⟨by repeat (first | (with_reducible first | exact HB.out | apply bA | apply bN | apply bD | refine below_set ?_ GE225.out | refine below_set ?_ GE226.out | refine below_set ?_ GE228.out) | exact HB.out)⟩⟩
                 case rest =>
                  clear HC41
                  try clear c1
                  try clear c2
                  try clear p2
                  try clear q2
                  try clear hx2
                  try clear c3
                  try clear c4
                  try clear c5
                  try clear c5b0
                  try clear c6
                  try clear c6b0
                  try clear c7
                  try clear c7b0
                  try clear c7b1
                  try clear c9
                  try clear c10
                  try clear c13
                  try clear c14
                  try clear c16
                  try clear c16b0
                  try clear c17
                  try clear c17b0
                  try clear c18
                  try clear c20
                  try clear c21
                  try clear p22
                  try clear q22
                  try clear hx22
                  try clear p24
                  try clear q24
                  try clear hx24
                  try clear c29
                  try clear c29b0
                  try clear c30
                  try clear c31
                  try clear c34
                  try clear c35
                  try clear c38
                  try clear c38b0
                  try clear c38b1
                  try clear c39
                  try clear c39b0
                  try clear c39b1
                  try clear c40
                  try clear c40b0
                  try clear c40b1
                  try clear c43
                  try clear c43b0
                  try clear c44
                  try clear c45
                  try clear c45b0
                  try clear c46
                  try clear c46b0
                  try clear hcz11_0
                  try clear hcz11_1
                  try clear hcz11_2
                  try clear hcz15_0
                  try clear hcz15_1
                  try clear hcz15_2
                  try clear hcz15_3
                  try clear hcz15_4
                  try clear hcz15_5
                  try clear hcz15_6
                  try clear hcz22_0
                  try clear hcz22_1
                  try clear hcz22_2
                  try clear hcz36_0
                  try clear hcz36_1
                  try clear hcz36_2
                  try clear hfz11_0
                  try clear hfz11_1
                  try clear hfz11_2
                  try clear hfz15_0
                  try clear hfz15_1
                  try clear hfz15_2
                  try clear hfz15_3
                  try clear hfz15_4
                  try clear hfz15_5
                  try clear hfz15_6
                  try clear hfz22_0
                  try clear hfz22_1
                  try clear hfz22_2
                  try clear hfz36_0
                  try clear hfz36_1
                  try clear hfz36_2
                  try clear hx227_0
                  try clear hx227_1
                  try clear hx227_2
                  try clear hx227_3
                  try clear hx227_4
                  try clear hx227_5
                  try clear hx227_6
                  try clear hx244_0
                  try clear p2
                  try clear p22
                  try clear p227
                  try clear p244
                  try clear q2
                  try clear q22
                  try clear q227
                  try clear q244
                  obtain ⟨kq, x104_40, rfl, HA, HJ40, HO_6, BK225, BK226, BK228, HB⟩ := hcut
                  cases kq with
                  | zero => exact absurd HA.out (by simp [shackleref04_Notes.j3])
                  | succ kj40 =>
                   have H := HA.out; clear HA; simp only [shackleref04_Notes.j3] at H
                   by_cases c47 : x104_40 = true
                   ·subst c47
                    have H1 : ((shackleref04_at.f 29 x11_2).bind fun bt245 => (some (([] : List (S58)), bt245.1, bt245.2.1, bt245.2.2))) = some (r1, r2, r3, r4) := by rw [if_pos rfl] at H; exact H
                    clear H; have H := H1; clear H1; replace H := Option.bind_eq_some_iff.mp H; obtain ⟨⟨t245, t246, t247⟩, A480, H⟩ := H; replace H : (some (([] : List (S58)), t245, t246, t247)) = some (r1, r2, r3, r4) := H; have A48 := aM A480; clear A480; simp only [Option.some.injEq, Prod.mk.injEq] at H; obtain ⟨rfl, rfl, rfl, rfl⟩ := H
                    go_wp2_with (first | ((with_reducible refine gate_callee (f := 30) rfl ?_); refine goesL_ (some 106) rfl rfl Tryd.func30 (by kernel_rfl) rfl #[.int .i64 29, .int .u64 x11_2] rfl (by (try simp only [List.map_toArray, List.map_cons, List.map_nil]); first | done | rfl | (simp only [List.length_drop, List.length_take]; rfl)) ?_; (with_reducible refine (shackleref04_at.calls 29 x11_2 t245 t246 t247 _ A48.out).mono ?_); rintro e w49 ⟨rfl, hb⟩; refine ⟨_, rfl, ?_⟩; replace HO_6 := aM (Kd.S_below (by (with_reducible repeat (first | apply Kd.S_alloc | apply Kd.S_drewN | apply Kd.S_drew)); exact HO_6.out) hb); replace BK225 := aM (blk_below (g := gb225) (o := .cells #[.int .i64 a1_0, .int .u64 a1_1, .slice (some ad227) l1_2.length c1_2] 27 (0, 0)) (by (with_reducible repeat (first | refine kN ?_ _ | refine kD ?_ | refine kA ?_ _)); exact BK225.out) hb); replace BK226 := aM (blk_below (g := gb226) (o := .cells #[.int .i64 x227000_2, .bool x227001_2, .int .u64 x227002_2] 34 (0, 0)) (by (with_reducible repeat (first | refine kN ?_ _ | refine kD ?_ | refine kA ?_ _)); exact BK226.out) hb); replace BK228 := aM (blk_below (g := gb228) (o := .cells #[.int .u32 ((rd_T50 l1_2 x7_1).f0), .int .u32 ((rd_T50 l1_2 x7_1).f1), .int .u64 ((rd_T50 l1_2 x7_1).f2), .int .u64 ((rd_T50 l1_2 x7_1).f3), .int .u64 ((rd_T50 l1_2 x7_1).f4), .int .u64 ((rd_T50 l1_2 x7_1).f5), .int .u64 ((rd_T50 l1_2 x7_1).f6)] 50 (0, 0)) (by (with_reducible repeat (first | refine kN ?_ _ | refine kD ?_ | refine kA ?_ _)); exact BK228.out) hb); replace HB := aM (below_step (by repeat (first | (with_reducible first | exact HB.out | apply bA | apply bN | apply bD | refine below_set ?_ GE225.out | refine below_set ?_ GE226.out | refine below_set ?_ GE228.out) | exact HB.out)) hb); (try clear hb); (try clear hb2); (try clear hk); (try clear hi); have hnb50 := NB226_225.out; have hnc50 := NB225_226.out; have hnb51 := NB226_228.out; have hnc51 := NB228_226.out; obtain ⟨hcz52_0, hcz52_1, hcz52_2, hfz52_0, hfz52_1, hfz52_2⟩ := bx3 BK226.out))
                    refine bodyPost_ret (results_tc rfl _ _ gb226 34 #[.int .i64 t245, .bool t246, .int .u64 t247] (0, 0) _ rfl (by (with_reducible repeat (first | refine kN ?_ _ | refine kD ?_ | refine kA ?_ _)); refine blk_put (cs := #[.int .i64 t245, .bool t246, .int .u64 x227002_2]) ?_ 2 _ rfl; (with_reducible repeat (first | refine kN ?_ _ | refine kD ?_ | refine kA ?_ _)); refine blk_put (cs := #[.int .i64 t245, .bool x227001_2, .int .u64 x227002_2]) ?_ 1 _ rfl; (with_reducible repeat (first | refine kN ?_ _ | refine kD ?_ | refine kA ?_ _)); refine blk_put (cs := #[.int .i64 x227000_2, .bool x227001_2, .int .u64 x227002_2]) ?_ 0 _ rfl; (with_reducible repeat (first | refine kN ?_ _ | refine kD ?_ | refine kA ?_ _)); exact BK226.out) Tryd.underlying34 rfl (by kernel_rfl)) rfl ?_; exact ⟨_, by first | rfl | (simp [errW_none, errW_some] <;> rfl) | (simp only [← hji37]; first | rfl | (simp [errW_none, errW_some] <;> rfl)) | (simp [*, errW_none, errW_some] <;> rfl), by first | exact Kd.S_nil _ _ _ _ _ | exact Kd.N_nil _ _ _ _ _ | exact Kd.V_nil _ _ _ _ _ | exact Kd.Q_nil _ _ _ _ _ | exact Kd.R_nil _ _ _ _ _, by repeat (first | (with_reducible first | exact HB.out | apply bA | apply bN | apply bD | refine below_set ?_ GE225.out | refine below_set ?_ GE226.out | refine below_set ?_ GE228.out) | exact HB.out)⟩
                   ·replace c47 := Bool.eq_false_iff.mpr c47; subst c47
                    have H1 : ((shackleref04_num.f kj40 l0 (IntKind.u64.wrap (x11_2 + 8)) 4).bind fun t248 => (if t236 > 0 then (if 0 ≤ (IntKind.u64.wrap (t236 - 1)) then (if (IntKind.u64.wrap (t236 - 1)) ≤ (((l0.take ((IntKind.u64.wrap ((ji37) + t236)) : Int).toNat).drop ((ji37) : Int).toNat).length : Int) then (shackleref04_Notes.j4 kj40 l0 x6_2 x7_1 (IntKind.u64.wrap (((rd_T50 l1_2 x7_1).f2) + ((rd_T50 l1_2 x7_1).f4))) x11_2 t236 t237 a1_0 a1_1 l1_2 (strOfNums (((l0.take ((IntKind.u64.wrap ((ji37) + t236)) : Int).toNat).drop ((ji37) : Int).toNat).take ((IntKind.u64.wrap (t236 - 1)) : Int).toNat)) ((t248) % 4294967296)) else (none)) else (none)) else (shackleref04_Notes.j4 kj40 l0 x6_2 x7_1 (IntKind.u64.wrap (((rd_T50 l1_2 x7_1).f2) + ((rd_T50 l1_2 x7_1).f4))) x11_2 t236 t237 a1_0 a1_1 l1_2 (⟨#[]⟩ : ByteArray) ((t248) % 4294967296)))) = some (r1, r2, r3, r4) := by rw [if_neg (show ¬ (false = true) by decide)] at H; exact H
                    clear H; have H := H1; clear H1; replace H := Option.bind_eq_some_iff.mp H; obtain ⟨t248, A530, H⟩ := H; replace H : (if t236 > 0 then (if 0 ≤ (IntKind.u64.wrap (t236 - 1)) then (if (IntKind.u64.wrap (t236 - 1)) ≤ (((l0.take ((IntKind.u64.wrap ((ji37) + t236)) : Int).toNat).drop ((ji37) : Int).toNat).length : Int) then (shackleref04_Notes.j4 kj40 l0 x6_2 x7_1 (IntKind.u64.wrap (((rd_T50 l1_2 x7_1).f2) + ((rd_T50 l1_2 x7_1).f4))) x11_2 t236 t237 a1_0 a1_1 l1_2 (strOfNums (((l0.take ((IntKind.u64.wrap ((ji37) + t236)) : Int).toNat).drop ((ji37) : Int).toNat).take ((IntKind.u64.wrap (t236 - 1)) : Int).toNat)) ((t248) % 4294967296)) else (none)) else (none)) else (shackleref04_Notes.j4 kj40 l0 x6_2 x7_1 (IntKind.u64.wrap (((rd_T50 l1_2 x7_1).f2) + ((rd_T50 l1_2 x7_1).f4))) x11_2 t236 t237 a1_0 a1_1 l1_2 (⟨#[]⟩ : ByteArray) ((t248) % 4294967296))) = some (r1, r2, r3, r4) := H; have A53 := aM A530; clear A530; have HC54 := aM H; clear H
                    go_upto_if 114 with (first | ((with_reducible refine gate_callee (f := 29) rfl ?_); refine goesL_ (some 110) rfl rfl Tryd.func29 (by kernel_rfl) rfl #[.slice A0 l0.length c0, .int .u64 (IntKind.u64.wrap (x11_2 + 8)), .int .i64 4] rfl (by (try simp only [List.map_toArray, List.map_cons, List.map_nil]); first | done | rfl | (simp only [List.length_drop, List.length_take]; rfl)) ?_; (with_reducible refine (shackleref04_num.calls kj40 _ _ l0 (IntKind.u64.wrap (x11_2 + 8)) 4 t248 _ ?side1 ?side2 A53.out).mono ?_); (case side1 => repeat (first | exact (Kd.C_below HR0.out HB.out) | (with_reducible refine cA ?_ _) | (with_reducible refine cN ?_ _) | (with_reducible refine cD ?_))); (case side2 => exact HC0.out); rintro e w55 ⟨rfl, hb⟩; refine ⟨_, rfl, ?_⟩; replace HO_6 := aM (Kd.S_below (by (with_reducible repeat (first | apply Kd.S_alloc | apply Kd.S_drewN | apply Kd.S_drew)); exact HO_6.out) hb); replace BK225 := aM (blk_below (g := gb225) (o := .cells #[.int .i64 a1_0, .int .u64 a1_1, .slice (some ad227) l1_2.length c1_2] 27 (0, 0)) (by (with_reducible repeat (first | refine kN ?_ _ | refine kD ?_ | refine kA ?_ _)); exact BK225.out) hb); replace BK226 := aM (blk_below (g := gb226) (o := .cells #[.int .i64 x227000_2, .bool x227001_2, .int .u64 x227002_2] 34 (0, 0)) (by (with_reducible repeat (first | refine kN ?_ _ | refine kD ?_ | refine kA ?_ _)); exact BK226.out) hb); replace BK228 := aM (blk_below (g := gb228) (o := .cells #[.int .u32 ((rd_T50 l1_2 x7_1).f0), .int .u32 ((rd_T50 l1_2 x7_1).f1), .int .u64 ((rd_T50 l1_2 x7_1).f2), .int .u64 ((rd_T50 l1_2 x7_1).f3), .int .u64 ((rd_T50 l1_2 x7_1).f4), .int .u64 ((rd_T50 l1_2 x7_1).f5), .int .u64 ((rd_T50 l1_2 x7_1).f6)] 50 (0, 0)) (by (with_reducible repeat (first | refine kN ?_ _ | refine kD ?_ | refine kA ?_ _)); exact BK228.out) hb); replace HB := aM (below_step (by repeat (first | (with_reducible first | exact HB.out | apply bA | apply bN | apply bD | refine below_set ?_ GE225.out | refine below_set ?_ GE226.out | refine below_set ?_ GE228.out) | exact HB.out)) hb); (try clear hb); (try clear hb2); (try clear hk); (try clear hi)) | ((with_reducible refine gate_dst (N := 15) rfl ?_); refine box_event ?hg (N := 15) ?hd (cs := #[.string (⟨#[]⟩ : ByteArray), .int .u32 0, .slice none 0 0]) (t := 58) ?hr ?_; (case hd => rfl); (case hg => rfl); (case hr => first | (go_simp; done) | (go_simp; rfl)); intro gb249 hg w56 hbox hb; replace HO_6 := aM (Kd.S_below (Kd.S_elderB (by (with_reducible repeat (first | apply Kd.S_alloc | apply Kd.S_drewN | apply Kd.S_drew)); exact HO_6.out) gb249 (Nat.le_of_eq hg.symm)) hb); have BK249 := aM (hbox); have GW249 := aM ((by rw [hg]; exact (below_size (by repeat (first | (with_reducible first | exact HB.out | apply bA | apply bN | apply bD | refine below_set ?_ GE225.out | refine below_set ?_ GE226.out | refine below_set ?_ GE228.out) | exact HB.out))) : w.heap.size ≤ gb249)); have GE249 := aM ((by rw [hg]; exact (below_size (by repeat (first | (with_reducible first | exact HB.out | apply bA | apply bN | apply bD | refine below_set ?_ GE225.out | refine below_set ?_ GE226.out | refine below_set ?_ GE228.out) | exact HB.out))) : w.heap.size ≤ gb249)); replace HB := aM (below_step (by repeat (first | (with_reducible first | exact HB.out | apply bA | apply bN | apply bD | refine below_set ?_ GE225.out | refine below_set ?_ GE226.out | refine below_set ?_ GE228.out) | exact HB.out)) hb); have NB225_249 := aM ((by rw [hg]; exact Nat.ne_of_lt (blk_lt (by (with_reducible repeat (first | refine kN ?_ _ | refine kD ?_ | refine kA ?_ _)); exact BK225.out)) : gb225 ≠ gb249)); have NB249_225 := aM ((by rw [hg]; exact Nat.ne_of_gt (blk_lt (by (with_reducible repeat (first | refine kN ?_ _ | refine kD ?_ | refine kA ?_ _)); exact BK225.out)) : gb249 ≠ gb225)); replace BK225 := aM (blk_below (g := gb225) (o := .cells #[.int .i64 a1_0, .int .u64 a1_1, .slice (some ad227) l1_2.length c1_2] 27 (0, 0)) (by (with_reducible repeat (first | refine kN ?_ _ | refine kD ?_ | refine kA ?_ _)); exact BK225.out) hb); have NB226_249 := aM ((by rw [hg]; exact Nat.ne_of_lt (blk_lt (by (with_reducible repeat (first | refine kN ?_ _ | refine kD ?_ | refine kA ?_ _)); exact BK226.out)) : gb226 ≠ gb249)); have NB249_226 := aM ((by rw [hg]; exact Nat.ne_of_gt (blk_lt (by (with_reducible repeat (first | refine kN ?_ _ | refine kD ?_ | refine kA ?_ _)); exact BK226.out)) : gb249 ≠ gb226)); replace BK226 := aM (blk_below (g := gb226) (o := .cells #[.int .i64 x227000_2, .bool x227001_2, .int .u64 x227002_2] 34 (0, 0)) (by (with_reducible repeat (first | refine kN ?_ _ | refine kD ?_ | refine kA ?_ _)); exact BK226.out) hb); have NB228_249 := aM ((by rw [hg]; exact Nat.ne_of_lt (blk_lt (by (with_reducible repeat (first | refine kN ?_ _ | refine kD ?_ | refine kA ?_ _)); exact BK228.out)) : gb228 ≠ gb249)); have NB249_228 := aM ((by rw [hg]; exact Nat.ne_of_gt (blk_lt (by (with_reducible repeat (first | refine kN ?_ _ | refine kD ?_ | refine kA ?_ _)); exact BK228.out)) : gb249 ≠ gb228)); replace BK228 := aM (blk_below (g := gb228) (o := .cells #[.int .u32 ((rd_T50 l1_2 x7_1).f0), .int .u32 ((rd_T50 l1_2 x7_1).f1), .int .u64 ((rd_T50 l1_2 x7_1).f2), .int .u64 ((rd_T50 l1_2 x7_1).f3), .int .u64 ((rd_T50 l1_2 x7_1).f4), .int .u64 ((rd_T50 l1_2 x7_1).f5), .int .u64 ((rd_T50 l1_2 x7_1).f6)] 50 (0, 0)) (by (with_reducible repeat (first | refine kN ?_ _ | refine kD ?_ | refine kA ?_ _)); exact BK228.out) hb); clear hb hbox hg; have hnb57 := NB249_225.out; have hnc57 := NB225_249.out; have hnb58 := NB249_226.out; have hnc58 := NB226_249.out; have hnb59 := NB249_228.out; have hnc59 := NB228_249.out; obtain ⟨hcz60_0, hcz60_1, hcz60_2, hfz60_0, hfz60_1, hfz60_2⟩ := bx3 BK249.out))
                    (try simp only [Act.put, sA, sZ, sS])
                    go_cut [] (fun wc => ∃ (kq : Nat) (x250000_53 : ByteArray), Aside0 (shackleref04_Notes.j4 kq l0 x6_2 x7_1 (IntKind.u64.wrap (((rd_T50 l1_2 x7_1).f2) + ((rd_T50 l1_2 x7_1).f4))) x11_2 t236 t237 a1_0 a1_1 l1_2 x250000_53 ((t248) % 4294967296) = some (r1, r2, r3, r4)) ∧ Aside0 (kq ≤ kj40) ∧ Aside0 (Kd.S k58 58 wc w.heap.size (fun k_ => k_ ≠ gb249) u6 x6_2) ∧ Aside0 (wc.heap[gb225]? = some (.cells #[.int .i64 a1_0, .int .u64 a1_1, (.slice (some ad227) l1_2.length c1_2)] 27 (0, 0))) ∧ Aside0 (wc.heap[gb226]? = some (.cells #[.int .i64 x227000_2, .bool x227001_2, .int .u64 x227002_2] 34 (0, 0))) ∧ Aside0 (wc.heap[gb228]? = some (.cells #[.int .u32 ((rd_T50 l1_2 x7_1).f0), .int .u32 ((rd_T50 l1_2 x7_1).f1), .int .u64 ((rd_T50 l1_2 x7_1).f2), .int .u64 ((rd_T50 l1_2 x7_1).f3), .int .u64 ((rd_T50 l1_2 x7_1).f4), .int .u64 ((rd_T50 l1_2 x7_1).f5), .int .u64 ((rd_T50 l1_2 x7_1).f6)] 50 (0, 0))) ∧ Aside0 (wc.heap[gb249]? = some (.cells #[.string x250000_53, .int .u32 ((t248) % 4294967296), (.slice none 0 0)] 58 (0, 0))) ∧ Aside0 (Below w.heap.size w wc))
                    case first =>
                     have H := HC54.out; clear HC54
                     by_cases c61 : t236 > 0
                     ·rw [if_pos c61] at H; have c61b0 : decide (0 < t236) = true := decide_eq_true c61; clear c61
                      (first | rw [c61b0] | (simp only [i64_w, i32_w]; rw [c61b0]) | skip)
                      obtain ⟨ji62, hji62⟩ : ∃ j_ : Int, (IntKind.u64.wrap (t236 - 1)) = j_ := ⟨_, rfl⟩
                      try simp only [hji62] at hji37
                      try simp only [hji62] at hji44
                      replace H : (if 0 ≤ (ji62) then (if (ji62) ≤ (((l0.take ((IntKind.u64.wrap ((ji37) + t236)) : Int).toNat).drop ((ji37) : Int).toNat).length : Int) then (shackleref04_Notes.j4 kj40 l0 x6_2 x7_1 (IntKind.u64.wrap (((rd_T50 l1_2 x7_1).f2) + ((rd_T50 l1_2 x7_1).f4))) x11_2 t236 t237 a1_0 a1_1 l1_2 (strOfNums (((l0.take ((IntKind.u64.wrap ((ji37) + t236)) : Int).toNat).drop ((ji37) : Int).toNat).take ((ji62) : Int).toNat)) ((t248) % 4294967296)) else (none)) else (none)) = some (r1, r2, r3, r4) := by first | (rw [hji62] at H; exact H) | (simp only [hji62] at H ⊢; exact H)
                      by_cases c63 : 0 ≤ (ji62)
                      ·rw [if_pos c63] at H; have c63b0 := eq_true c63; have c63b1 : decide (0 ≤ (ji62)) = true := decide_eq_true c63; clear c63
                       by_cases c64 : (ji62) ≤ (((l0.take ((IntKind.u64.wrap ((ji37) + t236)) : Int).toNat).drop ((ji37) : Int).toNat).length : Int)
                       ·rw [if_pos c64] at H; have c64b0 := eq_true c64; have c64b1 : decide ((ji62) ≤ (((l0.take ((IntKind.u64.wrap ((ji37) + t236)) : Int).toNat).drop ((ji37) : Int).toNat).length : Int)) = true := decide_eq_true c64; have H' := aM H; clear H; obtain ⟨i065, hi065, _, hsz65, _⟩ := info_parts info5; obtain ⟨hcut65, hA65, hC65⟩ := print_take_of (P := Tryd.prog) (Value.int .u8) 0 22 5 .u64 Tryd.underlying22 hi065 hsz65 A42 (c0 - (ji37).toNat) ((l0.take ((IntKind.u64.wrap ((ji37) + t236)) : Int).toNat).drop ((ji37) : Int).toNat) (ji62) (of_decide_eq_true (by first | (with_reducible assumption) | assumption)) (of_decide_eq_true (by first | (with_reducible assumption) | assumption)) HC243.out
                        have hq65 : (ji62 ≤ ((c0 - (ji37 : Int).toNat : Nat) : Int)) := by
                          have h_ : (ji62 : Int) ≤ (((l0.take ((IntKind.u64.wrap ((ji37) + t236)) : Int).toNat).drop ((ji37) : Int).toNat).length : Int) := of_decide_eq_true (by first | (with_reducible assumption) | assumption)
                          have h2_ := HC243.out
                          omega
                        have HR250 := aM (Kd.C_of_reads (h1 := fun _ => rfl) (hA65 _ (Kd.reads_of_C HR243.out))); have HC250 := aM hC65; clear hA65 hC65 hi065 hsz65; have hcv66 := Kd.C_string (P := Tryd.prog) (w := (((w56.setCell ⟨gb249, 0, none⟩ (.string ⟨#[]⟩)).setCell ⟨gb249, 1, none⟩ (.int .u32 (t248 % 4294967296))).setCell ⟨gb249, 2, none⟩ (.slice none 0 0))) (A := A42) (c := (c0 - (ji37).toNat)) Tryd.underlying22 Tryd.underlying5 Tryd.underlying9 (Kd.C_below HR250.out (by repeat (first | exact HB.out | refine below_set ?_ GE249.out)))
                        have hcv66n := fun nq => Kd.C_string (P := Tryd.prog) (A := A42) (c := (c0 - (ji37).toNat)) Tryd.underlying22 Tryd.underlying5 Tryd.underlying9 (Kd.C_drewN (Kd.C_below HR250.out HB.out) nq)
                        (try rw [show (((l0.take ((IntKind.u64.wrap ((ji37) + t236)) : Int).toNat).drop ((ji37) : Int).toNat).take ((ji62) : Int).toNat).length = (ji62).toNat from (by rw [List.length_take]; have h_ : ((ji62) : Int) ≤ (((l0.take ((IntKind.u64.wrap ((ji37) + t236)) : Int).toNat).drop ((ji37) : Int).toNat).length : Int) := of_decide_eq_true (by first | (with_reducible assumption) | assumption); omega)] at hcv66)
                        (try rw [show (((l0.take ((IntKind.u64.wrap ((ji37) + t236)) : Int).toNat).drop ((ji37) : Int).toNat).take ((ji62) : Int).toNat).length = (ji62).toNat from (by rw [List.length_take]; have h_ : ((ji62) : Int) ≤ (((l0.take ((IntKind.u64.wrap ((ji37) + t236)) : Int).toNat).drop ((ji37) : Int).toNat).length : Int) := of_decide_eq_true (by first | (with_reducible assumption) | assumption); omega)] at hcv66n)
                        have hnb67 := NB249_225.out; have hnc67 := NB225_249.out; have hnb68 := NB249_226.out; have hnc68 := NB226_249.out; have hnb69 := NB249_228.out; have hnc69 := NB228_249.out; obtain ⟨hcz70_0, hcz70_1, hcz70_2, hfz70_0, hfz70_1, hfz70_2⟩ := bx3 BK249.out
                        go_wp2
                        go_meet
                        case rel => exact ⟨_, (strOfNums (((l0.take ((IntKind.u64.wrap ((ji37) + t236)) : Int).toNat).drop ((ji37) : Int).toNat).take ((ji62) : Int).toNat)), H', ⟨by have := HK1.out; have := HK2.out; have := HJ24.out; have := HJ40.out; first | omega | exact Nat.le_refl _⟩, ⟨by (with_reducible repeat (first | apply Kd.S_alloc | apply Kd.S_drewN | apply Kd.S_drew)); exact Kd.S_mono (Kd.S_far (p := ⟨gb249, 0, none⟩) (Kd.S_far (p := ⟨gb249, 2, none⟩) (Kd.S_far (p := ⟨gb249, 1, none⟩) (Kd.S_far (p := ⟨gb249, 0, none⟩) (Kd.S_mono HO_6.out (fun k_ hk => (⟨hk, hk.2⟩ : _ ∧ k_ ≠ gb249))) (fun _ hk => hk.2) (.string (⟨#[]⟩ : ByteArray))) (fun _ hk => hk.2) (.int .u32 ((t248) % 4294967296))) (fun _ hk => hk.2) (.slice none 0 0)) (fun _ hk => hk.2) (.string (strOfNums (((l0.take ((IntKind.u64.wrap ((ji37) + t236)) : Int).toNat).drop ((ji37) : Int).toNat).take ((ji62) : Int).toNat)))) (fun _ hk => hk.1.2)⟩, ⟨by (with_reducible repeat (first | refine kN ?_ _ | refine kD ?_ | refine kA ?_ _)); refine blk_far ?_ NB225_249.out _; (with_reducible repeat (first | refine kN ?_ _ | refine kD ?_ | refine kA ?_ _)); refine blk_far ?_ NB225_249.out _; (with_reducible repeat (first | refine kN ?_ _ | refine kD ?_ | refine kA ?_ _)); refine blk_far ?_ NB225_249.out _; (with_reducible repeat (first | refine kN ?_ _ | refine kD ?_ | refine kA ?_ _)); refine blk_far ?_ NB225_249.out _; (with_reducible repeat (first | refine kN ?_ _ | refine kD ?_ | refine kA ?_ _)); exact BK225.out⟩, ⟨by (with_reducible repeat (first | refine kN ?_ _ | refine kD ?_ | refine kA ?_ _)); refine blk_far ?_ NB226_249.out _; (with_reducible repeat (first | refine kN ?_ _ | refine kD ?_ | refine kA ?_ _)); refine blk_far ?_ NB226_249.out _; (with_reducible repeat (first | refine kN ?_ _ | refine kD ?_ | refine kA ?_ _)); refine blk_far ?_ NB226_249.out _; (with_reducible repeat (first | refine kN ?_ _ | refine kD ?_ | refine kA ?_ _)); refine blk_far ?_ NB226_249.out _; (with_reducible repeat (first | refine kN ?_ _ | refine kD ?_ | refine kA ?_ _)); exact BK226.out⟩, ⟨by (with_reducible repeat (first | refine kN ?_ _ | refine kD ?_ | refine kA ?_ _)); refine blk_far ?_ NB228_249.out _; (with_reducible repeat (first | refine kN ?_ _ | refine kD ?_ | refine kA ?_ _)); refine blk_far ?_ NB228_249.out _; (with_reducible repeat (first | refine kN ?_ _ | refine kD ?_ | refine kA ?_ _)); refine blk_far ?_ NB228_249.out _; (with_reducible repeat (first | refine kN ?_ _ | refine kD ?_ | refine kA ?_ _)); refine blk_far ?_ NB228_249.out _; (with_reducible repeat (first | refine kN ?_ _ | refine kD ?_ | refine kA ?_ _)); exact BK228.out⟩, ⟨by (with_reducible repeat (first | refine kN ?_ _ | refine kD ?_ | refine kA ?_ _)); refine blk_put (cs := #[.string (⟨#[]⟩ : ByteArray), .int .u32 ((t248) % 4294967296), .slice none 0 0]) ?_ 0 _ rfl; (with_reducible repeat (first | refine kN ?_ _ | refine kD ?_ | refine kA ?_ _)); refine blk_put (cs := #[.string (⟨#[]⟩ : ByteArray), .int .u32 ((t248) % 4294967296), .slice none 0 0]) ?_ 2 _ rfl; (with_reducible repeat (first | refine kN ?_ _ | refine kD ?_ | refine kA ?_ _)); refine blk_put (cs := #[.string (⟨#[]⟩ : ByteArray), .int .u32 0, .slice none 0 0]) ?_ 1 _ rfl; (with_reducible repeat (first | refine kN ?_ _ | refine kD ?_ | refine kA ?_ _)); refine blk_put (cs := #[.string (⟨#[]⟩ : ByteArray), .int .u32 0, .slice none 0 0]) ?_ 0 _ rfl; (with_reducible repeat (first | refine kN ?_ _ | refine kD ?_ | refine kA ?_ _)); exact BK249.out⟩, ⟨by repeat (first | (with_reducible first | exact HB.out | apply bA | apply bN | apply bD | refine below_set ?_ GE225.out | refine below_set ?_ GE226.out | refine below_set ?_ GE228.out | refine below_set ?_ GE249.out) | exact HB.out)⟩⟩
                       ·rw [if_neg c64] at H; exact absurd H (by simp)
                      ·rw [if_neg c63] at H; exact absurd H (by simp)
                     ·rw [if_neg c61] at H; have c61b0 : decide (0 < t236) = false := decide_eq_false c61; clear c61
                      (first | rw [c61b0] | (simp only [i64_w, i32_w]; rw [c61b0]) | skip)
                      have H' := aM H; clear H
                      go_wp2
                      go_meet
                      case rel => exact ⟨_, ((⟨#[]⟩ : ByteArray)), H', ⟨by have := HK1.out; have := HK2.out; have := HJ24.out; have := HJ40.out; first | omega | exact Nat.le_refl _⟩, ⟨by (with_reducible repeat (first | apply Kd.S_alloc | apply Kd.S_drewN | apply Kd.S_drew)); exact Kd.S_mono (Kd.S_far (p := ⟨gb249, 2, none⟩) (Kd.S_far (p := ⟨gb249, 1, none⟩) (Kd.S_far (p := ⟨gb249, 0, none⟩) (Kd.S_mono HO_6.out (fun k_ hk => (⟨hk, hk.2⟩ : _ ∧ k_ ≠ gb249))) (fun _ hk => hk.2) (.string (⟨#[]⟩ : ByteArray))) (fun _ hk => hk.2) (.int .u32 ((t248) % 4294967296))) (fun _ hk => hk.2) (.slice none 0 0)) (fun _ hk => hk.1.2)⟩, ⟨by (with_reducible repeat (first | refine kN ?_ _ | refine kD ?_ | refine kA ?_ _)); refine blk_far ?_ NB225_249.out _; (with_reducible repeat (first | refine kN ?_ _ | refine kD ?_ | refine kA ?_ _)); refine blk_far ?_ NB225_249.out _; (with_reducible repeat (first | refine kN ?_ _ | refine kD ?_ | refine kA ?_ _)); refine blk_far ?_ NB225_249.out _; (with_reducible repeat (first | refine kN ?_ _ | refine kD ?_ | refine kA ?_ _)); exact BK225.out⟩, ⟨by (with_reducible repeat (first | refine kN ?_ _ | refine kD ?_ | refine kA ?_ _)); refine blk_far ?_ NB226_249.out _; (with_reducible repeat (first | refine kN ?_ _ | refine kD ?_ | refine kA ?_ _)); refine blk_far ?_ NB226_249.out _; (with_reducible repeat (first | refine kN ?_ _ | refine kD ?_ | refine kA ?_ _)); refine blk_far ?_ NB226_249.out _; (with_reducible repeat (first | refine kN ?_ _ | refine kD ?_ | refine kA ?_ _)); exact BK226.out⟩, ⟨by (with_reducible repeat (first | refine kN ?_ _ | refine kD ?_ | refine kA ?_ _)); refine blk_far ?_ NB228_249.out _; (with_reducible repeat (first | refine kN ?_ _ | refine kD ?_ | refine kA ?_ _)); refine blk_far ?_ NB228_249.out _; (with_reducible repeat (first | refine kN ?_ _ | refine kD ?_ | refine kA ?_ _)); refine blk_far ?_ NB228_249.out _; (with_reducible repeat (first | refine kN ?_ _ | refine kD ?_ | refine kA ?_ _)); exact BK228.out⟩, ⟨by (with_reducible repeat (first | refine kN ?_ _ | refine kD ?_ | refine kA ?_ _)); refine blk_put (cs := #[.string (⟨#[]⟩ : ByteArray), .int .u32 ((t248) % 4294967296), .slice none 0 0]) ?_ 2 _ rfl; (with_reducible repeat (first | refine kN ?_ _ | refine kD ?_ | refine kA ?_ _)); refine blk_put (cs := #[.string (⟨#[]⟩ : ByteArray), .int .u32 0, .slice none 0 0]) ?_ 1 _ rfl; (with_reducible repeat (first | refine kN ?_ _ | refine kD ?_ | refine kA ?_ _)); refine blk_put (cs := #[.string (⟨#[]⟩ : ByteArray), .int .u32 0, .slice none 0 0]) ?_ 0 _ rfl; (with_reducible repeat (first | refine kN ?_ _ | refine kD ?_ | refine kA ?_ _)); exact BK249.out⟩, ⟨by repeat (first | (with_reducible first | exact HB.out | apply bA | apply bN | apply bD | refine below_set ?_ GE225.out | refine below_set ?_ GE226.out | refine below_set ?_ GE228.out | refine below_set ?_ GE249.out) | exact HB.out)⟩⟩
                    case rest =>
                     clear HC54
                     try clear c1
                     try clear c2
                     try clear p2
                     try clear q2
                     try clear hx2
                     try clear c3
                     try clear c4
                     try clear c5
                     try clear c5b0
                     try clear c6
                     try clear c6b0
                     try clear hcv6
                     try clear c7
                     try clear c7b0
                     try clear c7b1
                     try clear c9
                     try clear c10
                     try clear c13
                     try clear c14
                     try clear c16
                     try clear c16b0
                     try clear c17
                     try clear c17b0
                     try clear c18
                     try clear c20
                     try clear c21
                     try clear p22
                     try clear q22
                     try clear hx22
                     try clear p24
                     try clear q24
                     try clear hx24
                     try clear c29
                     try clear c29b0
                     try clear c30
                     try clear c31
                     try clear c34
                     try clear c35
                     try clear c38
                     try clear c38b0
                     try clear c38b1
                     try clear c39
                     try clear c39b0
                     try clear c39b1
                     try clear c40
                     try clear c40b0
                     try clear c40b1
                     try clear c43
                     try clear c43b0
                     try clear c44
                     try clear c45
                     try clear c45b0
                     try clear c46
                     try clear c46b0
                     try clear c47
                     try clear c50
                     try clear c51
                     try clear c57
                     try clear c58
                     try clear c59
                     try clear c61
                     try clear c61b0
                     try clear c63
                     try clear c63b0
                     try clear c63b1
                     try clear c64
                     try clear c64b0
                     try clear c64b1
                     try clear hcv66
                     try clear hcv66n
                     try clear c67
                     try clear c68
                     try clear c69
                     try clear hcz11_0
                     try clear hcz11_1
                     try clear hcz11_2
                     try clear hcz15_0
                     try clear hcz15_1
                     try clear hcz15_2
                     try clear hcz15_3
                     try clear hcz15_4
                     try clear hcz15_5
                     try clear hcz15_6
                     try clear hcz22_0
                     try clear hcz22_1
                     try clear hcz22_2
                     try clear hcz36_0
                     try clear hcz36_1
                     try clear hcz36_2
                     try clear hcz52_0
                     try clear hcz52_1
                     try clear hcz52_2
                     try clear hcz60_0
                     try clear hcz60_1
                     try clear hcz60_2
                     try clear hcz70_0
                     try clear hcz70_1
                     try clear hcz70_2
                     try clear hfz11_0
                     try clear hfz11_1
                     try clear hfz11_2
                     try clear hfz15_0
                     try clear hfz15_1
                     try clear hfz15_2
                     try clear hfz15_3
                     try clear hfz15_4
                     try clear hfz15_5
                     try clear hfz15_6
                     try clear hfz22_0
                     try clear hfz22_1
                     try clear hfz22_2
                     try clear hfz36_0
                     try clear hfz36_1
                     try clear hfz36_2
                     try clear hfz52_0
                     try clear hfz52_1
                     try clear hfz52_2
                     try clear hfz60_0
                     try clear hfz60_1
                     try clear hfz60_2
                     try clear hfz70_0
                     try clear hfz70_1
                     try clear hfz70_2
                     try clear hx227_0
                     try clear hx227_1
                     try clear hx227_2
                     try clear hx227_3
                     try clear hx227_4
                     try clear hx227_5
                     try clear hx227_6
                     try clear hx244_0
                     try clear p2
                     try clear p22
                     try clear p227
                     try clear p24
                     try clear p244
                     try clear q2
                     try clear q22
                     try clear q227
                     try clear q24
                     try clear q244
                     obtain ⟨kq, x250000_53, HA, HJ53, HO_6, BK225, BK226, BK228, BK249, HB⟩ := hcut
                     cases kq with
                     | zero => exact absurd HA.out (by simp [shackleref04_Notes.j4])
                     | succ kj53 =>
                      have H := HA.out; clear HA; simp only [shackleref04_Notes.j4] at H; replace H := Option.bind_eq_some_iff.mp H; obtain ⟨t251, A710, H⟩ := H; replace H : ((shackleref01_Cut.f kj53 l0 (IntKind.u64.wrap ((IntKind.u64.wrap (x11_2 + 12)) + t251)) t237).bind fun bt252 => (if x6_2.length < 2932031007402 then ((shackleref04_four.f t236).bind fun t259 => ((shackleref04_four.f t237).bind fun t260 => (shackleref04_Notes.l1 kj53 l0 (x6_2 ++ [(⟨x250000_53, ((t248) % 4294967296), bt252.1⟩ : S58)]) x7_1 (IntKind.u64.wrap (((rd_T50 l1_2 x7_1).f2) + ((rd_T50 l1_2 x7_1).f4))) (IntKind.u64.wrap ((IntKind.u64.wrap ((IntKind.u64.wrap (x11_2 + 12)) + t259)) + t260)) a1_0 a1_1 l1_2))) else (none))) = some (r1, r2, r3, r4) := H; have A71 := aM A710; clear A710; replace H := Option.bind_eq_some_iff.mp H; obtain ⟨⟨t252, t253⟩, A720, H⟩ := H; replace H : (if x6_2.length < 2932031007402 then ((shackleref04_four.f t236).bind fun t259 => ((shackleref04_four.f t237).bind fun t260 => (shackleref04_Notes.l1 kj53 l0 (x6_2 ++ [(⟨x250000_53, ((t248) % 4294967296), t252⟩ : S58)]) x7_1 (IntKind.u64.wrap (((rd_T50 l1_2 x7_1).f2) + ((rd_T50 l1_2 x7_1).f4))) (IntKind.u64.wrap ((IntKind.u64.wrap ((IntKind.u64.wrap (x11_2 + 12)) + t259)) + t260)) a1_0 a1_1 l1_2))) else (none)) = some (r1, r2, r3, r4) := H; rw [hji37] at A720; have A72 := aM A720; clear A720
                      by_cases c73 : x6_2.length < 2932031007402
                      ·rw [if_pos c73] at H; have LMc73 := aM c73; clear c73; obtain ⟨y256, hy256⟩ : ∃ y_ : List (S58), y_ = (x6_2 ++ [(⟨x250000_53, ((t248) % 4294967296), t252⟩ : S58)]) := ⟨_, rfl⟩
                       replace H : ((shackleref04_four.f t236).bind fun t259 => ((shackleref04_four.f t237).bind fun t260 => (shackleref04_Notes.l1 kj53 l0 y256 x7_1 (IntKind.u64.wrap (((rd_T50 l1_2 x7_1).f2) + ((rd_T50 l1_2 x7_1).f4))) (IntKind.u64.wrap ((IntKind.u64.wrap ((IntKind.u64.wrap (x11_2 + 12)) + t259)) + t260)) a1_0 a1_1 l1_2))) = some (r1, r2, r3, r4) := by first | (rw [hy256]; with_reducible exact H) | (have H2_ := (Option.bind_some _ _).symm.trans H; rw [hy256]; with_reducible exact H2_) | (have H2_ := (Option.bind_some _ _).symm.trans H; with_reducible exact H2_) | with_reducible exact H | (rw [hy256]; exact H) | exact H
                       have Ny256 := aM hy256; clear hy256; replace H := Option.bind_eq_some_iff.mp H; obtain ⟨t259, A740, H⟩ := H; replace H : ((shackleref04_four.f t237).bind fun t260 => (shackleref04_Notes.l1 kj53 l0 y256 x7_1 (IntKind.u64.wrap (((rd_T50 l1_2 x7_1).f2) + ((rd_T50 l1_2 x7_1).f4))) (IntKind.u64.wrap ((IntKind.u64.wrap ((IntKind.u64.wrap (x11_2 + 12)) + t259)) + t260)) a1_0 a1_1 l1_2)) = some (r1, r2, r3, r4) := H; have A74 := aM A740; clear A740; replace H := Option.bind_eq_some_iff.mp H; obtain ⟨t260, A750, H⟩ := H; replace H : (shackleref04_Notes.l1 kj53 l0 y256 x7_1 (IntKind.u64.wrap (((rd_T50 l1_2 x7_1).f2) + ((rd_T50 l1_2 x7_1).f4))) (IntKind.u64.wrap ((IntKind.u64.wrap ((IntKind.u64.wrap (x11_2 + 12)) + t259)) + t260)) a1_0 a1_1 l1_2) = some (r1, r2, r3, r4) := H; have A75 := aM A750; clear A750; have H' := aM H; clear H
                       go_wp2_with (first | ((with_reducible refine gate_callee (f := 44) rfl ?_); refine goesL_ (some 126) rfl rfl Tryd.func44 (by kernel_rfl) rfl #[.int .u64 t236] rfl (by (try simp only [List.map_toArray, List.map_cons, List.map_nil]); first | done | rfl | (simp only [List.length_drop, List.length_take]; rfl)) ?_; (with_reducible refine (shackleref04_four.calls t236 t251 _ A71.out).mono ?_); rintro e w' ⟨rfl, ⟨nd, rfl⟩⟩; refine ⟨_, rfl, ?_⟩; (try (rw [drewN_self wc]; generalize hq_ : World.drewN wc _ = wc; have n0_ : Aside0 (Kd.S k58 58 wc w.heap.size (fun k_ => k_ ≠ gb249) u6 x6_2) := ⟨by rw [← hq_]; exact (by (with_reducible repeat (first | apply Kd.S_alloc | apply Kd.S_drewN | apply Kd.S_drew)); exact HO_6.out)⟩; have n1_ : Aside0 (wc.heap[gb225]? = some (.cells #[.int .i64 a1_0, .int .u64 a1_1, .slice (some ad227) l1_2.length c1_2] 27 (0, 0))) := ⟨by rw [← hq_]; exact (by (with_reducible repeat (first | refine kN ?_ _ | refine kD ?_ | refine kA ?_ _)); exact BK225.out)⟩; have n2_ : Aside0 (wc.heap[gb226]? = some (.cells #[.int .i64 x227000_2, .bool x227001_2, .int .u64 x227002_2] 34 (0, 0))) := ⟨by rw [← hq_]; exact (by (with_reducible repeat (first | refine kN ?_ _ | refine kD ?_ | refine kA ?_ _)); exact BK226.out)⟩; have n3_ : Aside0 (wc.heap[gb228]? = some (.cells #[.int .u32 ((rd_T50 l1_2 x7_1).f0), .int .u32 ((rd_T50 l1_2 x7_1).f1), .int .u64 ((rd_T50 l1_2 x7_1).f2), .int .u64 ((rd_T50 l1_2 x7_1).f3), .int .u64 ((rd_T50 l1_2 x7_1).f4), .int .u64 ((rd_T50 l1_2 x7_1).f5), .int .u64 ((rd_T50 l1_2 x7_1).f6)] 50 (0, 0))) := ⟨by rw [← hq_]; exact (by (with_reducible repeat (first | refine kN ?_ _ | refine kD ?_ | refine kA ?_ _)); exact BK228.out)⟩; have n4_ : Aside0 (wc.heap[gb249]? = some (.cells #[.string x250000_53, .int .u32 ((t248) % 4294967296), .slice none 0 0] 58 (0, 0))) := ⟨by rw [← hq_]; exact (by (with_reducible repeat (first | refine kN ?_ _ | refine kD ?_ | refine kA ?_ _)); exact BK249.out)⟩; have n5_ : Aside0 (Below w.heap.size w wc) := ⟨by rw [← hq_]; exact (by repeat (first | (with_reducible first | exact HB.out | apply bA | apply bN | apply bD | refine below_set ?_ GE225.out | refine below_set ?_ GE226.out | refine below_set ?_ GE228.out | refine below_set ?_ GE249.out) | exact HB.out))⟩; clear HO_6 BK225 BK226 BK228 BK249 HB hq_; have HO_6 := n0_; have BK225 := n1_; have BK226 := n2_; have BK228 := n3_; have BK249 := n4_; have HB := n5_; clear n0_ n1_ n2_ n3_ n4_ n5_))) | ((with_reducible refine gate_callee (f := 39) rfl ?_); refine goesL_ (some 129) rfl rfl Tryd.func39 (by kernel_rfl) rfl #[.slice A0 l0.length c0, .int .u64 (IntKind.u64.wrap (ji37 + t251)), .int .u64 t237] rfl (by (try simp only [List.map_toArray, List.map_cons, List.map_nil]); first | done | rfl | (simp only [List.length_drop, List.length_take]; rfl)) ?_; (with_reducible refine (shackleref01_Cut.calls kj53 _ _ l0 (IntKind.u64.wrap (ji37 + t251)) t237 t252 t253 _ ?side1 ?side2 A72.out).mono ?_); (case side1 => repeat (first | exact (Kd.C_below HR0.out HB.out) | (with_reducible refine cA ?_ _) | (with_reducible refine cN ?_ _) | (with_reducible refine cD ?_))); (case side2 => exact HC0.out); rintro e w76 ⟨v254, rfl, ho0, hb⟩; refine ⟨_, rfl, ?_⟩; replace HO_6 := aM (Kd.S_elder' (by (with_reducible repeat (first | apply Kd.S_alloc | apply Kd.S_drewN | apply Kd.S_drew)); exact HO_6.out) (Kd.R_base ho0) hb); have HO255 := aM (Kd.R_lower ho0 (below_size (by repeat (first | (with_reducible first | exact HB.out | apply bA | apply bN | apply bD | refine below_set ?_ GE225.out | refine below_set ?_ GE226.out | refine below_set ?_ GE228.out | refine below_set ?_ GE249.out) | exact HB.out)))); replace BK225 := aM (blk_below (g := gb225) (o := .cells #[.int .i64 a1_0, .int .u64 a1_1, .slice (some ad227) l1_2.length c1_2] 27 (0, 0)) (by (with_reducible repeat (first | refine kN ?_ _ | refine kD ?_ | refine kA ?_ _)); exact BK225.out) hb); replace BK226 := aM (blk_below (g := gb226) (o := .cells #[.int .i64 x227000_2, .bool x227001_2, .int .u64 x227002_2] 34 (0, 0)) (by (with_reducible repeat (first | refine kN ?_ _ | refine kD ?_ | refine kA ?_ _)); exact BK226.out) hb); replace BK228 := aM (blk_below (g := gb228) (o := .cells #[.int .u32 ((rd_T50 l1_2 x7_1).f0), .int .u32 ((rd_T50 l1_2 x7_1).f1), .int .u64 ((rd_T50 l1_2 x7_1).f2), .int .u64 ((rd_T50 l1_2 x7_1).f3), .int .u64 ((rd_T50 l1_2 x7_1).f4), .int .u64 ((rd_T50 l1_2 x7_1).f5), .int .u64 ((rd_T50 l1_2 x7_1).f6)] 50 (0, 0)) (by (with_reducible repeat (first | refine kN ?_ _ | refine kD ?_ | refine kA ?_ _)); exact BK228.out) hb); replace BK249 := aM (blk_below (g := gb249) (o := .cells #[.string x250000_53, .int .u32 ((t248) % 4294967296), .slice none 0 0] 58 (0, 0)) (by (with_reducible repeat (first | refine kN ?_ _ | refine kD ?_ | refine kA ?_ _)); exact BK249.out) hb); replace HB := aM (below_step (by repeat (first | (with_reducible first | exact HB.out | apply bA | apply bN | apply bD | refine below_set ?_ GE225.out | refine below_set ?_ GE226.out | refine below_set ?_ GE228.out | refine below_set ?_ GE249.out) | exact HB.out)) hb); (try clear hb); (try clear hb2); (try clear hk); (try clear hi); (try clear ho0); obtain ⟨Ao77, co77, eo77⟩ := Kd.R_slice HO255.out; subst eo77; have hnb78 := NB249_225.out; have hnc78 := NB225_249.out; have hnb79 := NB249_226.out; have hnc79 := NB226_249.out; have hnb80 := NB249_228.out; have hnc80 := NB228_249.out; obtain ⟨hcz81_0, hcz81_1, hcz81_2, hfz81_0, hfz81_1, hfz81_2⟩ := bx3 BK249.out) | ((with_reducible refine gate_store (t := 22) (p := 132) rfl ?_); refine store_event (t := 22) (p := 132) (v := ?vo_w82) (w1 := (w76.setCell ⟨gb249, 2, none⟩ (.slice Ao77 t252.length co77))) ?hg ?ho ?hn ?hr ?_; (case ho => rfl); (case hg => rfl); (case hn => rfl); (case hr => first | (go_simp; done) | (go_simp; rfl)); intro w82 hw; have n0_ : Aside0 (Kd.S k58 58 w82 w.heap.size (fun k_ => some k_ ≠ (.slice Ao77 t252.length co77 : Value).ownBlock ∧ k_ ≠ gb249) u6 x6_2) := ⟨(by rw [hw]; exact (by (with_reducible repeat (first | apply Kd.S_alloc | apply Kd.S_drewN | apply Kd.S_drew)); exact Kd.S_mono (Kd.S_far (p := ⟨gb249, 2, none⟩) (Kd.S_mono HO_6.out (fun k_ hk => (⟨hk, hk.1⟩ : _ ∧ k_ ≠ gb249))) (fun _ hk => hk.2) (.slice Ao77 t252.length co77)) (fun _ hk => ⟨hk.1.2, hk.1.1⟩)))⟩; have n1_ : Aside0 (Kd.R (Kd.int .u8) 5 w82 w.heap.size (fun _ => True) (.slice Ao77 t252.length co77) t252) := ⟨(by rw [hw]; exact (by (with_reducible repeat (first | apply rA | apply rN | apply rD)); exact Kd.R_mono (Kd.R_far (p := ⟨gb249, 2, none⟩) (Kd.R_types HO255.out BK249.out (by decide)) (fun _ hk => hk.2) (.slice Ao77 t252.length co77)) (fun _ hk => trivial)))⟩; have n2_ : Aside0 (w82.heap[gb225]? = some (.cells #[.int .i64 a1_0, .int .u64 a1_1, .slice (some ad227) l1_2.length c1_2] 27 (0, 0))) := ⟨(by rw [hw]; exact (by (with_reducible repeat (first | refine kN ?_ _ | refine kD ?_ | refine kA ?_ _)); refine blk_far ?_ NB225_249.out _; (with_reducible repeat (first | refine kN ?_ _ | refine kD ?_ | refine kA ?_ _)); exact BK225.out))⟩; have n3_ : Aside0 (w82.heap[gb226]? = some (.cells #[.int .i64 x227000_2, .bool x227001_2, .int .u64 x227002_2] 34 (0, 0))) := ⟨(by rw [hw]; exact (by (with_reducible repeat (first | refine kN ?_ _ | refine kD ?_ | refine kA ?_ _)); refine blk_far ?_ NB226_249.out _; (with_reducible repeat (first | refine kN ?_ _ | refine kD ?_ | refine kA ?_ _)); exact BK226.out))⟩; have n4_ : Aside0 (w82.heap[gb228]? = some (.cells #[.int .u32 ((rd_T50 l1_2 x7_1).f0), .int .u32 ((rd_T50 l1_2 x7_1).f1), .int .u64 ((rd_T50 l1_2 x7_1).f2), .int .u64 ((rd_T50 l1_2 x7_1).f3), .int .u64 ((rd_T50 l1_2 x7_1).f4), .int .u64 ((rd_T50 l1_2 x7_1).f5), .int .u64 ((rd_T50 l1_2 x7_1).f6)] 50 (0, 0))) := ⟨(by rw [hw]; exact (by (with_reducible repeat (first | refine kN ?_ _ | refine kD ?_ | refine kA ?_ _)); refine blk_far ?_ NB228_249.out _; (with_reducible repeat (first | refine kN ?_ _ | refine kD ?_ | refine kA ?_ _)); exact BK228.out))⟩; have n5_ : Aside0 (w82.heap[gb249]? = some (.cells #[.string x250000_53, .int .u32 ((t248) % 4294967296), .slice Ao77 t252.length co77] 58 (0, 0))) := ⟨(by rw [hw]; exact (by (with_reducible repeat (first | refine kN ?_ _ | refine kD ?_ | refine kA ?_ _)); refine blk_put (cs := #[.string x250000_53, .int .u32 ((t248) % 4294967296), .slice none 0 0]) ?_ 2 _ rfl; (with_reducible repeat (first | refine kN ?_ _ | refine kD ?_ | refine kA ?_ _)); exact BK249.out))⟩; have n6_ : Aside0 (Below w.heap.size w w82) := ⟨(by rw [hw]; exact (by repeat (first | (with_reducible first | exact HB.out | apply bA | apply bN | apply bD | refine below_set ?_ GE225.out | refine below_set ?_ GE226.out | refine below_set ?_ GE228.out | refine below_set ?_ GE249.out) | exact HB.out)))⟩; clear hw; clear HO_6; clear HO255; clear BK225; clear BK226; clear BK228; clear BK249; clear HB; have HO_6 := n0_; have HO255 := n1_; have BK225 := n2_; have BK226 := n3_; have BK228 := n4_; have BK249 := n5_; have HB := n6_; clear n0_ n1_ n2_ n3_ n4_ n5_ n6_; obtain ⟨hcz83_0, hcz83_1, hcz83_2, hfz83_0, hfz83_1, hfz83_2⟩ := bx3 BK249.out) | ((with_reducible refine gate_builtin (b := .append) (xs := #[.tmp 133, .tmp 135]) rfl ?_); at_builtin; refine Kd.S_append k58 (w0 := w) w.heap.size rfl (.tmp 133) (.tmp 135) 52 58 (.agg #[(.string ⟨#[]⟩), (.int .u32 0), (.slice none 0 0)]) 48 rfl Tryd.underlying52 info58 rfl (by decide) (by omega) u6 x6_2 (⟨x250000_53, ((t248) % 4294967296), t252⟩ : S58) [.string x250000_53, .int .u32 ((t248) % 4294967296), .slice Ao77 t252.length co77] (fun k_ => k_ ≠ gb249) (fun k_ => some k_ = (.slice Ao77 t252.length co77 : Value).ownBlock) rfl rfl ?aP (fun k_ hk_ => ((Kd.R_mono (ok' := fun k_ => ((fun k_ => k_ ≠ gb249)) k_ ∧ some k_ ≠ (u6 : Value).ownBlock) (Kd.R_types (Kd.R_apart' (HO255.out) (Kd.S_typed HO_6.out) (by decide)) BK249.out (by decide)) (fun k_ hk => ⟨hk.2, hk.1.2⟩))).1 k_ hk_.symm) ?aF ?aO ?aB ?aS ?aL ?_; (case aP => exact k58_mkM _ _ _ (⟨x250000_53, ((t248) % 4294967296), t252⟩ : S58) (Kd.R_mono (Kd.R_tight rfl (Kd.R_mono (ok' := fun k_ => ((fun k_ => k_ ≠ gb249)) k_ ∧ some k_ ≠ (u6 : Value).ownBlock) (Kd.R_types (Kd.R_apart' (HO255.out) (Kd.S_typed HO_6.out) (by decide)) BK249.out (by decide)) (fun k_ hk => ⟨hk.2, hk.1.2⟩))) (fun _ h_ => h_))); (case aB => exact (by repeat (first | (with_reducible first | exact HB.out | apply bA | apply bN | apply bD | refine below_set ?_ GE225.out | refine below_set ?_ GE226.out | refine below_set ?_ GE228.out | refine below_set ?_ GE249.out) | exact HB.out))); (case aF => exact (fun k_ hk => Kd.freshB (g := gb249) (o := .cells #[.string x250000_53, .int .u32 ((t248) % 4294967296), .slice Ao77 t252.length co77] 58 (0, 0)) (by (with_reducible repeat (first | refine kN ?_ _ | refine kD ?_ | refine kA ?_ _)); exact BK249.out) k_ hk)); (case aO => exact (by (with_reducible repeat (first | apply Kd.S_alloc | apply Kd.S_drewN | apply Kd.S_drew)); exact Kd.S_mono HO_6.out (fun k_ hk => ⟨hk.2, fun e_ => hk.1 e_⟩))); (case aS => exact (below_size (by repeat (first | (with_reducible first | exact HB.out | apply bA | apply bN | apply bD | refine below_set ?_ GE225.out | refine below_set ?_ GE226.out | refine below_set ?_ GE228.out | refine below_set ?_ GE249.out) | exact HB.out)))); (case aL => have := LMc73.out; omega); intro v257 w84 ho hb hg hat; rw [← Ny256.out] at ho; have n0_ := aM (blk_grown (g := gb225) (o := .cells #[.int .i64 a1_0, .int .u64 a1_1, .slice (some ad227) l1_2.length c1_2] 27 (0, 0)) (by (with_reducible repeat (first | refine kN ?_ _ | refine kD ?_ | refine kA ?_ _)); exact BK225.out) hg (Kd.S_ne HO_6.out BK225.out (by decide))); have n1_ := aM (blk_grown (g := gb226) (o := .cells #[.int .i64 x227000_2, .bool x227001_2, .int .u64 x227002_2] 34 (0, 0)) (by (with_reducible repeat (first | refine kN ?_ _ | refine kD ?_ | refine kA ?_ _)); exact BK226.out) hg (Kd.S_ne HO_6.out BK226.out (by decide))); have n2_ := aM (blk_grown (g := gb228) (o := .cells #[.int .u32 ((rd_T50 l1_2 x7_1).f0), .int .u32 ((rd_T50 l1_2 x7_1).f1), .int .u64 ((rd_T50 l1_2 x7_1).f2), .int .u64 ((rd_T50 l1_2 x7_1).f3), .int .u64 ((rd_T50 l1_2 x7_1).f4), .int .u64 ((rd_T50 l1_2 x7_1).f5), .int .u64 ((rd_T50 l1_2 x7_1).f6)] 50 (0, 0)) (by (with_reducible repeat (first | refine kN ?_ _ | refine kD ?_ | refine kA ?_ _)); exact BK228.out) hg (Kd.S_ne HO_6.out BK228.out (by decide))); have n3_ := aM (blk_grown (g := gb249) (o := .cells #[.string x250000_53, .int .u32 ((t248) % 4294967296), .slice Ao77 t252.length co77] 58 (0, 0)) (by (with_reducible repeat (first | refine kN ?_ _ | refine kD ?_ | refine kA ?_ _)); exact BK249.out) hg (Kd.S_away HO_6.out (fun _ hk => hk.2))); have n4_ := aM (hb); have n5_ := aM (ho); clear BK225; clear BK226; clear BK228; clear BK249; clear HB; clear HO_6; clear HO255; have BK225 := n0_; have BK226 := n1_; have BK228 := n2_; have BK249 := n3_; have HB := n4_; have HO258 := n5_; clear n0_ n1_ n2_ n3_ n4_ n5_; clear ho hb hg hat) | ((with_reducible refine gate_callee (f := 44) rfl ?_); refine goesL_ (some 140) rfl rfl Tryd.func44 (by kernel_rfl) rfl #[.int .u64 t236] rfl (by (try simp only [List.map_toArray, List.map_cons, List.map_nil]); first | done | rfl | (simp only [List.length_drop, List.length_take]; rfl)) ?_; (with_reducible refine (shackleref04_four.calls t236 t259 _ A74.out).mono ?_); rintro e w' ⟨rfl, ⟨nd, rfl⟩⟩; refine ⟨_, rfl, ?_⟩) | ((with_reducible refine gate_callee (f := 44) rfl ?_); refine goesL_ (some 143) rfl rfl Tryd.func44 (by kernel_rfl) rfl #[.int .u64 t237] rfl (by (try simp only [List.map_toArray, List.map_cons, List.map_nil]); first | done | rfl | (simp only [List.length_drop, List.length_take]; rfl)) ?_; (with_reducible refine (shackleref04_four.calls t237 t260 _ A75.out).mono ?_); rintro e w' ⟨rfl, ⟨nd, rfl⟩⟩; refine ⟨_, rfl, ?_⟩))
                       go_roundg kj53
                       case measure => have := HK1.out; have := HK2.out; have := HJ24.out; have := HJ40.out; have := HJ53.out; omega
                       case rel => exact ⟨(y256), (IntKind.u64.wrap ((IntKind.u64.wrap ((IntKind.u64.wrap (x11_2 + 12)) + t259)) + t260)), (x227000_2), (x227001_2), (x227002_2), (by first | rfl | (simp; done) | (simp [*]; done)), H', ⟨by have := HK1.out; have := HK2.out; have := HJ24.out; have := HJ40.out; have := HJ53.out; omega⟩, ⟨by (with_reducible repeat (first | apply Kd.S_alloc | apply Kd.S_drewN | apply Kd.S_drew)); exact Kd.S_mono HO258.out (fun _ hk => trivial)⟩, ⟨by (with_reducible repeat (first | refine kN ?_ _ | refine kD ?_ | refine kA ?_ _)); exact BK225.out⟩, ⟨by (with_reducible repeat (first | refine kN ?_ _ | refine kD ?_ | refine kA ?_ _)); exact BK226.out⟩, ⟨by (with_reducible repeat (first | refine kN ?_ _ | refine kD ?_ | refine kA ?_ _)); exact BK228.out⟩, ⟨by repeat (first | (with_reducible first | exact HB.out | apply bA | apply bN | apply bD | refine below_set ?_ GE225.out | refine below_set ?_ GE226.out | refine below_set ?_ GE228.out | refine below_set ?_ GE249.out) | exact HB.out)⟩⟩
                      ·rw [if_neg c73] at H; exact absurd H (by simp)
                ·rw [if_neg c40] at H; exact absurd H (by simp)
               ·rw [if_neg c39] at H; exact absurd H (by simp)
              ·rw [if_neg c38] at H; exact absurd H (by simp)
         ·rw [if_neg c16] at H; have c16b0 : decide (x11_2 < (IntKind.u64.wrap (((rd_T50 l1_2 x7_1).f2) + ((rd_T50 l1_2 x7_1).f4)))) = false := decide_eq_false c16; clear c16; have H' := aM H; clear H
          go_wp2
          go_roundg k2
          case measure => have := HK1.out; have := HK2.out; omega
          case rel => exact ⟨(x6_2), (wrap64 (x7_1 + 1)), (x227000_2), (x227001_2), (x227002_2), (by first | rfl | (simp; done) | (simp [*]; done)), H', ⟨by have := HK1.out; have := HK2.out; omega⟩, ⟨by (with_reducible repeat (first | apply Kd.S_alloc | apply Kd.S_drewN | apply Kd.S_drew)); exact HO_6.out⟩, ⟨by (with_reducible repeat (first | refine kN ?_ _ | refine kD ?_ | refine kA ?_ _)); exact BK225.out⟩, ⟨by (with_reducible repeat (first | refine kN ?_ _ | refine kD ?_ | refine kA ?_ _)); exact BK226.out⟩, ⟨by repeat (first | (with_reducible first | exact HB.out | apply bA | apply bN | apply bD | refine below_set ?_ GE225.out | refine below_set ?_ GE226.out | refine below_set ?_ GE228.out) | exact HB.out)⟩⟩
      ·replace c9 := Bool.eq_false_iff.mpr c9; subst c9
       have H1 : ((shackleref04_at.f 4 ((rd_T50 l1_2 x7_1).f2)).bind fun bt230 => (some (([] : List (S58)), bt230.1, bt230.2.1, bt230.2.2))) = some (r1, r2, r3, r4) := by rw [if_neg (show ¬ (false = true) by decide)] at H; exact H
       clear H; have H := H1; clear H1; replace H := Option.bind_eq_some_iff.mp H; obtain ⟨⟨t230, t231, t232⟩, A850, H⟩ := H; replace H : (some (([] : List (S58)), t230, t231, t232)) = some (r1, r2, r3, r4) := H; have A85 := aM A850; clear A850; simp only [Option.some.injEq, Prod.mk.injEq] at H; obtain ⟨rfl, rfl, rfl, rfl⟩ := H; have hnb86 := NB225_226.out; have hnc86 := NB226_225.out; obtain ⟨hcz87_0, hcz87_1, hcz87_2, hfz87_0, hfz87_1, hfz87_2⟩ := bx3 BK225.out; have p227 : 0 ≤ (x7_1 : Int) := of_decide_eq_true (by first | (with_reducible assumption) | assumption); have q227 : x7_1 < (l1_2.length : Int) := of_decide_eq_true (by first | (with_reducible assumption) | assumption); obtain ⟨ad227, e227, hx227_0, hx227_1, hx227_2, hx227_3, hx227_4, hx227_5, hx227_6⟩ := at_T50 HR1_2.out x7_1 p227 q227
       cases e227
       replace hx227_0 := (HB.out.cell (World.block_lt_of_cell? w _ hx227_0)).trans hx227_0; replace hx227_1 := (HB.out.cell (World.block_lt_of_cell? w _ hx227_1)).trans hx227_1; replace hx227_2 := (HB.out.cell (World.block_lt_of_cell? w _ hx227_2)).trans hx227_2; replace hx227_3 := (HB.out.cell (World.block_lt_of_cell? w _ hx227_3)).trans hx227_3; replace hx227_4 := (HB.out.cell (World.block_lt_of_cell? w _ hx227_4)).trans hx227_4; replace hx227_5 := (HB.out.cell (World.block_lt_of_cell? w _ hx227_5)).trans hx227_5; replace hx227_6 := (HB.out.cell (World.block_lt_of_cell? w _ hx227_6)).trans hx227_6; replace p227 := eq_true p227; replace q227 := eq_true q227
       go_wp2_with (first | ((with_reducible refine gate_dst (N := 8) rfl ?_); refine box_event ?hg (N := 8) ?hd (cs := #[.int .u32 0, .int .u32 0, .int .u64 0, .int .u64 0, .int .u64 0, .int .u64 0, .int .u64 0]) (t := 50) ?hr ?_; (case hd => rfl); (case hg => rfl); (case hr => first | (go_simp; done) | (go_simp; rfl)); intro gb228 hg w88 hbox hb; replace HO_6 := aM (Kd.S_below (by (with_reducible repeat (first | apply Kd.S_alloc | apply Kd.S_drewN | apply Kd.S_drew)); exact HO_6.out) hb); have BK228 := aM (hbox); have GW228 := aM ((by rw [hg]; exact (below_size (by repeat (first | (with_reducible first | exact HB.out | apply bA | apply bN | apply bD | refine below_set ?_ GE225.out | refine below_set ?_ GE226.out) | exact HB.out))) : w.heap.size ≤ gb228)); have GE228 := aM ((by rw [hg]; exact (below_size (by repeat (first | (with_reducible first | exact HB.out | apply bA | apply bN | apply bD | refine below_set ?_ GE225.out | refine below_set ?_ GE226.out) | exact HB.out))) : w.heap.size ≤ gb228)); replace HB := aM (below_step (by repeat (first | (with_reducible first | exact HB.out | apply bA | apply bN | apply bD | refine below_set ?_ GE225.out | refine below_set ?_ GE226.out) | exact HB.out)) hb); have NB225_228 := aM ((by rw [hg]; exact Nat.ne_of_lt (blk_lt (by (with_reducible repeat (first | refine kN ?_ _ | refine kD ?_ | refine kA ?_ _)); exact BK225.out)) : gb225 ≠ gb228)); have NB228_225 := aM ((by rw [hg]; exact Nat.ne_of_gt (blk_lt (by (with_reducible repeat (first | refine kN ?_ _ | refine kD ?_ | refine kA ?_ _)); exact BK225.out)) : gb228 ≠ gb225)); replace BK225 := aM (blk_below (g := gb225) (o := .cells #[.int .i64 a1_0, .int .u64 a1_1, .slice (some ad227) l1_2.length c1_2] 27 (0, 0)) (by (with_reducible repeat (first | refine kN ?_ _ | refine kD ?_ | refine kA ?_ _)); exact BK225.out) hb); have NB226_228 := aM ((by rw [hg]; exact Nat.ne_of_lt (blk_lt (by (with_reducible repeat (first | refine kN ?_ _ | refine kD ?_ | refine kA ?_ _)); exact BK226.out)) : gb226 ≠ gb228)); have NB228_226 := aM ((by rw [hg]; exact Nat.ne_of_gt (blk_lt (by (with_reducible repeat (first | refine kN ?_ _ | refine kD ?_ | refine kA ?_ _)); exact BK226.out)) : gb228 ≠ gb226)); replace BK226 := aM (blk_below (g := gb226) (o := .cells #[.int .i64 x227000_1, .bool x227001_1, .int .u64 x227002_1] 34 (0, 0)) (by (with_reducible repeat (first | refine kN ?_ _ | refine kD ?_ | refine kA ?_ _)); exact BK226.out) hb); clear hb hbox hg; have hnb89 := NB228_225.out; have hnc89 := NB225_228.out; have hnb90 := NB228_226.out; have hnc90 := NB226_228.out; obtain ⟨hcz91_0, hcz91_1, hcz91_2, hcz91_3, hcz91_4, hcz91_5, hcz91_6, hfz91_0, hfz91_1, hfz91_2, hfz91_3, hfz91_4, hfz91_5, hfz91_6⟩ := bx7 BK228.out) | ((with_reducible refine gate_callee (f := 31) rfl ?_); refine goesL_ (some 38) rfl rfl Tryd.func31 (by kernel_rfl) rfl #[.int .u64 (IntKind.u64.wrap ((l0.length : Int))), .int .u64 ((rd_T50 l1_2 x7_1).f2), .int .u64 ((rd_T50 l1_2 x7_1).f4)] rfl (by (try simp only [List.map_toArray, List.map_cons, List.map_nil]); first | done | rfl | (simp only [List.length_drop, List.length_take]; rfl)) ?_; (with_reducible refine (shackleref01_In.calls (IntKind.u64.wrap ((l0.length : Int))) ((rd_T50 l1_2 x7_1).f2) ((rd_T50 l1_2 x7_1).f4) false _ A8.out).mono ?_); rintro e w' ⟨rfl, ⟨nd, rfl⟩⟩; refine ⟨_, rfl, ?_⟩) | ((with_reducible refine gate_callee (f := 30) rfl ?_); refine goesL_ (some 43) rfl rfl Tryd.func30 (by kernel_rfl) rfl #[.int .i64 4, .int .u64 ((rd_T50 l1_2 x7_1).f2)] rfl (by (try simp only [List.map_toArray, List.map_cons, List.map_nil]); first | done | rfl | (simp only [List.length_drop, List.length_take]; rfl)) ?_; (with_reducible refine (shackleref04_at.calls 4 ((rd_T50 l1_2 x7_1).f2) t230 t231 t232 _ A85.out).mono ?_); rintro e w92 ⟨rfl, hb⟩; refine ⟨_, rfl, ?_⟩; replace HO_6 := aM (Kd.S_below (by (with_reducible repeat (first | apply Kd.S_alloc | apply Kd.S_drewN | apply Kd.S_drew)); exact (Kd.S_mono (Kd.S_far (p := ⟨gb228, 6, none⟩) (Kd.S_far (p := ⟨gb228, 5, none⟩) (Kd.S_far (p := ⟨gb228, 4, none⟩) (Kd.S_far (p := ⟨gb228, 3, none⟩) (Kd.S_far (p := ⟨gb228, 2, none⟩) (Kd.S_far (p := ⟨gb228, 1, none⟩) (Kd.S_far (p := ⟨gb228, 0, none⟩) (Kd.S_types HO_6.out BK228.out (by decide)) (fun _ hk => hk.2) (.int .u32 ((rd_T50 l1_2 x7_1).f0))) (fun _ hk => hk.2) (.int .u32 ((rd_T50 l1_2 x7_1).f1))) (fun _ hk => hk.2) (.int .u64 ((rd_T50 l1_2 x7_1).f2))) (fun _ hk => hk.2) (.int .u64 ((rd_T50 l1_2 x7_1).f3))) (fun _ hk => hk.2) (.int .u64 ((rd_T50 l1_2 x7_1).f4))) (fun _ hk => hk.2) (.int .u64 ((rd_T50 l1_2 x7_1).f5))) (fun _ hk => hk.2) (.int .u64 ((rd_T50 l1_2 x7_1).f6))) (fun _ h_ => h_.1))) hb); replace BK225 := aM (blk_below (g := gb225) (o := .cells #[.int .i64 a1_0, .int .u64 a1_1, .slice (some ad227) l1_2.length c1_2] 27 (0, 0)) (by (with_reducible repeat (first | refine kN ?_ _ | refine kD ?_ | refine kA ?_ _)); refine blk_far ?_ NB225_228.out _; (with_reducible repeat (first | refine kN ?_ _ | refine kD ?_ | refine kA ?_ _)); refine blk_far ?_ NB225_228.out _; (with_reducible repeat (first | refine kN ?_ _ | refine kD ?_ | refine kA ?_ _)); refine blk_far ?_ NB225_228.out _; (with_reducible repeat (first | refine kN ?_ _ | refine kD ?_ | refine kA ?_ _)); refine blk_far ?_ NB225_228.out _; (with_reducible repeat (first | refine kN ?_ _ | refine kD ?_ | refine kA ?_ _)); refine blk_far ?_ NB225_228.out _; (with_reducible repeat (first | refine kN ?_ _ | refine kD ?_ | refine kA ?_ _)); refine blk_far ?_ NB225_228.out _; (with_reducible repeat (first | refine kN ?_ _ | refine kD ?_ | refine kA ?_ _)); refine blk_far ?_ NB225_228.out _; (with_reducible repeat (first | refine kN ?_ _ | refine kD ?_ | refine kA ?_ _)); exact BK225.out) hb); replace BK226 := aM (blk_below (g := gb226) (o := .cells #[.int .i64 x227000_1, .bool x227001_1, .int .u64 x227002_1] 34 (0, 0)) (by (with_reducible repeat (first | refine kN ?_ _ | refine kD ?_ | refine kA ?_ _)); refine blk_far ?_ NB226_228.out _; (with_reducible repeat (first | refine kN ?_ _ | refine kD ?_ | refine kA ?_ _)); refine blk_far ?_ NB226_228.out _; (with_reducible repeat (first | refine kN ?_ _ | refine kD ?_ | refine kA ?_ _)); refine blk_far ?_ NB226_228.out _; (with_reducible repeat (first | refine kN ?_ _ | refine kD ?_ | refine kA ?_ _)); refine blk_far ?_ NB226_228.out _; (with_reducible repeat (first | refine kN ?_ _ | refine kD ?_ | refine kA ?_ _)); refine blk_far ?_ NB226_228.out _; (with_reducible repeat (first | refine kN ?_ _ | refine kD ?_ | refine kA ?_ _)); refine blk_far ?_ NB226_228.out _; (with_reducible repeat (first | refine kN ?_ _ | refine kD ?_ | refine kA ?_ _)); refine blk_far ?_ NB226_228.out _; (with_reducible repeat (first | refine kN ?_ _ | refine kD ?_ | refine kA ?_ _)); exact BK226.out) hb); replace BK228 := aM (blk_below (g := gb228) (o := .cells #[.int .u32 ((rd_T50 l1_2 x7_1).f0), .int .u32 ((rd_T50 l1_2 x7_1).f1), .int .u64 ((rd_T50 l1_2 x7_1).f2), .int .u64 ((rd_T50 l1_2 x7_1).f3), .int .u64 ((rd_T50 l1_2 x7_1).f4), .int .u64 ((rd_T50 l1_2 x7_1).f5), .int .u64 ((rd_T50 l1_2 x7_1).f6)] 50 (0, 0)) (by (with_reducible repeat (first | refine kN ?_ _ | refine kD ?_ | refine kA ?_ _)); refine blk_put (cs := #[.int .u32 ((rd_T50 l1_2 x7_1).f0), .int .u32 ((rd_T50 l1_2 x7_1).f1), .int .u64 ((rd_T50 l1_2 x7_1).f2), .int .u64 ((rd_T50 l1_2 x7_1).f3), .int .u64 ((rd_T50 l1_2 x7_1).f4), .int .u64 ((rd_T50 l1_2 x7_1).f5), .int .u64 0]) ?_ 6 _ rfl; (with_reducible repeat (first | refine kN ?_ _ | refine kD ?_ | refine kA ?_ _)); refine blk_put (cs := #[.int .u32 ((rd_T50 l1_2 x7_1).f0), .int .u32 ((rd_T50 l1_2 x7_1).f1), .int .u64 ((rd_T50 l1_2 x7_1).f2), .int .u64 ((rd_T50 l1_2 x7_1).f3), .int .u64 ((rd_T50 l1_2 x7_1).f4), .int .u64 0, .int .u64 0]) ?_ 5 _ rfl; (with_reducible repeat (first | refine kN ?_ _ | refine kD ?_ | refine kA ?_ _)); refine blk_put (cs := #[.int .u32 ((rd_T50 l1_2 x7_1).f0), .int .u32 ((rd_T50 l1_2 x7_1).f1), .int .u64 ((rd_T50 l1_2 x7_1).f2), .int .u64 ((rd_T50 l1_2 x7_1).f3), .int .u64 0, .int .u64 0, .int .u64 0]) ?_ 4 _ rfl; (with_reducible repeat (first | refine kN ?_ _ | refine kD ?_ | refine kA ?_ _)); refine blk_put (cs := #[.int .u32 ((rd_T50 l1_2 x7_1).f0), .int .u32 ((rd_T50 l1_2 x7_1).f1), .int .u64 ((rd_T50 l1_2 x7_1).f2), .int .u64 0, .int .u64 0, .int .u64 0, .int .u64 0]) ?_ 3 _ rfl; (with_reducible repeat (first | refine kN ?_ _ | refine kD ?_ | refine kA ?_ _)); refine blk_put (cs := #[.int .u32 ((rd_T50 l1_2 x7_1).f0), .int .u32 ((rd_T50 l1_2 x7_1).f1), .int .u64 0, .int .u64 0, .int .u64 0, .int .u64 0, .int .u64 0]) ?_ 2 _ rfl; (with_reducible repeat (first | refine kN ?_ _ | refine kD ?_ | refine kA ?_ _)); refine blk_put (cs := #[.int .u32 ((rd_T50 l1_2 x7_1).f0), .int .u32 0, .int .u64 0, .int .u64 0, .int .u64 0, .int .u64 0, .int .u64 0]) ?_ 1 _ rfl; (with_reducible repeat (first | refine kN ?_ _ | refine kD ?_ | refine kA ?_ _)); refine blk_put (cs := #[.int .u32 0, .int .u32 0, .int .u64 0, .int .u64 0, .int .u64 0, .int .u64 0, .int .u64 0]) ?_ 0 _ rfl; (with_reducible repeat (first | refine kN ?_ _ | refine kD ?_ | refine kA ?_ _)); exact BK228.out) hb); replace HB := aM (below_step (by repeat (first | (with_reducible first | exact HB.out | apply bA | apply bN | apply bD | refine below_set ?_ GE225.out | refine below_set ?_ GE226.out | refine below_set ?_ GE228.out) | exact HB.out)) hb); (try clear hb); (try clear hb2); (try clear hk); (try clear hi); obtain ⟨hcz93_0, hcz93_1, hcz93_2, hfz93_0, hfz93_1, hfz93_2⟩ := bx3 BK226.out))
       refine bodyPost_ret (results_tc rfl _ _ gb226 34 #[.int .i64 t230, .bool t231, .int .u64 t232] (0, 0) _ rfl (by (with_reducible repeat (first | refine kN ?_ _ | refine kD ?_ | refine kA ?_ _)); refine blk_put (cs := #[.int .i64 t230, .bool t231, .int .u64 x227002_1]) ?_ 2 _ rfl; (with_reducible repeat (first | refine kN ?_ _ | refine kD ?_ | refine kA ?_ _)); refine blk_put (cs := #[.int .i64 t230, .bool x227001_1, .int .u64 x227002_1]) ?_ 1 _ rfl; (with_reducible repeat (first | refine kN ?_ _ | refine kD ?_ | refine kA ?_ _)); refine blk_put (cs := #[.int .i64 x227000_1, .bool x227001_1, .int .u64 x227002_1]) ?_ 0 _ rfl; (with_reducible repeat (first | refine kN ?_ _ | refine kD ?_ | refine kA ?_ _)); exact BK226.out) Tryd.underlying34 rfl (by kernel_rfl)) rfl ?_; exact ⟨_, by first | rfl | (simp [errW_none, errW_some] <;> rfl) | (simp [*, errW_none, errW_some] <;> rfl), by first | exact Kd.S_nil _ _ _ _ _ | exact Kd.N_nil _ _ _ _ _ | exact Kd.V_nil _ _ _ _ _ | exact Kd.Q_nil _ _ _ _ _ | exact Kd.R_nil _ _ _ _ _, by repeat (first | (with_reducible first | exact HB.out | apply bA | apply bN | apply bD | refine below_set ?_ GE225.out | refine below_set ?_ GE226.out | refine below_set ?_ GE228.out) | exact HB.out)⟩
     ·rw [if_neg c7] at H; have c7b0 : (((rd_T50 l1_2 x7_1).f0) == 4) = false := beq_eq_false_iff_ne.mpr c7; have c7b1 : (((rd_T50 l1_2 x7_1).f0) != 4) = true := bne_iff_ne.mpr c7; have H' := aM H; clear H; have hnb94 := NB225_226.out; have hnc94 := NB226_225.out; obtain ⟨hcz95_0, hcz95_1, hcz95_2, hfz95_0, hfz95_1, hfz95_2⟩ := bx3 BK225.out; have p227 : 0 ≤ (x7_1 : Int) := of_decide_eq_true (by first | (with_reducible assumption) | assumption); have q227 : x7_1 < (l1_2.length : Int) := of_decide_eq_true (by first | (with_reducible assumption) | assumption); obtain ⟨ad227, e227, hx227_0, hx227_1, hx227_2, hx227_3, hx227_4, hx227_5, hx227_6⟩ := at_T50 HR1_2.out x7_1 p227 q227
      cases e227
      replace hx227_0 := (HB.out.cell (World.block_lt_of_cell? w _ hx227_0)).trans hx227_0; replace hx227_1 := (HB.out.cell (World.block_lt_of_cell? w _ hx227_1)).trans hx227_1; replace hx227_2 := (HB.out.cell (World.block_lt_of_cell? w _ hx227_2)).trans hx227_2; replace hx227_3 := (HB.out.cell (World.block_lt_of_cell? w _ hx227_3)).trans hx227_3; replace hx227_4 := (HB.out.cell (World.block_lt_of_cell? w _ hx227_4)).trans hx227_4; replace hx227_5 := (HB.out.cell (World.block_lt_of_cell? w _ hx227_5)).trans hx227_5; replace hx227_6 := (HB.out.cell (World.block_lt_of_cell? w _ hx227_6)).trans hx227_6; replace p227 := eq_true p227; replace q227 := eq_true q227
      go_wp2_with (first | ((with_reducible refine gate_dst (N := 8) rfl ?_); refine box_event ?hg (N := 8) ?hd (cs := #[.int .u32 0, .int .u32 0, .int .u64 0, .int .u64 0, .int .u64 0, .int .u64 0, .int .u64 0]) (t := 50) ?hr ?_; (case hd => rfl); (case hg => rfl); (case hr => first | (go_simp; done) | (go_simp; rfl)); intro gb228 hg w96 hbox hb; replace HO_6 := aM (Kd.S_below (by (with_reducible repeat (first | apply Kd.S_alloc | apply Kd.S_drewN | apply Kd.S_drew)); exact HO_6.out) hb); have BK228 := aM (hbox); have GW228 := aM ((by rw [hg]; exact (below_size (by repeat (first | (with_reducible first | exact HB.out | apply bA | apply bN | apply bD | refine below_set ?_ GE225.out | refine below_set ?_ GE226.out) | exact HB.out))) : w.heap.size ≤ gb228)); have GE228 := aM ((by rw [hg]; exact (below_size (by repeat (first | (with_reducible first | exact HB.out | apply bA | apply bN | apply bD | refine below_set ?_ GE225.out | refine below_set ?_ GE226.out) | exact HB.out))) : w.heap.size ≤ gb228)); replace HB := aM (below_step (by repeat (first | (with_reducible first | exact HB.out | apply bA | apply bN | apply bD | refine below_set ?_ GE225.out | refine below_set ?_ GE226.out) | exact HB.out)) hb); have NB225_228 := aM ((by rw [hg]; exact Nat.ne_of_lt (blk_lt (by (with_reducible repeat (first | refine kN ?_ _ | refine kD ?_ | refine kA ?_ _)); exact BK225.out)) : gb225 ≠ gb228)); have NB228_225 := aM ((by rw [hg]; exact Nat.ne_of_gt (blk_lt (by (with_reducible repeat (first | refine kN ?_ _ | refine kD ?_ | refine kA ?_ _)); exact BK225.out)) : gb228 ≠ gb225)); replace BK225 := aM (blk_below (g := gb225) (o := .cells #[.int .i64 a1_0, .int .u64 a1_1, .slice (some ad227) l1_2.length c1_2] 27 (0, 0)) (by (with_reducible repeat (first | refine kN ?_ _ | refine kD ?_ | refine kA ?_ _)); exact BK225.out) hb); have NB226_228 := aM ((by rw [hg]; exact Nat.ne_of_lt (blk_lt (by (with_reducible repeat (first | refine kN ?_ _ | refine kD ?_ | refine kA ?_ _)); exact BK226.out)) : gb226 ≠ gb228)); have NB228_226 := aM ((by rw [hg]; exact Nat.ne_of_gt (blk_lt (by (with_reducible repeat (first | refine kN ?_ _ | refine kD ?_ | refine kA ?_ _)); exact BK226.out)) : gb228 ≠ gb226)); replace BK226 := aM (blk_below (g := gb226) (o := .cells #[.int .i64 x227000_1, .bool x227001_1, .int .u64 x227002_1] 34 (0, 0)) (by (with_reducible repeat (first | refine kN ?_ _ | refine kD ?_ | refine kA ?_ _)); exact BK226.out) hb); clear hb hbox hg; have hnb97 := NB228_225.out; have hnc97 := NB225_228.out; have hnb98 := NB228_226.out; have hnc98 := NB226_228.out; obtain ⟨hcz99_0, hcz99_1, hcz99_2, hcz99_3, hcz99_4, hcz99_5, hcz99_6, hfz99_0, hfz99_1, hfz99_2, hfz99_3, hfz99_4, hfz99_5, hfz99_6⟩ := bx7 BK228.out))
      go_roundg k1
      case measure => have := HK1.out; omega
      case rel => exact ⟨(x6_1), (wrap64 (x7_1 + 1)), (x227000_1), (x227001_1), (x227002_1), (by first | rfl | (simp; done) | (simp [*]; done)), H', ⟨by have := HK1.out; omega⟩, ⟨by (with_reducible repeat (first | apply Kd.S_alloc | apply Kd.S_drewN | apply Kd.S_drew)); exact Kd.S_mono (Kd.S_far (p := ⟨gb228, 6, none⟩) (Kd.S_far (p := ⟨gb228, 5, none⟩) (Kd.S_far (p := ⟨gb228, 4, none⟩) (Kd.S_far (p := ⟨gb228, 3, none⟩) (Kd.S_far (p := ⟨gb228, 2, none⟩) (Kd.S_far (p := ⟨gb228, 1, none⟩) (Kd.S_far (p := ⟨gb228, 0, none⟩) (Kd.S_types HO_6.out BK228.out (by decide)) (fun _ hk => hk.2) (.int .u32 ((rd_T50 l1_2 x7_1).f0))) (fun _ hk => hk.2) (.int .u32 ((rd_T50 l1_2 x7_1).f1))) (fun _ hk => hk.2) (.int .u64 ((rd_T50 l1_2 x7_1).f2))) (fun _ hk => hk.2) (.int .u64 ((rd_T50 l1_2 x7_1).f3))) (fun _ hk => hk.2) (.int .u64 ((rd_T50 l1_2 x7_1).f4))) (fun _ hk => hk.2) (.int .u64 ((rd_T50 l1_2 x7_1).f5))) (fun _ hk => hk.2) (.int .u64 ((rd_T50 l1_2 x7_1).f6))) (fun _ hk => trivial)⟩, ⟨by (with_reducible repeat (first | refine kN ?_ _ | refine kD ?_ | refine kA ?_ _)); refine blk_far ?_ NB225_228.out _; (with_reducible repeat (first | refine kN ?_ _ | refine kD ?_ | refine kA ?_ _)); refine blk_far ?_ NB225_228.out _; (with_reducible repeat (first | refine kN ?_ _ | refine kD ?_ | refine kA ?_ _)); refine blk_far ?_ NB225_228.out _; (with_reducible repeat (first | refine kN ?_ _ | refine kD ?_ | refine kA ?_ _)); refine blk_far ?_ NB225_228.out _; (with_reducible repeat (first | refine kN ?_ _ | refine kD ?_ | refine kA ?_ _)); refine blk_far ?_ NB225_228.out _; (with_reducible repeat (first | refine kN ?_ _ | refine kD ?_ | refine kA ?_ _)); refine blk_far ?_ NB225_228.out _; (with_reducible repeat (first | refine kN ?_ _ | refine kD ?_ | refine kA ?_ _)); refine blk_far ?_ NB225_228.out _; (with_reducible repeat (first | refine kN ?_ _ | refine kD ?_ | refine kA ?_ _)); exact BK225.out⟩, ⟨by (with_reducible repeat (first | refine kN ?_ _ | refine kD ?_ | refine kA ?_ _)); refine blk_far ?_ NB226_228.out _; (with_reducible repeat (first | refine kN ?_ _ | refine kD ?_ | refine kA ?_ _)); refine blk_far ?_ NB226_228.out _; (with_reducible repeat (first | refine kN ?_ _ | refine kD ?_ | refine kA ?_ _)); refine blk_far ?_ NB226_228.out _; (with_reducible repeat (first | refine kN ?_ _ | refine kD ?_ | refine kA ?_ _)); refine blk_far ?_ NB226_228.out _; (with_reducible repeat (first | refine kN ?_ _ | refine kD ?_ | refine kA ?_ _)); refine blk_far ?_ NB226_228.out _; (with_reducible repeat (first | refine kN ?_ _ | refine kD ?_ | refine kA ?_ _)); refine blk_far ?_ NB226_228.out _; (with_reducible repeat (first | refine kN ?_ _ | refine kD ?_ | refine kA ?_ _)); refine blk_far ?_ NB226_228.out _; (with_reducible repeat (first | refine kN ?_ _ | refine kD ?_ | refine kA ?_ _)); exact BK226.out⟩, ⟨by repeat (first | (with_reducible first | exact HB.out | apply bA | apply bN | apply bD | refine below_set ?_ GE225.out | refine below_set ?_ GE226.out | refine below_set ?_ GE228.out) | exact HB.out)⟩⟩
    ·rw [if_neg c6] at H; exact absurd H (by simp)
   ·rw [if_neg c5] at H; have c5b0 : decide (x7_1 < (l1_2.length : Int)) = false := decide_eq_false c5; clear c5; simp only [Option.some.injEq, Prod.mk.injEq] at H; obtain ⟨rfl, rfl, rfl, rfl⟩ := H; have hnb100 := NB225_226.out; have hnc100 := NB226_225.out; obtain ⟨hcz101_0, hcz101_1, hcz101_2, hfz101_0, hfz101_1, hfz101_2⟩ := bx3 BK225.out; obtain ⟨hcz102_0, hcz102_1, hcz102_2, hfz102_0, hfz102_1, hfz102_2⟩ := bx3 BK226.out
    go_wp2
    refine bodyPost_ret (results_tc rfl _ _ gb226 34 #[.int .i64 0, .bool false, .int .u64 0] (0, 0) _ rfl (by (with_reducible repeat (first | refine kN ?_ _ | refine kD ?_ | refine kA ?_ _)); refine blk_put (cs := #[.int .i64 0, .bool false, .int .u64 x227002_1]) ?_ 2 _ rfl; (with_reducible repeat (first | refine kN ?_ _ | refine kD ?_ | refine kA ?_ _)); refine blk_put (cs := #[.int .i64 0, .bool x227001_1, .int .u64 x227002_1]) ?_ 1 _ rfl; (with_reducible repeat (first | refine kN ?_ _ | refine kD ?_ | refine kA ?_ _)); refine blk_put (cs := #[.int .i64 x227000_1, .bool x227001_1, .int .u64 x227002_1]) ?_ 0 _ rfl; (with_reducible repeat (first | refine kN ?_ _ | refine kD ?_ | refine kA ?_ _)); exact BK226.out) Tryd.underlying34 rfl (by kernel_rfl)) rfl ?_; exact ⟨_, by first | rfl | (simp [errW_none, errW_some] <;> rfl) | (simp [*, errW_none, errW_some] <;> rfl), by (with_reducible repeat (first | apply Kd.S_alloc | apply Kd.S_drewN | apply Kd.S_drew)); exact Kd.S_mono (Kd.S_far (p := ⟨gb226, 2, none⟩) (Kd.S_far (p := ⟨gb226, 1, none⟩) (Kd.S_far (p := ⟨gb226, 0, none⟩) (Kd.S_types HO_6.out BK226.out (by decide)) (fun _ hk => hk.2) (.int .i64 0)) (fun _ hk => hk.2) (.bool false)) (fun _ hk => hk.2) (.int .u64 0)) (fun _ hk => trivial), by repeat (first | (with_reducible first | exact HB.out | apply bA | apply bN | apply bD | refine below_set ?_ GE225.out | refine below_set ?_ GE226.out) | exact HB.out)⟩

end Go.Proofs.YtjohdgejjnbddaaDoor.PHeadNotes
