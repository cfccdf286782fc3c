/- Printed by this session's own program (wip/tools: a turn of the kit's print) out of the translation: each Go function that the law reaches as a Lean function, and that the machine's call comes to what that function tells; no condition but what each theorem names. -/
import Derived.Test.YtjbndfogjmfbhaaPDynOrdersx0
import Derived.Test.YtjbndfogjmfbhaaPDynOrdersx5
namespace Go.Proofs.Ytjbndfogjmfbhaa.PDynOrders
open Go.RowKit Go.Proofs.YtjbndfogjmfbhaaW.PrintWords Go.Proofs.YtjbndfogjmfbhaaW.PrintLast Go.Proofs.YtjbndfogjmfbhaaW.PrintMore Go.Proofs.YtjbndfogjmfbhaaX
attribute [local go_sem] max2_int min2_int max_two min_two max_three min_three max_four min_four   -- for this text's walks alone
set_option linter.unusedVariables false
set_option linter.unusedSimpArgs false

/-! ### shackleref05_Same: function 15 (by hand) -/
theorem Kd.C_empty_ {α : Type} {d : Kd α} (A : Option Addr) (w : World) : d.C w A ([] : List α).length [] := ⟨rfl, by simp, fun h => absurd h (Nat.lt_irrefl 0)⟩
def dyn_same.L (g : Nat → Int) : List Int := [g 1, g 2, g 3, g 4, g 5, g 6, g 7, g 8, g 9, g 10, g 11, g 12, g 13, g 17, g 18, g 19, g 20, g 21, g 22, g 23, g 24, g 25, g 26, g 27, g 28, g 29, g 30, g 31]
def dyn_same.q8 (q p : Nat → Bool) : Bool := q 14 == p 14 && (q 15 == p 15 && (q 16 == p 16 && (q 35 == p 35 && (q 36 == p 36 && (q 32 == p 32 && (q 33 == p 33 && (q 34 == p 34)))))))
def dyn_same.b (g h : Nat → Int) (q p : Nat → Bool) : Bool := decide (dyn_same.L g = dyn_same.L h) && dyn_same.q8 q p
theorem dyn_same.ext (xs ys : List Int) (h1 : xs.length = 28) (h2 : ys.length = 28) (h : ∀ j : Nat, j < 28 → rd xs (j : Int) = rd ys (j : Int)) : xs = ys := by
  apply List.ext_getElem (h1.trans h2.symm)
  intro j hj1 hj2
  have := h j (by omega)
  unfold rd at this
  rw [Int.toNat_natCast, List.getD_eq_getElem?_getD, List.getD_eq_getElem?_getD, List.getElem?_eq_getElem hj1, List.getElem?_eq_getElem hj2] at this
  exact this
set_option maxHeartbeats 16000000 in
set_option maxRecDepth 100000 in
theorem dyn_same.calls (g h : Nat → Int) (q p : Nat → Bool) (A1 A2 : Option Addr) (c1 c2 : Nat) (w : World) :
    Calls Try.prog 15 #[.agg #[.slice A1 0 c1, .int .u64 (g 1), .int .u64 (g 2), .int .u64 (g 3), .int .u64 (g 4), .int .u64 (g 5), .int .u64 (g 6), .int .u64 (g 7), .int .u64 (g 8), .int .u64 (g 9), .int .u64 (g 10), .int .u64 (g 11), .int .u64 (g 12), .int .u64 (g 13), .bool (q 14), .bool (q 15), .bool (q 16), .int .u64 (g 17), .int .u64 (g 18), .int .u64 (g 19), .int .u64 (g 20), .int .u64 (g 21), .int .u64 (g 22), .int .u64 (g 23), .int .u64 (g 24), .int .u64 (g 25), .int .u64 (g 26), .int .u64 (g 27), .int .u64 (g 28), .int .u64 (g 29), .int .u64 (g 30), .int .u64 (g 31), .bool (q 32), .bool (q 33), .bool (q 34), .bool (q 35), .bool (q 36)], .agg #[.slice A2 0 c2, .int .u64 (h 1), .int .u64 (h 2), .int .u64 (h 3), .int .u64 (h 4), .int .u64 (h 5), .int .u64 (h 6), .int .u64 (h 7), .int .u64 (h 8), .int .u64 (h 9), .int .u64 (h 10), .int .u64 (h 11), .int .u64 (h 12), .int .u64 (h 13), .bool (p 14), .bool (p 15), .bool (p 16), .int .u64 (h 17), .int .u64 (h 18), .int .u64 (h 19), .int .u64 (h 20), .int .u64 (h 21), .int .u64 (h 22), .int .u64 (h 23), .int .u64 (h 24), .int .u64 (h 25), .int .u64 (h 26), .int .u64 (h 27), .int .u64 (h 28), .int .u64 (h 29), .int .u64 (h 30), .int .u64 (h 31), .bool (p 32), .bool (p 33), .bool (p 34), .bool (p 35), .bool (p 36)]] w fun e w' => e = .returned (.bool (dyn_same.b g h q p)) ∧ Below w.heap.size w w' := by
  have hu43 := Try.underlying43
  have hu36 := Try.underlying36
  have hu41 := Try.underlying41
  have eF : ∀ args w, (callFunc 31 args).run Try.prog w = .ok (.enter 31 args) w := enters_of Try.func31 (by kernel_rfl) rfl
  obtain ⟨xs, hxs⟩ : ∃ xs, shackleref05_fields.f [] (g 1) (g 2) (g 3) (g 4) (g 5) (g 6) (g 7) (g 8) (g 9) (g 10) (g 11) (g 12) (g 13) (q 14) (q 15) (q 16) (g 17) (g 18) (g 19) (g 20) (g 21) (g 22) (g 23) (g 24) (g 25) (g 26) (g 27) (g 28) (g 29) (g 30) (g 31) (q 32) (q 33) (q 34) (q 35) (q 36) = some xs := ⟨_, rfl⟩
  obtain ⟨ys, hys⟩ : ∃ ys, shackleref05_fields.f [] (h 1) (h 2) (h 3) (h 4) (h 5) (h 6) (h 7) (h 8) (h 9) (h 10) (h 11) (h 12) (h 13) (p 14) (p 15) (p 16) (h 17) (h 18) (h 19) (h 20) (h 21) (h 22) (h 23) (h 24) (h 25) (h 26) (h 27) (h 28) (h 29) (h 30) (h 31) (p 32) (p 33) (p 34) (p 35) (p 36) = some ys := ⟨_, rfl⟩
  have ex : dyn_same.L g = xs := Option.some.inj hxs
  have ey : dyn_same.L h = ys := Option.some.inj hys
  have lx : xs.length = 28 := by rw [← ex]; rfl
  have ly : ys.length = 28 := by rw [← ey]; rfl
  have hb : dyn_same.b g h q p = (decide (xs = ys) && dyn_same.q8 q p) := by unfold dyn_same.b; rw [ex, ey]
  have HXS := Aside0.mk hxs
  have HYS := Aside0.mk hys
  have LX := Aside0.mk lx
  have LY := Aside0.mk ly
  have HBB := Aside0.mk hb
  clear hxs hys lx ly hb ex ey
  have s1 : (w.alloc (.cells #[.slice A1 0 c1, .int .u64 (g 1), .int .u64 (g 2), .int .u64 (g 3), .int .u64 (g 4), .int .u64 (g 5), .int .u64 (g 6), .int .u64 (g 7), .int .u64 (g 8), .int .u64 (g 9), .int .u64 (g 10), .int .u64 (g 11), .int .u64 (g 12), .int .u64 (g 13), .bool (q 14), .bool (q 15), .bool (q 16), .int .u64 (g 17), .int .u64 (g 18), .int .u64 (g 19), .int .u64 (g 20), .int .u64 (g 21), .int .u64 (g 22), .int .u64 (g 23), .int .u64 (g 24), .int .u64 (g 25), .int .u64 (g 26), .int .u64 (g 27), .int .u64 (g 28), .int .u64 (g 29), .int .u64 (g 30), .int .u64 (g 31), .bool (q 32), .bool (q 33), .bool (q 34), .bool (q 35), .bool (q 36)] 43)).heap.size = w.heap.size + 1 := by simp
  have BA := Aside0.mk (blk_alloc (blk_new w (.cells #[.slice A1 0 c1, .int .u64 (g 1), .int .u64 (g 2), .int .u64 (g 3), .int .u64 (g 4), .int .u64 (g 5), .int .u64 (g 6), .int .u64 (g 7), .int .u64 (g 8), .int .u64 (g 9), .int .u64 (g 10), .int .u64 (g 11), .int .u64 (g 12), .int .u64 (g 13), .bool (q 14), .bool (q 15), .bool (q 16), .int .u64 (g 17), .int .u64 (g 18), .int .u64 (g 19), .int .u64 (g 20), .int .u64 (g 21), .int .u64 (g 22), .int .u64 (g 23), .int .u64 (g 24), .int .u64 (g 25), .int .u64 (g 26), .int .u64 (g 27), .int .u64 (g 28), .int .u64 (g 29), .int .u64 (g 30), .int .u64 (g 31), .bool (q 32), .bool (q 33), .bool (q 34), .bool (q 35), .bool (q 36)] 43)) (.cells #[.slice A2 0 c2, .int .u64 (h 1), .int .u64 (h 2), .int .u64 (h 3), .int .u64 (h 4), .int .u64 (h 5), .int .u64 (h 6), .int .u64 (h 7), .int .u64 (h 8), .int .u64 (h 9), .int .u64 (h 10), .int .u64 (h 11), .int .u64 (h 12), .int .u64 (h 13), .bool (p 14), .bool (p 15), .bool (p 16), .int .u64 (h 17), .int .u64 (h 18), .int .u64 (h 19), .int .u64 (h 20), .int .u64 (h 21), .int .u64 (h 22), .int .u64 (h 23), .int .u64 (h 24), .int .u64 (h 25), .int .u64 (h 26), .int .u64 (h 27), .int .u64 (h 28), .int .u64 (h 29), .int .u64 (h 30), .int .u64 (h 31), .bool (p 32), .bool (p 33), .bool (p 34), .bool (p 35), .bool (p 36)] 43))
  have BB := Aside0.mk (blk_new (w.alloc (.cells #[.slice A1 0 c1, .int .u64 (g 1), .int .u64 (g 2), .int .u64 (g 3), .int .u64 (g 4), .int .u64 (g 5), .int .u64 (g 6), .int .u64 (g 7), .int .u64 (g 8), .int .u64 (g 9), .int .u64 (g 10), .int .u64 (g 11), .int .u64 (g 12), .int .u64 (g 13), .bool (q 14), .bool (q 15), .bool (q 16), .int .u64 (g 17), .int .u64 (g 18), .int .u64 (g 19), .int .u64 (g 20), .int .u64 (g 21), .int .u64 (g 22), .int .u64 (g 23), .int .u64 (g 24), .int .u64 (g 25), .int .u64 (g 26), .int .u64 (g 27), .int .u64 (g 28), .int .u64 (g 29), .int .u64 (g 30), .int .u64 (g 31), .bool (q 32), .bool (q 33), .bool (q 34), .bool (q 35), .bool (q 36)] 43)) (.cells #[.slice A2 0 c2, .int .u64 (h 1), .int .u64 (h 2), .int .u64 (h 3), .int .u64 (h 4), .int .u64 (h 5), .int .u64 (h 6), .int .u64 (h 7), .int .u64 (h 8), .int .u64 (h 9), .int .u64 (h 10), .int .u64 (h 11), .int .u64 (h 12), .int .u64 (h 13), .bool (p 14), .bool (p 15), .bool (p 16), .int .u64 (h 17), .int .u64 (h 18), .int .u64 (h 19), .int .u64 (h 20), .int .u64 (h 21), .int .u64 (h 22), .int .u64 (h 23), .int .u64 (h 24), .int .u64 (h 25), .int .u64 (h 26), .int .u64 (h 27), .int .u64 (h 28), .int .u64 (h 29), .int .u64 (h 30), .int .u64 (h 31), .bool (p 32), .bool (p 33), .bool (p 34), .bool (p 35), .bool (p 36)] 43))
  rw [s1] at BB
  have HB := Aside0.mk (((Below.refl w.heap.size w).alloc (Nat.le_refl _) (.cells #[.slice A1 0 c1, .int .u64 (g 1), .int .u64 (g 2), .int .u64 (g 3), .int .u64 (g 4), .int .u64 (g 5), .int .u64 (g 6), .int .u64 (g 7), .int .u64 (g 8), .int .u64 (g 9), .int .u64 (g 10), .int .u64 (g 11), .int .u64 (g 12), .int .u64 (g 13), .bool (q 14), .bool (q 15), .bool (q 16), .int .u64 (g 17), .int .u64 (g 18), .int .u64 (g 19), .int .u64 (g 20), .int .u64 (g 21), .int .u64 (g 22), .int .u64 (g 23), .int .u64 (g 24), .int .u64 (g 25), .int .u64 (g 26), .int .u64 (g 27), .int .u64 (g 28), .int .u64 (g 29), .int .u64 (g 30), .int .u64 (g 31), .bool (q 32), .bool (q 33), .bool (q 34), .bool (q 35), .bool (q 36)] 43)).alloc (by simp) (.cells #[.slice A2 0 c2, .int .u64 (h 1), .int .u64 (h 2), .int .u64 (h 3), .int .u64 (h 4), .int .u64 (h 5), .int .u64 (h 6), .int .u64 (h 7), .int .u64 (h 8), .int .u64 (h 9), .int .u64 (h 10), .int .u64 (h 11), .int .u64 (h 12), .int .u64 (h 13), .bool (p 14), .bool (p 15), .bool (p 16), .int .u64 (h 17), .int .u64 (h 18), .int .u64 (h 19), .int .u64 (h 20), .int .u64 (h 21), .int .u64 (h 22), .int .u64 (h 23), .int .u64 (h 24), .int .u64 (h 25), .int .u64 (h 26), .int .u64 (h 27), .int .u64 (h 28), .int .u64 (h 29), .int .u64 (h 30), .int .u64 (h 31), .bool (p 32), .bool (p 33), .bool (p 34), .bool (p 35), .bool (p 36)] 43))
  clear s1
  go_enter Try.func15, Try.ntmps15
  go_upto_region 1 with (fail)
  generalize ((w.alloc (.cells #[.slice A1 0 c1, .int .u64 (g 1), .int .u64 (g 2), .int .u64 (g 3), .int .u64 (g 4), .int .u64 (g 5), .int .u64 (g 6), .int .u64 (g 7), .int .u64 (g 8), .int .u64 (g 9), .int .u64 (g 10), .int .u64 (g 11), .int .u64 (g 12), .int .u64 (g 13), .bool (q 14), .bool (q 15), .bool (q 16), .int .u64 (g 17), .int .u64 (g 18), .int .u64 (g 19), .int .u64 (g 20), .int .u64 (g 21), .int .u64 (g 22), .int .u64 (g 23), .int .u64 (g 24), .int .u64 (g 25), .int .u64 (g 26), .int .u64 (g 27), .int .u64 (g 28), .int .u64 (g 29), .int .u64 (g 30), .int .u64 (g 31), .bool (q 32), .bool (q 33), .bool (q 34), .bool (q 35), .bool (q 36)] 43)).alloc (.cells #[.slice A2 0 c2, .int .u64 (h 1), .int .u64 (h 2), .int .u64 (h 3), .int .u64 (h 4), .int .u64 (h 5), .int .u64 (h 6), .int .u64 (h 7), .int .u64 (h 8), .int .u64 (h 9), .int .u64 (h 10), .int .u64 (h 11), .int .u64 (h 12), .int .u64 (h 13), .bool (p 14), .bool (p 15), .bool (p 16), .int .u64 (h 17), .int .u64 (h 18), .int .u64 (h 19), .int .u64 (h 20), .int .u64 (h 21), .int .u64 (h 22), .int .u64 (h 23), .int .u64 (h 24), .int .u64 (h 25), .int .u64 (h 26), .int .u64 (h 27), .int .u64 (h 28), .int .u64 (h 29), .int .u64 (h 30), .int .u64 (h 31), .bool (p 32), .bool (p 33), .bool (p 34), .bool (p 35), .bool (p 36)] 43)) = wi at BA BB HB ⊢
  generalize w.heap.size + 1 = bb at BB ⊢
  have ha0 := (show _ = some (Value.slice A1 0 c1) from (blk_cell BA.out 0).trans rfl)
  have hb0 := (show _ = some (Value.slice A2 0 c2) from (blk_cell BB.out 0).trans rfl)
  go_wp2
  go_loopg [5] 0 (fun kq v5 wr => v5 = .int .i64 0 ∧ Aside0 (wr.heap[w.heap.size]? = some (.cells #[.slice A1 0 c1, .int .u64 (g 1), .int .u64 (g 2), .int .u64 (g 3), .int .u64 (g 4), .int .u64 (g 5), .int .u64 (g 6), .int .u64 (g 7), .int .u64 (g 8), .int .u64 (g 9), .int .u64 (g 10), .int .u64 (g 11), .int .u64 (g 12), .int .u64 (g 13), .bool (q 14), .bool (q 15), .bool (q 16), .int .u64 (g 17), .int .u64 (g 18), .int .u64 (g 19), .int .u64 (g 20), .int .u64 (g 21), .int .u64 (g 22), .int .u64 (g 23), .int .u64 (g 24), .int .u64 (g 25), .int .u64 (g 26), .int .u64 (g 27), .int .u64 (g 28), .int .u64 (g 29), .int .u64 (g 30), .int .u64 (g 31), .bool (q 32), .bool (q 33), .bool (q 34), .bool (q 35), .bool (q 36)] 43 (0, 0))) ∧ Aside0 (wr.heap[bb]? = some (.cells #[.slice A2 0 c2, .int .u64 (h 1), .int .u64 (h 2), .int .u64 (h 3), .int .u64 (h 4), .int .u64 (h 5), .int .u64 (h 6), .int .u64 (h 7), .int .u64 (h 8), .int .u64 (h 9), .int .u64 (h 10), .int .u64 (h 11), .int .u64 (h 12), .int .u64 (h 13), .bool (p 14), .bool (p 15), .bool (p 16), .int .u64 (h 17), .int .u64 (h 18), .int .u64 (h 19), .int .u64 (h 20), .int .u64 (h 21), .int .u64 (h 22), .int .u64 (h 23), .int .u64 (h 24), .int .u64 (h 25), .int .u64 (h 26), .int .u64 (h 27), .int .u64 (h 28), .int .u64 (h 29), .int .u64 (h 30), .int .u64 (h 31), .bool (p 32), .bool (p 33), .bool (p 34), .bool (p 35), .bool (p 36)] 43 (0, 0))) ∧ Aside0 (Below w.heap.size w wr))
  case atStart => exact ⟨rfl, BA, BB, HB⟩
  case round =>
    clear BA BB HB ha0 hb0
    obtain ⟨rfl, BA, BB, HB⟩ := hrel
    have ha0 := (show _ = some (Value.slice A1 0 c1) from (blk_cell BA.out 0).trans rfl)
    have hb0 := (show _ = some (Value.slice A2 0 c2) from (blk_cell BB.out 0).trans rfl)
    go_upto_region 9 with (first | (refine wpList_load_row rfl 43 _ rfl w.heap.size rfl 43 _ (0, 0) _ BA.out hu43 rfl (show (Try.prog.info? 43).map (·.size) = some 37 by kernel_rfl) ?_) | (go_at_fn 31; refine (shackleref05_fields.calls A1 c1 [] (g 1) (g 2) (g 3) (g 4) (g 5) (g 6) (g 7) (g 8) (g 9) (g 10) (g 11) (g 12) (g 13) (q 14) (q 15) (q 16) (g 17) (g 18) (g 19) (g 20) (g 21) (g 22) (g 23) (g 24) (g 25) (g 26) (g 27) (g 28) (g 29) (g 30) (g 31) (q 32) (q 33) (q 34) (q 35) (q 36) xs _ (Kd.C_empty_ A1 _) (Nat.zero_le _) HXS.out).mono ?_; rintro e w' ⟨vx, rfl, ho, hb⟩; have HX := Aside0.mk (Kd.R_lower ho HB.out.size); replace BA := Aside0.mk (blk_below BA.out hb); replace BB := Aside0.mk (blk_below BB.out hb); replace HB := Aside0.mk (HB.out.trans (hb.mono HB.out.size)); clear ho ha0 hb0; clear hb))
    go_upto_region 10 with (first | (refine wpList_load_row rfl 43 _ rfl bb rfl 43 _ (0, 0) _ BB.out hu43 rfl (show (Try.prog.info? 43).map (·.size) = some 37 by kernel_rfl) ?_) | (go_at_fn 31; refine (shackleref05_fields.calls A2 c2 [] (h 1) (h 2) (h 3) (h 4) (h 5) (h 6) (h 7) (h 8) (h 9) (h 10) (h 11) (h 12) (h 13) (p 14) (p 15) (p 16) (h 17) (h 18) (h 19) (h 20) (h 21) (h 22) (h 23) (h 24) (h 25) (h 26) (h 27) (h 28) (h 29) (h 30) (h 31) (p 32) (p 33) (p 34) (p 35) (p 36) ys _ (Kd.C_empty_ A2 _) (Nat.zero_le _) HYS.out).mono ?_; rintro e w' ⟨vy, rfl, ho, hb⟩; replace HX := Aside0.mk (Kd.R_below HX.out hb); have HY := Aside0.mk (Kd.R_lower ho HB.out.size); replace BA := Aside0.mk (blk_below BA.out hb); replace BB := Aside0.mk (blk_below BB.out hb); replace HB := Aside0.mk (HB.out.trans (hb.mono HB.out.size)); clear ho; clear hb))
    obtain ⟨Ax, cx, evx⟩ := Kd.R_slice HX.out
    subst evx
    obtain ⟨Ay, cy, evy⟩ := Kd.R_slice HY.out
    subst evy
    go_wp2
    go_loopg [8] 28 (fun kq v8 wr => ∃ (i : Nat) (x8 : Int), v8 = .int .i64 x8 ∧ Aside0 (x8 = (i : Int)) ∧ Aside0 (i + kq = 28) ∧ Aside0 (∀ j : Nat, j < i → rd xs (j : Int) = rd ys (j : Int)) ∧ Aside0 (Kd.R (Kd.int .u64) 36 wr w.heap.size (fun _ => True) (Value.slice Ax xs.length cx) xs) ∧ Aside0 (Kd.R (Kd.int .u64) 36 wr w.heap.size (fun _ => True) (Value.slice Ay ys.length cy) ys) ∧ Aside0 (wr.heap[w.heap.size]? = some (.cells #[.slice A1 0 c1, .int .u64 (g 1), .int .u64 (g 2), .int .u64 (g 3), .int .u64 (g 4), .int .u64 (g 5), .int .u64 (g 6), .int .u64 (g 7), .int .u64 (g 8), .int .u64 (g 9), .int .u64 (g 10), .int .u64 (g 11), .int .u64 (g 12), .int .u64 (g 13), .bool (q 14), .bool (q 15), .bool (q 16), .int .u64 (g 17), .int .u64 (g 18), .int .u64 (g 19), .int .u64 (g 20), .int .u64 (g 21), .int .u64 (g 22), .int .u64 (g 23), .int .u64 (g 24), .int .u64 (g 25), .int .u64 (g 26), .int .u64 (g 27), .int .u64 (g 28), .int .u64 (g 29), .int .u64 (g 30), .int .u64 (g 31), .bool (q 32), .bool (q 33), .bool (q 34), .bool (q 35), .bool (q 36)] 43 (0, 0))) ∧ Aside0 (wr.heap[bb]? = some (.cells #[.slice A2 0 c2, .int .u64 (h 1), .int .u64 (h 2), .int .u64 (h 3), .int .u64 (h 4), .int .u64 (h 5), .int .u64 (h 6), .int .u64 (h 7), .int .u64 (h 8), .int .u64 (h 9), .int .u64 (h 10), .int .u64 (h 11), .int .u64 (h 12), .int .u64 (h 13), .bool (p 14), .bool (p 15), .bool (p 16), .int .u64 (h 17), .int .u64 (h 18), .int .u64 (h 19), .int .u64 (h 20), .int .u64 (h 21), .int .u64 (h 22), .int .u64 (h 23), .int .u64 (h 24), .int .u64 (h 25), .int .u64 (h 26), .int .u64 (h 27), .int .u64 (h 28), .int .u64 (h 29), .int .u64 (h 30), .int .u64 (h 31), .bool (p 32), .bool (p 33), .bool (p 34), .bool (p 35), .bool (p 36)] 43 (0, 0))) ∧ Aside0 (Below w.heap.size w wr))
    case atStart => exact ⟨0, 0, rfl, ⟨rfl⟩, ⟨rfl⟩, ⟨fun j hj => absurd hj (Nat.not_lt_zero j)⟩, HX, HY, BA, BB, HB⟩
    case round =>
      clear BA BB HB HX HY
      obtain ⟨i, x8, rfl, HI, HK, HJ, HX, HY, BA, BB, HB⟩ := hrel
      by_cases ci : i < 28
      · have c1b : decide (x8 < (xs.length : Int)) = true := decide_eq_true (by rw [LX.out, HI.out]; omega)
        have p1 : 0 ≤ x8 := by rw [HI.out]; omega
        have q1 : x8 < (xs.length : Int) := by rw [LX.out, HI.out]; omega
        have q2 : x8 < (ys.length : Int) := by rw [LY.out, HI.out]; omega
        obtain ⟨ad1, e1, hx1⟩ := Kd.at_int (Kd.R_reads' HX.out).2.2 x8 p1 q1
        cases e1
        obtain ⟨ad2, e2, hx2⟩ := Kd.at_int (Kd.R_reads' HY.out).2.2 x8 p1 q2
        cases e2
        replace p1 := eq_true p1
        replace q1 := eq_true q1
        replace q2 := eq_true q2
        have hw : wrap64 (x8 + 1) = ((i + 1 : Nat) : Int) := by rw [HI.out]; unfold wrap64; omega
        have HW := Aside0.mk hw
        clear hw
        by_cases cq : rd xs x8 = rd ys x8
        · have cb : (rd xs x8 != rd ys x8) = false := bne_eq_false_iff_eq.mpr cq
          have CQ := Aside0.mk cq
          clear cq
          go_wp2
          repeat (go_quiet (fail); try go_wp2)
          go_roundg (gk - 1)
          case measure => have := HK.out; omega
          case rel => exact ⟨i + 1, _, rfl, ⟨HW.out⟩, ⟨by have := HK.out; omega⟩, ⟨fun j hj => by rcases (show j < i ∨ j = i by omega) with h | rfl; exact HJ.out j h; rw [← HI.out]; exact CQ.out⟩, ⟨(by (with_reducible repeat (first | apply Kd.R_alloc | apply Kd.R_drewN | apply Kd.R_drew)); exact HX.out)⟩, ⟨(by (with_reducible repeat (first | apply Kd.R_alloc | apply Kd.R_drewN | apply Kd.R_drew)); exact HY.out)⟩, ⟨(by (with_reducible repeat (first | refine blk_drewN ?_ _ | refine blk_drew ?_ | refine blk_alloc ?_ _)); exact BA.out)⟩, ⟨(by (with_reducible repeat (first | refine blk_drewN ?_ _ | refine blk_drew ?_ | refine blk_alloc ?_ _)); exact BB.out)⟩, ⟨(by repeat (first | (with_reducible first | exact HB.out | apply below_alloc | apply pw_below_drewN | apply below_drew1) | exact HB.out))⟩⟩
        · have cb : (rd xs x8 != rd ys x8) = true := bne_iff_ne.mpr cq
          have hf : dyn_same.b g h q p = false := by rw [HBB.out, decide_eq_false (fun e => cq (by rw [e])), Bool.false_and]
          have HF := Aside0.mk hf
          clear hf cq
          go_wp2
          repeat (go_quiet (fail); try go_wp2)
          go_ret
          exact ⟨by rw [HF.out]; rfl, (by repeat (first | (with_reducible first | exact HB.out | apply below_alloc | apply pw_below_drewN | apply below_drew1) | exact HB.out))⟩
      · have c1b : decide (x8 < (xs.length : Int)) = false := decide_eq_false (by rw [LX.out, HI.out]; omega)
        have hall : xs = ys := dyn_same.ext xs ys LX.out LY.out (fun j hj => HJ.out j (by omega))
        have hf : dyn_same.b g h q p = dyn_same.q8 q p := by rw [HBB.out, decide_eq_true hall, Bool.true_and]
        have HF := Aside0.mk hf
        clear hf hall ci
        clear HX HY HJ HK HI HXS HYS LX LY HBB
        have ha14 := (show _ = some (Value.bool (q 14)) from (blk_cell BA.out 14).trans rfl)
        have hb14 := (show _ = some (Value.bool (p 14)) from (blk_cell BB.out 14).trans rfl)
        have ha15 := (show _ = some (Value.bool (q 15)) from (blk_cell BA.out 15).trans rfl)
        have hb15 := (show _ = some (Value.bool (p 15)) from (blk_cell BB.out 15).trans rfl)
        have ha16 := (show _ = some (Value.bool (q 16)) from (blk_cell BA.out 16).trans rfl)
        have hb16 := (show _ = some (Value.bool (p 16)) from (blk_cell BB.out 16).trans rfl)
        have ha35 := (show _ = some (Value.bool (q 35)) from (blk_cell BA.out 35).trans rfl)
        have hb35 := (show _ = some (Value.bool (p 35)) from (blk_cell BB.out 35).trans rfl)
        have ha36 := (show _ = some (Value.bool (q 36)) from (blk_cell BA.out 36).trans rfl)
        have hb36 := (show _ = some (Value.bool (p 36)) from (blk_cell BB.out 36).trans rfl)
        have ha32 := (show _ = some (Value.bool (q 32)) from (blk_cell BA.out 32).trans rfl)
        have hb32 := (show _ = some (Value.bool (p 32)) from (blk_cell BB.out 32).trans rfl)
        have ha33 := (show _ = some (Value.bool (q 33)) from (blk_cell BA.out 33).trans rfl)
        have hb33 := (show _ = some (Value.bool (p 33)) from (blk_cell BB.out 33).trans rfl)
        have ha34 := (show _ = some (Value.bool (q 34)) from (blk_cell BA.out 34).trans rfl)
        have hb34 := (show _ = some (Value.bool (p 34)) from (blk_cell BB.out 34).trans rfl)
        cases n14 : (q 14 == p 14)
        · skip
          have h8 : dyn_same.q8 q p = false := by unfold dyn_same.q8; rw [n14]; rfl
          go_wp2
          go_ret
          exact ⟨by first | (rw [HF.out, h8]; rfl) | (simp [HF.out, h8]; done), HB.out⟩
        · skip
          cases n15 : (q 15 == p 15)
          · skip
            have h8 : dyn_same.q8 q p = false := by unfold dyn_same.q8; rw [n14, n15]; rfl
            go_wp2
            go_ret
            exact ⟨by first | (rw [HF.out, h8]; rfl) | (simp [HF.out, h8]; done), HB.out⟩
          · skip
            cases n16 : (q 16 == p 16)
            · skip
              have h8 : dyn_same.q8 q p = false := by unfold dyn_same.q8; rw [n14, n15, n16]; rfl
              go_wp2
              go_ret
              exact ⟨by first | (rw [HF.out, h8]; rfl) | (simp [HF.out, h8]; done), HB.out⟩
            · skip
              cases n35 : (q 35 == p 35)
              · skip
                have h8 : dyn_same.q8 q p = false := by unfold dyn_same.q8; rw [n14, n15, n16, n35]; rfl
                go_wp2
                go_ret
                exact ⟨by first | (rw [HF.out, h8]; rfl) | (simp [HF.out, h8]; done), HB.out⟩
              · skip
                cases n36 : (q 36 == p 36)
                · skip
                  have h8 : dyn_same.q8 q p = false := by unfold dyn_same.q8; rw [n14, n15, n16, n35, n36]; rfl
                  go_wp2
                  go_ret
                  exact ⟨by first | (rw [HF.out, h8]; rfl) | (simp [HF.out, h8]; done), HB.out⟩
                · skip
                  cases n32 : (q 32 == p 32)
                  · skip
                    have h8 : dyn_same.q8 q p = false := by unfold dyn_same.q8; rw [n14, n15, n16, n35, n36, n32]; rfl
                    go_wp2
                    go_ret
                    exact ⟨by first | (rw [HF.out, h8]; rfl) | (simp [HF.out, h8]; done), HB.out⟩
                  · skip
                    cases n33 : (q 33 == p 33)
                    · skip
                      have h8 : dyn_same.q8 q p = false := by unfold dyn_same.q8; rw [n14, n15, n16, n35, n36, n32, n33]; rfl
                      go_wp2
                      go_ret
                      exact ⟨by first | (rw [HF.out, h8]; rfl) | (simp [HF.out, h8]; done), HB.out⟩
                    · skip
                      cases n34 : (q 34 == p 34)
                      · skip
                        have h8 : dyn_same.q8 q p = false := by unfold dyn_same.q8; rw [n14, n15, n16, n35, n36, n32, n33, n34]; rfl
                        go_wp2
                        go_ret
                        exact ⟨by first | (rw [HF.out, h8]; rfl) | (simp [HF.out, h8]; done), HB.out⟩
                      · skip
                        have h8 : dyn_same.q8 q p = true := by unfold dyn_same.q8; rw [n14, n15, n16, n35, n36, n32, n33, n34]; rfl
                        go_wp2
                        go_ret
                        exact ⟨by first | (rw [HF.out, h8]; rfl) | (simp [HF.out, h8]; done), HB.out⟩
/-- Of two whose Needed are empty (others are not spoken of). -/
def shackleref05_Same.f (_k : Nat) (l0_0 : List Int) (a0_1 : Int) (a0_2 : Int) (a0_3 : Int) (a0_4 : Int) (a0_5 : Int) (a0_6 : Int) (a0_7 : Int) (a0_8 : Int) (a0_9 : Int) (a0_10 : Int) (a0_11 : Int) (a0_12 : Int) (a0_13 : Int) (a0_14 : Bool) (a0_15 : Bool) (a0_16 : Bool) (a0_17 : Int) (a0_18 : Int) (a0_19 : Int) (a0_20 : Int) (a0_21 : Int) (a0_22 : Int) (a0_23 : Int) (a0_24 : Int) (a0_25 : Int) (a0_26 : Int) (a0_27 : Int) (a0_28 : Int) (a0_29 : Int) (a0_30 : Int) (a0_31 : Int) (a0_32 : Bool) (a0_33 : Bool) (a0_34 : Bool) (a0_35 : Bool) (a0_36 : Bool) (l1_0 : List Int) (a1_1 : Int) (a1_2 : Int) (a1_3 : Int) (a1_4 : Int) (a1_5 : Int) (a1_6 : Int) (a1_7 : Int) (a1_8 : Int) (a1_9 : Int) (a1_10 : Int) (a1_11 : Int) (a1_12 : Int) (a1_13 : Int) (a1_14 : Bool) (a1_15 : Bool) (a1_16 : Bool) (a1_17 : Int) (a1_18 : Int) (a1_19 : Int) (a1_20 : Int) (a1_21 : Int) (a1_22 : Int) (a1_23 : Int) (a1_24 : Int) (a1_25 : Int) (a1_26 : Int) (a1_27 : Int) (a1_28 : Int) (a1_29 : Int) (a1_30 : Int) (a1_31 : Int) (a1_32 : Bool) (a1_33 : Bool) (a1_34 : Bool) (a1_35 : Bool) (a1_36 : Bool) : Option Bool := if l0_0 = [] then (if l1_0 = [] then some (decide (([a0_1, a0_2, a0_3, a0_4, a0_5, a0_6, a0_7, a0_8, a0_9, a0_10, a0_11, a0_12, a0_13, a0_17, a0_18, a0_19, a0_20, a0_21, a0_22, a0_23, a0_24, a0_25, a0_26, a0_27, a0_28, a0_29, a0_30, a0_31] : List Int) = [a1_1, a1_2, a1_3, a1_4, a1_5, a1_6, a1_7, a1_8, a1_9, a1_10, a1_11, a1_12, a1_13, a1_17, a1_18, a1_19, a1_20, a1_21, a1_22, a1_23, a1_24, a1_25, a1_26, a1_27, a1_28, a1_29, a1_30, a1_31]) && (a0_14 == a1_14 && (a0_15 == a1_15 && (a0_16 == a1_16 && (a0_35 == a1_35 && (a0_36 == a1_36 && (a0_32 == a1_32 && (a0_33 == a1_33 && (a0_34 == a1_34))))))))) else none) else none
theorem shackleref05_Same.mono : ∀ l0_0 a0_1 a0_2 a0_3 a0_4 a0_5 a0_6 a0_7 a0_8 a0_9 a0_10 a0_11 a0_12 a0_13 a0_14 a0_15 a0_16 a0_17 a0_18 a0_19 a0_20 a0_21 a0_22 a0_23 a0_24 a0_25 a0_26 a0_27 a0_28 a0_29 a0_30 a0_31 a0_32 a0_33 a0_34 a0_35 a0_36 l1_0 a1_1 a1_2 a1_3 a1_4 a1_5 a1_6 a1_7 a1_8 a1_9 a1_10 a1_11 a1_12 a1_13 a1_14 a1_15 a1_16 a1_17 a1_18 a1_19 a1_20 a1_21 a1_22 a1_23 a1_24 a1_25 a1_26 a1_27 a1_28 a1_29 a1_30 a1_31 a1_32 a1_33 a1_34 a1_35 a1_36 k, LeO (shackleref05_Same.f k l0_0 a0_1 a0_2 a0_3 a0_4 a0_5 a0_6 a0_7 a0_8 a0_9 a0_10 a0_11 a0_12 a0_13 a0_14 a0_15 a0_16 a0_17 a0_18 a0_19 a0_20 a0_21 a0_22 a0_23 a0_24 a0_25 a0_26 a0_27 a0_28 a0_29 a0_30 a0_31 a0_32 a0_33 a0_34 a0_35 a0_36 l1_0 a1_1 a1_2 a1_3 a1_4 a1_5 a1_6 a1_7 a1_8 a1_9 a1_10 a1_11 a1_12 a1_13 a1_14 a1_15 a1_16 a1_17 a1_18 a1_19 a1_20 a1_21 a1_22 a1_23 a1_24 a1_25 a1_26 a1_27 a1_28 a1_29 a1_30 a1_31 a1_32 a1_33 a1_34 a1_35 a1_36) (shackleref05_Same.f (k + 1) l0_0 a0_1 a0_2 a0_3 a0_4 a0_5 a0_6 a0_7 a0_8 a0_9 a0_10 a0_11 a0_12 a0_13 a0_14 a0_15 a0_16 a0_17 a0_18 a0_19 a0_20 a0_21 a0_22 a0_23 a0_24 a0_25 a0_26 a0_27 a0_28 a0_29 a0_30 a0_31 a0_32 a0_33 a0_34 a0_35 a0_36 l1_0 a1_1 a1_2 a1_3 a1_4 a1_5 a1_6 a1_7 a1_8 a1_9 a1_10 a1_11 a1_12 a1_13 a1_14 a1_15 a1_16 a1_17 a1_18 a1_19 a1_20 a1_21 a1_22 a1_23 a1_24 a1_25 a1_26 a1_27 a1_28 a1_29 a1_30 a1_31 a1_32 a1_33 a1_34 a1_35 a1_36) := by
  intros; exact LeO.refl _
theorem shackleref05_Same.calls (k : Nat) (A0_0 : Option Addr) (c0_0 : Nat) (l0_0 : List Int) (a0_1 : Int) (a0_2 : Int) (a0_3 : Int) (a0_4 : Int) (a0_5 : Int) (a0_6 : Int) (a0_7 : Int) (a0_8 : Int) (a0_9 : Int) (a0_10 : Int) (a0_11 : Int) (a0_12 : Int) (a0_13 : Int) (a0_14 : Bool) (a0_15 : Bool) (a0_16 : Bool) (a0_17 : Int) (a0_18 : Int) (a0_19 : Int) (a0_20 : Int) (a0_21 : Int) (a0_22 : Int) (a0_23 : Int) (a0_24 : Int) (a0_25 : Int) (a0_26 : Int) (a0_27 : Int) (a0_28 : Int) (a0_29 : Int) (a0_30 : Int) (a0_31 : Int) (a0_32 : Bool) (a0_33 : Bool) (a0_34 : Bool) (a0_35 : Bool) (a0_36 : Bool) (A1_0 : Option Addr) (c1_0 : Nat) (l1_0 : List Int) (a1_1 : Int) (a1_2 : Int) (a1_3 : Int) (a1_4 : Int) (a1_5 : Int) (a1_6 : Int) (a1_7 : Int) (a1_8 : Int) (a1_9 : Int) (a1_10 : Int) (a1_11 : Int) (a1_12 : Int) (a1_13 : Int) (a1_14 : Bool) (a1_15 : Bool) (a1_16 : Bool) (a1_17 : Int) (a1_18 : Int) (a1_19 : Int) (a1_20 : Int) (a1_21 : Int) (a1_22 : Int) (a1_23 : Int) (a1_24 : Int) (a1_25 : Int) (a1_26 : Int) (a1_27 : Int) (a1_28 : Int) (a1_29 : Int) (a1_30 : Int) (a1_31 : Int) (a1_32 : Bool) (a1_33 : Bool) (a1_34 : Bool) (a1_35 : Bool) (a1_36 : Bool) (r : Bool) (w : World) (hr0_0 : Kd.C (Kd.int .u64) w A0_0 l0_0.length l0_0) (hc0_0 : l0_0.length ≤ c0_0) (hr1_0 : Kd.C (Kd.int .u64) w A1_0 l1_0.length l1_0) (hc1_0 : l1_0.length ≤ c1_0) (h : shackleref05_Same.f k l0_0 a0_1 a0_2 a0_3 a0_4 a0_5 a0_6 a0_7 a0_8 a0_9 a0_10 a0_11 a0_12 a0_13 a0_14 a0_15 a0_16 a0_17 a0_18 a0_19 a0_20 a0_21 a0_22 a0_23 a0_24 a0_25 a0_26 a0_27 a0_28 a0_29 a0_30 a0_31 a0_32 a0_33 a0_34 a0_35 a0_36 l1_0 a1_1 a1_2 a1_3 a1_4 a1_5 a1_6 a1_7 a1_8 a1_9 a1_10 a1_11 a1_12 a1_13 a1_14 a1_15 a1_16 a1_17 a1_18 a1_19 a1_20 a1_21 a1_22 a1_23 a1_24 a1_25 a1_26 a1_27 a1_28 a1_29 a1_30 a1_31 a1_32 a1_33 a1_34 a1_35 a1_36 = some r) :
    Calls Try.prog 15 #[.agg #[.slice A0_0 l0_0.length c0_0, .int .u64 a0_1, .int .u64 a0_2, .int .u64 a0_3, .int .u64 a0_4, .int .u64 a0_5, .int .u64 a0_6, .int .u64 a0_7, .int .u64 a0_8, .int .u64 a0_9, .int .u64 a0_10, .int .u64 a0_11, .int .u64 a0_12, .int .u64 a0_13, .bool a0_14, .bool a0_15, .bool a0_16, .int .u64 a0_17, .int .u64 a0_18, .int .u64 a0_19, .int .u64 a0_20, .int .u64 a0_21, .int .u64 a0_22, .int .u64 a0_23, .int .u64 a0_24, .int .u64 a0_25, .int .u64 a0_26, .int .u64 a0_27, .int .u64 a0_28, .int .u64 a0_29, .int .u64 a0_30, .int .u64 a0_31, .bool a0_32, .bool a0_33, .bool a0_34, .bool a0_35, .bool a0_36], .agg #[.slice A1_0 l1_0.length c1_0, .int .u64 a1_1, .int .u64 a1_2, .int .u64 a1_3, .int .u64 a1_4, .int .u64 a1_5, .int .u64 a1_6, .int .u64 a1_7, .int .u64 a1_8, .int .u64 a1_9, .int .u64 a1_10, .int .u64 a1_11, .int .u64 a1_12, .int .u64 a1_13, .bool a1_14, .bool a1_15, .bool a1_16, .int .u64 a1_17, .int .u64 a1_18, .int .u64 a1_19, .int .u64 a1_20, .int .u64 a1_21, .int .u64 a1_22, .int .u64 a1_23, .int .u64 a1_24, .int .u64 a1_25, .int .u64 a1_26, .int .u64 a1_27, .int .u64 a1_28, .int .u64 a1_29, .int .u64 a1_30, .int .u64 a1_31, .bool a1_32, .bool a1_33, .bool a1_34, .bool a1_35, .bool a1_36]] w fun e w' => e = .returned (.bool r) ∧ Below w.heap.size w w' := by
  unfold shackleref05_Same.f at h
  split at h
  case isFalse => cases h
  rename_i e0
  subst e0
  split at h
  case isFalse => cases h
  rename_i e1
  subst e1
  obtain rfl := Option.some.inj h
  exact dyn_same.calls (fun i => match i with | 1 => a0_1 | 2 => a0_2 | 3 => a0_3 | 4 => a0_4 | 5 => a0_5 | 6 => a0_6 | 7 => a0_7 | 8 => a0_8 | 9 => a0_9 | 10 => a0_10 | 11 => a0_11 | 12 => a0_12 | 13 => a0_13 | 17 => a0_17 | 18 => a0_18 | 19 => a0_19 | 20 => a0_20 | 21 => a0_21 | 22 => a0_22 | 23 => a0_23 | 24 => a0_24 | 25 => a0_25 | 26 => a0_26 | 27 => a0_27 | 28 => a0_28 | 29 => a0_29 | 30 => a0_30 | 31 => a0_31 | _ => 0 : Nat → Int) (fun i => match i with | 1 => a1_1 | 2 => a1_2 | 3 => a1_3 | 4 => a1_4 | 5 => a1_5 | 6 => a1_6 | 7 => a1_7 | 8 => a1_8 | 9 => a1_9 | 10 => a1_10 | 11 => a1_11 | 12 => a1_12 | 13 => a1_13 | 17 => a1_17 | 18 => a1_18 | 19 => a1_19 | 20 => a1_20 | 21 => a1_21 | 22 => a1_22 | 23 => a1_23 | 24 => a1_24 | 25 => a1_25 | 26 => a1_26 | 27 => a1_27 | 28 => a1_28 | 29 => a1_29 | 30 => a1_30 | 31 => a1_31 | _ => 0 : Nat → Int) (fun i => match i with | 14 => a0_14 | 15 => a0_15 | 16 => a0_16 | 32 => a0_32 | 33 => a0_33 | 34 => a0_34 | 35 => a0_35 | 36 => a0_36 | _ => false : Nat → Bool) (fun i => match i with | 14 => a1_14 | 15 => a1_15 | 16 => a1_16 | 32 => a1_32 | 33 => a1_33 | 34 => a1_34 | 35 => a1_35 | 36 => a1_36 | _ => false : Nat → Bool) A0_0 A1_0 c0_0 c1_0 w

/-! ### shacklelaw00_further: function 32 -/
def shacklelaw00_further.f (a0 : Option Int) : Option (Int) := if a0.isNone = true then (some (-1)) else (if (a0.getD 0) = 16 then (some 16) else (if (a0.getD 0) = 17 then (some 17) else (if (a0.getD 0) = 18 then (some 18) else (if (a0.getD 0) = 19 then (some 19) else (if (a0.getD 0) = 20 then (some 20) else (if (a0.getD 0) = 21 then (some 21) else (if (a0.getD 0) = 22 then (some 22) else (if (a0.getD 0) = 23 then (some 23) else (if (a0.getD 0) = 24 then (some 24) else (if (a0.getD 0) = 25 then (some 25) else (if (a0.getD 0) = 26 then (some 26) else (if (a0.getD 0) = 27 then (some 27) else (if (a0.getD 0) = 28 then (some 28) else (if (a0.getD 0) = 29 then (some 29) else (if (a0.getD 0) = 30 then (some 30) else (some (-1)))))))))))))))))
set_option maxHeartbeats 8000000 in
set_option maxRecDepth 100000 in
theorem shacklelaw00_further.calls (a0 : Option Int) (r : Int) (w : World) (h : shacklelaw00_further.f a0 = some r) :
    Calls Try.prog 32 #[errW a0] w fun e w' => e = .returned (.int .i64 r) ∧ Drawn0 w w' := by
  have hu45 := Try.underlying45
  have hu76 := Try.underlying76
  have hcm76 : (Try.prog.info? 76).map (fun i => i.comparable) = some true := by kernel_rfl
  have H : (if a0.isNone = true then (some (-1)) else (if (a0.getD 0) = 16 then (some 16) else (if (a0.getD 0) = 17 then (some 17) else (if (a0.getD 0) = 18 then (some 18) else (if (a0.getD 0) = 19 then (some 19) else (if (a0.getD 0) = 20 then (some 20) else (if (a0.getD 0) = 21 then (some 21) else (if (a0.getD 0) = 22 then (some 22) else (if (a0.getD 0) = 23 then (some 23) else (if (a0.getD 0) = 24 then (some 24) else (if (a0.getD 0) = 25 then (some 25) else (if (a0.getD 0) = 26 then (some 26) else (if (a0.getD 0) = 27 then (some 27) else (if (a0.getD 0) = 28 then (some 28) else (if (a0.getD 0) = 29 then (some 29) else (if (a0.getD 0) = 30 then (some 30) else (some (-1)))))))))))))))))) = some r := h
  clear h
  rcases a0 with _ | q188
  · have H1 : (some (-1)) = some r := by rw [if_pos (show (none : Option Int).isNone = true by rfl)] at H; exact H
    clear H
    have H := H1
    clear H1
    simp only [errW_none, errW_some]
    obtain rfl := Option.some.inj H
    go_enter Try.func32, Try.ntmps32
    go_wp2
    go_ret
    exact ⟨by first | rfl | (simp; done) | (simp [*]; done), by repeat (first | exact Drawn0.refl _ | apply Drawn0.step)⟩
  · have H1 : (if q188 = 16 then (some 16) else (if q188 = 17 then (some 17) else (if q188 = 18 then (some 18) else (if q188 = 19 then (some 19) else (if q188 = 20 then (some 20) else (if q188 = 21 then (some 21) else (if q188 = 22 then (some 22) else (if q188 = 23 then (some 23) else (if q188 = 24 then (some 24) else (if q188 = 25 then (some 25) else (if q188 = 26 then (some 26) else (if q188 = 27 then (some 27) else (if q188 = 28 then (some 28) else (if q188 = 29 then (some 29) else (if q188 = 30 then (some 30) else (some (-1))))))))))))))))) = some r := by rw [if_neg (show ¬ (some q188).isNone = true by simp)] at H; exact H
    clear H
    have H := H1
    clear H1
    simp only [errW_none, errW_some]
    by_cases c2 : q188 = 16
    · rw [if_pos c2] at H
      have c2b0 : (q188 == 16) = true := beq_iff_eq.mpr c2
      have c2b1 : (q188 != 16) = false := bne_eq_false_iff_eq.mpr c2
      clear c2
      obtain rfl := Option.some.inj H
      go_enter Try.func32, Try.ntmps32
      go_wp2
      go_ret
      exact ⟨by first | rfl | (simp; done) | (simp [*]; done), by repeat (first | exact Drawn0.refl _ | apply Drawn0.step)⟩
    · rw [if_neg c2] at H
      have c2b0 : (q188 == 16) = false := beq_eq_false_iff_ne.mpr c2
      have c2b1 : (q188 != 16) = true := bne_iff_ne.mpr c2
      by_cases c3 : q188 = 17
      · rw [if_pos c3] at H
        have c3b0 : (q188 == 17) = true := beq_iff_eq.mpr c3
        have c3b1 : (q188 != 17) = false := bne_eq_false_iff_eq.mpr c3
        clear c3
        obtain rfl := Option.some.inj H
        go_enter Try.func32, Try.ntmps32
        go_wp2
        go_ret
        exact ⟨by first | rfl | (simp; done) | (simp [*]; done), by repeat (first | exact Drawn0.refl _ | apply Drawn0.step)⟩
      · rw [if_neg c3] at H
        have c3b0 : (q188 == 17) = false := beq_eq_false_iff_ne.mpr c3
        have c3b1 : (q188 != 17) = true := bne_iff_ne.mpr c3
        by_cases c4 : q188 = 18
        · rw [if_pos c4] at H
          have c4b0 : (q188 == 18) = true := beq_iff_eq.mpr c4
          have c4b1 : (q188 != 18) = false := bne_eq_false_iff_eq.mpr c4
          clear c4
          obtain rfl := Option.some.inj H
          go_enter Try.func32, Try.ntmps32
          go_wp2
          go_ret
          exact ⟨by first | rfl | (simp; done) | (simp [*]; done), by repeat (first | exact Drawn0.refl _ | apply Drawn0.step)⟩
        · rw [if_neg c4] at H
          have c4b0 : (q188 == 18) = false := beq_eq_false_iff_ne.mpr c4
          have c4b1 : (q188 != 18) = true := bne_iff_ne.mpr c4
          by_cases c5 : q188 = 19
          · rw [if_pos c5] at H
            have c5b0 : (q188 == 19) = true := beq_iff_eq.mpr c5
            have c5b1 : (q188 != 19) = false := bne_eq_false_iff_eq.mpr c5
            clear c5
            obtain rfl := Option.some.inj H
            go_enter Try.func32, Try.ntmps32
            go_wp2
            go_ret
            exact ⟨by first | rfl | (simp; done) | (simp [*]; done), by repeat (first | exact Drawn0.refl _ | apply Drawn0.step)⟩
          · rw [if_neg c5] at H
            have c5b0 : (q188 == 19) = false := beq_eq_false_iff_ne.mpr c5
            have c5b1 : (q188 != 19) = true := bne_iff_ne.mpr c5
            by_cases c6 : q188 = 20
            · rw [if_pos c6] at H
              have c6b0 : (q188 == 20) = true := beq_iff_eq.mpr c6
              have c6b1 : (q188 != 20) = false := bne_eq_false_iff_eq.mpr c6
              clear c6
              obtain rfl := Option.some.inj H
              go_enter Try.func32, Try.ntmps32
              go_wp2
              go_ret
              exact ⟨by first | rfl | (simp; done) | (simp [*]; done), by repeat (first | exact Drawn0.refl _ | apply Drawn0.step)⟩
            · rw [if_neg c6] at H
              have c6b0 : (q188 == 20) = false := beq_eq_false_iff_ne.mpr c6
              have c6b1 : (q188 != 20) = true := bne_iff_ne.mpr c6
              by_cases c7 : q188 = 21
              · rw [if_pos c7] at H
                have c7b0 : (q188 == 21) = true := beq_iff_eq.mpr c7
                have c7b1 : (q188 != 21) = false := bne_eq_false_iff_eq.mpr c7
                clear c7
                obtain rfl := Option.some.inj H
                go_enter Try.func32, Try.ntmps32
                go_wp2
                go_ret
                exact ⟨by first | rfl | (simp; done) | (simp [*]; done), by repeat (first | exact Drawn0.refl _ | apply Drawn0.step)⟩
              · rw [if_neg c7] at H
                have c7b0 : (q188 == 21) = false := beq_eq_false_iff_ne.mpr c7
                have c7b1 : (q188 != 21) = true := bne_iff_ne.mpr c7
                by_cases c8 : q188 = 22
                · rw [if_pos c8] at H
                  have c8b0 : (q188 == 22) = true := beq_iff_eq.mpr c8
                  have c8b1 : (q188 != 22) = false := bne_eq_false_iff_eq.mpr c8
                  clear c8
                  obtain rfl := Option.some.inj H
                  go_enter Try.func32, Try.ntmps32
                  go_wp2
                  go_ret
                  exact ⟨by first | rfl | (simp; done) | (simp [*]; done), by repeat (first | exact Drawn0.refl _ | apply Drawn0.step)⟩
                · rw [if_neg c8] at H
                  have c8b0 : (q188 == 22) = false := beq_eq_false_iff_ne.mpr c8
                  have c8b1 : (q188 != 22) = true := bne_iff_ne.mpr c8
                  by_cases c9 : q188 = 23
                  · rw [if_pos c9] at H
                    have c9b0 : (q188 == 23) = true := beq_iff_eq.mpr c9
                    have c9b1 : (q188 != 23) = false := bne_eq_false_iff_eq.mpr c9
                    clear c9
                    obtain rfl := Option.some.inj H
                    go_enter Try.func32, Try.ntmps32
                    go_wp2
                    go_ret
                    exact ⟨by first | rfl | (simp; done) | (simp [*]; done), by repeat (first | exact Drawn0.refl _ | apply Drawn0.step)⟩
                  · rw [if_neg c9] at H
                    have c9b0 : (q188 == 23) = false := beq_eq_false_iff_ne.mpr c9
                    have c9b1 : (q188 != 23) = true := bne_iff_ne.mpr c9
                    by_cases c10 : q188 = 24
                    · rw [if_pos c10] at H
                      have c10b0 : (q188 == 24) = true := beq_iff_eq.mpr c10
                      have c10b1 : (q188 != 24) = false := bne_eq_false_iff_eq.mpr c10
                      clear c10
                      obtain rfl := Option.some.inj H
                      go_enter Try.func32, Try.ntmps32
                      go_wp2
                      go_ret
                      exact ⟨by first | rfl | (simp; done) | (simp [*]; done), by repeat (first | exact Drawn0.refl _ | apply Drawn0.step)⟩
                    · rw [if_neg c10] at H
                      have c10b0 : (q188 == 24) = false := beq_eq_false_iff_ne.mpr c10
                      have c10b1 : (q188 != 24) = true := bne_iff_ne.mpr c10
                      by_cases c11 : q188 = 25
                      · rw [if_pos c11] at H
                        have c11b0 : (q188 == 25) = true := beq_iff_eq.mpr c11
                        have c11b1 : (q188 != 25) = false := bne_eq_false_iff_eq.mpr c11
                        clear c11
                        obtain rfl := Option.some.inj H
                        go_enter Try.func32, Try.ntmps32
                        go_wp2
                        go_ret
                        exact ⟨by first | rfl | (simp; done) | (simp [*]; done), by repeat (first | exact Drawn0.refl _ | apply Drawn0.step)⟩
                      · rw [if_neg c11] at H
                        have c11b0 : (q188 == 25) = false := beq_eq_false_iff_ne.mpr c11
                        have c11b1 : (q188 != 25) = true := bne_iff_ne.mpr c11
                        by_cases c12 : q188 = 26
                        · rw [if_pos c12] at H
                          have c12b0 : (q188 == 26) = true := beq_iff_eq.mpr c12
                          have c12b1 : (q188 != 26) = false := bne_eq_false_iff_eq.mpr c12
                          clear c12
                          obtain rfl := Option.some.inj H
                          go_enter Try.func32, Try.ntmps32
                          go_wp2
                          go_ret
                          exact ⟨by first | rfl | (simp; done) | (simp [*]; done), by repeat (first | exact Drawn0.refl _ | apply Drawn0.step)⟩
                        · rw [if_neg c12] at H
                          have c12b0 : (q188 == 26) = false := beq_eq_false_iff_ne.mpr c12
                          have c12b1 : (q188 != 26) = true := bne_iff_ne.mpr c12
                          by_cases c13 : q188 = 27
                          · rw [if_pos c13] at H
                            have c13b0 : (q188 == 27) = true := beq_iff_eq.mpr c13
                            have c13b1 : (q188 != 27) = false := bne_eq_false_iff_eq.mpr c13
                            clear c13
                            obtain rfl := Option.some.inj H
                            go_enter Try.func32, Try.ntmps32
                            go_wp2
                            go_ret
                            exact ⟨by first | rfl | (simp; done) | (simp [*]; done), by repeat (first | exact Drawn0.refl _ | apply Drawn0.step)⟩
                          · rw [if_neg c13] at H
                            have c13b0 : (q188 == 27) = false := beq_eq_false_iff_ne.mpr c13
                            have c13b1 : (q188 != 27) = true := bne_iff_ne.mpr c13
                            by_cases c14 : q188 = 28
                            · rw [if_pos c14] at H
                              have c14b0 : (q188 == 28) = true := beq_iff_eq.mpr c14
                              have c14b1 : (q188 != 28) = false := bne_eq_false_iff_eq.mpr c14
                              clear c14
                              obtain rfl := Option.some.inj H
                              go_enter Try.func32, Try.ntmps32
                              go_wp2
                              go_ret
                              exact ⟨by first | rfl | (simp; done) | (simp [*]; done), by repeat (first | exact Drawn0.refl _ | apply Drawn0.step)⟩
                            · rw [if_neg c14] at H
                              have c14b0 : (q188 == 28) = false := beq_eq_false_iff_ne.mpr c14
                              have c14b1 : (q188 != 28) = true := bne_iff_ne.mpr c14
                              by_cases c15 : q188 = 29
                              · rw [if_pos c15] at H
                                have c15b0 : (q188 == 29) = true := beq_iff_eq.mpr c15
                                have c15b1 : (q188 != 29) = false := bne_eq_false_iff_eq.mpr c15
                                clear c15
                                obtain rfl := Option.some.inj H
                                go_enter Try.func32, Try.ntmps32
                                go_wp2
                                go_ret
                                exact ⟨by first | rfl | (simp; done) | (simp [*]; done), by repeat (first | exact Drawn0.refl _ | apply Drawn0.step)⟩
                              · rw [if_neg c15] at H
                                have c15b0 : (q188 == 29) = false := beq_eq_false_iff_ne.mpr c15
                                have c15b1 : (q188 != 29) = true := bne_iff_ne.mpr c15
                                by_cases c16 : q188 = 30
                                · rw [if_pos c16] at H
                                  have c16b0 : (q188 == 30) = true := beq_iff_eq.mpr c16
                                  have c16b1 : (q188 != 30) = false := bne_eq_false_iff_eq.mpr c16
                                  clear c16
                                  obtain rfl := Option.some.inj H
                                  go_enter Try.func32, Try.ntmps32
                                  go_wp2
                                  go_ret
                                  exact ⟨by first | rfl | (simp; done) | (simp [*]; done), by repeat (first | exact Drawn0.refl _ | apply Drawn0.step)⟩
                                · rw [if_neg c16] at H
                                  have c16b0 : (q188 == 30) = false := beq_eq_false_iff_ne.mpr c16
                                  have c16b1 : (q188 != 30) = true := bne_iff_ne.mpr c16
                                  obtain rfl := Option.some.inj H
                                  go_enter Try.func32, Try.ntmps32
                                  go_wp2
                                  go_ret
                                  exact ⟨by first | rfl | (simp; done) | (simp [*]; done), by repeat (first | exact Drawn0.refl _ | apply Drawn0.step)⟩

/-! ### shacklelaw00_Code: function 16 -/
def shacklelaw00_Code.f (a0 : Option Int) : Option (Int) := if a0.isNone = true then (some 0) else (if (a0.getD 0) = 1 then (some 1) else (if (a0.getD 0) = 2 then (some 2) else (if (a0.getD 0) = 3 then (some 3) else (if (a0.getD 0) = 4 then (some 4) else (if (a0.getD 0) = 5 then (some 5) else (if (a0.getD 0) = 6 then (some 6) else (if (a0.getD 0) = 7 then (some 7) else (if (a0.getD 0) = 8 then (some 8) else (if (a0.getD 0) = 9 then (some 9) else (if (a0.getD 0) = 10 then (some 10) else (if (a0.getD 0) = 11 then (some 11) else (if (a0.getD 0) = 12 then (some 12) else (if (a0.getD 0) = 13 then (some 13) else (if (a0.getD 0) = 14 then (some 14) else (if (a0.getD 0) = 15 then (some 15) else ((shacklelaw00_further.f (some (a0.getD 0))).bind fun t190 => (some t190)))))))))))))))))
set_option maxHeartbeats 8000000 in
set_option maxRecDepth 100000 in
theorem shacklelaw00_Code.calls (a0 : Option Int) (r : Int) (w : World) (h : shacklelaw00_Code.f a0 = some r) :
    Calls Try.prog 16 #[errW a0] w fun e w' => e = .returned (.int .i64 r) ∧ Drawn0 w w' := by
  have hu45 := Try.underlying45
  have hu76 := Try.underlying76
  have hcm76 : (Try.prog.info? 76).map (fun i => i.comparable) = some true := by kernel_rfl
  have H : (if a0.isNone = true then (some 0) else (if (a0.getD 0) = 1 then (some 1) else (if (a0.getD 0) = 2 then (some 2) else (if (a0.getD 0) = 3 then (some 3) else (if (a0.getD 0) = 4 then (some 4) else (if (a0.getD 0) = 5 then (some 5) else (if (a0.getD 0) = 6 then (some 6) else (if (a0.getD 0) = 7 then (some 7) else (if (a0.getD 0) = 8 then (some 8) else (if (a0.getD 0) = 9 then (some 9) else (if (a0.getD 0) = 10 then (some 10) else (if (a0.getD 0) = 11 then (some 11) else (if (a0.getD 0) = 12 then (some 12) else (if (a0.getD 0) = 13 then (some 13) else (if (a0.getD 0) = 14 then (some 14) else (if (a0.getD 0) = 15 then (some 15) else ((shacklelaw00_further.f (some (a0.getD 0))).bind fun t190 => (some t190)))))))))))))))))) = some r := h
  clear h
  rcases a0 with _ | q189
  · have H1 : (some 0) = some r := by rw [if_pos (show (none : Option Int).isNone = true by rfl)] at H; exact H
    clear H
    have H := H1
    clear H1
    simp only [errW_none, errW_some]
    obtain rfl := Option.some.inj H
    go_enter Try.func16, Try.ntmps16
    go_wp2
    go_ret
    exact ⟨by first | rfl | (simp; done) | (simp [*]; done), by repeat (first | exact Drawn0.refl _ | apply Drawn0.step)⟩
  · have H1 : (if q189 = 1 then (some 1) else (if q189 = 2 then (some 2) else (if q189 = 3 then (some 3) else (if q189 = 4 then (some 4) else (if q189 = 5 then (some 5) else (if q189 = 6 then (some 6) else (if q189 = 7 then (some 7) else (if q189 = 8 then (some 8) else (if q189 = 9 then (some 9) else (if q189 = 10 then (some 10) else (if q189 = 11 then (some 11) else (if q189 = 12 then (some 12) else (if q189 = 13 then (some 13) else (if q189 = 14 then (some 14) else (if q189 = 15 then (some 15) else ((shacklelaw00_further.f (some q189)).bind fun t190 => (some t190))))))))))))))))) = some r := by rw [if_neg (show ¬ (some q189).isNone = true by simp)] at H; exact H
    clear H
    have H := H1
    clear H1
    simp only [errW_none, errW_some]
    by_cases c2 : q189 = 1
    · rw [if_pos c2] at H
      have c2b0 : (q189 == 1) = true := beq_iff_eq.mpr c2
      have c2b1 : (q189 != 1) = false := bne_eq_false_iff_eq.mpr c2
      clear c2
      obtain rfl := Option.some.inj H
      go_enter Try.func16, Try.ntmps16
      go_wp2
      go_ret
      exact ⟨by first | rfl | (simp; done) | (simp [*]; done), by repeat (first | exact Drawn0.refl _ | apply Drawn0.step)⟩
    · rw [if_neg c2] at H
      have c2b0 : (q189 == 1) = false := beq_eq_false_iff_ne.mpr c2
      have c2b1 : (q189 != 1) = true := bne_iff_ne.mpr c2
      by_cases c3 : q189 = 2
      · rw [if_pos c3] at H
        have c3b0 : (q189 == 2) = true := beq_iff_eq.mpr c3
        have c3b1 : (q189 != 2) = false := bne_eq_false_iff_eq.mpr c3
        clear c3
        obtain rfl := Option.some.inj H
        go_enter Try.func16, Try.ntmps16
        go_wp2
        go_ret
        exact ⟨by first | rfl | (simp; done) | (simp [*]; done), by repeat (first | exact Drawn0.refl _ | apply Drawn0.step)⟩
      · rw [if_neg c3] at H
        have c3b0 : (q189 == 2) = false := beq_eq_false_iff_ne.mpr c3
        have c3b1 : (q189 != 2) = true := bne_iff_ne.mpr c3
        by_cases c4 : q189 = 3
        · rw [if_pos c4] at H
          have c4b0 : (q189 == 3) = true := beq_iff_eq.mpr c4
          have c4b1 : (q189 != 3) = false := bne_eq_false_iff_eq.mpr c4
          clear c4
          obtain rfl := Option.some.inj H
          go_enter Try.func16, Try.ntmps16
          go_wp2
          go_ret
          exact ⟨by first | rfl | (simp; done) | (simp [*]; done), by repeat (first | exact Drawn0.refl _ | apply Drawn0.step)⟩
        · rw [if_neg c4] at H
          have c4b0 : (q189 == 3) = false := beq_eq_false_iff_ne.mpr c4
          have c4b1 : (q189 != 3) = true := bne_iff_ne.mpr c4
          by_cases c5 : q189 = 4
          · rw [if_pos c5] at H
            have c5b0 : (q189 == 4) = true := beq_iff_eq.mpr c5
            have c5b1 : (q189 != 4) = false := bne_eq_false_iff_eq.mpr c5
            clear c5
            obtain rfl := Option.some.inj H
            go_enter Try.func16, Try.ntmps16
            go_wp2
            go_ret
            exact ⟨by first | rfl | (simp; done) | (simp [*]; done), by repeat (first | exact Drawn0.refl _ | apply Drawn0.step)⟩
          · rw [if_neg c5] at H
            have c5b0 : (q189 == 4) = false := beq_eq_false_iff_ne.mpr c5
            have c5b1 : (q189 != 4) = true := bne_iff_ne.mpr c5
            by_cases c6 : q189 = 5
            · rw [if_pos c6] at H
              have c6b0 : (q189 == 5) = true := beq_iff_eq.mpr c6
              have c6b1 : (q189 != 5) = false := bne_eq_false_iff_eq.mpr c6
              clear c6
              obtain rfl := Option.some.inj H
              go_enter Try.func16, Try.ntmps16
              go_wp2
              go_ret
              exact ⟨by first | rfl | (simp; done) | (simp [*]; done), by repeat (first | exact Drawn0.refl _ | apply Drawn0.step)⟩
            · rw [if_neg c6] at H
              have c6b0 : (q189 == 5) = false := beq_eq_false_iff_ne.mpr c6
              have c6b1 : (q189 != 5) = true := bne_iff_ne.mpr c6
              by_cases c7 : q189 = 6
              · rw [if_pos c7] at H
                have c7b0 : (q189 == 6) = true := beq_iff_eq.mpr c7
                have c7b1 : (q189 != 6) = false := bne_eq_false_iff_eq.mpr c7
                clear c7
                obtain rfl := Option.some.inj H
                go_enter Try.func16, Try.ntmps16
                go_wp2
                go_ret
                exact ⟨by first | rfl | (simp; done) | (simp [*]; done), by repeat (first | exact Drawn0.refl _ | apply Drawn0.step)⟩
              · rw [if_neg c7] at H
                have c7b0 : (q189 == 6) = false := beq_eq_false_iff_ne.mpr c7
                have c7b1 : (q189 != 6) = true := bne_iff_ne.mpr c7
                by_cases c8 : q189 = 7
                · rw [if_pos c8] at H
                  have c8b0 : (q189 == 7) = true := beq_iff_eq.mpr c8
                  have c8b1 : (q189 != 7) = false := bne_eq_false_iff_eq.mpr c8
                  clear c8
                  obtain rfl := Option.some.inj H
                  go_enter Try.func16, Try.ntmps16
                  go_wp2
                  go_ret
                  exact ⟨by first | rfl | (simp; done) | (simp [*]; done), by repeat (first | exact Drawn0.refl _ | apply Drawn0.step)⟩
                · rw [if_neg c8] at H
                  have c8b0 : (q189 == 7) = false := beq_eq_false_iff_ne.mpr c8
                  have c8b1 : (q189 != 7) = true := bne_iff_ne.mpr c8
                  by_cases c9 : q189 = 8
                  · rw [if_pos c9] at H
                    have c9b0 : (q189 == 8) = true := beq_iff_eq.mpr c9
                    have c9b1 : (q189 != 8) = false := bne_eq_false_iff_eq.mpr c9
                    clear c9
                    obtain rfl := Option.some.inj H
                    go_enter Try.func16, Try.ntmps16
                    go_wp2
                    go_ret
                    exact ⟨by first | rfl | (simp; done) | (simp [*]; done), by repeat (first | exact Drawn0.refl _ | apply Drawn0.step)⟩
                  · rw [if_neg c9] at H
                    have c9b0 : (q189 == 8) = false := beq_eq_false_iff_ne.mpr c9
                    have c9b1 : (q189 != 8) = true := bne_iff_ne.mpr c9
                    by_cases c10 : q189 = 9
                    · rw [if_pos c10] at H
                      have c10b0 : (q189 == 9) = true := beq_iff_eq.mpr c10
                      have c10b1 : (q189 != 9) = false := bne_eq_false_iff_eq.mpr c10
                      clear c10
                      obtain rfl := Option.some.inj H
                      go_enter Try.func16, Try.ntmps16
                      go_wp2
                      go_ret
                      exact ⟨by first | rfl | (simp; done) | (simp [*]; done), by repeat (first | exact Drawn0.refl _ | apply Drawn0.step)⟩
                    · rw [if_neg c10] at H
                      have c10b0 : (q189 == 9) = false := beq_eq_false_iff_ne.mpr c10
                      have c10b1 : (q189 != 9) = true := bne_iff_ne.mpr c10
                      by_cases c11 : q189 = 10
                      · rw [if_pos c11] at H
                        have c11b0 : (q189 == 10) = true := beq_iff_eq.mpr c11
                        have c11b1 : (q189 != 10) = false := bne_eq_false_iff_eq.mpr c11
                        clear c11
                        obtain rfl := Option.some.inj H
                        go_enter Try.func16, Try.ntmps16
                        go_wp2
                        go_ret
                        exact ⟨by first | rfl | (simp; done) | (simp [*]; done), by repeat (first | exact Drawn0.refl _ | apply Drawn0.step)⟩
                      · rw [if_neg c11] at H
                        have c11b0 : (q189 == 10) = false := beq_eq_false_iff_ne.mpr c11
                        have c11b1 : (q189 != 10) = true := bne_iff_ne.mpr c11
                        by_cases c12 : q189 = 11
                        · rw [if_pos c12] at H
                          have c12b0 : (q189 == 11) = true := beq_iff_eq.mpr c12
                          have c12b1 : (q189 != 11) = false := bne_eq_false_iff_eq.mpr c12
                          clear c12
                          obtain rfl := Option.some.inj H
                          go_enter Try.func16, Try.ntmps16
                          go_wp2
                          go_ret
                          exact ⟨by first | rfl | (simp; done) | (simp [*]; done), by repeat (first | exact Drawn0.refl _ | apply Drawn0.step)⟩
                        · rw [if_neg c12] at H
                          have c12b0 : (q189 == 11) = false := beq_eq_false_iff_ne.mpr c12
                          have c12b1 : (q189 != 11) = true := bne_iff_ne.mpr c12
                          by_cases c13 : q189 = 12
                          · rw [if_pos c13] at H
                            have c13b0 : (q189 == 12) = true := beq_iff_eq.mpr c13
                            have c13b1 : (q189 != 12) = false := bne_eq_false_iff_eq.mpr c13
                            clear c13
                            obtain rfl := Option.some.inj H
                            go_enter Try.func16, Try.ntmps16
                            go_wp2
                            go_ret
                            exact ⟨by first | rfl | (simp; done) | (simp [*]; done), by repeat (first | exact Drawn0.refl _ | apply Drawn0.step)⟩
                          · rw [if_neg c13] at H
                            have c13b0 : (q189 == 12) = false := beq_eq_false_iff_ne.mpr c13
                            have c13b1 : (q189 != 12) = true := bne_iff_ne.mpr c13
                            by_cases c14 : q189 = 13
                            · rw [if_pos c14] at H
                              have c14b0 : (q189 == 13) = true := beq_iff_eq.mpr c14
                              have c14b1 : (q189 != 13) = false := bne_eq_false_iff_eq.mpr c14
                              clear c14
                              obtain rfl := Option.some.inj H
                              go_enter Try.func16, Try.ntmps16
                              go_wp2
                              go_ret
                              exact ⟨by first | rfl | (simp; done) | (simp [*]; done), by repeat (first | exact Drawn0.refl _ | apply Drawn0.step)⟩
                            · rw [if_neg c14] at H
                              have c14b0 : (q189 == 13) = false := beq_eq_false_iff_ne.mpr c14
                              have c14b1 : (q189 != 13) = true := bne_iff_ne.mpr c14
                              by_cases c15 : q189 = 14
                              · rw [if_pos c15] at H
                                have c15b0 : (q189 == 14) = true := beq_iff_eq.mpr c15
                                have c15b1 : (q189 != 14) = false := bne_eq_false_iff_eq.mpr c15
                                clear c15
                                obtain rfl := Option.some.inj H
                                go_enter Try.func16, Try.ntmps16
                                go_wp2
                                go_ret
                                exact ⟨by first | rfl | (simp; done) | (simp [*]; done), by repeat (first | exact Drawn0.refl _ | apply Drawn0.step)⟩
                              · rw [if_neg c15] at H
                                have c15b0 : (q189 == 14) = false := beq_eq_false_iff_ne.mpr c15
                                have c15b1 : (q189 != 14) = true := bne_iff_ne.mpr c15
                                by_cases c16 : q189 = 15
                                · rw [if_pos c16] at H
                                  have c16b0 : (q189 == 15) = true := beq_iff_eq.mpr c16
                                  have c16b1 : (q189 != 15) = false := bne_eq_false_iff_eq.mpr c16
                                  clear c16
                                  obtain rfl := Option.some.inj H
                                  go_enter Try.func16, Try.ntmps16
                                  go_wp2
                                  go_ret
                                  exact ⟨by first | rfl | (simp; done) | (simp [*]; done), by repeat (first | exact Drawn0.refl _ | apply Drawn0.step)⟩
                                · rw [if_neg c16] at H
                                  have c16b0 : (q189 == 15) = false := beq_eq_false_iff_ne.mpr c16
                                  have c16b1 : (q189 != 15) = true := bne_iff_ne.mpr c16
                                  replace H := Option.bind_eq_some_iff.mp H
                                  obtain ⟨t190, A170, H⟩ := H
                                  replace H : (some t190) = some r := H
                                  have A17 := Aside0.mk A170
                                  clear A170
                                  obtain rfl := Option.some.inj H
                                  have CA17 := fun W => shacklelaw00_further.calls (some q189) t190 W A17.out
                                  try simp only [errW_none, errW_some] at CA17
                                  go_enter Try.func16, Try.ntmps16
                                  go_wp2_with (first | (go_at_call 32; (with_reducible refine (CA17 _).mono ?_); rintro e w' ⟨rfl, ⟨nd, rfl⟩⟩))
                                  go_ret
                                  exact ⟨by first | rfl | (simp; done) | (simp [*]; done), by repeat (first | exact Drawn0.refl _ | apply Drawn0.step)⟩

end Go.Proofs.Ytjbndfogjmfbhaa.PDynOrders
