/- Printed by this session's own program (wip/tools: a turn of the kit's print) out of the translation: each Go function that the law reaches as a Lean function, and that the machine's call comes to what that function tells; no condition but what each theorem names. -/
import Derived.Test.YtjbndfogjmfbhaaPSearchDirsx0
import Derived.Test.YtjbndfogjmfbhaaPSearchDirsx1
import Derived.Test.YtjbndfogjmfbhaaPSearchDirsx2
namespace Go.Proofs.Ytjbndfogjmfbhaa.PSearchDirs
open Go.RowKit Go.Proofs.YtjbndfogjmfbhaaW.PrintWords Go.Proofs.YtjbndfogjmfbhaaW.PrintLast Go.Proofs.YtjbndfogjmfbhaaW.PrintMore Go.Proofs.YtjbndfogjmfbhaaX
attribute [local go_sem] max2_int min2_int max_two min_two max_three min_three max_four min_four   -- for this text's walks alone
set_option linter.unusedVariables false
set_option linter.unusedSimpArgs false

def search_Dirs.l0 : Nat → List S58 → Bool → List ByteArray → Int → Option (List ByteArray)
  | 0, _, _, _, _ => none
  | k + 1, ch, sec, out, i => if i < (ch.length : Int) then (if 0 ≤ i then (if (rd_T58 ch i).f3 = true then (if (rd_T58 ch i).f4 = true then search_Dirs.l0 k ch sec out (wrap64 (i + 1)) else ((search_lay.f k search_Dirs.colon (rd_T58 ch i).f1 (rd_T58 ch i).f0 sec out).bind fun o => search_Dirs.l0 k ch sec o (wrap64 (i + 1)))) else search_Dirs.l0 k ch sec out (wrap64 (i + 1))) else (none)) else some out
def search_Dirs.b1 (ch : List S58) : Bool := decide (0 < (ch.length : Int)) && !(rd_T58 ch 0).f4
def search_Dirs.b2 (env : ByteArray) (sec : Bool) : Bool := !sec && !env.toList.isEmpty
def search_Dirs.b3 (ch : List S58) : Bool := decide (0 < (ch.length : Int)) && (rd_T58 ch 0).f4
def search_Dirs.last (ch : List S58) : ByteArray := if 0 < (ch.length : Int) then (rd_T58 ch ((ch.length : Int) - 1)).f0 else (⟨#[]⟩ : ByteArray)
def search_Dirs.s1 (k : Nat) (ch : List S58) (sec : Bool) : Option (List ByteArray) := if search_Dirs.b1 ch = true then search_Dirs.l0 k ch sec [] 0 else some []
def search_Dirs.s2 (k : Nat) (ch : List S58) (env : ByteArray) (sec : Bool) (out : List ByteArray) : Option (List ByteArray) := if search_Dirs.b2 env sec = true then search_lay.f k search_Dirs.semi env (search_Dirs.last ch) sec out else some out
def search_Dirs.s3 (k : Nat) (ch : List S58) (sec : Bool) (out : List ByteArray) : Option (List ByteArray) := if search_Dirs.b3 ch = true then search_lay.f k search_Dirs.colon (rd_T58 ch 0).f2 (rd_T58 ch 0).f0 sec out else some out
def search_Dirs.f (k : Nat) (a0_0 : ByteArray) (l0_1 : List S58) (a0_2 : ByteArray) (a0_3 : Bool) : Option (List ByteArray) := (search_Dirs.s1 k l0_1 a0_3).bind fun o1 => (search_Dirs.s2 k l0_1 a0_2 a0_3 o1).bind fun o2 => (search_Dirs.s3 k l0_1 a0_3 o2).bind fun o3 => search_lay.f k search_Dirs.colon (⟨#[47, 108, 105, 98, 54, 52, 58, 47, 117, 115, 114, 47, 108, 105, 98, 54, 52]⟩ : ByteArray) (⟨#[]⟩ : ByteArray) a0_3 o3
theorem search_Dirs.mono_l : ∀ k, (∀ y0 y1 y2 y3, LeO (search_Dirs.l0 k y0 y1 y2 y3) (search_Dirs.l0 (k + 1) y0 y1 y2 y3))
  | 0 => fun _ _ _ _ r h => by simp [search_Dirs.l0] at h
  | k + 1 => by
    have ih0 := search_Dirs.mono_l k
    intro y0 y1 y2 y3
    unfold search_Dirs.l0
    repeat' first
      | (with_reducible exact ih0 _ _ _ _)
      | (with_reducible exact search_lay.mono _ _ _ _ _ _)
      | (with_reducible exact LeO.refl _)
      | (with_reducible exact LeO.none _)
      | (with_reducible refine LeO.ite ?_ ?_)
      | (with_reducible refine LeO.bind ?_ (fun _ => ?_))
theorem search_Dirs.mono : ∀ a0 a1 a2 a3 k, LeO (search_Dirs.f k a0 a1 a2 a3) (search_Dirs.f (k + 1) a0 a1 a2 a3) := by
  intro a0 a1 a2 a3 k
  unfold search_Dirs.f search_Dirs.s1 search_Dirs.s2 search_Dirs.s3
  repeat' first
      | (with_reducible exact search_Dirs.mono_l k _ _ _ _)
      | (with_reducible exact search_lay.mono _ _ _ _ _ _)
      | (with_reducible exact LeO.refl _)
      | (with_reducible exact LeO.none _)
      | (with_reducible refine LeO.ite ?_ ?_)
      | (with_reducible refine LeO.bind ?_ (fun _ => ?_))
def search_Dirs.T18 : Bool × List (List Nat × List Nat) := (true, [([], []), ([], []), ([1], [1]), ([2], [2]), ([3], [3]), ([4], [4]), ([], []), ([6], [6]), ([7], [7]), ([8], [8]), ([9], [9]), ([], []), ([0, 5, 10, 11], [0, 5, 10, 11])])
def search_Dirs.B18 : List Nat := [0, 0, 2, 6, 14, 30, 0, 64, 192, 448, 960, 0, 4095]
theorem search_Dirs.tab18 : rtab .any (opsOf Try.f7 18) = search_Dirs.T18 := by kernel_rfl
theorem search_Dirs.bits18 : waitsOk search_Dirs.T18.2 search_Dirs.B18 = true := by kernel_rfl
set_option maxHeartbeats 16000000 in
set_option maxRecDepth 100000 in
theorem search_Dirs.calls (k : Nat) (a0_0 : ByteArray) (A0_1 : Option Addr) (c0_1 : Nat) (l0_1 : List (S58)) (a0_2 : ByteArray) (a0_3 : Bool) (r : List ByteArray) (w : World) (hr0_1 : Kd.C k58 w A0_1 l0_1.length l0_1) (hc0_1 : l0_1.length ≤ c0_1) (h : search_Dirs.f k a0_0 l0_1 a0_2 a0_3 = some r) :
    Calls Try.prog 7 #[.agg #[.string a0_0, .slice A0_1 l0_1.length c0_1, .string a0_2, .bool a0_3]] w fun e w' => ∃ v0_ : Value, e = .returned (v0_) ∧ Kd.R Kd.string 9 w' w.heap.size (fun _ => True) v0_ r ∧ Below w.heap.size w w' := by
  have hu24 := Try.underlying24
  have HR := Aside0.mk hr0_1
  clear hr0_1
  obtain ⟨o1, B1, h⟩ := Option.bind_eq_some_iff.mp h
  obtain ⟨o2, B2, h⟩ := Option.bind_eq_some_iff.mp h
  obtain ⟨o3, B3, h⟩ := Option.bind_eq_some_iff.mp h
  have B1 := Aside0.mk B1
  have B2 := Aside0.mk B2
  have B3 := Aside0.mk B3
  have B4 := Aside0.mk h
  clear h
  have HB := Aside0.mk (Below.refl w.heap.size w)
  have eL : ∀ args w, (callFunc 17 args).run Try.prog w = .ok (.enter 17 args) w := enters_of Try.func17 (by kernel_rfl) rfl
  have eg2 := Aside0.mk (show ∀ args w, (callFunc 20 args).run Try.prog w = .ok (.enter 20 args) w from enters_of Try.func20 (by kernel_rfl) rfl)
  have eg3 := Aside0.mk (show ∀ args w, (callFunc 21 args).run Try.prog w = .ok (.enter 21 args) w from enters_of Try.func21 (by kernel_rfl) rfl)
  go_enter Try.func7, Try.ntmps7
  go_upto_region 4 with (fail)
  have BA := Aside0.mk (show ((w.alloc (.cells #[.string a0_0, .slice A0_1 l0_1.length c0_1, .string a0_2, .bool a0_3] 24)).alloc (.cells #[.slice none 0 0] 26)).heap[w.heap.size]? = some (.cells #[.string a0_0, .slice A0_1 l0_1.length c0_1, .string a0_2, .bool a0_3] 24 (0, 0)) from (search_Dirs.two w _ _).1)
  have BO := Aside0.mk (show ((w.alloc (.cells #[.string a0_0, .slice A0_1 l0_1.length c0_1, .string a0_2, .bool a0_3] 24)).alloc (.cells #[.slice none 0 0] 26)).heap[w.heap.size + 1]? = some (.cells #[.slice none 0 0] 26 (0, 0)) from (search_Dirs.two w _ _).2)
  replace HB := Aside0.mk ((HB.out.alloc (Nat.le_refl _) (.cells #[.string a0_0, .slice A0_1 l0_1.length c0_1, .string a0_2, .bool a0_3] 24)).alloc (by simp) (.cells #[.slice none 0 0] 26))
  generalize (w.alloc (.cells #[.string a0_0, .slice A0_1 l0_1.length c0_1, .string a0_2, .bool a0_3] 24)).alloc (.cells #[.slice none 0 0] 26) = wi at BA BO HB ⊢
  obtain ⟨v, hv⟩ : ∃ v : Value, v = .slice none 0 0 := ⟨_, rfl⟩
  have HO : Aside0 (Kd.R Kd.string 9 wi w.heap.size (fun _ => True) v []) := ⟨by rw [hv]; exact Kd.R_nil _ _ _ _ _⟩
  rw [← hv] at BO
  go_cut [22] (fun v22 wc => ∃ (v : Value), v22 = .bool (search_Dirs.b1 l0_1) ∧ Aside0 (wc.heap[(w.heap.size + 1)]? = some (.cells #[v] 26 (0, 0))) ∧ Aside0 (wc.heap[w.heap.size]? = some (.cells #[.string a0_0, .slice A0_1 l0_1.length c0_1, .string a0_2, .bool a0_3] 24 (0, 0))) ∧ Aside0 (Kd.R Kd.string 9 wc w.heap.size (fun _ => True) v []) ∧ Aside0 (Below w.heap.size w wc))
  case first =>
    have hc0 := (show _ = some (Value.string a0_0) from (blk_cell BA.out 0).trans rfl)
    have hc1 := (show _ = some (Value.slice A0_1 l0_1.length c0_1) from (blk_cell BA.out 1).trans rfl)
    have hc2 := (show _ = some (Value.string a0_2) from (blk_cell BA.out 2).trans rfl)
    have hc3 := (show _ = some (Value.bool a0_3) from (blk_cell BA.out 3).trans rfl)
    have hcv := (show _ = some v from (blk_cell BO.out 0).trans rfl)
    by_cases n0 : 0 < (l0_1.length : Int)
    · have n0b : decide (0 < (l0_1.length : Int)) = true := decide_eq_true n0
      have n0e := eq_true n0
      have n1 : 0 < l0_1.length := by omega
      obtain ⟨ad, ead, hx0, hx1, hx2, hx3, hx4⟩ := at_T58 HR.out 0 (Int.le_refl _) n0
      cases ead
      replace hx0 := (HB.out.cell (World.block_lt_of_cell? w _ hx0)).trans hx0
      replace hx1 := (HB.out.cell (World.block_lt_of_cell? w _ hx1)).trans hx1
      replace hx2 := (HB.out.cell (World.block_lt_of_cell? w _ hx2)).trans hx2
      replace hx3 := (HB.out.cell (World.block_lt_of_cell? w _ hx3)).trans hx3
      replace hx4 := (HB.out.cell (World.block_lt_of_cell? w _ hx4)).trans hx4
      rw [show ((0 : Int)).toNat = 0 from rfl, show 0 * 5 = 0 from rfl, Addr.add_zero'] at hx0
      rw [show ((0 : Int)).toNat = 0 from rfl, show 0 * 5 = 0 from rfl, Addr.add_zero'] at hx1
      rw [show ((0 : Int)).toNat = 0 from rfl, show 0 * 5 = 0 from rfl, Addr.add_zero'] at hx2
      rw [show ((0 : Int)).toNat = 0 from rfl, show 0 * 5 = 0 from rfl, Addr.add_zero'] at hx3
      rw [show ((0 : Int)).toNat = 0 from rfl, show 0 * 5 = 0 from rfl, Addr.add_zero'] at hx4
      have qi : (0 < l0_1.length) = True := eq_true (by omega)
      obtain ⟨q, hq⟩ : ∃ q_ : Bool, (rd_T58 l0_1 0).f4 = q_ := ⟨_, rfl⟩
      rw [hq] at hx4
      have hb : search_Dirs.b1 l0_1 = !q := by unfold search_Dirs.b1; rw [n0b, hq]; rfl
      go_wp2
      go_meet
      case rel => exact ⟨v, by first | (rw [hb]; done) | (rw [hb]; simp; done) | (rw [hb]; simp [*]; done), BO, BA, HO, HB⟩
    · have n0b : decide (0 < (l0_1.length : Int)) = false := decide_eq_false n0
      have n0e := eq_false n0
      have hb : search_Dirs.b1 l0_1 = false := by unfold search_Dirs.b1; rw [n0b]; rfl
      go_wp2
      go_meet
      case rel => exact ⟨v, by first | (rw [hb]; done) | (rw [hb]; simp; done) | (rw [hb]; simp [*]; done), BO, BA, HO, HB⟩
  case rest =>
    clear HB BA BO HO
    obtain ⟨v, rfl, BO, BA, HO, HB⟩ := hcut
    go_upto_if 22 with (fail)
    go_cut [] (fun wc => ∃ (v : Value), Aside0 (wc.heap[(w.heap.size + 1)]? = some (.cells #[v] 26 (0, 0))) ∧ Aside0 (wc.heap[w.heap.size]? = some (.cells #[.string a0_0, .slice A0_1 l0_1.length c0_1, .string a0_2, .bool a0_3] 24 (0, 0))) ∧ Aside0 (Kd.R Kd.string 9 wc w.heap.size (fun _ => True) v o1) ∧ Aside0 (Below w.heap.size w wc))
    case first =>
      have B := B1.out
      clear B1
      unfold search_Dirs.s1 at B
      by_cases hb : search_Dirs.b1 l0_1 = true
      · rw [if_pos hb] at B
        have B := Aside0.mk B
        rw [hb]
        have hc0 := (show _ = some (Value.string a0_0) from (blk_cell BA.out 0).trans rfl)
        have hc1 := (show _ = some (Value.slice A0_1 l0_1.length c0_1) from (blk_cell BA.out 1).trans rfl)
        have hc2 := (show _ = some (Value.string a0_2) from (blk_cell BA.out 2).trans rfl)
        have hc3 := (show _ = some (Value.bool a0_3) from (blk_cell BA.out 3).trans rfl)
        have hcv := (show _ = some v from (blk_cell BO.out 0).trans rfl)
        go_wp2
        go_loopg [26] k (fun kq v26 w' => ∃ (v : Value) (out : List ByteArray) (x26 : Int), v26 = .int .i64 x26 ∧ Aside0 (search_Dirs.l0 kq l0_1 a0_3 out x26 = some o1) ∧ Aside0 (kq ≤ k) ∧ Aside0 (w'.heap[(w.heap.size + 1)]? = some (.cells #[v] 26 (0, 0))) ∧ Aside0 (w'.heap[w.heap.size]? = some (.cells #[.string a0_0, .slice A0_1 l0_1.length c0_1, .string a0_2, .bool a0_3] 24 (0, 0))) ∧ Aside0 (Kd.R Kd.string 9 w' w.heap.size (fun _ => True) v out) ∧ Aside0 (Below w.heap.size w w'))
        case atStart => exact ⟨v, [], 0, by first | rfl | simp, B, ⟨Nat.le_refl _⟩, BO, BA, HO, HB⟩
        case round =>
          clear B HB BA BO HO hc0 hc1 hc2 hc3 hcv
          obtain ⟨v, out, x26, rfl, HA, HK, BO, BA, HO, HB⟩ := hrel
          cases gk with
          | zero => exact absurd HA.out (by simp [search_Dirs.l0])
          | succ k1 =>
            have H := HA.out
            clear HA
            simp only [search_Dirs.l0] at H
            by_cases c1 : x26 < (l0_1.length : Int)
            · rw [if_pos c1] at H
              have c1b : decide (x26 < (l0_1.length : Int)) = true := decide_eq_true c1
              by_cases c2 : 0 ≤ x26
              · rw [if_pos c2] at H
                have hc0 := (show _ = some (Value.string a0_0) from (blk_cell BA.out 0).trans rfl)
                have hc1 := (show _ = some (Value.slice A0_1 l0_1.length c0_1) from (blk_cell BA.out 1).trans rfl)
                have hc2 := (show _ = some (Value.string a0_2) from (blk_cell BA.out 2).trans rfl)
                have hc3 := (show _ = some (Value.bool a0_3) from (blk_cell BA.out 3).trans rfl)
                have hcv := (show _ = some v from (blk_cell BO.out 0).trans rfl)
                obtain ⟨ad, ead, hx0, hx1, hx2, hx3, hx4⟩ := at_T58 HR.out x26 c2 c1
                cases ead
                replace hx0 := (HB.out.cell (World.block_lt_of_cell? w _ hx0)).trans hx0
                replace hx1 := (HB.out.cell (World.block_lt_of_cell? w _ hx1)).trans hx1
                replace hx2 := (HB.out.cell (World.block_lt_of_cell? w _ hx2)).trans hx2
                replace hx3 := (HB.out.cell (World.block_lt_of_cell? w _ hx3)).trans hx3
                replace hx4 := (HB.out.cell (World.block_lt_of_cell? w _ hx4)).trans hx4
                have c1e := eq_true c1
                have c2e := eq_true c2
                have c2b : decide (0 ≤ x26) = true := decide_eq_true c2
                go_upto_region 8 with (fail)
                have hb_ := (Below.refl wr.heap.size wr).alloc (Nat.le_refl _) (.cells #[.string (rd_T58 l0_1 x26).f0, .string (rd_T58 l0_1 x26).f1, .string (rd_T58 l0_1 x26).f2, .bool (rd_T58 l0_1 x26).f3, .bool (rd_T58 l0_1 x26).f4] 58)
                replace HO := Aside0.mk (Kd.R_below HO.out hb_)
                replace BA := Aside0.mk ((hb_.block w.heap.size (Array.getElem?_eq_some_iff.1 BA.out).1).trans BA.out)
                replace BO := Aside0.mk ((hb_.block (w.heap.size + 1) (Array.getElem?_eq_some_iff.1 BO.out).1).trans BO.out)
                replace HB := Aside0.mk (HB.out.trans (hb_.mono HB.out.size))
                clear hb_ hc0 hc1 hc2 hc3 hcv hx0 hx1 hx2 hx3 hx4
                obtain ⟨q3, hq3⟩ : ∃ q_ : Bool, (rd_T58 l0_1 x26).f3 = q_ := ⟨_, rfl⟩
                obtain ⟨q4, hq4⟩ : ∃ q_ : Bool, (rd_T58 l0_1 x26).f4 = q_ := ⟨_, rfl⟩
                simp only [hq3, hq4] at H HO BA BO HB ⊢
                cases q3 with
                | false =>
                  rw [if_neg (by decide)] at H
                  have H' := Aside0.mk H
                  clear H
                  go_wp2
                  go_roundg k1
                  case measure => have := HK.out; omega
                  case rel => exact ⟨v, out, _, by first | rfl | (simp [*]; done), H', ⟨by have := HK.out; omega⟩, BO, BA, HO, HB⟩
                | true =>
                  rw [if_pos rfl] at H
                  cases q4 with
                  | true =>
                    rw [if_pos rfl] at H
                    have H' := Aside0.mk H
                    clear H
                    go_wp2
                    go_roundg k1
                    case measure => have := HK.out; omega
                    case rel => exact ⟨v, out, _, by first | rfl | (simp [*]; done), H', ⟨by have := HK.out; omega⟩, BO, BA, HO, HB⟩
                  | false =>
                    rw [if_neg (by decide)] at H
                    obtain ⟨o, A1, H⟩ := Option.bind_eq_some_iff.mp H
                    have A1 := Aside0.mk A1
                    have H' := Aside0.mk H
                    clear H
                    go_wp2_with (first | (go_at_fn 17; refine (search_lay.calls k1 search_Dirs.colon _ #[] eg2.out _ _ a0_3 out _ v w.heap.size (w.heap.size + 1) _ _ _ w _ HB.out (search_Dirs.isColon w) BA.out BO.out (Nat.le_succ _) (Nat.ne_of_lt (Nat.lt_succ_self _)) HO.out A1.out).mono ?_; rintro e w1 ⟨rfl, v1, hbo, ho, hb, hba⟩; replace BO := Aside0.mk hbo; replace BA := Aside0.mk hba; replace HO := Aside0.mk ho; replace HB := Aside0.mk hb; clear hbo ho hb hba))
                    go_roundg k1
                    case measure => have := HK.out; omega
                    case rel => exact ⟨v1, o, _, by first | rfl | (simp [*]; done), H', ⟨by have := HK.out; omega⟩, BO, BA, HO, HB⟩
              · rw [if_neg c2] at H
                exact absurd H (by simp)
            · rw [if_neg c1] at H
              have c1b : decide (x26 < (l0_1.length : Int)) = false := decide_eq_false c1
              obtain rfl := Option.some.inj H
              go_wp2
              go_meet
              case rel => exact ⟨v, BO, BA, HO, HB⟩
      · rw [if_neg hb] at B
        obtain rfl := Option.some.inj B
        rw [Bool.eq_false_iff.mpr hb]
        go_wp2
        go_meet
        case rel => exact ⟨v, BO, BA, HO, HB⟩
    case rest =>
      clear HB BA BO HO B1
      obtain ⟨v, BO, BA, HO, HB⟩ := hcut
      go_upto_region 11 with (fail)
      go_cut [52] (fun v52 wc => ∃ (v : Value), v52 = .bool (search_Dirs.b2 a0_2 a0_3) ∧ Aside0 (wc.heap[(w.heap.size + 1)]? = some (.cells #[v] 26 (0, 0))) ∧ Aside0 (wc.heap[w.heap.size]? = some (.cells #[.string a0_0, .slice A0_1 l0_1.length c0_1, .string a0_2, .bool a0_3] 24 (0, 0))) ∧ Aside0 (Kd.R Kd.string 9 wc w.heap.size (fun _ => True) v o1) ∧ Aside0 (Below w.heap.size w wc))
      case first =>
        have hb : search_Dirs.b2 a0_2 a0_3 = (!a0_3 && !a0_2.toList.isEmpty) := rfl
        have hc0 := (show _ = some (Value.string a0_0) from (blk_cell BA.out 0).trans rfl)
        have hc1 := (show _ = some (Value.slice A0_1 l0_1.length c0_1) from (blk_cell BA.out 1).trans rfl)
        have hc2 := (show _ = some (Value.string a0_2) from (blk_cell BA.out 2).trans rfl)
        have hc3 := (show _ = some (Value.bool a0_3) from (blk_cell BA.out 3).trans rfl)
        have hcv := (show _ = some v from (blk_cell BO.out 0).trans rfl)
        cases a0_3 with
        | true =>
          have hb : search_Dirs.b2 a0_2 true = false := rfl
          go_wp2
          go_meet
          case rel => exact ⟨v, by first | (rw [hb]; done) | (rw [hb]; simp; done) | (rw [hb]; simp [*]; done), BO, BA, HO, HB⟩
        | false =>
          have hb : search_Dirs.b2 a0_2 false = !a0_2.toList.isEmpty := rfl
          go_wp2
          go_meet
          case rel => exact ⟨v, by first | (rw [hb]; done) | (rw [hb]; simp; done) | (rw [hb]; simp [*]; done), BO, BA, HO, HB⟩
      case rest =>
        clear HB BA BO HO
        obtain ⟨v, rfl, BO, BA, HO, HB⟩ := hcut
        go_upto_if 52 with (fail)
        go_cut [] (fun wc => ∃ (v : Value), Aside0 (wc.heap[(w.heap.size + 1)]? = some (.cells #[v] 26 (0, 0))) ∧ Aside0 (wc.heap[w.heap.size]? = some (.cells #[.string a0_0, .slice A0_1 l0_1.length c0_1, .string a0_2, .bool a0_3] 24 (0, 0))) ∧ Aside0 (Kd.R Kd.string 9 wc w.heap.size (fun _ => True) v o2) ∧ Aside0 (Below w.heap.size w wc))
        case first =>
          have B := B2.out
          clear B2
          unfold search_Dirs.s2 at B
          by_cases hb : search_Dirs.b2 a0_2 a0_3 = true
          · rw [if_pos hb] at B
            have B := Aside0.mk B
            rw [hb]
            have hc0 := (show _ = some (Value.string a0_0) from (blk_cell BA.out 0).trans rfl)
            have hc1 := (show _ = some (Value.slice A0_1 l0_1.length c0_1) from (blk_cell BA.out 1).trans rfl)
            have hc2 := (show _ = some (Value.string a0_2) from (blk_cell BA.out 2).trans rfl)
            have hc3 := (show _ = some (Value.bool a0_3) from (blk_cell BA.out 3).trans rfl)
            have hcv := (show _ = some v from (blk_cell BO.out 0).trans rfl)
            go_upto_if 57 with (fail)
            go_cut [8] (fun v8 wc => ∃ (v : Value), v8 = .string (search_Dirs.last l0_1) ∧ Aside0 (wc.heap[(w.heap.size + 1)]? = some (.cells #[v] 26 (0, 0))) ∧ Aside0 (wc.heap[w.heap.size]? = some (.cells #[.string a0_0, .slice A0_1 l0_1.length c0_1, .string a0_2, .bool a0_3] 24 (0, 0))) ∧ Aside0 (Kd.R Kd.string 9 wc w.heap.size (fun _ => True) v o1) ∧ Aside0 (Below w.heap.size w wc))
            case first =>
              by_cases n0 : 0 < (l0_1.length : Int)
              · have n0b : decide (0 < (l0_1.length : Int)) = true := decide_eq_true n0
                have n0c : decide (0 < l0_1.length) = true := decide_eq_true (by omega)
                have qi : (0 < l0_1.length) = True := eq_true (by omega)
                (first | rw [n0b] | rw [n0c] | skip)
                have n0e := eq_true n0
                have h63 := HR.out.2.1
                have p0 : 0 ≤ (l0_1.length : Int) - 1 := by omega
                have p1 : (l0_1.length : Int) - 1 < (l0_1.length : Int) := by omega
                have hw1 : wrap64 ((l0_1.length : Int) - 1) = (l0_1.length : Int) - 1 := by unfold wrap64; omega
                obtain ⟨ad, ead, hx0, hx1, hx2, hx3, hx4⟩ := at_T58 HR.out ((l0_1.length : Int) - 1) p0 p1
                cases ead
                replace hx0 := (HB.out.cell (World.block_lt_of_cell? w _ hx0)).trans hx0
                replace hx1 := (HB.out.cell (World.block_lt_of_cell? w _ hx1)).trans hx1
                replace hx2 := (HB.out.cell (World.block_lt_of_cell? w _ hx2)).trans hx2
                replace hx3 := (HB.out.cell (World.block_lt_of_cell? w _ hx3)).trans hx3
                replace hx4 := (HB.out.cell (World.block_lt_of_cell? w _ hx4)).trans hx4
                have hi_ : ((l0_1.length : Int) - 1).toNat = l0_1.length - 1 := by omega
                have hy0 := hx0
                rw [hi_] at hy0
                have hb : search_Dirs.last l0_1 = (rd_T58 l0_1 ((l0_1.length : Int) - 1)).f0 := if_pos n0
                have p0e := eq_true p0
                have p1e := eq_true p1
                go_wp2
                go_meet
                case rel => exact ⟨v, by first | (rw [hb]; done) | (rw [hb]; simp; done) | (rw [hb]; simp [*]; done), BO, BA, HO, HB⟩
              · have n0b : decide (0 < (l0_1.length : Int)) = false := decide_eq_false n0
                have n0c : decide (0 < l0_1.length) = false := decide_eq_false (by omega)
                have qi : (0 < l0_1.length) = False := eq_false (by omega)
                (first | rw [n0b] | rw [n0c] | skip)
                have hb : search_Dirs.last l0_1 = (⟨#[]⟩ : ByteArray) := if_neg n0
                go_wp2
                go_meet
                case rel => exact ⟨v, by first | (rw [hb]; done) | (rw [hb]; simp; done) | (rw [hb]; simp [*]; done), BO, BA, HO, HB⟩
            case rest =>
              clear HB BA BO HO hc0 hc1 hc2 hc3 hcv
              obtain ⟨v, rfl, BO, BA, HO, HB⟩ := hcut
              have hc0 := (show _ = some (Value.string a0_0) from (blk_cell BA.out 0).trans rfl)
              have hc1 := (show _ = some (Value.slice A0_1 l0_1.length c0_1) from (blk_cell BA.out 1).trans rfl)
              have hc2 := (show _ = some (Value.string a0_2) from (blk_cell BA.out 2).trans rfl)
              have hc3 := (show _ = some (Value.bool a0_3) from (blk_cell BA.out 3).trans rfl)
              have hcv := (show _ = some v from (blk_cell BO.out 0).trans rfl)
              go_wp2_with (first | (go_at_fn 17; refine (search_lay.calls k search_Dirs.semi _ #[] eg3.out _ _ a0_3 o1 _ v w.heap.size (w.heap.size + 1) _ _ _ w _ HB.out (search_Dirs.isSemi w) BA.out BO.out (Nat.le_succ _) (Nat.ne_of_lt (Nat.lt_succ_self _)) HO.out B.out).mono ?_; rintro e w1 ⟨rfl, v1, hbo, ho, hb, hba⟩; replace BO := Aside0.mk hbo; replace BA := Aside0.mk hba; replace HO := Aside0.mk ho; replace HB := Aside0.mk hb; clear hbo ho hb hba))
              go_meet
              case rel => exact ⟨v1, BO, BA, HO, HB⟩
          · rw [if_neg hb] at B
            obtain rfl := Option.some.inj B
            rw [Bool.eq_false_iff.mpr hb]
            go_wp2
            go_meet
            case rel => exact ⟨v, BO, BA, HO, HB⟩
        case rest =>
          clear HB BA BO HO B2
          obtain ⟨v, BO, BA, HO, HB⟩ := hcut
          go_upto_region 17 with (fail)
          go_cut [80] (fun v80 wc => ∃ (v : Value), v80 = .bool (search_Dirs.b3 l0_1) ∧ Aside0 (wc.heap[(w.heap.size + 1)]? = some (.cells #[v] 26 (0, 0))) ∧ Aside0 (wc.heap[w.heap.size]? = some (.cells #[.string a0_0, .slice A0_1 l0_1.length c0_1, .string a0_2, .bool a0_3] 24 (0, 0))) ∧ Aside0 (Kd.R Kd.string 9 wc w.heap.size (fun _ => True) v o2) ∧ Aside0 (Below w.heap.size w wc))
          case first =>
            have hc0 := (show _ = some (Value.string a0_0) from (blk_cell BA.out 0).trans rfl)
            have hc1 := (show _ = some (Value.slice A0_1 l0_1.length c0_1) from (blk_cell BA.out 1).trans rfl)
            have hc2 := (show _ = some (Value.string a0_2) from (blk_cell BA.out 2).trans rfl)
            have hc3 := (show _ = some (Value.bool a0_3) from (blk_cell BA.out 3).trans rfl)
            have hcv := (show _ = some v from (blk_cell BO.out 0).trans rfl)
            by_cases n0 : 0 < (l0_1.length : Int)
            · have n0b : decide (0 < (l0_1.length : Int)) = true := decide_eq_true n0
              have n0e := eq_true n0
              have n1 : 0 < l0_1.length := by omega
              obtain ⟨ad, ead, hx0, hx1, hx2, hx3, hx4⟩ := at_T58 HR.out 0 (Int.le_refl _) n0
              cases ead
              replace hx0 := (HB.out.cell (World.block_lt_of_cell? w _ hx0)).trans hx0
              replace hx1 := (HB.out.cell (World.block_lt_of_cell? w _ hx1)).trans hx1
              replace hx2 := (HB.out.cell (World.block_lt_of_cell? w _ hx2)).trans hx2
              replace hx3 := (HB.out.cell (World.block_lt_of_cell? w _ hx3)).trans hx3
              replace hx4 := (HB.out.cell (World.block_lt_of_cell? w _ hx4)).trans hx4
              rw [show ((0 : Int)).toNat = 0 from rfl, show 0 * 5 = 0 from rfl, Addr.add_zero'] at hx0
              rw [show ((0 : Int)).toNat = 0 from rfl, show 0 * 5 = 0 from rfl, Addr.add_zero'] at hx1
              rw [show ((0 : Int)).toNat = 0 from rfl, show 0 * 5 = 0 from rfl, Addr.add_zero'] at hx2
              rw [show ((0 : Int)).toNat = 0 from rfl, show 0 * 5 = 0 from rfl, Addr.add_zero'] at hx3
              rw [show ((0 : Int)).toNat = 0 from rfl, show 0 * 5 = 0 from rfl, Addr.add_zero'] at hx4
              have qi : (0 < l0_1.length) = True := eq_true (by omega)
              obtain ⟨q, hq⟩ : ∃ q_ : Bool, (rd_T58 l0_1 0).f4 = q_ := ⟨_, rfl⟩
              rw [hq] at hx4
              have hb : search_Dirs.b3 l0_1 = q := by unfold search_Dirs.b3; rw [n0b, hq]; rfl
              go_wp2
              go_meet
              case rel => exact ⟨v, by first | (rw [hb]; done) | (rw [hb]; simp; done) | (rw [hb]; simp [*]; done), BO, BA, HO, HB⟩
            · have n0b : decide (0 < (l0_1.length : Int)) = false := decide_eq_false n0
              have n0e := eq_false n0
              have hb : search_Dirs.b3 l0_1 = false := by unfold search_Dirs.b3; rw [n0b]; rfl
              go_wp2
              go_meet
              case rel => exact ⟨v, by first | (rw [hb]; done) | (rw [hb]; simp; done) | (rw [hb]; simp [*]; done), BO, BA, HO, HB⟩
          case rest =>
            clear HB BA BO HO
            obtain ⟨v, rfl, BO, BA, HO, HB⟩ := hcut
            go_upto_if 80 with (fail)
            go_cut [] (fun wc => ∃ (v : Value), Aside0 (wc.heap[(w.heap.size + 1)]? = some (.cells #[v] 26 (0, 0))) ∧ Aside0 (wc.heap[w.heap.size]? = some (.cells #[.string a0_0, .slice A0_1 l0_1.length c0_1, .string a0_2, .bool a0_3] 24 (0, 0))) ∧ Aside0 (Kd.R Kd.string 9 wc w.heap.size (fun _ => True) v o3) ∧ Aside0 (Below w.heap.size w wc))
            case first =>
              have B := B3.out
              clear B3
              unfold search_Dirs.s3 at B
              by_cases hb : search_Dirs.b3 l0_1 = true
              · rw [if_pos hb] at B
                have B := Aside0.mk B
                rw [hb]
                have hc0 := (show _ = some (Value.string a0_0) from (blk_cell BA.out 0).trans rfl)
                have hc1 := (show _ = some (Value.slice A0_1 l0_1.length c0_1) from (blk_cell BA.out 1).trans rfl)
                have hc2 := (show _ = some (Value.string a0_2) from (blk_cell BA.out 2).trans rfl)
                have hc3 := (show _ = some (Value.bool a0_3) from (blk_cell BA.out 3).trans rfl)
                have hcv := (show _ = some v from (blk_cell BO.out 0).trans rfl)
                have n0 : 0 < (l0_1.length : Int) := by unfold search_Dirs.b3 at hb; rw [Bool.and_eq_true] at hb; exact of_decide_eq_true hb.1
                have n0e := eq_true n0
                obtain ⟨ad, ead, hx0, hx1, hx2, hx3, hx4⟩ := at_T58 HR.out 0 (Int.le_refl _) n0
                cases ead
                rw [show ((0 : Int)).toNat = 0 from rfl, show 0 * 5 = 0 from rfl, Addr.add_zero'] at hx0
                rw [show ((0 : Int)).toNat = 0 from rfl, show 0 * 5 = 0 from rfl, Addr.add_zero'] at hx1
                rw [show ((0 : Int)).toNat = 0 from rfl, show 0 * 5 = 0 from rfl, Addr.add_zero'] at hx2
                rw [show ((0 : Int)).toNat = 0 from rfl, show 0 * 5 = 0 from rfl, Addr.add_zero'] at hx3
                rw [show ((0 : Int)).toNat = 0 from rfl, show 0 * 5 = 0 from rfl, Addr.add_zero'] at hx4
                have qi : (0 < l0_1.length) = True := eq_true (by omega)
                have hz0 := hx0
                have hz2 := hx2
                replace hx0 := (HB.out.cell (World.block_lt_of_cell? w _ hx0)).trans hx0
                replace hx1 := (HB.out.cell (World.block_lt_of_cell? w _ hx1)).trans hx1
                replace hx2 := (HB.out.cell (World.block_lt_of_cell? w _ hx2)).trans hx2
                replace hx3 := (HB.out.cell (World.block_lt_of_cell? w _ hx3)).trans hx3
                replace hx4 := (HB.out.cell (World.block_lt_of_cell? w _ hx4)).trans hx4
                go_upto_region 18 with (fail)
                refine start_ (n := 13) (S := fun w' => w'.cell? ⟨w.heap.size, 1, none⟩ = some (.slice (some ad) l0_1.length c0_1) ∧ w'.cell? ad = some (.string (rd_T58 l0_1 0).f0) ∧ w'.cell? ⟨ad.block, ad.off + 2, none⟩ = some (.string (rd_T58 l0_1 0).f2)) (ds := []) #[false, false, false, false, false, false, false, false, false, false, false, false, false] (by kernel_rfl) rfl rfl ⟨hc1, hx0, hx2⟩ (fun hHeld => ?_); refine with_tabW search_Dirs.tab18 search_Dirs.bits18 (fun HT_ HW_ => ?_)
                have hb_ : Below wc.heap.size wc wc.drew := Below.drew (Below.refl _ _)
                replace HO := Aside0.mk (Kd.R_below HO.out hb_)
                replace BA := Aside0.mk ((hb_.block w.heap.size (Array.getElem?_eq_some_iff.1 BA.out).1).trans BA.out)
                replace BO := Aside0.mk ((hb_.block (w.heap.size + 1) (Array.getElem?_eq_some_iff.1 BO.out).1).trans BO.out)
                replace HB := Aside0.mk (HB.out.trans (hb_.mono HB.out.size))
                have hw0 : w.cell? ad = some (.string (rd_T58 l0_1 0).f0) := hz0
                have hw2 : w.cell? ⟨ad.block, ad.off + 2, none⟩ = some (.string (rd_T58 l0_1 0).f2) := hz2
                clear hb_ hc0 hc1 hc2 hc3 hcv hx0 hx1 hx2 hx3 hx4
                generalize wc.drew = wd at HO BA BO HB hHeld ⊢
                refine pure_ (i := 0) (N := some 81) (v := ?_) (a' := ?_) #[true, false, false, false, false, false, false, false, false, false, false, false, false] rfl rfl (any_of HT_.out (by kernel_rfl)) (fun _ _ _ h => h) (Or.inl ⟨by rfl, ?_⟩) ?_ ?_; rotate_left
                · intro w'
                  go_simp
                  with_reducible rfl
                rotate_left
                · simp only [Act.put, List.setIfInBounds_toArray, List.set_cons_zero, List.set_cons_succ, i64_w, i32_w]
                  rfl
                refine pure_ (i := 1) (N := some 82) (v := ?_) (a' := ?_) #[true, true, false, false, false, false, false, false, false, false, false, false, false] rfl rfl (any_of HT_.out (by kernel_rfl)) (fun _ _ _ h => h) (Or.inl ⟨by rfl, ?_⟩) ?_ ?_; rotate_left
                · intro w'
                  go_simp
                  with_reducible rfl
                rotate_left
                · simp only [Act.put, List.setIfInBounds_toArray, List.set_cons_zero, List.set_cons_succ, i64_w, i32_w]
                  rfl
                refine take_ (i := 2) (N := some 83) (v := ?_) (a' := ?_) #[true, true, true, false, false, false, false, false, false, false, false, false, false] rfl rfl (take_ofW HT_.out HW_.out (by kernel_rfl)) (fun _ _ _ h => h) (Or.inl ⟨by rfl, ?_⟩) hHeld ?_ ?_; rotate_left
                · rintro w' ⟨s0, s1, s2⟩
                  go_simp
                  with_reducible rfl
                rotate_left
                · simp only [Act.put, List.setIfInBounds_toArray, List.set_cons_zero, List.set_cons_succ, i64_w, i32_w]
                  rfl
                refine pure_ (i := 3) (N := some 84) (v := ?_) (a' := ?_) #[true, true, true, true, false, false, false, false, false, false, false, false, false] rfl rfl (any_of HT_.out (by kernel_rfl)) (fun _ _ _ h => h) (Or.inl ⟨by rfl, ?_⟩) ?_ ?_; rotate_left
                · intro w'
                  go_simp
                  with_reducible rfl
                rotate_left
                · simp only [Act.put, List.setIfInBounds_toArray, List.set_cons_zero, List.set_cons_succ, i64_w, i32_w]
                  rfl
                refine pure_ (i := 4) (N := some 85) (v := ?_) (a' := ?_) #[true, true, true, true, true, false, false, false, false, false, false, false, false] rfl rfl (any_of HT_.out (by kernel_rfl)) (fun _ _ _ h => h) (Or.inl ⟨by rfl, ?_⟩) ?_ ?_; rotate_left
                · intro w'
                  go_simp
                  with_reducible rfl
                rotate_left
                · simp only [Act.put, List.setIfInBounds_toArray, List.set_cons_zero, List.set_cons_succ, i64_w, i32_w]
                  rfl
                refine take_ (i := 5) (N := some 86) (v := ?_) (a' := ?_) #[true, true, true, true, true, true, false, false, false, false, false, false, false] rfl rfl (take_ofW HT_.out HW_.out (by kernel_rfl)) (fun _ _ _ h => h) (Or.inl ⟨by rfl, ?_⟩) hHeld ?_ ?_; rotate_left
                · rintro w' ⟨s0, s1, s2⟩
                  go_simp
                  with_reducible rfl
                rotate_left
                · simp only [Act.put, List.setIfInBounds_toArray, List.set_cons_zero, List.set_cons_succ, i64_w, i32_w]
                  rfl
                refine pure_ (i := 6) (N := some 87) (v := ?_) (a' := ?_) #[true, true, true, true, true, true, true, false, false, false, false, false, false] rfl rfl (any_of HT_.out (by kernel_rfl)) (fun _ _ _ h => h) (Or.inl ⟨by rfl, ?_⟩) ?_ ?_; rotate_left
                · intro w'
                  go_simp
                  with_reducible rfl
                rotate_left
                · simp only [Act.put, List.setIfInBounds_toArray, List.set_cons_zero, List.set_cons_succ, i64_w, i32_w]
                  rfl
                refine take_ (i := 7) (N := some 88) (v := ?_) (a' := ?_) #[true, true, true, true, true, true, true, true, false, false, false, false, false] rfl rfl (take_ofW HT_.out HW_.out (by kernel_rfl)) (fun _ _ _ h => h) (Or.inl ⟨by rfl, ?_⟩) hHeld ?_ ?_; rotate_left
                · rintro w' ⟨s0, s1, s2⟩
                  go_simp
                  with_reducible rfl
                rotate_left
                · simp only [Act.put, List.setIfInBounds_toArray, List.set_cons_zero, List.set_cons_succ, i64_w, i32_w]
                  rfl
                refine pure_ (i := 8) (N := some 89) (v := ?_) (a' := ?_) #[true, true, true, true, true, true, true, true, true, false, false, false, false] rfl rfl (any_of HT_.out (by kernel_rfl)) (fun _ _ _ h => h) (Or.inl ⟨by rfl, ?_⟩) ?_ ?_; rotate_left
                · intro w'
                  go_simp
                  with_reducible rfl
                rotate_left
                · simp only [Act.put, List.setIfInBounds_toArray, List.set_cons_zero, List.set_cons_succ, i64_w, i32_w]
                  rfl
                refine pure_ (i := 9) (N := some 90) (v := ?_) (a' := ?_) #[true, true, true, true, true, true, true, true, true, true, false, false, false] rfl rfl (any_of HT_.out (by kernel_rfl)) (fun _ _ _ h => h) (Or.inl ⟨by rfl, ?_⟩) ?_ ?_; rotate_left
                · intro w'
                  go_simp
                  with_reducible rfl
                rotate_left
                · simp only [Act.put, List.setIfInBounds_toArray, List.set_cons_zero, List.set_cons_succ, i64_w, i32_w]
                  rfl
                refine take_ (i := 10) (N := some 91) (v := ?_) (a' := ?_) #[true, true, true, true, true, true, true, true, true, true, true, false, false] rfl rfl (take_ofW HT_.out HW_.out (by kernel_rfl)) (fun _ _ _ h => h) (Or.inl ⟨by rfl, ?_⟩) hHeld ?_ ?_; rotate_left
                · rintro w' ⟨s0, s1, s2⟩
                  go_simp
                  with_reducible rfl
                rotate_left
                · simp only [Act.put, List.setIfInBounds_toArray, List.set_cons_zero, List.set_cons_succ, i64_w, i32_w]
                  rfl
                refine pure_ (i := 11) (N := some 92) (v := ?_) (a' := ?_) #[true, true, true, true, true, true, true, true, true, true, true, true, false] rfl rfl (any_of HT_.out (by kernel_rfl)) (fun _ _ _ h => h) (Or.inl ⟨by rfl, ?_⟩) ?_ ?_; rotate_left
                · intro w'
                  go_simp
                  with_reducible rfl
                rotate_left
                · simp only [Act.put, List.setIfInBounds_toArray, List.set_cons_zero, List.set_cons_succ, i64_w, i32_w]
                  rfl
                refine one_ (i := 12) (N := some 93) #[true, true, true, true, true, true, true, true, true, true, true, true, true] rfl rfl (one_of HT_.out (by kernel_rfl)) (by decide) (fun K hK => ?_)
                refine call_ 17 #[.string (rd_T58 l0_1 0).f2, .string (rd_T58 l0_1 0).f0, .func (.func 20) #[] #[], .pointer (some ⟨w.heap.size, 0, none⟩), .pointer (some ⟨w.heap.size + 1, 0, none⟩)] (by rfl) rfl (by unfold execOp; simp [resolve, Deferred.ofValue, invoke, Act.eval, eL]) ?_
                refine (search_lay.calls k search_Dirs.colon _ #[] eg2.out _ _ _ o2 _ v w.heap.size (w.heap.size + 1) _ _ _ w _ HB.out (search_Dirs.isColon w) BA.out BO.out (Nat.le_succ _) (Nat.ne_of_lt (Nat.lt_succ_self _)) HO.out B.out).mono ?_
                rintro e w1 ⟨rfl, v1, hbo, ho, hb1, hba⟩
                refine ⟨_, rfl, ?_⟩
                have BO := Aside0.mk hbo
                have BA := Aside0.mk hba
                have HO := Aside0.mk ho
                have HB := Aside0.mk hb1
                refine hK.out _ _ ⟨(blk_cell hba 1).trans rfl, (hb1.cell (World.block_lt_of_cell? w _ hw0)).trans hw0, (hb1.cell (World.block_lt_of_cell? w _ hw2)).trans hw2⟩ (fun hHeld => ?_)
                clear hK K hbo ho hb1 hba
                refine norm_ (a' := ?_) ?_ ?_; rotate_left
                · show Act.put _ (some 93) _ = _
                  simp only [Act.put, List.setIfInBounds_toArray, List.set_cons_zero, List.set_cons_succ, i64_w, i32_w]
                  rfl
                refine done_ (done_of HT_.out (by kernel_rfl)) ?_
                try go_wp2
                go_meet
                case rel => exact ⟨v1, BO, BA, HO, HB⟩
              · rw [if_neg hb] at B
                obtain rfl := Option.some.inj B
                rw [Bool.eq_false_iff.mpr hb]
                go_wp2
                go_meet
                case rel => exact ⟨v, BO, BA, HO, HB⟩
            case rest =>
              clear HB BA BO HO B3
              obtain ⟨v, BO, BA, HO, HB⟩ := hcut
              go_wp2_with (first | (go_at_fn 17; refine (search_lay.calls k search_Dirs.colon _ #[] eg2.out _ _ a0_3 o3 _ v w.heap.size (w.heap.size + 1) _ _ _ w _ HB.out (search_Dirs.isColon w) BA.out BO.out (Nat.le_succ _) (Nat.ne_of_lt (Nat.lt_succ_self _)) HO.out B4.out).mono ?_; rintro e w1 ⟨rfl, v1, hbo, ho, hb, hba⟩; replace BO := Aside0.mk hbo; replace BA := Aside0.mk hba; replace HO := Aside0.mk ho; replace HB := Aside0.mk hb; clear hbo ho hb hba; have hcv := (show _ = some v1 from (blk_cell BO.out 0).trans rfl)))
              go_ret
              exact ⟨_, rfl, HO.out, HB.out⟩

/-! ### shacklelaw14_up: function 6 -/
def shacklelaw14_up.f (k : Nat)  : Option (Bool) := (search_Expand.f k (⟨#[36, 79, 82, 73, 71, 73, 78, 47, 46, 46, 47, 36, 123, 76, 73, 66, 125, 58, 36, 88]⟩ : ByteArray) (⟨#[47, 111, 112, 116, 47, 97, 47, 112, 114, 111, 103]⟩ : ByteArray)).bind fun bt113 => ((search_Expand.f k (⟨#[36, 79, 82, 73, 71, 73, 78, 65, 76]⟩ : ByteArray) (⟨#[47, 97]⟩ : ByteArray)).bind fun bt115 => ((search_Dirs.f k (⟨#[]⟩ : ByteArray) (([(⟨(⟨#[47, 98, 105, 110, 47, 112]⟩ : ByteArray), (⟨#[47, 114, 58, 36, 79, 82, 73, 71, 73, 78]⟩ : ByteArray), (⟨#[]⟩ : ByteArray), true, false⟩ : S58)] : List (S58))) (⟨#[47, 101, 59, 47, 102]⟩ : ByteArray) false).bind fun t120 => ((shackleref14_Same.f k t120 (([(⟨#[47, 114]⟩ : ByteArray), (⟨#[47, 98, 105, 110]⟩ : ByteArray), (⟨#[47, 101]⟩ : ByteArray), (⟨#[47, 102]⟩ : ByteArray), (⟨#[47, 108, 105, 98, 54, 52]⟩ : ByteArray), (⟨#[47, 117, 115, 114, 47, 108, 105, 98, 54, 52]⟩ : ByteArray)] : List ByteArray))).bind fun t126 => (if bt113.1.toList = ([47, 111, 112, 116, 47, 97, 47, 46, 46, 47, 108, 105, 98, 54, 52, 58, 36, 88] : List UInt8) then (if bt113.2 = true then (if bt115.1.toList = ([36, 79, 82, 73, 71, 73, 78, 65, 76] : List UInt8) then (if bt115.2 = true then (some false) else (some t126)) else (some false)) else (some false)) else (some false)))))
theorem shacklelaw14_up.mono : ∀ k, LeO (shacklelaw14_up.f k ) (shacklelaw14_up.f (k + 1) ) := by
  intro  k
  unfold shacklelaw14_up.f
  repeat' first
      | (with_reducible exact search_Dirs.mono _ _ _ _ _)
      | (with_reducible exact search_Expand.mono _ _ _)
      | (with_reducible exact shackleref14_Same.mono _ _ _)
      | (with_reducible exact LeO.refl _)
      | (with_reducible exact LeO.none _)
      | (with_reducible refine LeO.ite ?_ ?_)
      | (with_reducible refine LeO.bind ?_ (fun _ => ?_))
      | exact search_Dirs.mono _ _ _ _ _
      | exact search_Expand.mono _ _ _
      | exact shackleref14_Same.mono _ _ _
      | exact LeO.none _
      | refine LeO.ite ?_ ?_
      | refine LeO.bind ?_ (fun _ => ?_)
set_option maxHeartbeats 8000000 in
set_option maxRecDepth 100000 in
theorem shacklelaw14_up.calls (k : Nat)  (r : Bool) (w : World) (h : shacklelaw14_up.f k  = some r) :
    Calls Try.prog 6 #[] w fun e w' => e = .returned (.bool r) ∧ Below w.heap.size w w' := by
  have hu58 := Try.underlying58
  have hu24 := Try.underlying24
  have HB := Aside0.mk (Below.refl w.heap.size w)
  have H : ((search_Expand.f k (⟨#[36, 79, 82, 73, 71, 73, 78, 47, 46, 46, 47, 36, 123, 76, 73, 66, 125, 58, 36, 88]⟩ : ByteArray) (⟨#[47, 111, 112, 116, 47, 97, 47, 112, 114, 111, 103]⟩ : ByteArray)).bind fun bt113 => ((search_Expand.f k (⟨#[36, 79, 82, 73, 71, 73, 78, 65, 76]⟩ : ByteArray) (⟨#[47, 97]⟩ : ByteArray)).bind fun bt115 => ((search_Dirs.f k (⟨#[]⟩ : ByteArray) (([(⟨(⟨#[47, 98, 105, 110, 47, 112]⟩ : ByteArray), (⟨#[47, 114, 58, 36, 79, 82, 73, 71, 73, 78]⟩ : ByteArray), (⟨#[]⟩ : ByteArray), true, false⟩ : S58)] : List (S58))) (⟨#[47, 101, 59, 47, 102]⟩ : ByteArray) false).bind fun t120 => ((shackleref14_Same.f k t120 (([(⟨#[47, 114]⟩ : ByteArray), (⟨#[47, 98, 105, 110]⟩ : ByteArray), (⟨#[47, 101]⟩ : ByteArray), (⟨#[47, 102]⟩ : ByteArray), (⟨#[47, 108, 105, 98, 54, 52]⟩ : ByteArray), (⟨#[47, 117, 115, 114, 47, 108, 105, 98, 54, 52]⟩ : ByteArray)] : List ByteArray))).bind fun t126 => (if bt113.1.toList = ([47, 111, 112, 116, 47, 97, 47, 46, 46, 47, 108, 105, 98, 54, 52, 58, 36, 88] : List UInt8) then (if bt113.2 = true then (if bt115.1.toList = ([36, 79, 82, 73, 71, 73, 78, 65, 76] : List UInt8) then (if bt115.2 = true then (some false) else (some t126)) else (some false)) else (some false)) else (some false)))))) = some r := h
  clear h
  replace H := Option.bind_eq_some_iff.mp H
  obtain ⟨⟨t113, t114⟩, A10, H⟩ := H
  replace H : ((search_Expand.f k (⟨#[36, 79, 82, 73, 71, 73, 78, 65, 76]⟩ : ByteArray) (⟨#[47, 97]⟩ : ByteArray)).bind fun bt115 => ((search_Dirs.f k (⟨#[]⟩ : ByteArray) (([(⟨(⟨#[47, 98, 105, 110, 47, 112]⟩ : ByteArray), (⟨#[47, 114, 58, 36, 79, 82, 73, 71, 73, 78]⟩ : ByteArray), (⟨#[]⟩ : ByteArray), true, false⟩ : S58)] : List (S58))) (⟨#[47, 101, 59, 47, 102]⟩ : ByteArray) false).bind fun t120 => ((shackleref14_Same.f k t120 (([(⟨#[47, 114]⟩ : ByteArray), (⟨#[47, 98, 105, 110]⟩ : ByteArray), (⟨#[47, 101]⟩ : ByteArray), (⟨#[47, 102]⟩ : ByteArray), (⟨#[47, 108, 105, 98, 54, 52]⟩ : ByteArray), (⟨#[47, 117, 115, 114, 47, 108, 105, 98, 54, 52]⟩ : ByteArray)] : List ByteArray))).bind fun t126 => (if t113.toList = ([47, 111, 112, 116, 47, 97, 47, 46, 46, 47, 108, 105, 98, 54, 52, 58, 36, 88] : List UInt8) then (if t114 = true then (if bt115.1.toList = ([36, 79, 82, 73, 71, 73, 78, 65, 76] : List UInt8) then (if bt115.2 = true then (some false) else (some t126)) else (some false)) else (some false)) else (some false))))) = some r := H
  have A1 := Aside0.mk A10
  clear A10
  replace H := Option.bind_eq_some_iff.mp H
  obtain ⟨⟨t115, t116⟩, A20, H⟩ := H
  replace H : ((search_Dirs.f k (⟨#[]⟩ : ByteArray) (([(⟨(⟨#[47, 98, 105, 110, 47, 112]⟩ : ByteArray), (⟨#[47, 114, 58, 36, 79, 82, 73, 71, 73, 78]⟩ : ByteArray), (⟨#[]⟩ : ByteArray), true, false⟩ : S58)] : List (S58))) (⟨#[47, 101, 59, 47, 102]⟩ : ByteArray) false).bind fun t120 => ((shackleref14_Same.f k t120 (([(⟨#[47, 114]⟩ : ByteArray), (⟨#[47, 98, 105, 110]⟩ : ByteArray), (⟨#[47, 101]⟩ : ByteArray), (⟨#[47, 102]⟩ : ByteArray), (⟨#[47, 108, 105, 98, 54, 52]⟩ : ByteArray), (⟨#[47, 117, 115, 114, 47, 108, 105, 98, 54, 52]⟩ : ByteArray)] : List ByteArray))).bind fun t126 => (if t113.toList = ([47, 111, 112, 116, 47, 97, 47, 46, 46, 47, 108, 105, 98, 54, 52, 58, 36, 88] : List UInt8) then (if t114 = true then (if t115.toList = ([36, 79, 82, 73, 71, 73, 78, 65, 76] : List UInt8) then (if t116 = true then (some false) else (some t126)) else (some false)) else (some false)) else (some false)))) = some r := H
  have A2 := Aside0.mk A20
  clear A20
  obtain ⟨y117, hy117⟩ : ∃ y_ : List (S58), y_ = (([(⟨(⟨#[47, 98, 105, 110, 47, 112]⟩ : ByteArray), (⟨#[47, 114, 58, 36, 79, 82, 73, 71, 73, 78]⟩ : ByteArray), (⟨#[]⟩ : ByteArray), true, false⟩ : S58)] : List (S58))) := ⟨_, rfl⟩
  replace H : ((search_Dirs.f k (⟨#[]⟩ : ByteArray) y117 (⟨#[47, 101, 59, 47, 102]⟩ : ByteArray) false).bind fun t120 => ((shackleref14_Same.f k t120 (([(⟨#[47, 114]⟩ : ByteArray), (⟨#[47, 98, 105, 110]⟩ : ByteArray), (⟨#[47, 101]⟩ : ByteArray), (⟨#[47, 102]⟩ : ByteArray), (⟨#[47, 108, 105, 98, 54, 52]⟩ : ByteArray), (⟨#[47, 117, 115, 114, 47, 108, 105, 98, 54, 52]⟩ : ByteArray)] : List ByteArray))).bind fun t126 => (if t113.toList = ([47, 111, 112, 116, 47, 97, 47, 46, 46, 47, 108, 105, 98, 54, 52, 58, 36, 88] : List UInt8) then (if t114 = true then (if t115.toList = ([36, 79, 82, 73, 71, 73, 78, 65, 76] : List UInt8) then (if t116 = true then (some false) else (some t126)) else (some false)) else (some false)) else (some false)))) = some r := by first | (rw [hy117]; with_reducible exact H) | (have H2_ := (Option.bind_some _ _).symm.trans H; rw [hy117]; with_reducible exact H2_) | (have H2_ := (Option.bind_some _ _).symm.trans H; with_reducible exact H2_) | with_reducible exact H | (rw [hy117]; exact H) | exact H
  have Ny117 := Aside0.mk hy117
  clear hy117
  replace H := Option.bind_eq_some_iff.mp H
  obtain ⟨t120, A30, H⟩ := H
  replace H : ((shackleref14_Same.f k t120 (([(⟨#[47, 114]⟩ : ByteArray), (⟨#[47, 98, 105, 110]⟩ : ByteArray), (⟨#[47, 101]⟩ : ByteArray), (⟨#[47, 102]⟩ : ByteArray), (⟨#[47, 108, 105, 98, 54, 52]⟩ : ByteArray), (⟨#[47, 117, 115, 114, 47, 108, 105, 98, 54, 52]⟩ : ByteArray)] : List ByteArray))).bind fun t126 => (if t113.toList = ([47, 111, 112, 116, 47, 97, 47, 46, 46, 47, 108, 105, 98, 54, 52, 58, 36, 88] : List UInt8) then (if t114 = true then (if t115.toList = ([36, 79, 82, 73, 71, 73, 78, 65, 76] : List UInt8) then (if t116 = true then (some false) else (some t126)) else (some false)) else (some false)) else (some false))) = some r := H
  have A3 := Aside0.mk A30
  clear A30
  obtain ⟨y123, hy123⟩ : ∃ y_ : List ByteArray, y_ = (([(⟨#[47, 114]⟩ : ByteArray), (⟨#[47, 98, 105, 110]⟩ : ByteArray), (⟨#[47, 101]⟩ : ByteArray), (⟨#[47, 102]⟩ : ByteArray), (⟨#[47, 108, 105, 98, 54, 52]⟩ : ByteArray), (⟨#[47, 117, 115, 114, 47, 108, 105, 98, 54, 52]⟩ : ByteArray)] : List ByteArray)) := ⟨_, rfl⟩
  replace H : ((shackleref14_Same.f k t120 y123).bind fun t126 => (if t113.toList = ([47, 111, 112, 116, 47, 97, 47, 46, 46, 47, 108, 105, 98, 54, 52, 58, 36, 88] : List UInt8) then (if t114 = true then (if t115.toList = ([36, 79, 82, 73, 71, 73, 78, 65, 76] : List UInt8) then (if t116 = true then (some false) else (some t126)) else (some false)) else (some false)) else (some false))) = some r := by first | (rw [hy123]; with_reducible exact H) | (have H2_ := (Option.bind_some _ _).symm.trans H; rw [hy123]; with_reducible exact H2_) | (have H2_ := (Option.bind_some _ _).symm.trans H; with_reducible exact H2_) | with_reducible exact H | (rw [hy123]; exact H) | exact H
  have Ny123 := Aside0.mk hy123
  clear hy123
  replace H := Option.bind_eq_some_iff.mp H
  obtain ⟨t126, A40, H⟩ := H
  replace H : (if t113.toList = ([47, 111, 112, 116, 47, 97, 47, 46, 46, 47, 108, 105, 98, 54, 52, 58, 36, 88] : List UInt8) then (if t114 = true then (if t115.toList = ([36, 79, 82, 73, 71, 73, 78, 65, 76] : List UInt8) then (if t116 = true then (some false) else (some t126)) else (some false)) else (some false)) else (some false)) = some r := H
  have A4 := Aside0.mk A40
  clear A40
  by_cases c5 : t113.toList = ([47, 111, 112, 116, 47, 97, 47, 46, 46, 47, 108, 105, 98, 54, 52, 58, 36, 88] : List UInt8)
  · rw [if_pos c5] at H
    have c5b0 : (t113.toList == ([47, 111, 112, 116, 47, 97, 47, 46, 46, 47, 108, 105, 98, 54, 52, 58, 36, 88] : List UInt8)) = true := beq_iff_eq.mpr c5
    have c5b1 : (t113.toList != ([47, 111, 112, 116, 47, 97, 47, 46, 46, 47, 108, 105, 98, 54, 52, 58, 36, 88] : List UInt8)) = false := bne_eq_false_iff_eq.mpr c5
    clear c5
    by_cases c6 : t114 = true
    · subst c6
      have H1 : (if t115.toList = ([36, 79, 82, 73, 71, 73, 78, 65, 76] : List UInt8) then (if t116 = true then (some false) else (some t126)) else (some false)) = some r := by rw [if_pos rfl] at H; exact H
      clear H
      have H := H1
      clear H1
      by_cases c7 : t115.toList = ([36, 79, 82, 73, 71, 73, 78, 65, 76] : List UInt8)
      · rw [if_pos c7] at H
        have c7b0 : (t115.toList == ([36, 79, 82, 73, 71, 73, 78, 65, 76] : List UInt8)) = true := beq_iff_eq.mpr c7
        have c7b1 : (t115.toList != ([36, 79, 82, 73, 71, 73, 78, 65, 76] : List UInt8)) = false := bne_eq_false_iff_eq.mpr c7
        clear c7
        by_cases c8 : t116 = true
        · subst c8
          have H1 : (some false) = some r := by rw [if_pos rfl] at H; exact H
          clear H
          have H := H1
          clear H1
          obtain rfl := Option.some.inj H
          go_enter Try.func6, Try.ntmps6
          go_wp2_with (first | ((with_reducible refine gate_callee (f := 10) rfl ?_); refine goesL_ (some 8) rfl rfl Try.func10 (by kernel_rfl) rfl #[.string (⟨#[36, 79, 82, 73, 71, 73, 78, 47, 46, 46, 47, 36, 123, 76, 73, 66, 125, 58, 36, 88]⟩ : ByteArray), .string (⟨#[47, 111, 112, 116, 47, 97, 47, 112, 114, 111, 103]⟩ : ByteArray)] rfl (by (try simp only [List.map_toArray, List.map_cons, List.map_nil]); first | done | rfl | (simp only [List.length_drop, List.length_take]; rfl)) ?_; (with_reducible refine (search_Expand.calls k (⟨#[36, 79, 82, 73, 71, 73, 78, 47, 46, 46, 47, 36, 123, 76, 73, 66, 125, 58, 36, 88]⟩ : ByteArray) (⟨#[47, 111, 112, 116, 47, 97, 47, 112, 114, 111, 103]⟩ : ByteArray) t113 true _ A1.out).mono ?_); rintro e w9 ⟨rfl, hb⟩; refine ⟨_, rfl, ?_⟩; have n0_ := Aside0.mk (below_step (by repeat (first | (with_reducible first | exact HB.out | apply below_alloc | apply pw_below_drewN | apply below_drew1) | exact HB.out)) hb); clear HB; have HB := n0_; clear n0_; (try clear hb); (try clear hb2); (try clear hk); (try clear hi)) | ((with_reducible refine gate_callee (f := 10) rfl ?_); refine goesL_ (some 12) rfl rfl Try.func10 (by kernel_rfl) rfl #[.string (⟨#[36, 79, 82, 73, 71, 73, 78, 65, 76]⟩ : ByteArray), .string (⟨#[47, 97]⟩ : ByteArray)] rfl (by (try simp only [List.map_toArray, List.map_cons, List.map_nil]); first | done | rfl | (simp only [List.length_drop, List.length_take]; rfl)) ?_; (with_reducible refine (search_Expand.calls k (⟨#[36, 79, 82, 73, 71, 73, 78, 65, 76]⟩ : ByteArray) (⟨#[47, 97]⟩ : ByteArray) t115 true _ A2.out).mono ?_); rintro e w10 ⟨rfl, hb⟩; refine ⟨_, rfl, ?_⟩; have n0_ := Aside0.mk (below_step (by repeat (first | (with_reducible first | exact HB.out | apply below_alloc | apply pw_below_drewN | apply below_drew1) | exact HB.out)) hb); clear HB; have HB := n0_; clear n0_; (try clear hb); (try clear hb2); (try clear hk); (try clear hi)) | ((with_reducible refine gate_dst (N := 16) rfl ?_); refine Kd.R_lit k58 _ 58 ?hg (N := 16) ?hd (xs := ([(⟨(⟨#[47, 98, 105, 110, 47, 112]⟩ : ByteArray), (⟨#[47, 114, 58, 36, 79, 82, 73, 71, 73, 78]⟩ : ByteArray), (⟨#[]⟩ : ByteArray), true, false⟩ : S58)] : List (S58))) (inner := [.string (⟨#[47, 98, 105, 110, 47, 112]⟩ : ByteArray), .string (⟨#[47, 114, 58, 36, 79, 82, 73, 71, 73, 78]⟩ : ByteArray), .string (⟨#[]⟩ : ByteArray), .bool true, .bool false]) (ok := fun _ => True) (okp := fun _ => True) ?hr ?hp (fun _ hk => hk) trivial (Below.refl _ _) (Nat.le_refl _) (by simp) ?_; (case hd => rfl); (case hg => rfl); (case hr => first | (go_simp; done) | (go_simp; rfl)); (case hp => exact (Reps.c5 (show Kd.M k58 _ _ _ (⟨(⟨#[47, 98, 105, 110, 47, 112]⟩ : ByteArray), (⟨#[47, 114, 58, 36, 79, 82, 73, 71, 73, 78]⟩ : ByteArray), (⟨#[]⟩ : ByteArray), true, false⟩ : S58) [.string (⟨#[47, 98, 105, 110, 47, 112]⟩ : ByteArray), .string (⟨#[47, 114, 58, 36, 79, 82, 73, 71, 73, 78]⟩ : ByteArray), .string (⟨#[]⟩ : ByteArray), .bool true, .bool false] from (k58_mkM _ _ _ (⟨(⟨#[47, 98, 105, 110, 47, 112]⟩ : ByteArray), (⟨#[47, 114, 58, 36, 79, 82, 73, 71, 73, 78]⟩ : ByteArray), (⟨#[]⟩ : ByteArray), true, false⟩ : S58) )) (Reps.none _ _))); intro v118 w11 ho12 hb hg_ hnew_; clear hg_ hnew_; (first | rw [← Ny117.out] at ho12 | (simp only [Int.reduceToNat] at ho12; rw [← Ny117.out] at ho12)); have n0_ := Aside0.mk (Kd.R_lower ho12 (below_size (by repeat (first | (with_reducible first | exact HB.out | apply below_alloc | apply pw_below_drewN | apply below_drew1) | exact HB.out)))); have n1_ := Aside0.mk (below_step (by repeat (first | (with_reducible first | exact HB.out | apply below_alloc | apply pw_below_drewN | apply below_drew1) | exact HB.out)) hb); clear HB; have HO119 := n0_; have HB := n1_; clear n0_ n1_; clear hb ho12; obtain ⟨Ao13, co13, eo13⟩ := Kd.R_slice HO119.out; subst eo13) | ((with_reducible refine gate_callee (f := 7) rfl ?_); refine goesL_ (some 18) rfl rfl Try.func7 (by kernel_rfl) rfl #[.agg #[.string (⟨#[]⟩ : ByteArray), .slice Ao13 y117.length co13, .string (⟨#[47, 101, 59, 47, 102]⟩ : ByteArray), .bool false]] rfl (by (try simp only [List.map_toArray, List.map_cons, List.map_nil]); first | done | rfl | (simp only [List.length_drop, List.length_take]; rfl)) ?_; (with_reducible refine (search_Dirs.calls k (⟨#[]⟩ : ByteArray) _ _ y117 (⟨#[47, 101, 59, 47, 102]⟩ : ByteArray) false t120 _ ?side1 ?side2 A3.out).mono ?_); (case side1 => repeat (first | exact (Kd.R_reads' HO119.out).2.2 | (with_reducible refine Kd.C_alloc ?_ _) | (with_reducible refine Kd.C_drewN ?_ _) | (with_reducible refine Kd.C_drew ?_))); (case side2 => exact (Kd.R_reads' HO119.out).2.1); rintro e w14 ⟨v121, rfl, ho0, hb⟩; refine ⟨_, rfl, ?_⟩; have n0_ := Aside0.mk (Kd.R_below (by (with_reducible repeat (first | apply Kd.R_alloc | apply Kd.R_drewN | apply Kd.R_drew)); exact HO119.out) hb); have n1_ := Aside0.mk (Kd.R_lower ho0 (below_size (by repeat (first | (with_reducible first | exact HB.out | apply below_alloc | apply pw_below_drewN | apply below_drew1) | exact HB.out)))); have n2_ := Aside0.mk (below_step (by repeat (first | (with_reducible first | exact HB.out | apply below_alloc | apply pw_below_drewN | apply below_drew1) | exact HB.out)) hb); clear HO119; clear HB; have HO119 := n0_; have HO122 := n1_; have HB := n2_; clear n0_ n1_ n2_; (try clear hb); (try clear hb2); (try clear hk); (try clear hi); (try clear ho0)) | ((with_reducible refine gate_dst (N := 20) rfl ?_); refine Kd.R_lit Kd.string _ 9 ?hg (N := 20) ?hd (xs := ([(⟨#[47, 114]⟩ : ByteArray), (⟨#[47, 98, 105, 110]⟩ : ByteArray), (⟨#[47, 101]⟩ : ByteArray), (⟨#[47, 102]⟩ : ByteArray), (⟨#[47, 108, 105, 98, 54, 52]⟩ : ByteArray), (⟨#[47, 117, 115, 114, 47, 108, 105, 98, 54, 52]⟩ : ByteArray)] : List ByteArray)) (inner := [.string (⟨#[47, 114]⟩ : ByteArray), .string (⟨#[47, 98, 105, 110]⟩ : ByteArray), .string (⟨#[47, 101]⟩ : ByteArray), .string (⟨#[47, 102]⟩ : ByteArray), .string (⟨#[47, 108, 105, 98, 54, 52]⟩ : ByteArray), .string (⟨#[47, 117, 115, 114, 47, 108, 105, 98, 54, 52]⟩ : ByteArray)]) (ok := fun _ => True) (okp := fun _ => True) ?hr ?hp (fun _ hk => hk) trivial (Below.refl _ _) (Nat.le_refl _) (by simp) ?_; (case hd => rfl); (case hg => rfl); (case hr => first | (go_simp; done) | (go_simp; rfl)); (case hp => exact (Reps.one (show Kd.M Kd.string _ _ _ (⟨#[47, 114]⟩ : ByteArray) [.string (⟨#[47, 114]⟩ : ByteArray)] from rfl) (Reps.one (show Kd.M Kd.string _ _ _ (⟨#[47, 98, 105, 110]⟩ : ByteArray) [.string (⟨#[47, 98, 105, 110]⟩ : ByteArray)] from rfl) (Reps.one (show Kd.M Kd.string _ _ _ (⟨#[47, 101]⟩ : ByteArray) [.string (⟨#[47, 101]⟩ : ByteArray)] from rfl) (Reps.one (show Kd.M Kd.string _ _ _ (⟨#[47, 102]⟩ : ByteArray) [.string (⟨#[47, 102]⟩ : ByteArray)] from rfl) (Reps.one (show Kd.M Kd.string _ _ _ (⟨#[47, 108, 105, 98, 54, 52]⟩ : ByteArray) [.string (⟨#[47, 108, 105, 98, 54, 52]⟩ : ByteArray)] from rfl) (Reps.one (show Kd.M Kd.string _ _ _ (⟨#[47, 117, 115, 114, 47, 108, 105, 98, 54, 52]⟩ : ByteArray) [.string (⟨#[47, 117, 115, 114, 47, 108, 105, 98, 54, 52]⟩ : ByteArray)] from rfl) (Reps.none _ _)))))))); intro v124 w15 ho16 hb hg_ hnew_; clear hg_ hnew_; (first | rw [← Ny123.out] at ho16 | (simp only [Int.reduceToNat] at ho16; rw [← Ny123.out] at ho16)); have n0_ := Aside0.mk (Kd.R_below (by (with_reducible repeat (first | apply Kd.R_alloc | apply Kd.R_drewN | apply Kd.R_drew)); exact HO119.out) hb); have n1_ := Aside0.mk (Kd.R_elder' (by (with_reducible repeat (first | apply Kd.R_alloc | apply Kd.R_drewN | apply Kd.R_drew)); exact HO122.out) (Kd.R_base ho16) hb); have n2_ := Aside0.mk (Kd.R_lower (Kd.R_new' ho16 (Kd.R_lt (by (with_reducible repeat (first | apply Kd.R_alloc | apply Kd.R_drewN | apply Kd.R_drew)); exact HO122.out))) (below_size (by repeat (first | (with_reducible first | exact HB.out | apply below_alloc | apply pw_below_drewN | apply below_drew1) | exact HB.out)))); have n3_ := Aside0.mk (below_step (by repeat (first | (with_reducible first | exact HB.out | apply below_alloc | apply pw_below_drewN | apply below_drew1) | exact HB.out)) hb); clear HO119; clear HO122; clear HB; have HO119 := n0_; have HO122 := n1_; have HO125 := n2_; have HB := n3_; clear n0_ n1_ n2_ n3_; clear hb ho16; obtain ⟨Ao17, co17, eo17⟩ := Kd.R_slice HO122.out; subst eo17; obtain ⟨Ao18, co18, eo18⟩ := Kd.R_slice HO125.out; subst eo18) | ((with_reducible refine gate_callee (f := 9) rfl ?_); refine goesL_ (some 21) rfl rfl Try.func9 (by kernel_rfl) rfl #[.slice Ao17 t120.length co17, .slice Ao18 y123.length co18] rfl (by (try simp only [List.map_toArray, List.map_cons, List.map_nil]); first | done | rfl | (simp only [List.length_drop, List.length_take]; rfl)) ?_; (with_reducible refine (shackleref14_Same.calls k _ _ t120 _ _ y123 t126 _ ?side1 ?side2 ?side3 ?side4 A4.out).mono ?_); (case side1 => repeat (first | exact (Kd.R_reads' HO122.out).2.2 | (with_reducible refine Kd.C_alloc ?_ _) | (with_reducible refine Kd.C_drewN ?_ _) | (with_reducible refine Kd.C_drew ?_))); (case side2 => exact (Kd.R_reads' HO122.out).2.1); (case side3 => repeat (first | exact (Kd.R_reads' HO125.out).2.2 | (with_reducible refine Kd.C_alloc ?_ _) | (with_reducible refine Kd.C_drewN ?_ _) | (with_reducible refine Kd.C_drew ?_))); (case side4 => exact (Kd.R_reads' HO125.out).2.1); rintro e w' ⟨rfl, ⟨nd, rfl⟩⟩; refine ⟨_, rfl, ?_⟩))
          go_ret
          exact ⟨by first | rfl | (simp [errW_none, errW_some] <;> rfl) | (simp [*, errW_none, errW_some] <;> rfl), by repeat (first | (with_reducible first | exact HB.out | apply below_alloc | apply pw_below_drewN | apply below_drew1) | exact HB.out)⟩
        · replace c8 := Bool.eq_false_iff.mpr c8
          subst c8
          have H1 : (some t126) = some r := by rw [if_neg (show ¬ (false = true) by decide)] at H; exact H
          clear H
          have H := H1
          clear H1
          obtain rfl := Option.some.inj H
          go_enter Try.func6, Try.ntmps6
          go_wp2_with (first | ((with_reducible refine gate_callee (f := 10) rfl ?_); refine goesL_ (some 8) rfl rfl Try.func10 (by kernel_rfl) rfl #[.string (⟨#[36, 79, 82, 73, 71, 73, 78, 47, 46, 46, 47, 36, 123, 76, 73, 66, 125, 58, 36, 88]⟩ : ByteArray), .string (⟨#[47, 111, 112, 116, 47, 97, 47, 112, 114, 111, 103]⟩ : ByteArray)] rfl (by (try simp only [List.map_toArray, List.map_cons, List.map_nil]); first | done | rfl | (simp only [List.length_drop, List.length_take]; rfl)) ?_; (with_reducible refine (search_Expand.calls k (⟨#[36, 79, 82, 73, 71, 73, 78, 47, 46, 46, 47, 36, 123, 76, 73, 66, 125, 58, 36, 88]⟩ : ByteArray) (⟨#[47, 111, 112, 116, 47, 97, 47, 112, 114, 111, 103]⟩ : ByteArray) t113 true _ A1.out).mono ?_); rintro e w19 ⟨rfl, hb⟩; refine ⟨_, rfl, ?_⟩; have n0_ := Aside0.mk (below_step (by repeat (first | (with_reducible first | exact HB.out | apply below_alloc | apply pw_below_drewN | apply below_drew1) | exact HB.out)) hb); clear HB; have HB := n0_; clear n0_; (try clear hb); (try clear hb2); (try clear hk); (try clear hi)) | ((with_reducible refine gate_callee (f := 10) rfl ?_); refine goesL_ (some 12) rfl rfl Try.func10 (by kernel_rfl) rfl #[.string (⟨#[36, 79, 82, 73, 71, 73, 78, 65, 76]⟩ : ByteArray), .string (⟨#[47, 97]⟩ : ByteArray)] rfl (by (try simp only [List.map_toArray, List.map_cons, List.map_nil]); first | done | rfl | (simp only [List.length_drop, List.length_take]; rfl)) ?_; (with_reducible refine (search_Expand.calls k (⟨#[36, 79, 82, 73, 71, 73, 78, 65, 76]⟩ : ByteArray) (⟨#[47, 97]⟩ : ByteArray) t115 false _ A2.out).mono ?_); rintro e w20 ⟨rfl, hb⟩; refine ⟨_, rfl, ?_⟩; have n0_ := Aside0.mk (below_step (by repeat (first | (with_reducible first | exact HB.out | apply below_alloc | apply pw_below_drewN | apply below_drew1) | exact HB.out)) hb); clear HB; have HB := n0_; clear n0_; (try clear hb); (try clear hb2); (try clear hk); (try clear hi)) | ((with_reducible refine gate_dst (N := 16) rfl ?_); refine Kd.R_lit k58 _ 58 ?hg (N := 16) ?hd (xs := ([(⟨(⟨#[47, 98, 105, 110, 47, 112]⟩ : ByteArray), (⟨#[47, 114, 58, 36, 79, 82, 73, 71, 73, 78]⟩ : ByteArray), (⟨#[]⟩ : ByteArray), true, false⟩ : S58)] : List (S58))) (inner := [.string (⟨#[47, 98, 105, 110, 47, 112]⟩ : ByteArray), .string (⟨#[47, 114, 58, 36, 79, 82, 73, 71, 73, 78]⟩ : ByteArray), .string (⟨#[]⟩ : ByteArray), .bool true, .bool false]) (ok := fun _ => True) (okp := fun _ => True) ?hr ?hp (fun _ hk => hk) trivial (Below.refl _ _) (Nat.le_refl _) (by simp) ?_; (case hd => rfl); (case hg => rfl); (case hr => first | (go_simp; done) | (go_simp; rfl)); (case hp => exact (Reps.c5 (show Kd.M k58 _ _ _ (⟨(⟨#[47, 98, 105, 110, 47, 112]⟩ : ByteArray), (⟨#[47, 114, 58, 36, 79, 82, 73, 71, 73, 78]⟩ : ByteArray), (⟨#[]⟩ : ByteArray), true, false⟩ : S58) [.string (⟨#[47, 98, 105, 110, 47, 112]⟩ : ByteArray), .string (⟨#[47, 114, 58, 36, 79, 82, 73, 71, 73, 78]⟩ : ByteArray), .string (⟨#[]⟩ : ByteArray), .bool true, .bool false] from (k58_mkM _ _ _ (⟨(⟨#[47, 98, 105, 110, 47, 112]⟩ : ByteArray), (⟨#[47, 114, 58, 36, 79, 82, 73, 71, 73, 78]⟩ : ByteArray), (⟨#[]⟩ : ByteArray), true, false⟩ : S58) )) (Reps.none _ _))); intro v118 w21 ho22 hb hg_ hnew_; clear hg_ hnew_; (first | rw [← Ny117.out] at ho22 | (simp only [Int.reduceToNat] at ho22; rw [← Ny117.out] at ho22)); have n0_ := Aside0.mk (Kd.R_lower ho22 (below_size (by repeat (first | (with_reducible first | exact HB.out | apply below_alloc | apply pw_below_drewN | apply below_drew1) | exact HB.out)))); have n1_ := Aside0.mk (below_step (by repeat (first | (with_reducible first | exact HB.out | apply below_alloc | apply pw_below_drewN | apply below_drew1) | exact HB.out)) hb); clear HB; have HO119 := n0_; have HB := n1_; clear n0_ n1_; clear hb ho22; obtain ⟨Ao23, co23, eo23⟩ := Kd.R_slice HO119.out; subst eo23) | ((with_reducible refine gate_callee (f := 7) rfl ?_); refine goesL_ (some 18) rfl rfl Try.func7 (by kernel_rfl) rfl #[.agg #[.string (⟨#[]⟩ : ByteArray), .slice Ao23 y117.length co23, .string (⟨#[47, 101, 59, 47, 102]⟩ : ByteArray), .bool false]] rfl (by (try simp only [List.map_toArray, List.map_cons, List.map_nil]); first | done | rfl | (simp only [List.length_drop, List.length_take]; rfl)) ?_; (with_reducible refine (search_Dirs.calls k (⟨#[]⟩ : ByteArray) _ _ y117 (⟨#[47, 101, 59, 47, 102]⟩ : ByteArray) false t120 _ ?side1 ?side2 A3.out).mono ?_); (case side1 => repeat (first | exact (Kd.R_reads' HO119.out).2.2 | (with_reducible refine Kd.C_alloc ?_ _) | (with_reducible refine Kd.C_drewN ?_ _) | (with_reducible refine Kd.C_drew ?_))); (case side2 => exact (Kd.R_reads' HO119.out).2.1); rintro e w24 ⟨v121, rfl, ho0, hb⟩; refine ⟨_, rfl, ?_⟩; have n0_ := Aside0.mk (Kd.R_below (by (with_reducible repeat (first | apply Kd.R_alloc | apply Kd.R_drewN | apply Kd.R_drew)); exact HO119.out) hb); have n1_ := Aside0.mk (Kd.R_lower ho0 (below_size (by repeat (first | (with_reducible first | exact HB.out | apply below_alloc | apply pw_below_drewN | apply below_drew1) | exact HB.out)))); have n2_ := Aside0.mk (below_step (by repeat (first | (with_reducible first | exact HB.out | apply below_alloc | apply pw_below_drewN | apply below_drew1) | exact HB.out)) hb); clear HO119; clear HB; have HO119 := n0_; have HO122 := n1_; have HB := n2_; clear n0_ n1_ n2_; (try clear hb); (try clear hb2); (try clear hk); (try clear hi); (try clear ho0)) | ((with_reducible refine gate_dst (N := 20) rfl ?_); refine Kd.R_lit Kd.string _ 9 ?hg (N := 20) ?hd (xs := ([(⟨#[47, 114]⟩ : ByteArray), (⟨#[47, 98, 105, 110]⟩ : ByteArray), (⟨#[47, 101]⟩ : ByteArray), (⟨#[47, 102]⟩ : ByteArray), (⟨#[47, 108, 105, 98, 54, 52]⟩ : ByteArray), (⟨#[47, 117, 115, 114, 47, 108, 105, 98, 54, 52]⟩ : ByteArray)] : List ByteArray)) (inner := [.string (⟨#[47, 114]⟩ : ByteArray), .string (⟨#[47, 98, 105, 110]⟩ : ByteArray), .string (⟨#[47, 101]⟩ : ByteArray), .string (⟨#[47, 102]⟩ : ByteArray), .string (⟨#[47, 108, 105, 98, 54, 52]⟩ : ByteArray), .string (⟨#[47, 117, 115, 114, 47, 108, 105, 98, 54, 52]⟩ : ByteArray)]) (ok := fun _ => True) (okp := fun _ => True) ?hr ?hp (fun _ hk => hk) trivial (Below.refl _ _) (Nat.le_refl _) (by simp) ?_; (case hd => rfl); (case hg => rfl); (case hr => first | (go_simp; done) | (go_simp; rfl)); (case hp => exact (Reps.one (show Kd.M Kd.string _ _ _ (⟨#[47, 114]⟩ : ByteArray) [.string (⟨#[47, 114]⟩ : ByteArray)] from rfl) (Reps.one (show Kd.M Kd.string _ _ _ (⟨#[47, 98, 105, 110]⟩ : ByteArray) [.string (⟨#[47, 98, 105, 110]⟩ : ByteArray)] from rfl) (Reps.one (show Kd.M Kd.string _ _ _ (⟨#[47, 101]⟩ : ByteArray) [.string (⟨#[47, 101]⟩ : ByteArray)] from rfl) (Reps.one (show Kd.M Kd.string _ _ _ (⟨#[47, 102]⟩ : ByteArray) [.string (⟨#[47, 102]⟩ : ByteArray)] from rfl) (Reps.one (show Kd.M Kd.string _ _ _ (⟨#[47, 108, 105, 98, 54, 52]⟩ : ByteArray) [.string (⟨#[47, 108, 105, 98, 54, 52]⟩ : ByteArray)] from rfl) (Reps.one (show Kd.M Kd.string _ _ _ (⟨#[47, 117, 115, 114, 47, 108, 105, 98, 54, 52]⟩ : ByteArray) [.string (⟨#[47, 117, 115, 114, 47, 108, 105, 98, 54, 52]⟩ : ByteArray)] from rfl) (Reps.none _ _)))))))); intro v124 w25 ho26 hb hg_ hnew_; clear hg_ hnew_; (first | rw [← Ny123.out] at ho26 | (simp only [Int.reduceToNat] at ho26; rw [← Ny123.out] at ho26)); have n0_ := Aside0.mk (Kd.R_below (by (with_reducible repeat (first | apply Kd.R_alloc | apply Kd.R_drewN | apply Kd.R_drew)); exact HO119.out) hb); have n1_ := Aside0.mk (Kd.R_elder' (by (with_reducible repeat (first | apply Kd.R_alloc | apply Kd.R_drewN | apply Kd.R_drew)); exact HO122.out) (Kd.R_base ho26) hb); have n2_ := Aside0.mk (Kd.R_lower (Kd.R_new' ho26 (Kd.R_lt (by (with_reducible repeat (first | apply Kd.R_alloc | apply Kd.R_drewN | apply Kd.R_drew)); exact HO122.out))) (below_size (by repeat (first | (with_reducible first | exact HB.out | apply below_alloc | apply pw_below_drewN | apply below_drew1) | exact HB.out)))); have n3_ := Aside0.mk (below_step (by repeat (first | (with_reducible first | exact HB.out | apply below_alloc | apply pw_below_drewN | apply below_drew1) | exact HB.out)) hb); clear HO119; clear HO122; clear HB; have HO119 := n0_; have HO122 := n1_; have HO125 := n2_; have HB := n3_; clear n0_ n1_ n2_ n3_; clear hb ho26; obtain ⟨Ao27, co27, eo27⟩ := Kd.R_slice HO122.out; subst eo27; obtain ⟨Ao28, co28, eo28⟩ := Kd.R_slice HO125.out; subst eo28) | ((with_reducible refine gate_callee (f := 9) rfl ?_); refine goesL_ (some 21) rfl rfl Try.func9 (by kernel_rfl) rfl #[.slice Ao27 t120.length co27, .slice Ao28 y123.length co28] rfl (by (try simp only [List.map_toArray, List.map_cons, List.map_nil]); first | done | rfl | (simp only [List.length_drop, List.length_take]; rfl)) ?_; (with_reducible refine (shackleref14_Same.calls k _ _ t120 _ _ y123 t126 _ ?side1 ?side2 ?side3 ?side4 A4.out).mono ?_); (case side1 => repeat (first | exact (Kd.R_reads' HO122.out).2.2 | (with_reducible refine Kd.C_alloc ?_ _) | (with_reducible refine Kd.C_drewN ?_ _) | (with_reducible refine Kd.C_drew ?_))); (case side2 => exact (Kd.R_reads' HO122.out).2.1); (case side3 => repeat (first | exact (Kd.R_reads' HO125.out).2.2 | (with_reducible refine Kd.C_alloc ?_ _) | (with_reducible refine Kd.C_drewN ?_ _) | (with_reducible refine Kd.C_drew ?_))); (case side4 => exact (Kd.R_reads' HO125.out).2.1); rintro e w' ⟨rfl, ⟨nd, rfl⟩⟩; refine ⟨_, rfl, ?_⟩))
          go_ret
          exact ⟨by first | rfl | (simp [errW_none, errW_some] <;> rfl) | (simp [*, errW_none, errW_some] <;> rfl), by repeat (first | (with_reducible first | exact HB.out | apply below_alloc | apply pw_below_drewN | apply below_drew1) | exact HB.out)⟩
      · rw [if_neg c7] at H
        have c7b0 : (t115.toList == ([36, 79, 82, 73, 71, 73, 78, 65, 76] : List UInt8)) = false := beq_eq_false_iff_ne.mpr c7
        have c7b1 : (t115.toList != ([36, 79, 82, 73, 71, 73, 78, 65, 76] : List UInt8)) = true := bne_iff_ne.mpr c7
        obtain rfl := Option.some.inj H
        go_enter Try.func6, Try.ntmps6
        go_wp2_with (first | ((with_reducible refine gate_callee (f := 10) rfl ?_); refine goesL_ (some 8) rfl rfl Try.func10 (by kernel_rfl) rfl #[.string (⟨#[36, 79, 82, 73, 71, 73, 78, 47, 46, 46, 47, 36, 123, 76, 73, 66, 125, 58, 36, 88]⟩ : ByteArray), .string (⟨#[47, 111, 112, 116, 47, 97, 47, 112, 114, 111, 103]⟩ : ByteArray)] rfl (by (try simp only [List.map_toArray, List.map_cons, List.map_nil]); first | done | rfl | (simp only [List.length_drop, List.length_take]; rfl)) ?_; (with_reducible refine (search_Expand.calls k (⟨#[36, 79, 82, 73, 71, 73, 78, 47, 46, 46, 47, 36, 123, 76, 73, 66, 125, 58, 36, 88]⟩ : ByteArray) (⟨#[47, 111, 112, 116, 47, 97, 47, 112, 114, 111, 103]⟩ : ByteArray) t113 true _ A1.out).mono ?_); rintro e w29 ⟨rfl, hb⟩; refine ⟨_, rfl, ?_⟩; have n0_ := Aside0.mk (below_step (by repeat (first | (with_reducible first | exact HB.out | apply below_alloc | apply pw_below_drewN | apply below_drew1) | exact HB.out)) hb); clear HB; have HB := n0_; clear n0_; (try clear hb); (try clear hb2); (try clear hk); (try clear hi)) | ((with_reducible refine gate_callee (f := 10) rfl ?_); refine goesL_ (some 12) rfl rfl Try.func10 (by kernel_rfl) rfl #[.string (⟨#[36, 79, 82, 73, 71, 73, 78, 65, 76]⟩ : ByteArray), .string (⟨#[47, 97]⟩ : ByteArray)] rfl (by (try simp only [List.map_toArray, List.map_cons, List.map_nil]); first | done | rfl | (simp only [List.length_drop, List.length_take]; rfl)) ?_; (with_reducible refine (search_Expand.calls k (⟨#[36, 79, 82, 73, 71, 73, 78, 65, 76]⟩ : ByteArray) (⟨#[47, 97]⟩ : ByteArray) t115 t116 _ A2.out).mono ?_); rintro e w30 ⟨rfl, hb⟩; refine ⟨_, rfl, ?_⟩; have n0_ := Aside0.mk (below_step (by repeat (first | (with_reducible first | exact HB.out | apply below_alloc | apply pw_below_drewN | apply below_drew1) | exact HB.out)) hb); clear HB; have HB := n0_; clear n0_; (try clear hb); (try clear hb2); (try clear hk); (try clear hi)) | ((with_reducible refine gate_dst (N := 16) rfl ?_); refine Kd.R_lit k58 _ 58 ?hg (N := 16) ?hd (xs := ([(⟨(⟨#[47, 98, 105, 110, 47, 112]⟩ : ByteArray), (⟨#[47, 114, 58, 36, 79, 82, 73, 71, 73, 78]⟩ : ByteArray), (⟨#[]⟩ : ByteArray), true, false⟩ : S58)] : List (S58))) (inner := [.string (⟨#[47, 98, 105, 110, 47, 112]⟩ : ByteArray), .string (⟨#[47, 114, 58, 36, 79, 82, 73, 71, 73, 78]⟩ : ByteArray), .string (⟨#[]⟩ : ByteArray), .bool true, .bool false]) (ok := fun _ => True) (okp := fun _ => True) ?hr ?hp (fun _ hk => hk) trivial (Below.refl _ _) (Nat.le_refl _) (by simp) ?_; (case hd => rfl); (case hg => rfl); (case hr => first | (go_simp; done) | (go_simp; rfl)); (case hp => exact (Reps.c5 (show Kd.M k58 _ _ _ (⟨(⟨#[47, 98, 105, 110, 47, 112]⟩ : ByteArray), (⟨#[47, 114, 58, 36, 79, 82, 73, 71, 73, 78]⟩ : ByteArray), (⟨#[]⟩ : ByteArray), true, false⟩ : S58) [.string (⟨#[47, 98, 105, 110, 47, 112]⟩ : ByteArray), .string (⟨#[47, 114, 58, 36, 79, 82, 73, 71, 73, 78]⟩ : ByteArray), .string (⟨#[]⟩ : ByteArray), .bool true, .bool false] from (k58_mkM _ _ _ (⟨(⟨#[47, 98, 105, 110, 47, 112]⟩ : ByteArray), (⟨#[47, 114, 58, 36, 79, 82, 73, 71, 73, 78]⟩ : ByteArray), (⟨#[]⟩ : ByteArray), true, false⟩ : S58) )) (Reps.none _ _))); intro v118 w31 ho32 hb hg_ hnew_; clear hg_ hnew_; (first | rw [← Ny117.out] at ho32 | (simp only [Int.reduceToNat] at ho32; rw [← Ny117.out] at ho32)); have n0_ := Aside0.mk (Kd.R_lower ho32 (below_size (by repeat (first | (with_reducible first | exact HB.out | apply below_alloc | apply pw_below_drewN | apply below_drew1) | exact HB.out)))); have n1_ := Aside0.mk (below_step (by repeat (first | (with_reducible first | exact HB.out | apply below_alloc | apply pw_below_drewN | apply below_drew1) | exact HB.out)) hb); clear HB; have HO119 := n0_; have HB := n1_; clear n0_ n1_; clear hb ho32; obtain ⟨Ao33, co33, eo33⟩ := Kd.R_slice HO119.out; subst eo33) | ((with_reducible refine gate_callee (f := 7) rfl ?_); refine goesL_ (some 18) rfl rfl Try.func7 (by kernel_rfl) rfl #[.agg #[.string (⟨#[]⟩ : ByteArray), .slice Ao33 y117.length co33, .string (⟨#[47, 101, 59, 47, 102]⟩ : ByteArray), .bool false]] rfl (by (try simp only [List.map_toArray, List.map_cons, List.map_nil]); first | done | rfl | (simp only [List.length_drop, List.length_take]; rfl)) ?_; (with_reducible refine (search_Dirs.calls k (⟨#[]⟩ : ByteArray) _ _ y117 (⟨#[47, 101, 59, 47, 102]⟩ : ByteArray) false t120 _ ?side1 ?side2 A3.out).mono ?_); (case side1 => repeat (first | exact (Kd.R_reads' HO119.out).2.2 | (with_reducible refine Kd.C_alloc ?_ _) | (with_reducible refine Kd.C_drewN ?_ _) | (with_reducible refine Kd.C_drew ?_))); (case side2 => exact (Kd.R_reads' HO119.out).2.1); rintro e w34 ⟨v121, rfl, ho0, hb⟩; refine ⟨_, rfl, ?_⟩; have n0_ := Aside0.mk (Kd.R_below (by (with_reducible repeat (first | apply Kd.R_alloc | apply Kd.R_drewN | apply Kd.R_drew)); exact HO119.out) hb); have n1_ := Aside0.mk (Kd.R_lower ho0 (below_size (by repeat (first | (with_reducible first | exact HB.out | apply below_alloc | apply pw_below_drewN | apply below_drew1) | exact HB.out)))); have n2_ := Aside0.mk (below_step (by repeat (first | (with_reducible first | exact HB.out | apply below_alloc | apply pw_below_drewN | apply below_drew1) | exact HB.out)) hb); clear HO119; clear HB; have HO119 := n0_; have HO122 := n1_; have HB := n2_; clear n0_ n1_ n2_; (try clear hb); (try clear hb2); (try clear hk); (try clear hi); (try clear ho0)) | ((with_reducible refine gate_dst (N := 20) rfl ?_); refine Kd.R_lit Kd.string _ 9 ?hg (N := 20) ?hd (xs := ([(⟨#[47, 114]⟩ : ByteArray), (⟨#[47, 98, 105, 110]⟩ : ByteArray), (⟨#[47, 101]⟩ : ByteArray), (⟨#[47, 102]⟩ : ByteArray), (⟨#[47, 108, 105, 98, 54, 52]⟩ : ByteArray), (⟨#[47, 117, 115, 114, 47, 108, 105, 98, 54, 52]⟩ : ByteArray)] : List ByteArray)) (inner := [.string (⟨#[47, 114]⟩ : ByteArray), .string (⟨#[47, 98, 105, 110]⟩ : ByteArray), .string (⟨#[47, 101]⟩ : ByteArray), .string (⟨#[47, 102]⟩ : ByteArray), .string (⟨#[47, 108, 105, 98, 54, 52]⟩ : ByteArray), .string (⟨#[47, 117, 115, 114, 47, 108, 105, 98, 54, 52]⟩ : ByteArray)]) (ok := fun _ => True) (okp := fun _ => True) ?hr ?hp (fun _ hk => hk) trivial (Below.refl _ _) (Nat.le_refl _) (by simp) ?_; (case hd => rfl); (case hg => rfl); (case hr => first | (go_simp; done) | (go_simp; rfl)); (case hp => exact (Reps.one (show Kd.M Kd.string _ _ _ (⟨#[47, 114]⟩ : ByteArray) [.string (⟨#[47, 114]⟩ : ByteArray)] from rfl) (Reps.one (show Kd.M Kd.string _ _ _ (⟨#[47, 98, 105, 110]⟩ : ByteArray) [.string (⟨#[47, 98, 105, 110]⟩ : ByteArray)] from rfl) (Reps.one (show Kd.M Kd.string _ _ _ (⟨#[47, 101]⟩ : ByteArray) [.string (⟨#[47, 101]⟩ : ByteArray)] from rfl) (Reps.one (show Kd.M Kd.string _ _ _ (⟨#[47, 102]⟩ : ByteArray) [.string (⟨#[47, 102]⟩ : ByteArray)] from rfl) (Reps.one (show Kd.M Kd.string _ _ _ (⟨#[47, 108, 105, 98, 54, 52]⟩ : ByteArray) [.string (⟨#[47, 108, 105, 98, 54, 52]⟩ : ByteArray)] from rfl) (Reps.one (show Kd.M Kd.string _ _ _ (⟨#[47, 117, 115, 114, 47, 108, 105, 98, 54, 52]⟩ : ByteArray) [.string (⟨#[47, 117, 115, 114, 47, 108, 105, 98, 54, 52]⟩ : ByteArray)] from rfl) (Reps.none _ _)))))))); intro v124 w35 ho36 hb hg_ hnew_; clear hg_ hnew_; (first | rw [← Ny123.out] at ho36 | (simp only [Int.reduceToNat] at ho36; rw [← Ny123.out] at ho36)); have n0_ := Aside0.mk (Kd.R_below (by (with_reducible repeat (first | apply Kd.R_alloc | apply Kd.R_drewN | apply Kd.R_drew)); exact HO119.out) hb); have n1_ := Aside0.mk (Kd.R_elder' (by (with_reducible repeat (first | apply Kd.R_alloc | apply Kd.R_drewN | apply Kd.R_drew)); exact HO122.out) (Kd.R_base ho36) hb); have n2_ := Aside0.mk (Kd.R_lower (Kd.R_new' ho36 (Kd.R_lt (by (with_reducible repeat (first | apply Kd.R_alloc | apply Kd.R_drewN | apply Kd.R_drew)); exact HO122.out))) (below_size (by repeat (first | (with_reducible first | exact HB.out | apply below_alloc | apply pw_below_drewN | apply below_drew1) | exact HB.out)))); have n3_ := Aside0.mk (below_step (by repeat (first | (with_reducible first | exact HB.out | apply below_alloc | apply pw_below_drewN | apply below_drew1) | exact HB.out)) hb); clear HO119; clear HO122; clear HB; have HO119 := n0_; have HO122 := n1_; have HO125 := n2_; have HB := n3_; clear n0_ n1_ n2_ n3_; clear hb ho36; obtain ⟨Ao37, co37, eo37⟩ := Kd.R_slice HO122.out; subst eo37; obtain ⟨Ao38, co38, eo38⟩ := Kd.R_slice HO125.out; subst eo38) | ((with_reducible refine gate_callee (f := 9) rfl ?_); refine goesL_ (some 21) rfl rfl Try.func9 (by kernel_rfl) rfl #[.slice Ao37 t120.length co37, .slice Ao38 y123.length co38] rfl (by (try simp only [List.map_toArray, List.map_cons, List.map_nil]); first | done | rfl | (simp only [List.length_drop, List.length_take]; rfl)) ?_; (with_reducible refine (shackleref14_Same.calls k _ _ t120 _ _ y123 t126 _ ?side1 ?side2 ?side3 ?side4 A4.out).mono ?_); (case side1 => repeat (first | exact (Kd.R_reads' HO122.out).2.2 | (with_reducible refine Kd.C_alloc ?_ _) | (with_reducible refine Kd.C_drewN ?_ _) | (with_reducible refine Kd.C_drew ?_))); (case side2 => exact (Kd.R_reads' HO122.out).2.1); (case side3 => repeat (first | exact (Kd.R_reads' HO125.out).2.2 | (with_reducible refine Kd.C_alloc ?_ _) | (with_reducible refine Kd.C_drewN ?_ _) | (with_reducible refine Kd.C_drew ?_))); (case side4 => exact (Kd.R_reads' HO125.out).2.1); rintro e w' ⟨rfl, ⟨nd, rfl⟩⟩; refine ⟨_, rfl, ?_⟩))
        go_ret
        exact ⟨by first | rfl | (simp [errW_none, errW_some] <;> rfl) | (simp [*, errW_none, errW_some] <;> rfl), by repeat (first | (with_reducible first | exact HB.out | apply below_alloc | apply pw_below_drewN | apply below_drew1) | exact HB.out)⟩
    · replace c6 := Bool.eq_false_iff.mpr c6
      subst c6
      have H1 : (some false) = some r := by rw [if_neg (show ¬ (false = true) by decide)] at H; exact H
      clear H
      have H := H1
      clear H1
      obtain rfl := Option.some.inj H
      go_enter Try.func6, Try.ntmps6
      go_wp2_with (first | ((with_reducible refine gate_callee (f := 10) rfl ?_); refine goesL_ (some 8) rfl rfl Try.func10 (by kernel_rfl) rfl #[.string (⟨#[36, 79, 82, 73, 71, 73, 78, 47, 46, 46, 47, 36, 123, 76, 73, 66, 125, 58, 36, 88]⟩ : ByteArray), .string (⟨#[47, 111, 112, 116, 47, 97, 47, 112, 114, 111, 103]⟩ : ByteArray)] rfl (by (try simp only [List.map_toArray, List.map_cons, List.map_nil]); first | done | rfl | (simp only [List.length_drop, List.length_take]; rfl)) ?_; (with_reducible refine (search_Expand.calls k (⟨#[36, 79, 82, 73, 71, 73, 78, 47, 46, 46, 47, 36, 123, 76, 73, 66, 125, 58, 36, 88]⟩ : ByteArray) (⟨#[47, 111, 112, 116, 47, 97, 47, 112, 114, 111, 103]⟩ : ByteArray) t113 false _ A1.out).mono ?_); rintro e w39 ⟨rfl, hb⟩; refine ⟨_, rfl, ?_⟩; have n0_ := Aside0.mk (below_step (by repeat (first | (with_reducible first | exact HB.out | apply below_alloc | apply pw_below_drewN | apply below_drew1) | exact HB.out)) hb); clear HB; have HB := n0_; clear n0_; (try clear hb); (try clear hb2); (try clear hk); (try clear hi)) | ((with_reducible refine gate_callee (f := 10) rfl ?_); refine goesL_ (some 12) rfl rfl Try.func10 (by kernel_rfl) rfl #[.string (⟨#[36, 79, 82, 73, 71, 73, 78, 65, 76]⟩ : ByteArray), .string (⟨#[47, 97]⟩ : ByteArray)] rfl (by (try simp only [List.map_toArray, List.map_cons, List.map_nil]); first | done | rfl | (simp only [List.length_drop, List.length_take]; rfl)) ?_; (with_reducible refine (search_Expand.calls k (⟨#[36, 79, 82, 73, 71, 73, 78, 65, 76]⟩ : ByteArray) (⟨#[47, 97]⟩ : ByteArray) t115 t116 _ A2.out).mono ?_); rintro e w40 ⟨rfl, hb⟩; refine ⟨_, rfl, ?_⟩; have n0_ := Aside0.mk (below_step (by repeat (first | (with_reducible first | exact HB.out | apply below_alloc | apply pw_below_drewN | apply below_drew1) | exact HB.out)) hb); clear HB; have HB := n0_; clear n0_; (try clear hb); (try clear hb2); (try clear hk); (try clear hi)) | ((with_reducible refine gate_dst (N := 16) rfl ?_); refine Kd.R_lit k58 _ 58 ?hg (N := 16) ?hd (xs := ([(⟨(⟨#[47, 98, 105, 110, 47, 112]⟩ : ByteArray), (⟨#[47, 114, 58, 36, 79, 82, 73, 71, 73, 78]⟩ : ByteArray), (⟨#[]⟩ : ByteArray), true, false⟩ : S58)] : List (S58))) (inner := [.string (⟨#[47, 98, 105, 110, 47, 112]⟩ : ByteArray), .string (⟨#[47, 114, 58, 36, 79, 82, 73, 71, 73, 78]⟩ : ByteArray), .string (⟨#[]⟩ : ByteArray), .bool true, .bool false]) (ok := fun _ => True) (okp := fun _ => True) ?hr ?hp (fun _ hk => hk) trivial (Below.refl _ _) (Nat.le_refl _) (by simp) ?_; (case hd => rfl); (case hg => rfl); (case hr => first | (go_simp; done) | (go_simp; rfl)); (case hp => exact (Reps.c5 (show Kd.M k58 _ _ _ (⟨(⟨#[47, 98, 105, 110, 47, 112]⟩ : ByteArray), (⟨#[47, 114, 58, 36, 79, 82, 73, 71, 73, 78]⟩ : ByteArray), (⟨#[]⟩ : ByteArray), true, false⟩ : S58) [.string (⟨#[47, 98, 105, 110, 47, 112]⟩ : ByteArray), .string (⟨#[47, 114, 58, 36, 79, 82, 73, 71, 73, 78]⟩ : ByteArray), .string (⟨#[]⟩ : ByteArray), .bool true, .bool false] from (k58_mkM _ _ _ (⟨(⟨#[47, 98, 105, 110, 47, 112]⟩ : ByteArray), (⟨#[47, 114, 58, 36, 79, 82, 73, 71, 73, 78]⟩ : ByteArray), (⟨#[]⟩ : ByteArray), true, false⟩ : S58) )) (Reps.none _ _))); intro v118 w41 ho42 hb hg_ hnew_; clear hg_ hnew_; (first | rw [← Ny117.out] at ho42 | (simp only [Int.reduceToNat] at ho42; rw [← Ny117.out] at ho42)); have n0_ := Aside0.mk (Kd.R_lower ho42 (below_size (by repeat (first | (with_reducible first | exact HB.out | apply below_alloc | apply pw_below_drewN | apply below_drew1) | exact HB.out)))); have n1_ := Aside0.mk (below_step (by repeat (first | (with_reducible first | exact HB.out | apply below_alloc | apply pw_below_drewN | apply below_drew1) | exact HB.out)) hb); clear HB; have HO119 := n0_; have HB := n1_; clear n0_ n1_; clear hb ho42; obtain ⟨Ao43, co43, eo43⟩ := Kd.R_slice HO119.out; subst eo43) | ((with_reducible refine gate_callee (f := 7) rfl ?_); refine goesL_ (some 18) rfl rfl Try.func7 (by kernel_rfl) rfl #[.agg #[.string (⟨#[]⟩ : ByteArray), .slice Ao43 y117.length co43, .string (⟨#[47, 101, 59, 47, 102]⟩ : ByteArray), .bool false]] rfl (by (try simp only [List.map_toArray, List.map_cons, List.map_nil]); first | done | rfl | (simp only [List.length_drop, List.length_take]; rfl)) ?_; (with_reducible refine (search_Dirs.calls k (⟨#[]⟩ : ByteArray) _ _ y117 (⟨#[47, 101, 59, 47, 102]⟩ : ByteArray) false t120 _ ?side1 ?side2 A3.out).mono ?_); (case side1 => repeat (first | exact (Kd.R_reads' HO119.out).2.2 | (with_reducible refine Kd.C_alloc ?_ _) | (with_reducible refine Kd.C_drewN ?_ _) | (with_reducible refine Kd.C_drew ?_))); (case side2 => exact (Kd.R_reads' HO119.out).2.1); rintro e w44 ⟨v121, rfl, ho0, hb⟩; refine ⟨_, rfl, ?_⟩; have n0_ := Aside0.mk (Kd.R_below (by (with_reducible repeat (first | apply Kd.R_alloc | apply Kd.R_drewN | apply Kd.R_drew)); exact HO119.out) hb); have n1_ := Aside0.mk (Kd.R_lower ho0 (below_size (by repeat (first | (with_reducible first | exact HB.out | apply below_alloc | apply pw_below_drewN | apply below_drew1) | exact HB.out)))); have n2_ := Aside0.mk (below_step (by repeat (first | (with_reducible first | exact HB.out | apply below_alloc | apply pw_below_drewN | apply below_drew1) | exact HB.out)) hb); clear HO119; clear HB; have HO119 := n0_; have HO122 := n1_; have HB := n2_; clear n0_ n1_ n2_; (try clear hb); (try clear hb2); (try clear hk); (try clear hi); (try clear ho0)) | ((with_reducible refine gate_dst (N := 20) rfl ?_); refine Kd.R_lit Kd.string _ 9 ?hg (N := 20) ?hd (xs := ([(⟨#[47, 114]⟩ : ByteArray), (⟨#[47, 98, 105, 110]⟩ : ByteArray), (⟨#[47, 101]⟩ : ByteArray), (⟨#[47, 102]⟩ : ByteArray), (⟨#[47, 108, 105, 98, 54, 52]⟩ : ByteArray), (⟨#[47, 117, 115, 114, 47, 108, 105, 98, 54, 52]⟩ : ByteArray)] : List ByteArray)) (inner := [.string (⟨#[47, 114]⟩ : ByteArray), .string (⟨#[47, 98, 105, 110]⟩ : ByteArray), .string (⟨#[47, 101]⟩ : ByteArray), .string (⟨#[47, 102]⟩ : ByteArray), .string (⟨#[47, 108, 105, 98, 54, 52]⟩ : ByteArray), .string (⟨#[47, 117, 115, 114, 47, 108, 105, 98, 54, 52]⟩ : ByteArray)]) (ok := fun _ => True) (okp := fun _ => True) ?hr ?hp (fun _ hk => hk) trivial (Below.refl _ _) (Nat.le_refl _) (by simp) ?_; (case hd => rfl); (case hg => rfl); (case hr => first | (go_simp; done) | (go_simp; rfl)); (case hp => exact (Reps.one (show Kd.M Kd.string _ _ _ (⟨#[47, 114]⟩ : ByteArray) [.string (⟨#[47, 114]⟩ : ByteArray)] from rfl) (Reps.one (show Kd.M Kd.string _ _ _ (⟨#[47, 98, 105, 110]⟩ : ByteArray) [.string (⟨#[47, 98, 105, 110]⟩ : ByteArray)] from rfl) (Reps.one (show Kd.M Kd.string _ _ _ (⟨#[47, 101]⟩ : ByteArray) [.string (⟨#[47, 101]⟩ : ByteArray)] from rfl) (Reps.one (show Kd.M Kd.string _ _ _ (⟨#[47, 102]⟩ : ByteArray) [.string (⟨#[47, 102]⟩ : ByteArray)] from rfl) (Reps.one (show Kd.M Kd.string _ _ _ (⟨#[47, 108, 105, 98, 54, 52]⟩ : ByteArray) [.string (⟨#[47, 108, 105, 98, 54, 52]⟩ : ByteArray)] from rfl) (Reps.one (show Kd.M Kd.string _ _ _ (⟨#[47, 117, 115, 114, 47, 108, 105, 98, 54, 52]⟩ : ByteArray) [.string (⟨#[47, 117, 115, 114, 47, 108, 105, 98, 54, 52]⟩ : ByteArray)] from rfl) (Reps.none _ _)))))))); intro v124 w45 ho46 hb hg_ hnew_; clear hg_ hnew_; (first | rw [← Ny123.out] at ho46 | (simp only [Int.reduceToNat] at ho46; rw [← Ny123.out] at ho46)); have n0_ := Aside0.mk (Kd.R_below (by (with_reducible repeat (first | apply Kd.R_alloc | apply Kd.R_drewN | apply Kd.R_drew)); exact HO119.out) hb); have n1_ := Aside0.mk (Kd.R_elder' (by (with_reducible repeat (first | apply Kd.R_alloc | apply Kd.R_drewN | apply Kd.R_drew)); exact HO122.out) (Kd.R_base ho46) hb); have n2_ := Aside0.mk (Kd.R_lower (Kd.R_new' ho46 (Kd.R_lt (by (with_reducible repeat (first | apply Kd.R_alloc | apply Kd.R_drewN | apply Kd.R_drew)); exact HO122.out))) (below_size (by repeat (first | (with_reducible first | exact HB.out | apply below_alloc | apply pw_below_drewN | apply below_drew1) | exact HB.out)))); have n3_ := Aside0.mk (below_step (by repeat (first | (with_reducible first | exact HB.out | apply below_alloc | apply pw_below_drewN | apply below_drew1) | exact HB.out)) hb); clear HO119; clear HO122; clear HB; have HO119 := n0_; have HO122 := n1_; have HO125 := n2_; have HB := n3_; clear n0_ n1_ n2_ n3_; clear hb ho46; obtain ⟨Ao47, co47, eo47⟩ := Kd.R_slice HO122.out; subst eo47; obtain ⟨Ao48, co48, eo48⟩ := Kd.R_slice HO125.out; subst eo48) | ((with_reducible refine gate_callee (f := 9) rfl ?_); refine goesL_ (some 21) rfl rfl Try.func9 (by kernel_rfl) rfl #[.slice Ao47 t120.length co47, .slice Ao48 y123.length co48] rfl (by (try simp only [List.map_toArray, List.map_cons, List.map_nil]); first | done | rfl | (simp only [List.length_drop, List.length_take]; rfl)) ?_; (with_reducible refine (shackleref14_Same.calls k _ _ t120 _ _ y123 t126 _ ?side1 ?side2 ?side3 ?side4 A4.out).mono ?_); (case side1 => repeat (first | exact (Kd.R_reads' HO122.out).2.2 | (with_reducible refine Kd.C_alloc ?_ _) | (with_reducible refine Kd.C_drewN ?_ _) | (with_reducible refine Kd.C_drew ?_))); (case side2 => exact (Kd.R_reads' HO122.out).2.1); (case side3 => repeat (first | exact (Kd.R_reads' HO125.out).2.2 | (with_reducible refine Kd.C_alloc ?_ _) | (with_reducible refine Kd.C_drewN ?_ _) | (with_reducible refine Kd.C_drew ?_))); (case side4 => exact (Kd.R_reads' HO125.out).2.1); rintro e w' ⟨rfl, ⟨nd, rfl⟩⟩; refine ⟨_, rfl, ?_⟩))
      go_ret
      exact ⟨by first | rfl | (simp [errW_none, errW_some] <;> rfl) | (simp [*, errW_none, errW_some] <;> rfl), by repeat (first | (with_reducible first | exact HB.out | apply below_alloc | apply pw_below_drewN | apply below_drew1) | exact HB.out)⟩
  · rw [if_neg c5] at H
    have c5b0 : (t113.toList == ([47, 111, 112, 116, 47, 97, 47, 46, 46, 47, 108, 105, 98, 54, 52, 58, 36, 88] : List UInt8)) = false := beq_eq_false_iff_ne.mpr c5
    have c5b1 : (t113.toList != ([47, 111, 112, 116, 47, 97, 47, 46, 46, 47, 108, 105, 98, 54, 52, 58, 36, 88] : List UInt8)) = true := bne_iff_ne.mpr c5
    obtain rfl := Option.some.inj H
    go_enter Try.func6, Try.ntmps6
    go_wp2_with (first | ((with_reducible refine gate_callee (f := 10) rfl ?_); refine goesL_ (some 8) rfl rfl Try.func10 (by kernel_rfl) rfl #[.string (⟨#[36, 79, 82, 73, 71, 73, 78, 47, 46, 46, 47, 36, 123, 76, 73, 66, 125, 58, 36, 88]⟩ : ByteArray), .string (⟨#[47, 111, 112, 116, 47, 97, 47, 112, 114, 111, 103]⟩ : ByteArray)] rfl (by (try simp only [List.map_toArray, List.map_cons, List.map_nil]); first | done | rfl | (simp only [List.length_drop, List.length_take]; rfl)) ?_; (with_reducible refine (search_Expand.calls k (⟨#[36, 79, 82, 73, 71, 73, 78, 47, 46, 46, 47, 36, 123, 76, 73, 66, 125, 58, 36, 88]⟩ : ByteArray) (⟨#[47, 111, 112, 116, 47, 97, 47, 112, 114, 111, 103]⟩ : ByteArray) t113 t114 _ A1.out).mono ?_); rintro e w49 ⟨rfl, hb⟩; refine ⟨_, rfl, ?_⟩; have n0_ := Aside0.mk (below_step (by repeat (first | (with_reducible first | exact HB.out | apply below_alloc | apply pw_below_drewN | apply below_drew1) | exact HB.out)) hb); clear HB; have HB := n0_; clear n0_; (try clear hb); (try clear hb2); (try clear hk); (try clear hi)) | ((with_reducible refine gate_callee (f := 10) rfl ?_); refine goesL_ (some 12) rfl rfl Try.func10 (by kernel_rfl) rfl #[.string (⟨#[36, 79, 82, 73, 71, 73, 78, 65, 76]⟩ : ByteArray), .string (⟨#[47, 97]⟩ : ByteArray)] rfl (by (try simp only [List.map_toArray, List.map_cons, List.map_nil]); first | done | rfl | (simp only [List.length_drop, List.length_take]; rfl)) ?_; (with_reducible refine (search_Expand.calls k (⟨#[36, 79, 82, 73, 71, 73, 78, 65, 76]⟩ : ByteArray) (⟨#[47, 97]⟩ : ByteArray) t115 t116 _ A2.out).mono ?_); rintro e w50 ⟨rfl, hb⟩; refine ⟨_, rfl, ?_⟩; have n0_ := Aside0.mk (below_step (by repeat (first | (with_reducible first | exact HB.out | apply below_alloc | apply pw_below_drewN | apply below_drew1) | exact HB.out)) hb); clear HB; have HB := n0_; clear n0_; (try clear hb); (try clear hb2); (try clear hk); (try clear hi)) | ((with_reducible refine gate_dst (N := 16) rfl ?_); refine Kd.R_lit k58 _ 58 ?hg (N := 16) ?hd (xs := ([(⟨(⟨#[47, 98, 105, 110, 47, 112]⟩ : ByteArray), (⟨#[47, 114, 58, 36, 79, 82, 73, 71, 73, 78]⟩ : ByteArray), (⟨#[]⟩ : ByteArray), true, false⟩ : S58)] : List (S58))) (inner := [.string (⟨#[47, 98, 105, 110, 47, 112]⟩ : ByteArray), .string (⟨#[47, 114, 58, 36, 79, 82, 73, 71, 73, 78]⟩ : ByteArray), .string (⟨#[]⟩ : ByteArray), .bool true, .bool false]) (ok := fun _ => True) (okp := fun _ => True) ?hr ?hp (fun _ hk => hk) trivial (Below.refl _ _) (Nat.le_refl _) (by simp) ?_; (case hd => rfl); (case hg => rfl); (case hr => first | (go_simp; done) | (go_simp; rfl)); (case hp => exact (Reps.c5 (show Kd.M k58 _ _ _ (⟨(⟨#[47, 98, 105, 110, 47, 112]⟩ : ByteArray), (⟨#[47, 114, 58, 36, 79, 82, 73, 71, 73, 78]⟩ : ByteArray), (⟨#[]⟩ : ByteArray), true, false⟩ : S58) [.string (⟨#[47, 98, 105, 110, 47, 112]⟩ : ByteArray), .string (⟨#[47, 114, 58, 36, 79, 82, 73, 71, 73, 78]⟩ : ByteArray), .string (⟨#[]⟩ : ByteArray), .bool true, .bool false] from (k58_mkM _ _ _ (⟨(⟨#[47, 98, 105, 110, 47, 112]⟩ : ByteArray), (⟨#[47, 114, 58, 36, 79, 82, 73, 71, 73, 78]⟩ : ByteArray), (⟨#[]⟩ : ByteArray), true, false⟩ : S58) )) (Reps.none _ _))); intro v118 w51 ho52 hb hg_ hnew_; clear hg_ hnew_; (first | rw [← Ny117.out] at ho52 | (simp only [Int.reduceToNat] at ho52; rw [← Ny117.out] at ho52)); have n0_ := Aside0.mk (Kd.R_lower ho52 (below_size (by repeat (first | (with_reducible first | exact HB.out | apply below_alloc | apply pw_below_drewN | apply below_drew1) | exact HB.out)))); have n1_ := Aside0.mk (below_step (by repeat (first | (with_reducible first | exact HB.out | apply below_alloc | apply pw_below_drewN | apply below_drew1) | exact HB.out)) hb); clear HB; have HO119 := n0_; have HB := n1_; clear n0_ n1_; clear hb ho52; obtain ⟨Ao53, co53, eo53⟩ := Kd.R_slice HO119.out; subst eo53) | ((with_reducible refine gate_callee (f := 7) rfl ?_); refine goesL_ (some 18) rfl rfl Try.func7 (by kernel_rfl) rfl #[.agg #[.string (⟨#[]⟩ : ByteArray), .slice Ao53 y117.length co53, .string (⟨#[47, 101, 59, 47, 102]⟩ : ByteArray), .bool false]] rfl (by (try simp only [List.map_toArray, List.map_cons, List.map_nil]); first | done | rfl | (simp only [List.length_drop, List.length_take]; rfl)) ?_; (with_reducible refine (search_Dirs.calls k (⟨#[]⟩ : ByteArray) _ _ y117 (⟨#[47, 101, 59, 47, 102]⟩ : ByteArray) false t120 _ ?side1 ?side2 A3.out).mono ?_); (case side1 => repeat (first | exact (Kd.R_reads' HO119.out).2.2 | (with_reducible refine Kd.C_alloc ?_ _) | (with_reducible refine Kd.C_drewN ?_ _) | (with_reducible refine Kd.C_drew ?_))); (case side2 => exact (Kd.R_reads' HO119.out).2.1); rintro e w54 ⟨v121, rfl, ho0, hb⟩; refine ⟨_, rfl, ?_⟩; have n0_ := Aside0.mk (Kd.R_below (by (with_reducible repeat (first | apply Kd.R_alloc | apply Kd.R_drewN | apply Kd.R_drew)); exact HO119.out) hb); have n1_ := Aside0.mk (Kd.R_lower ho0 (below_size (by repeat (first | (with_reducible first | exact HB.out | apply below_alloc | apply pw_below_drewN | apply below_drew1) | exact HB.out)))); have n2_ := Aside0.mk (below_step (by repeat (first | (with_reducible first | exact HB.out | apply below_alloc | apply pw_below_drewN | apply below_drew1) | exact HB.out)) hb); clear HO119; clear HB; have HO119 := n0_; have HO122 := n1_; have HB := n2_; clear n0_ n1_ n2_; (try clear hb); (try clear hb2); (try clear hk); (try clear hi); (try clear ho0)) | ((with_reducible refine gate_dst (N := 20) rfl ?_); refine Kd.R_lit Kd.string _ 9 ?hg (N := 20) ?hd (xs := ([(⟨#[47, 114]⟩ : ByteArray), (⟨#[47, 98, 105, 110]⟩ : ByteArray), (⟨#[47, 101]⟩ : ByteArray), (⟨#[47, 102]⟩ : ByteArray), (⟨#[47, 108, 105, 98, 54, 52]⟩ : ByteArray), (⟨#[47, 117, 115, 114, 47, 108, 105, 98, 54, 52]⟩ : ByteArray)] : List ByteArray)) (inner := [.string (⟨#[47, 114]⟩ : ByteArray), .string (⟨#[47, 98, 105, 110]⟩ : ByteArray), .string (⟨#[47, 101]⟩ : ByteArray), .string (⟨#[47, 102]⟩ : ByteArray), .string (⟨#[47, 108, 105, 98, 54, 52]⟩ : ByteArray), .string (⟨#[47, 117, 115, 114, 47, 108, 105, 98, 54, 52]⟩ : ByteArray)]) (ok := fun _ => True) (okp := fun _ => True) ?hr ?hp (fun _ hk => hk) trivial (Below.refl _ _) (Nat.le_refl _) (by simp) ?_; (case hd => rfl); (case hg => rfl); (case hr => first | (go_simp; done) | (go_simp; rfl)); (case hp => exact (Reps.one (show Kd.M Kd.string _ _ _ (⟨#[47, 114]⟩ : ByteArray) [.string (⟨#[47, 114]⟩ : ByteArray)] from rfl) (Reps.one (show Kd.M Kd.string _ _ _ (⟨#[47, 98, 105, 110]⟩ : ByteArray) [.string (⟨#[47, 98, 105, 110]⟩ : ByteArray)] from rfl) (Reps.one (show Kd.M Kd.string _ _ _ (⟨#[47, 101]⟩ : ByteArray) [.string (⟨#[47, 101]⟩ : ByteArray)] from rfl) (Reps.one (show Kd.M Kd.string _ _ _ (⟨#[47, 102]⟩ : ByteArray) [.string (⟨#[47, 102]⟩ : ByteArray)] from rfl) (Reps.one (show Kd.M Kd.string _ _ _ (⟨#[47, 108, 105, 98, 54, 52]⟩ : ByteArray) [.string (⟨#[47, 108, 105, 98, 54, 52]⟩ : ByteArray)] from rfl) (Reps.one (show Kd.M Kd.string _ _ _ (⟨#[47, 117, 115, 114, 47, 108, 105, 98, 54, 52]⟩ : ByteArray) [.string (⟨#[47, 117, 115, 114, 47, 108, 105, 98, 54, 52]⟩ : ByteArray)] from rfl) (Reps.none _ _)))))))); intro v124 w55 ho56 hb hg_ hnew_; clear hg_ hnew_; (first | rw [← Ny123.out] at ho56 | (simp only [Int.reduceToNat] at ho56; rw [← Ny123.out] at ho56)); have n0_ := Aside0.mk (Kd.R_below (by (with_reducible repeat (first | apply Kd.R_alloc | apply Kd.R_drewN | apply Kd.R_drew)); exact HO119.out) hb); have n1_ := Aside0.mk (Kd.R_elder' (by (with_reducible repeat (first | apply Kd.R_alloc | apply Kd.R_drewN | apply Kd.R_drew)); exact HO122.out) (Kd.R_base ho56) hb); have n2_ := Aside0.mk (Kd.R_lower (Kd.R_new' ho56 (Kd.R_lt (by (with_reducible repeat (first | apply Kd.R_alloc | apply Kd.R_drewN | apply Kd.R_drew)); exact HO122.out))) (below_size (by repeat (first | (with_reducible first | exact HB.out | apply below_alloc | apply pw_below_drewN | apply below_drew1) | exact HB.out)))); have n3_ := Aside0.mk (below_step (by repeat (first | (with_reducible first | exact HB.out | apply below_alloc | apply pw_below_drewN | apply below_drew1) | exact HB.out)) hb); clear HO119; clear HO122; clear HB; have HO119 := n0_; have HO122 := n1_; have HO125 := n2_; have HB := n3_; clear n0_ n1_ n2_ n3_; clear hb ho56; obtain ⟨Ao57, co57, eo57⟩ := Kd.R_slice HO122.out; subst eo57; obtain ⟨Ao58, co58, eo58⟩ := Kd.R_slice HO125.out; subst eo58) | ((with_reducible refine gate_callee (f := 9) rfl ?_); refine goesL_ (some 21) rfl rfl Try.func9 (by kernel_rfl) rfl #[.slice Ao57 t120.length co57, .slice Ao58 y123.length co58] rfl (by (try simp only [List.map_toArray, List.map_cons, List.map_nil]); first | done | rfl | (simp only [List.length_drop, List.length_take]; rfl)) ?_; (with_reducible refine (shackleref14_Same.calls k _ _ t120 _ _ y123 t126 _ ?side1 ?side2 ?side3 ?side4 A4.out).mono ?_); (case side1 => repeat (first | exact (Kd.R_reads' HO122.out).2.2 | (with_reducible refine Kd.C_alloc ?_ _) | (with_reducible refine Kd.C_drewN ?_ _) | (with_reducible refine Kd.C_drew ?_))); (case side2 => exact (Kd.R_reads' HO122.out).2.1); (case side3 => repeat (first | exact (Kd.R_reads' HO125.out).2.2 | (with_reducible refine Kd.C_alloc ?_ _) | (with_reducible refine Kd.C_drewN ?_ _) | (with_reducible refine Kd.C_drew ?_))); (case side4 => exact (Kd.R_reads' HO125.out).2.1); rintro e w' ⟨rfl, ⟨nd, rfl⟩⟩; refine ⟨_, rfl, ?_⟩))
    go_ret
    exact ⟨by first | rfl | (simp [errW_none, errW_some] <;> rfl) | (simp [*, errW_none, errW_some] <;> rfl), by repeat (first | (with_reducible first | exact HB.out | apply below_alloc | apply pw_below_drewN | apply below_drew1) | exact HB.out)⟩

/-! ### shackleref14_cut: function 35 -/
mutual
def shackleref14_cut.l0 : Nat → ByteArray → ByteArray → List ByteArray → Int → Int → Option (List ByteArray)
  | 0, _, _, _, _, _ => none
  | k + 1, x0, x1, x5, x6, x7 => if x7 ≤ (x0.size : Int) then (shackleref14_cut.l1 k x0 x1 x5 x6 x7 (x7 == (x0.size : Int)) 0) else (some x5)
def shackleref14_cut.l1 : Nat → ByteArray → ByteArray → List ByteArray → Int → Int → Bool → Int → Option (List ByteArray)
  | 0, _, _, _, _, _, _, _ => none
  | k + 1, x0, x1, x5, x6, x7, x8, x9 => if x9 < (x1.size : Int) then (if x8 = true then (if 0 ≤ x6 then (if x6 ≤ x7 then (if x7 ≤ (x0.size : Int) then (if x5.length < 8796093022208 then (shackleref14_cut.l0 k x0 x1 (x5 ++ [x0.extract (x6 : Int).toNat (x7 : Int).toNat]) (wrap64 (x7 + 1)) (wrap64 (x7 + 1))) else (none)) else (none)) else (none)) else (none)) else (if 0 ≤ x7 then (if x7 < (x0.size : Int) then (if 0 ≤ x9 then (shackleref14_cut.l1 k x0 x1 x5 x6 x7 ((bt x0 x7) == (bt x1 x9)) (wrap64 (x9 + 1))) else (none)) else (none)) else (none))) else (if x8 = true then (if 0 ≤ x6 then (if x6 ≤ x7 then (if x7 ≤ (x0.size : Int) then (if x5.length < 8796093022208 then (shackleref14_cut.l0 k x0 x1 (x5 ++ [x0.extract (x6 : Int).toNat (x7 : Int).toNat]) (wrap64 (x7 + 1)) (wrap64 (x7 + 1))) else (none)) else (none)) else (none)) else (none)) else (shackleref14_cut.l0 k x0 x1 x5 x6 (wrap64 (x7 + 1))))
end
def shackleref14_cut.f (k : Nat) (a0 : ByteArray) (a1 : ByteArray) : Option (List ByteArray) := shackleref14_cut.l0 k a0 a1 ([] : List ByteArray) 0 0
theorem shackleref14_cut.mono_l : ∀ k, (∀ y0 y1 y2 y3 y4, LeO (shackleref14_cut.l0 k y0 y1 y2 y3 y4) (shackleref14_cut.l0 (k + 1) y0 y1 y2 y3 y4)) ∧ (∀ y0 y1 y2 y3 y4 y5 y6, LeO (shackleref14_cut.l1 k y0 y1 y2 y3 y4 y5 y6) (shackleref14_cut.l1 (k + 1) y0 y1 y2 y3 y4 y5 y6))
  | 0 => ⟨fun _ _ _ _ _ r h => by simp [shackleref14_cut.l0] at h, fun _ _ _ _ _ _ _ r h => by simp [shackleref14_cut.l1] at h⟩
  | k + 1 => by
    obtain ⟨ih0, ih1⟩ := shackleref14_cut.mono_l k
    refine ⟨?_, ?_⟩
    · intro y0 y1 y2 y3 y4
      unfold shackleref14_cut.l0
      repeat' first
      | (with_reducible exact ih0 _ _ _ _ _)
      | (with_reducible exact ih1 _ _ _ _ _ _ _)
      | (with_reducible exact LeO.refl _)
      | (with_reducible exact LeO.none _)
      | (with_reducible refine LeO.ite ?_ ?_)
      | (with_reducible refine LeO.bind ?_ (fun _ => ?_))
      | exact ih0 _ _ _ _ _
      | exact ih1 _ _ _ _ _ _ _
      | exact LeO.none _
      | refine LeO.ite ?_ ?_
      | refine LeO.bind ?_ (fun _ => ?_)
    · intro y0 y1 y2 y3 y4 y5 y6
      unfold shackleref14_cut.l1
      repeat' first
      | (with_reducible exact ih0 _ _ _ _ _)
      | (with_reducible exact ih1 _ _ _ _ _ _ _)
      | (with_reducible exact LeO.refl _)
      | (with_reducible exact LeO.none _)
      | (with_reducible refine LeO.ite ?_ ?_)
      | (with_reducible refine LeO.bind ?_ (fun _ => ?_))
      | exact ih0 _ _ _ _ _
      | exact ih1 _ _ _ _ _ _ _
      | exact LeO.none _
      | refine LeO.ite ?_ ?_
      | refine LeO.bind ?_ (fun _ => ?_)
theorem shackleref14_cut.mono : ∀ a0 a1 k, LeO (shackleref14_cut.f k a0 a1) (shackleref14_cut.f (k + 1) a0 a1) := by
  intro a0 a1 k
  obtain ⟨ih0, ih1⟩ := shackleref14_cut.mono_l k
  unfold shackleref14_cut.f
  repeat' first
      | (with_reducible exact ih0 _ _ _ _ _)
      | (with_reducible exact ih1 _ _ _ _ _ _ _)
      | (with_reducible exact LeO.refl _)
      | (with_reducible exact LeO.none _)
      | (with_reducible refine LeO.ite ?_ ?_)
      | (with_reducible refine LeO.bind ?_ (fun _ => ?_))
      | exact ih0 _ _ _ _ _
      | exact ih1 _ _ _ _ _ _ _
      | exact LeO.none _
      | refine LeO.ite ?_ ?_
      | refine LeO.bind ?_ (fun _ => ?_)
set_option maxHeartbeats 8000000 in
set_option maxRecDepth 100000 in
theorem shackleref14_cut.calls (k : Nat) (a0 : ByteArray) (a1 : ByteArray) (r : List ByteArray) (w : World) (h : shackleref14_cut.f k a0 a1 = some r) :
    Calls Try.prog 35 #[.string a0, .string a1] w fun e w' => ∃ v0_ : Value, e = .returned (v0_) ∧ Kd.R Kd.string 9 w' w.heap.size (fun _ => True) v0_ r ∧ Below w.heap.size w w' := by
  have HB := Aside0.mk (Below.refl w.heap.size w)
  have H : (shackleref14_cut.l0 k a0 a1 ([] : List ByteArray) 0 0) = some r := h
  clear h
  have H' := Aside0.mk H
  clear H
  go_enter Try.func35, Try.ntmps35
  go_wp2
  repeat (go_quiet (fail); try go_wp2)
  go_loopg [5, 6, 7] k (fun kq v5 v6 v7 w' => ∃ (x5_1 : List ByteArray) (x6_1 : Int) (x7_1 : Int), v6 = .int .i64 x6_1 ∧ v7 = .int .i64 x7_1 ∧ Aside0 (shackleref14_cut.l0 kq a0 a1 x5_1 x6_1 x7_1 = some r) ∧ Aside0 (kq ≤ k) ∧ Aside0 (Kd.R Kd.string 9 w' w.heap.size (fun _ => True) v5 x5_1) ∧ Aside0 (Below w.heap.size w w'))
  case atStart => exact ⟨(([] : List ByteArray)), (0), (0), (by first | rfl | (simp; done) | (simp [*]; done)), (by first | rfl | (simp; done) | (simp [*]; done)), H', ⟨Nat.le_refl _⟩, ⟨by first | exact Kd.R_nil _ _ _ _ _ | exact Kd.N_nil _ _ _ _ _ | exact Kd.V_nil _ _ _ _ _ | exact Kd.Q_nil _ _ _ _ _ | exact Kd.S_nil _ _ _ _ _⟩, ⟨by repeat (first | (with_reducible first | exact HB.out | apply below_alloc | apply pw_below_drewN | apply below_drew1) | exact HB.out)⟩⟩
  case round =>
    clear H'
    try clear p2
    obtain ⟨x5_1, x6_1, x7_1, rfl, rfl, HA, HK1, HO_5, HB⟩ := hrel
    cases gk with
    | zero => exact absurd HA.out (by simp [shackleref14_cut.l0])
    | succ k1 =>
      have H := HA.out
      clear HA
      simp only [shackleref14_cut.l0] at H
      by_cases c3 : x7_1 ≤ (a0.size : Int)
      · rw [if_pos c3] at H
        have c3b0 : decide (x7_1 ≤ (a0.size : Int)) = true := decide_eq_true c3
        clear c3
        have H' := Aside0.mk H
        clear H
        go_wp2
        repeat (go_quiet (fail); try go_wp2)
        go_loopg [8, 9] k1 (fun kq v8 v9 w' => ∃ (x8_2 : Bool) (x9_2 : Int), v8 = .bool x8_2 ∧ v9 = .int .i64 x9_2 ∧ Aside0 (shackleref14_cut.l1 kq a0 a1 x5_1 x6_1 x7_1 x8_2 x9_2 = some r) ∧ Aside0 (kq ≤ k1) ∧ Aside0 (Kd.R Kd.string 9 w' w.heap.size (fun _ => True) u5 x5_1) ∧ Aside0 (Below w.heap.size w w'))
        case atStart => exact ⟨((x7_1 == (a0.size : Int))), (0), (by first | rfl | (simp; done) | (simp [*]; done)), (by first | rfl | (simp; done) | (simp [*]; done)), H', ⟨Nat.le_refl _⟩, ⟨by (with_reducible repeat (first | apply Kd.R_alloc | apply Kd.R_drewN | apply Kd.R_drew)); exact HO_5.out⟩, ⟨by repeat (first | (with_reducible first | exact HB.out | apply below_alloc | apply pw_below_drewN | apply below_drew1) | exact HB.out)⟩⟩
        case round =>
          clear H'
          try clear p2
          try clear c3
          try clear c3b0
          try clear p2
          obtain ⟨x8_2, x9_2, rfl, rfl, HA, HK2, HO_5, HB⟩ := hrel
          cases gk with
          | zero => exact absurd HA.out (by simp [shackleref14_cut.l1])
          | succ k2 =>
            have H := HA.out
            clear HA
            simp only [shackleref14_cut.l1] at H
            by_cases c4 : x9_2 < (a1.size : Int)
            · rw [if_pos c4] at H
              have c4b0 : decide (x9_2 < (a1.size : Int)) = true := decide_eq_true c4
              clear c4
              by_cases c5 : x8_2 = true
              · subst c5
                have H1 : (if 0 ≤ x6_1 then (if x6_1 ≤ x7_1 then (if x7_1 ≤ (a0.size : Int) then (if x5_1.length < 8796093022208 then (shackleref14_cut.l0 k2 a0 a1 (x5_1 ++ [a0.extract (x6_1 : Int).toNat (x7_1 : Int).toNat]) (wrap64 (x7_1 + 1)) (wrap64 (x7_1 + 1))) else (none)) else (none)) else (none)) else (none)) = some r := by rw [if_pos rfl] at H; exact H
                clear H
                have H := H1
                clear H1
                by_cases c6 : 0 ≤ x6_1
                · rw [if_pos c6] at H
                  have c6b0 := eq_true c6
                  have c6b1 : decide (0 ≤ x6_1) = true := decide_eq_true c6
                  clear c6
                  by_cases c7 : x6_1 ≤ x7_1
                  · rw [if_pos c7] at H
                    have c7b0 := eq_true c7
                    have c7b1 : decide (x6_1 ≤ x7_1) = true := decide_eq_true c7
                    clear c7
                    by_cases c8 : x7_1 ≤ (a0.size : Int)
                    · rw [if_pos c8] at H
                      have c8b0 := eq_true c8
                      have c8b1 : decide (x7_1 ≤ (a0.size : Int)) = true := decide_eq_true c8
                      clear c8
                      by_cases c9 : x5_1.length < 8796093022208
                      · rw [if_pos c9] at H
                        have LMc9 := Aside0.mk c9
                        clear c9
                        obtain ⟨y127, hy127⟩ : ∃ y_ : List ByteArray, y_ = (x5_1 ++ [a0.extract (x6_1 : Int).toNat (x7_1 : Int).toNat]) := ⟨_, rfl⟩
                        replace H : (shackleref14_cut.l0 k2 a0 a1 y127 (wrap64 (x7_1 + 1)) (wrap64 (x7_1 + 1))) = some r := by first | (rw [hy127]; with_reducible exact H) | (have H2_ := (Option.bind_some _ _).symm.trans H; rw [hy127]; with_reducible exact H2_) | (have H2_ := (Option.bind_some _ _).symm.trans H; with_reducible exact H2_) | with_reducible exact H | (rw [hy127]; exact H) | exact H
                        have Ny127 := Aside0.mk hy127
                        clear hy127
                        have H' := Aside0.mk H
                        clear H
                        go_wp2_with (first | ((with_reducible refine gate_builtin (b := .append) (xs := #[.tmp 38, .tmp 43]) rfl ?_); at_builtin; refine Kd.R_append Kd.string (w0 := w) w.heap.size rfl (.tmp 38) (.tmp 43) 26 9 (.string ⟨#[]⟩) 16 rfl Try.underlying26 info9 rfl (by decide) (by omega) u5 x5_1 (a0.extract (x6_1 : Int).toNat (x7_1 : Int).toNat) [.string (a0.extract (x6_1 : Int).toNat (x7_1 : Int).toNat)] (fun _ => True) (fun _ => False) rfl rfl ?aP (fun _ hk => hk.elim) ?aF ?aO ?aB ?aS ?aL ?_; (case aP => exact rfl); (case aB => exact (by repeat (first | (with_reducible first | exact HB.out | apply below_alloc | apply pw_below_drewN | apply below_drew1) | exact HB.out))); (case aF => exact (fun _ _ => trivial)); (case aO => exact (by (with_reducible repeat (first | apply Kd.R_alloc | apply Kd.R_drewN | apply Kd.R_drew)); exact HO_5.out)); (case aS => exact (below_size (by repeat (first | (with_reducible first | exact HB.out | apply below_alloc | apply pw_below_drewN | apply below_drew1) | exact HB.out)))); (case aL => have := LMc9.out; omega); intro v128 w10 ho hb hg hat; rw [← Ny127.out] at ho; have n0_ := Aside0.mk (hb); have n1_ := Aside0.mk (ho); clear HB; clear HO_5; have HB := n0_; have HO129 := n1_; clear n0_ n1_; clear ho hb hg hat))
                        repeat (go_quiet (fail); try go_wp2_with (first | ((with_reducible refine gate_builtin (b := .append) (xs := #[.tmp 38, .tmp 43]) rfl ?_); at_builtin; refine Kd.R_append Kd.string (w0 := w) w.heap.size rfl (.tmp 38) (.tmp 43) 26 9 (.string ⟨#[]⟩) 16 rfl Try.underlying26 info9 rfl (by decide) (by omega) u5 x5_1 (a0.extract (x6_1 : Int).toNat (x7_1 : Int).toNat) [.string (a0.extract (x6_1 : Int).toNat (x7_1 : Int).toNat)] (fun _ => True) (fun _ => False) rfl rfl ?aP (fun _ hk => hk.elim) ?aF ?aO ?aB ?aS ?aL ?_; (case aP => exact rfl); (case aB => exact (by repeat (first | (with_reducible first | exact HB.out | apply below_alloc | apply pw_below_drewN | apply below_drew1) | exact HB.out))); (case aF => exact (fun _ _ => trivial)); (case aO => exact (by (with_reducible repeat (first | apply Kd.R_alloc | apply Kd.R_drewN | apply Kd.R_drew)); exact HO_5.out)); (case aS => exact (below_size (by repeat (first | (with_reducible first | exact HB.out | apply below_alloc | apply pw_below_drewN | apply below_drew1) | exact HB.out)))); (case aL => have := LMc9.out; omega); intro v128 w10 ho hb hg hat; rw [← Ny127.out] at ho; have n0_ := Aside0.mk (hb); have n1_ := Aside0.mk (ho); clear HB; clear HO_5; have HB := n0_; have HO129 := n1_; clear n0_ n1_; clear ho hb hg hat)))
                        go_roundg k2
                        case measure => have := HK1.out; have := HK2.out; omega
                        case rel => exact ⟨(y127), (wrap64 (x7_1 + 1)), (wrap64 (x7_1 + 1)), (by first | rfl | (simp; done) | (simp [*]; done)), (by first | rfl | (simp; done) | (simp [*]; done)), H', ⟨by have := HK1.out; have := HK2.out; omega⟩, ⟨by (with_reducible repeat (first | apply Kd.R_alloc | apply Kd.R_drewN | apply Kd.R_drew)); exact HO129.out⟩, ⟨by repeat (first | (with_reducible first | exact HB.out | apply below_alloc | apply pw_below_drewN | apply below_drew1) | exact HB.out)⟩⟩
                      · rw [if_neg c9] at H
                        exact absurd H (by simp)
                    · rw [if_neg c8] at H
                      exact absurd H (by simp)
                  · rw [if_neg c7] at H
                    exact absurd H (by simp)
                · rw [if_neg c6] at H
                  exact absurd H (by simp)
              · replace c5 := Bool.eq_false_iff.mpr c5
                subst c5
                have H1 : (if 0 ≤ x7_1 then (if x7_1 < (a0.size : Int) then (if 0 ≤ x9_2 then (shackleref14_cut.l1 k2 a0 a1 x5_1 x6_1 x7_1 ((bt a0 x7_1) == (bt a1 x9_2)) (wrap64 (x9_2 + 1))) else (none)) else (none)) else (none)) = some r := by rw [if_neg (show ¬ (false = true) by decide)] at H; exact H
                clear H
                have H := H1
                clear H1
                by_cases c11 : 0 ≤ x7_1
                · rw [if_pos c11] at H
                  have c11b0 : decide (0 ≤ x7_1) = true := decide_eq_true c11
                  clear c11
                  by_cases c12 : x7_1 < (a0.size : Int)
                  · rw [if_pos c12] at H
                    have c12b0 : decide (x7_1 < (a0.size : Int)) = true := decide_eq_true c12
                    clear c12
                    by_cases c14 : 0 ≤ x9_2
                    · rw [if_pos c14] at H
                      have c14b0 : decide (0 ≤ x9_2) = true := decide_eq_true c14
                      clear c14
                      have H' := Aside0.mk H
                      clear H
                      have p13 : 0 ≤ (x7_1 : Int) := of_decide_eq_true (by first | (with_reducible assumption) | assumption)
                      have q13 : x7_1 < (a0.size : Int) := of_decide_eq_true (by first | (with_reducible assumption) | assumption)
                      have hx13 := bt_at a0 x7_1
                      replace p13 := eq_true p13
                      replace q13 := eq_true q13
                      have p15 : 0 ≤ (x9_2 : Int) := of_decide_eq_true (by first | (with_reducible assumption) | assumption)
                      have q15 : x9_2 < (a1.size : Int) := of_decide_eq_true (by first | (with_reducible assumption) | assumption)
                      have hx15 := bt_at a1 x9_2
                      replace p15 := eq_true p15
                      replace q15 := eq_true q15
                      go_wp2
                      repeat (go_quiet (fail); try go_wp2)
                      go_roundg k2
                      case measure => have := HK1.out; have := HK2.out; omega
                      case rel => exact ⟨(((bt a0 x7_1) == (bt a1 x9_2))), (wrap64 (x9_2 + 1)), (by first | rfl | (simp; done) | (simp [*]; done)), (by first | rfl | (simp; done) | (simp [*]; done)), H', ⟨by have := HK1.out; have := HK2.out; omega⟩, ⟨by (with_reducible repeat (first | apply Kd.R_alloc | apply Kd.R_drewN | apply Kd.R_drew)); exact HO_5.out⟩, ⟨by repeat (first | (with_reducible first | exact HB.out | apply below_alloc | apply pw_below_drewN | apply below_drew1) | exact HB.out)⟩⟩
                    · rw [if_neg c14] at H
                      exact absurd H (by simp)
                  · rw [if_neg c12] at H
                    exact absurd H (by simp)
                · rw [if_neg c11] at H
                  exact absurd H (by simp)
            · rw [if_neg c4] at H
              have c4b0 : decide (x9_2 < (a1.size : Int)) = false := decide_eq_false c4
              clear c4
              by_cases c16 : x8_2 = true
              · subst c16
                have H1 : (if 0 ≤ x6_1 then (if x6_1 ≤ x7_1 then (if x7_1 ≤ (a0.size : Int) then (if x5_1.length < 8796093022208 then (shackleref14_cut.l0 k2 a0 a1 (x5_1 ++ [a0.extract (x6_1 : Int).toNat (x7_1 : Int).toNat]) (wrap64 (x7_1 + 1)) (wrap64 (x7_1 + 1))) else (none)) else (none)) else (none)) else (none)) = some r := by rw [if_pos rfl] at H; exact H
                clear H
                have H := H1
                clear H1
                by_cases c17 : 0 ≤ x6_1
                · rw [if_pos c17] at H
                  have c17b0 := eq_true c17
                  have c17b1 : decide (0 ≤ x6_1) = true := decide_eq_true c17
                  clear c17
                  by_cases c18 : x6_1 ≤ x7_1
                  · rw [if_pos c18] at H
                    have c18b0 := eq_true c18
                    have c18b1 : decide (x6_1 ≤ x7_1) = true := decide_eq_true c18
                    clear c18
                    by_cases c19 : x7_1 ≤ (a0.size : Int)
                    · rw [if_pos c19] at H
                      have c19b0 := eq_true c19
                      have c19b1 : decide (x7_1 ≤ (a0.size : Int)) = true := decide_eq_true c19
                      clear c19
                      by_cases c20 : x5_1.length < 8796093022208
                      · rw [if_pos c20] at H
                        have LMc20 := Aside0.mk c20
                        clear c20
                        obtain ⟨y130, hy130⟩ : ∃ y_ : List ByteArray, y_ = (x5_1 ++ [a0.extract (x6_1 : Int).toNat (x7_1 : Int).toNat]) := ⟨_, rfl⟩
                        replace H : (shackleref14_cut.l0 k2 a0 a1 y130 (wrap64 (x7_1 + 1)) (wrap64 (x7_1 + 1))) = some r := by first | (rw [hy130]; with_reducible exact H) | (have H2_ := (Option.bind_some _ _).symm.trans H; rw [hy130]; with_reducible exact H2_) | (have H2_ := (Option.bind_some _ _).symm.trans H; with_reducible exact H2_) | with_reducible exact H | (rw [hy130]; exact H) | exact H
                        have Ny130 := Aside0.mk hy130
                        clear hy130
                        have H' := Aside0.mk H
                        clear H
                        go_wp2_with (first | ((with_reducible refine gate_builtin (b := .append) (xs := #[.tmp 38, .tmp 43]) rfl ?_); at_builtin; refine Kd.R_append Kd.string (w0 := w) w.heap.size rfl (.tmp 38) (.tmp 43) 26 9 (.string ⟨#[]⟩) 16 rfl Try.underlying26 info9 rfl (by decide) (by omega) u5 x5_1 (a0.extract (x6_1 : Int).toNat (x7_1 : Int).toNat) [.string (a0.extract (x6_1 : Int).toNat (x7_1 : Int).toNat)] (fun _ => True) (fun _ => False) rfl rfl ?aP (fun _ hk => hk.elim) ?aF ?aO ?aB ?aS ?aL ?_; (case aP => exact rfl); (case aB => exact (by repeat (first | (with_reducible first | exact HB.out | apply below_alloc | apply pw_below_drewN | apply below_drew1) | exact HB.out))); (case aF => exact (fun _ _ => trivial)); (case aO => exact (by (with_reducible repeat (first | apply Kd.R_alloc | apply Kd.R_drewN | apply Kd.R_drew)); exact HO_5.out)); (case aS => exact (below_size (by repeat (first | (with_reducible first | exact HB.out | apply below_alloc | apply pw_below_drewN | apply below_drew1) | exact HB.out)))); (case aL => have := LMc20.out; omega); intro v131 w21 ho hb hg hat; rw [← Ny130.out] at ho; have n0_ := Aside0.mk (hb); have n1_ := Aside0.mk (ho); clear HB; clear HO_5; have HB := n0_; have HO132 := n1_; clear n0_ n1_; clear ho hb hg hat))
                        repeat (go_quiet (fail); try go_wp2_with (first | ((with_reducible refine gate_builtin (b := .append) (xs := #[.tmp 38, .tmp 43]) rfl ?_); at_builtin; refine Kd.R_append Kd.string (w0 := w) w.heap.size rfl (.tmp 38) (.tmp 43) 26 9 (.string ⟨#[]⟩) 16 rfl Try.underlying26 info9 rfl (by decide) (by omega) u5 x5_1 (a0.extract (x6_1 : Int).toNat (x7_1 : Int).toNat) [.string (a0.extract (x6_1 : Int).toNat (x7_1 : Int).toNat)] (fun _ => True) (fun _ => False) rfl rfl ?aP (fun _ hk => hk.elim) ?aF ?aO ?aB ?aS ?aL ?_; (case aP => exact rfl); (case aB => exact (by repeat (first | (with_reducible first | exact HB.out | apply below_alloc | apply pw_below_drewN | apply below_drew1) | exact HB.out))); (case aF => exact (fun _ _ => trivial)); (case aO => exact (by (with_reducible repeat (first | apply Kd.R_alloc | apply Kd.R_drewN | apply Kd.R_drew)); exact HO_5.out)); (case aS => exact (below_size (by repeat (first | (with_reducible first | exact HB.out | apply below_alloc | apply pw_below_drewN | apply below_drew1) | exact HB.out)))); (case aL => have := LMc20.out; omega); intro v131 w21 ho hb hg hat; rw [← Ny130.out] at ho; have n0_ := Aside0.mk (hb); have n1_ := Aside0.mk (ho); clear HB; clear HO_5; have HB := n0_; have HO132 := n1_; clear n0_ n1_; clear ho hb hg hat)))
                        go_roundg k2
                        case measure => have := HK1.out; have := HK2.out; omega
                        case rel => exact ⟨(y130), (wrap64 (x7_1 + 1)), (wrap64 (x7_1 + 1)), (by first | rfl | (simp; done) | (simp [*]; done)), (by first | rfl | (simp; done) | (simp [*]; done)), H', ⟨by have := HK1.out; have := HK2.out; omega⟩, ⟨by (with_reducible repeat (first | apply Kd.R_alloc | apply Kd.R_drewN | apply Kd.R_drew)); exact HO132.out⟩, ⟨by repeat (first | (with_reducible first | exact HB.out | apply below_alloc | apply pw_below_drewN | apply below_drew1) | exact HB.out)⟩⟩
                      · rw [if_neg c20] at H
                        exact absurd H (by simp)
                    · rw [if_neg c19] at H
                      exact absurd H (by simp)
                  · rw [if_neg c18] at H
                    exact absurd H (by simp)
                · rw [if_neg c17] at H
                  exact absurd H (by simp)
              · replace c16 := Bool.eq_false_iff.mpr c16
                subst c16
                have H1 : (shackleref14_cut.l0 k2 a0 a1 x5_1 x6_1 (wrap64 (x7_1 + 1))) = some r := by rw [if_neg (show ¬ (false = true) by decide)] at H; exact H
                clear H
                have H := H1
                clear H1
                have H' := Aside0.mk H
                clear H
                go_wp2
                repeat (go_quiet (fail); try go_wp2)
                go_roundg k2
                case measure => have := HK1.out; have := HK2.out; omega
                case rel => exact ⟨(x5_1), (x6_1), (wrap64 (x7_1 + 1)), (by first | rfl | (simp; done) | (simp [*]; done)), (by first | rfl | (simp; done) | (simp [*]; done)), H', ⟨by have := HK1.out; have := HK2.out; omega⟩, ⟨by (with_reducible repeat (first | apply Kd.R_alloc | apply Kd.R_drewN | apply Kd.R_drew)); exact HO_5.out⟩, ⟨by repeat (first | (with_reducible first | exact HB.out | apply below_alloc | apply pw_below_drewN | apply below_drew1) | exact HB.out)⟩⟩
      · rw [if_neg c3] at H
        have c3b0 : decide (x7_1 ≤ (a0.size : Int)) = false := decide_eq_false c3
        clear c3
        obtain rfl := Option.some.inj H
        go_wp2
        repeat (go_quiet (fail); try go_wp2)
        go_ret
        exact ⟨_, by first | rfl | (simp [errW_none, errW_some] <;> rfl) | (simp [*, errW_none, errW_some] <;> rfl), by (with_reducible repeat (first | apply Kd.R_alloc | apply Kd.R_drewN | apply Kd.R_drew)); exact HO_5.out, by repeat (first | (with_reducible first | exact HB.out | apply below_alloc | apply pw_below_drewN | apply below_drew1) | exact HB.out)⟩

end Go.Proofs.Ytjbndfogjmfbhaa.PSearchDirs
