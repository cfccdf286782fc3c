/- Printed by this session's own program (wip/tools: a turn of the kit's print) out of the translation: each Go function that the law reaches as a Lean function, and that the machine's call comes to what that function tells; no condition but what each theorem names. -/
import Derived.Test.YtjbndfogjmfbhaaPSearchDirsx0
import Derived.Test.YtjbndfogjmfbhaaPSearchDirsx1
namespace Go.Proofs.Ytjbndfogjmfbhaa.PSearchDirs
open Go.RowKit Go.Proofs.YtjbndfogjmfbhaaW.PrintWords Go.Proofs.YtjbndfogjmfbhaaW.PrintLast Go.Proofs.YtjbndfogjmfbhaaW.PrintMore Go.Proofs.YtjbndfogjmfbhaaX
attribute [local go_sem] max2_int min2_int max_two min_two max_three min_three max_four min_four   -- for this text's walks alone
set_option linter.unusedVariables false
set_option linter.unusedSimpArgs false

/-! ### search_Expand: function 10 (by hand) -/
def search_Expand.l0 : Nat → ByteArray → ByteArray → ByteArray → Bool → Int → Option (ByteArray × Bool)
  | 0, _, _, _, _, _ => none
  | k + 1, s, o, out, has, i => if i < (s.size : Int) then (if 0 ≤ i then (if bt s i = 36 then (if 0 ≤ (wrap64 (i + 1)) then (if (wrap64 (i + 1)) ≤ (s.size : Int) then ((search_token.f k (s.extract ((wrap64 (i + 1)) : Int).toNat s.size)).bind fun t => (if t.1.toList = ([79, 82, 73, 71, 73, 78] : List UInt8) then ((search_dir.f k o).bind fun d => (if out.size + d.size < 140737488355328 then search_Expand.l0 k s o (out ++ d) true (wrap64 ((wrap64 (i + t.2)) + 1)) else (none))) else (if t.1.toList = ([76, 73, 66] : List UInt8) then (if out.size + 5 < 140737488355328 then search_Expand.l0 k s o (out ++ (⟨#[108, 105, 98, 54, 52]⟩ : ByteArray)) has (wrap64 ((wrap64 (i + t.2)) + 1)) else (none)) else (if t.1.toList = ([80, 76, 65, 84, 70, 79, 82, 77] : List UInt8) then (if out.size + 6 < 140737488355328 then search_Expand.l0 k s o (out ++ (⟨#[120, 56, 54, 95, 54, 52]⟩ : ByteArray)) has (wrap64 ((wrap64 (i + t.2)) + 1)) else (none)) else (if out.size < 140737488355328 then search_Expand.l0 k s o (out ++ (⟨#[36]⟩ : ByteArray)) has (wrap64 ((wrap64 (i + t.2)) + 1)) else (none)))))) else (none)) else (none)) else (if out.size < 140737488355328 then search_Expand.l0 k s o (out ++ s.extract (i : Int).toNat ((i : Int).toNat + 1)) has (wrap64 (i + 1)) else (none))) else (none)) else (some (out, has))
def search_Expand.f (k : Nat) (a0 : ByteArray) (a1 : ByteArray) : Option (ByteArray × Bool) := search_Expand.l0 k a0 a1 (⟨#[]⟩ : ByteArray) false 0
theorem search_Expand.mono_l : ∀ k, (∀ y0 y1 y2 y3 y4, LeO (search_Expand.l0 k y0 y1 y2 y3 y4) (search_Expand.l0 (k + 1) y0 y1 y2 y3 y4))
  | 0 => fun _ _ _ _ _ r h => by simp [search_Expand.l0] at h
  | k + 1 => by
    have ih0 := search_Expand.mono_l k
    intro y0 y1 y2 y3 y4
    unfold search_Expand.l0
    repeat' first
      | (with_reducible exact ih0 _ _ _ _ _)
      | (with_reducible exact search_token.mono _ _)
      | (with_reducible exact search_dir.mono _ _)
      | (with_reducible exact LeO.refl _)
      | (with_reducible exact LeO.none _)
      | (with_reducible refine LeO.ite ?_ ?_)
      | (with_reducible refine LeO.bind ?_ (fun _ => ?_))
theorem search_Expand.mono : ∀ a0 a1 k, LeO (search_Expand.f k a0 a1) (search_Expand.f (k + 1) a0 a1) := fun a0 a1 k => search_Expand.mono_l k _ _ _ _ _
theorem search_Expand.one (s : ByteArray) (i : Int) (h0 : 0 ≤ i) (h1 : i < (s.size : Int)) : Lib.strCells (s.extract i.toNat (i.toNat + 1)) = [.int .u8 (bt s i)] := by
  have h : i.toNat < s.size := by omega
  have hb : bt s i = ((s[i.toNat]'h).toNat : Int) := by unfold bt; rw [dif_pos h]
  rw [hb]
  have hd : i.toNat < s.data.toList.length := by rw [Array.length_toList]; exact h
  have he : (s.extract i.toNat (i.toNat + 1)).data.toList = (s.data.toList.drop i.toNat).take 1 := by
    rw [ByteArray.data_extract, Array.toList_extract, List.extract_eq_take_drop]
    congr 1
    omega
  unfold Lib.strCells
  rw [he, List.drop_eq_getElem_cons hd]
  rfl
theorem search_Expand.cat (a b : ByteArray) : Lib.strCells (a ++ b) = Lib.strCells a ++ Lib.strCells b := by
  unfold Lib.strCells
  rw [ByteArray.data_append, Array.toList_append, List.map_append]
set_option maxHeartbeats 8000000 in
set_option maxRecDepth 100000 in
theorem search_Expand.calls (k : Nat) (a0 : ByteArray) (a1 : ByteArray) (r1 : ByteArray) (r2 : Bool) (w : World) (h : search_Expand.f k a0 a1 = some (r1, r2)) :
    Calls Try.prog 10 #[.string a0, .string a1] w fun e w' => e = .returned (.tuple #[.string r1, .bool r2]) ∧ Below w.heap.size w w' := by
  have H' : Aside0 (search_Expand.l0 k a0 a1 (⟨#[]⟩ : ByteArray) false 0 = some (r1, r2)) := ⟨h⟩
  clear h
  have eB : ∀ args w, (callFunc 23 args).run Try.prog w = .ok (.enter 23 args) w := enters_of Try.func23 (by kernel_rfl) rfl
  have eT : ∀ args w, (callFunc 25 args).run Try.prog w = .ok (.enter 25 args) w := enters_of Try.func25 (by kernel_rfl) rfl
  have eS : ∀ args w, (callFunc 27 args).run Try.prog w = .ok (.enter 27 args) w := enters_of Try.func27 (by kernel_rfl) rfl
  have eK : ∀ args w, (callFunc 24 args).run Try.prog w = .ok (.enter 24 args) w := enters_of Try.func24 (by kernel_rfl) rfl
  have eD : ∀ args w, (callFunc 26 args).run Try.prog w = .ok (.enter 26 args) w := enters_of Try.func26 (by kernel_rfl) rfl
  go_enter Try.func10, Try.ntmps10
  go_wp2
  go_loopg [7, 8] k (fun kq v7 v8 w' => ∃ (x6 : ByteArray) (x7 : Bool) (x8 : Int), v7 = .bool x7 ∧ v8 = .int .i64 x8 ∧ Aside0 (search_Expand.l0 kq a0 a1 x6 x7 x8 = some (r1, r2)) ∧ Aside0 (kq ≤ k) ∧ Aside0 (Lib.IsBuilderF 66 5 w.heap.size w.heap.size (Lib.strCells x6) w') ∧ Aside0 (Below w.heap.size w w'))
  case atStart => exact ⟨_, _, _, rfl, rfl, H', ⟨Nat.le_refl _⟩, ⟨Lib.IsBuilderF.of (Lib.fresh_isBuilder 66 5 w)⟩, ⟨(Below.refl _ w).alloc (Nat.le_refl _) _⟩⟩
  case round =>
    clear H'
    obtain ⟨x6, x7, x8, rfl, rfl, HA, HK, HI, HB⟩ := hrel
    cases gk with
    | zero => exact absurd HA.out (by simp [search_Expand.l0])
    | succ k1 =>
      have H := HA.out
      clear HA
      simp only [search_Expand.l0] at H
      by_cases c1 : x8 < (a0.size : Int)
      · rw [if_pos c1] at H
        by_cases c2 : 0 ≤ x8
        · rw [if_pos c2] at H
          have hx := bt_at a0 x8
          have c1b : decide (x8 < (a0.size : Int)) = true := decide_eq_true c1
          have c2b : decide (0 ≤ x8) = true := decide_eq_true c2
          have c1e := eq_true c1
          have c2e := eq_true c2
          by_cases c3 : bt a0 x8 = 36
          · rw [if_pos c3] at H
            have c3b : (bt a0 x8 != 36) = false := by rw [c3]; rfl
            obtain ⟨j1, hj1⟩ : ∃ j_ : Int, wrap64 (x8 + 1) = j_ := ⟨_, rfl⟩
            rw [hj1] at H
            by_cases c4 : 0 ≤ j1
            · rw [if_pos c4] at H
              by_cases c5 : j1 ≤ (a0.size : Int)
              · rw [if_pos c5] at H
                have c4e := eq_true c4
                have c5e := eq_true c5
                obtain ⟨⟨t1, t2⟩, A1, H⟩ := Option.bind_eq_some_iff.mp H
                dsimp only at H
                have A1 := Aside0.mk A1
                by_cases d1 : t1.toList = ([79, 82, 73, 71, 73, 78] : List UInt8)
                · rw [if_pos d1] at H
                  have d1e : (t1.toList == ([79, 82, 73, 71, 73, 78] : List UInt8)) = true := beq_iff_eq.mpr d1
                  obtain ⟨d, A2, H⟩ := Option.bind_eq_some_iff.mp H
                  have A2 := Aside0.mk A2
                  by_cases c7 : x6.size + d.size < 140737488355328
                  · rw [if_pos c7] at H
                    have H' := Aside0.mk H
                    clear H
                    have c7 := Aside0.mk c7
                    go_wp2_with (first | ((go_at_fn 24; refine (search_token.calls _ _ _ _ _ A1.out).mono ?_; rintro e w1 ⟨rfl, hb⟩; replace HI := Aside0.mk (bld_keep HI.out hb); replace HB := Aside0.mk (HB.out.trans (hb.mono HB.out.size)))) | ((go_at_fn 26; refine (search_dir.calls _ _ _ _ A2.out).mono ?_; rintro e w2 ⟨rfl, ⟨nd, rfl⟩⟩; replace HI := Aside0.mk (bld_keep HI.out (pw_below_drewN (Below.refl _ _) nd)); replace HB := Aside0.mk (HB.out.trans (pw_below_drewN (Below.refl _ _) nd)))) | ((go_at_fn 25; refine (bld_text w.heap.size w.heap.size _ d _ HI.out (by rw [Lib.strCells_length]; exact c7.out) HB.out.size).mono ?_; rintro e w3 ⟨rfl, hI, hb⟩; replace HI := Aside0.mk hI; replace HB := Aside0.mk (HB.out.trans hb))))
                    go_roundg k1
                    case measure => have := HK.out; omega
                    case rel => exact ⟨_, true, _, by first | rfl | (simp [*]; done), by first | rfl | (simp [*]; done), H', ⟨by have := HK.out; omega⟩, ⟨by rw [search_Expand.cat]; exact HI.out⟩, ⟨HB.out⟩⟩
                  · rw [if_neg c7] at H
                    exact absurd H (by simp)
                · rw [if_neg d1] at H
                  have d1e : (t1.toList == ([79, 82, 73, 71, 73, 78] : List UInt8)) = false := beq_eq_false_iff_ne.mpr d1
                  by_cases d2 : t1.toList = ([76, 73, 66] : List UInt8)
                  · rw [if_pos d2] at H
                    have d2e : (t1.toList == ([76, 73, 66] : List UInt8)) = true := beq_iff_eq.mpr d2
                    by_cases c7 : x6.size + 5 < 140737488355328
                    · rw [if_pos c7] at H
                      have H' := Aside0.mk H
                      clear H
                      have c7 := Aside0.mk c7
                      go_wp2_with (first | ((go_at_fn 24; refine (search_token.calls _ _ _ _ _ A1.out).mono ?_; rintro e w1 ⟨rfl, hb⟩; replace HI := Aside0.mk (bld_keep HI.out hb); replace HB := Aside0.mk (HB.out.trans (hb.mono HB.out.size)))) | ((go_at_fn 25; refine (bld_text w.heap.size w.heap.size _ (⟨#[108, 105, 98, 54, 52]⟩ : ByteArray) _ HI.out (by rw [Lib.strCells_length]; exact c7.out) HB.out.size).mono ?_; rintro e w3 ⟨rfl, hI, hb⟩; replace HI := Aside0.mk hI; replace HB := Aside0.mk (HB.out.trans hb))))
                      go_roundg k1
                      case measure => have := HK.out; omega
                      case rel => exact ⟨_, x7, _, by first | rfl | (simp [*]; done), by first | rfl | (simp [*]; done), H', ⟨by have := HK.out; omega⟩, ⟨by rw [search_Expand.cat]; exact HI.out⟩, ⟨HB.out⟩⟩
                    · rw [if_neg c7] at H
                      exact absurd H (by simp)
                  · rw [if_neg d2] at H
                    have d2e : (t1.toList == ([76, 73, 66] : List UInt8)) = false := beq_eq_false_iff_ne.mpr d2
                    by_cases d3 : t1.toList = ([80, 76, 65, 84, 70, 79, 82, 77] : List UInt8)
                    · rw [if_pos d3] at H
                      have d3e : (t1.toList == ([80, 76, 65, 84, 70, 79, 82, 77] : List UInt8)) = true := beq_iff_eq.mpr d3
                      by_cases c7 : x6.size + 6 < 140737488355328
                      · rw [if_pos c7] at H
                        have H' := Aside0.mk H
                        clear H
                        have c7 := Aside0.mk c7
                        go_wp2_with (first | ((go_at_fn 24; refine (search_token.calls _ _ _ _ _ A1.out).mono ?_; rintro e w1 ⟨rfl, hb⟩; replace HI := Aside0.mk (bld_keep HI.out hb); replace HB := Aside0.mk (HB.out.trans (hb.mono HB.out.size)))) | ((go_at_fn 25; refine (bld_text w.heap.size w.heap.size _ (⟨#[120, 56, 54, 95, 54, 52]⟩ : ByteArray) _ HI.out (by rw [Lib.strCells_length]; exact c7.out) HB.out.size).mono ?_; rintro e w3 ⟨rfl, hI, hb⟩; replace HI := Aside0.mk hI; replace HB := Aside0.mk (HB.out.trans hb))))
                        go_roundg k1
                        case measure => have := HK.out; omega
                        case rel => exact ⟨_, x7, _, by first | rfl | (simp [*]; done), by first | rfl | (simp [*]; done), H', ⟨by have := HK.out; omega⟩, ⟨by rw [search_Expand.cat]; exact HI.out⟩, ⟨HB.out⟩⟩
                      · rw [if_neg c7] at H
                        exact absurd H (by simp)
                    · rw [if_neg d3] at H
                      have d3e : (t1.toList == ([80, 76, 65, 84, 70, 79, 82, 77] : List UInt8)) = false := beq_eq_false_iff_ne.mpr d3
                      by_cases c7 : x6.size < 140737488355328
                      · rw [if_pos c7] at H
                        have H' := Aside0.mk H
                        clear H
                        have c7 := Aside0.mk c7
                        go_wp2_with (first | ((go_at_fn 24; refine (search_token.calls _ _ _ _ _ A1.out).mono ?_; rintro e w1 ⟨rfl, hb⟩; replace HI := Aside0.mk (bld_keep HI.out hb); replace HB := Aside0.mk (HB.out.trans (hb.mono HB.out.size)))) | ((go_at_fn 23; refine (bld_byte w.heap.size w.heap.size _ 36 _ HI.out (by rw [Lib.strCells_length]; exact c7.out) HB.out.size).mono ?_; rintro e w3 ⟨rfl, hI, hb⟩; replace HI := Aside0.mk hI; replace HB := Aside0.mk (HB.out.trans hb))))
                        go_roundg k1
                        case measure => have := HK.out; omega
                        case rel => exact ⟨_, x7, _, by first | rfl | (simp [*]; done), by first | rfl | (simp [*]; done), H', ⟨by have := HK.out; omega⟩, ⟨by rw [search_Expand.cat]; exact HI.out⟩, ⟨HB.out⟩⟩
                      · rw [if_neg c7] at H
                        exact absurd H (by simp)
              · rw [if_neg c5] at H
                exact absurd H (by simp)
            · rw [if_neg c4] at H
              exact absurd H (by simp)
          · rw [if_neg c3] at H
            have c3b : (bt a0 x8 != 36) = true := bne_iff_ne.mpr c3
            by_cases c7 : x6.size < 140737488355328
            · rw [if_pos c7] at H
              have H' := Aside0.mk H
              clear H
              have c7 := Aside0.mk c7
              go_wp2_with (first | ((go_at_fn 23; refine (bld_byte w.heap.size w.heap.size _ (bt a0 x8) _ HI.out (by rw [Lib.strCells_length]; exact c7.out) HB.out.size).mono ?_; rintro e w3 ⟨rfl, hI, hb⟩; replace HI := Aside0.mk hI; replace HB := Aside0.mk (HB.out.trans hb))))
              go_roundg k1
              case measure => have := HK.out; omega
              case rel => exact ⟨_, x7, _, by first | rfl | (simp [*]; done), by first | rfl | (simp [*]; done), H', ⟨by have := HK.out; omega⟩, ⟨by rw [search_Expand.cat, search_Expand.one a0 x8 c2 c1]; exact HI.out⟩, ⟨HB.out⟩⟩
            · rw [if_neg c7] at H
              exact absurd H (by simp)
        · rw [if_neg c2] at H
          exact absurd H (by simp)
      · rw [if_neg c1] at H
        have c1b : decide (x8 < (a0.size : Int)) = false := decide_eq_false c1
        have c1e := eq_false c1
        obtain ⟨rfl, rfl⟩ := Prod.mk.inj (Option.some.inj H)
        go_wp2_with (go_at_fn 27; refine (Try.Builder_String_any_f w.heap.size w.heap.size x6.data.toList _ HI.out HB.out.size).mono ?_; rintro e w3 ⟨rfl, hI, hb⟩; replace HB := Aside0.mk (HB.out.trans hb))
        go_ret2
        exact ⟨rfl, HB.out⟩

def search_split.l0 (p : Nat → Bool) : Nat → ByteArray → List ByteArray → Option (List ByteArray)
  | 0, _, _ => none
  | k + 1, s, out => if Lib.idxFunc p true s < 0 then (if out.length < 8796093022208 then some (out ++ [s]) else (none)) else (if Lib.idxFunc p true s ≤ (s.size : Int) then (if 0 ≤ (wrap64 (Lib.idxFunc p true s + 1)) then (if (wrap64 (Lib.idxFunc p true s + 1)) ≤ (s.size : Int) then (if out.length < 8796093022208 then search_split.l0 p k (s.extract (wrap64 (Lib.idxFunc p true s + 1)).toNat s.size) (out ++ [s.extract 0 (Lib.idxFunc p true s).toNat]) else (none)) else (none)) else (none)) else (none))
def search_split.f (k : Nat) (p : Nat → Bool) (a0 : ByteArray) : Option (List ByteArray) := search_split.l0 p k a0 ([] : List ByteArray)
theorem search_split.mono_l (p : Nat → Bool) : ∀ k, (∀ y0 y1, LeO (search_split.l0 p k y0 y1) (search_split.l0 p (k + 1) y0 y1))
  | 0 => fun _ _ r h => by simp [search_split.l0] at h
  | k + 1 => by
    have ih0 := search_split.mono_l p k
    intro y0 y1
    unfold search_split.l0
    repeat' first
      | (with_reducible exact ih0 _ _)
      | (with_reducible exact LeO.refl _)
      | (with_reducible exact LeO.none _)
      | (with_reducible refine LeO.ite ?_ ?_)
theorem search_split.mono : ∀ p a0 k, LeO (search_split.f k p a0) (search_split.f (k + 1) p a0) := fun p a0 k => search_split.mono_l p k _ _
set_option maxHeartbeats 8000000 in
set_option maxRecDepth 100000 in
theorem search_split.calls (k : Nat) (p : Nat → Bool) (g : Nat) (lb : Array Value) (eg : ∀ args w, (callFunc g args).run Try.prog w = .ok (.enter g args) w) (a0 : ByteArray) (r : List ByteArray) (w : World) (hp : PredAt Try.prog g lb encR p w) (h : search_split.f k p a0 = some r) :
    Calls Try.prog 18 #[.string a0, .func (.func g) #[] lb] w fun e w' => ∃ v0_ : Value, e = .returned (v0_) ∧ Kd.R Kd.string 9 w' w.heap.size (fun _ => True) v0_ r ∧ Below w.heap.size w w' := by
  have H' : Aside0 (search_split.l0 p k a0 ([] : List ByteArray) = some r) := ⟨h⟩
  have hp := Aside0.mk hp
  clear h
  have HB := Aside0.mk (Below.refl w.heap.size w)
  have eI : ∀ args w, (callFunc 33 args).run Try.prog w = .ok (.enter 33 args) w := enters_of Try.func33 (by kernel_rfl) rfl
  go_enter Try.func18, Try.ntmps18
  go_wp2
  go_loopg [0, 5] k (fun kq v0 v5 w' => ∃ (x0 : ByteArray) (x5 : List ByteArray), v0 = .string x0 ∧ Aside0 (search_split.l0 p kq x0 x5 = some r) ∧ Aside0 (kq ≤ k) ∧ Aside0 (Kd.R Kd.string 9 w' w.heap.size (fun _ => True) v5 x5) ∧ Aside0 (Below w.heap.size w w'))
  case atStart => exact ⟨_, _, rfl, H', ⟨Nat.le_refl _⟩, ⟨Kd.R_nil _ _ _ _ _⟩, HB⟩
  case round =>
    clear H' HB
    obtain ⟨x0, x5, rfl, HA, HK, HO, HB⟩ := hrel
    cases gk with
    | zero => exact absurd HA.out (by simp [search_split.l0])
    | succ k1 =>
      have H := HA.out
      clear HA
      simp only [search_split.l0] at H
      obtain ⟨ix, hix⟩ : ∃ j_ : Int, Lib.idxFunc p true x0 = j_ := ⟨_, rfl⟩
      rw [hix] at H
      by_cases c1 : ix < 0
      · rw [if_pos c1] at H
        have c1b : decide (ix < 0) = true := decide_eq_true c1
        have c1e := eq_true c1
        by_cases c2 : x5.length < 8796093022208
        · rw [if_pos c2] at H
          obtain rfl := Option.some.inj H
          have c2 := Aside0.mk c2
          clear H
          go_wp2_with (first | (go_at_fn 33; refine (Try.strings_IndexFunc g lb eg p x0 _ (hp.out.later HB.out)).mono ?_; rintro e w1 ⟨rfl, hb⟩; rw [hix]; replace HO := Aside0.mk (Kd.R_below HO.out hb); replace HB := Aside0.mk (HB.out.trans (hb.mono HB.out.size))) | ((with_reducible refine gate_builtin (b := .append) (xs := #[.tmp 12, .tmp 14]) rfl ?_); at_builtin; refine Kd.R_append Kd.string (w0 := w) w.heap.size rfl (.tmp 12) (.tmp 14) 26 9 (.string ⟨#[]⟩) 16 rfl Try.underlying26 info9 rfl (by decide) (by omega) _ x5 x0 [.string x0] (fun _ => True) (fun _ => False) rfl rfl ?aP (fun _ hk => hk.elim) ?aF ?aO ?aB ?aS ?aL ?_; (case aP => exact rfl); (case aB => exact HB.out); (case aF => exact (fun _ _ => trivial)); (case aO => exact HO.out); (case aS => exact HB.out.size); (case aL => have := c2.out; omega); intro v1 w2 ho hb hg hat; replace HB := Aside0.mk hb; replace HO := Aside0.mk ho; clear ho hb hg hat))
          go_ret
          exact ⟨_, rfl, HO.out, HB.out⟩
        · rw [if_neg c2] at H
          exact absurd H (by simp)
      · rw [if_neg c1] at H
        have c1b : decide (ix < 0) = false := decide_eq_false c1
        have c1e := eq_false c1
        have c0 : 0 ≤ ix := by omega
        have c0b : decide (0 ≤ ix) = true := decide_eq_true c0
        have c0e := eq_true c0
        by_cases c3 : ix ≤ (x0.size : Int)
        · rw [if_pos c3] at H
          have c3b : decide (ix ≤ (x0.size : Int)) = true := decide_eq_true c3
          have c3e := eq_true c3
          obtain ⟨j1, hj1⟩ : ∃ j_ : Int, wrap64 (ix + 1) = j_ := ⟨_, rfl⟩
          rw [hj1] at H
          by_cases c4 : 0 ≤ j1
          · rw [if_pos c4] at H
            have c4b : decide (0 ≤ j1) = true := decide_eq_true c4
            have c4e := eq_true c4
            by_cases c5 : j1 ≤ (x0.size : Int)
            · rw [if_pos c5] at H
              have c5b : decide (j1 ≤ (x0.size : Int)) = true := decide_eq_true c5
              have c5e := eq_true c5
              by_cases c2 : x5.length < 8796093022208
              · rw [if_pos c2] at H
                have H' := Aside0.mk H
                have c2 := Aside0.mk c2
                clear H
                go_wp2_with (first | (go_at_fn 33; refine (Try.strings_IndexFunc g lb eg p x0 _ (hp.out.later HB.out)).mono ?_; rintro e w1 ⟨rfl, hb⟩; rw [hix]; replace HO := Aside0.mk (Kd.R_below HO.out hb); replace HB := Aside0.mk (HB.out.trans (hb.mono HB.out.size))) | ((with_reducible refine gate_builtin (b := .append) (xs := #[.tmp 16, .tmp 20]) rfl ?_); at_builtin; refine Kd.R_append Kd.string (w0 := w) w.heap.size rfl (.tmp 16) (.tmp 20) 26 9 (.string ⟨#[]⟩) 16 rfl Try.underlying26 info9 rfl (by decide) (by omega) _ x5 (x0.extract 0 (ix : Int).toNat) [.string (x0.extract 0 (ix : Int).toNat)] (fun _ => True) (fun _ => False) rfl rfl ?aP (fun _ hk => hk.elim) ?aF ?aO ?aB ?aS ?aL ?_; (case aP => exact rfl); (case aB => exact HB.out); (case aF => exact (fun _ _ => trivial)); (case aO => exact HO.out); (case aS => exact HB.out.size); (case aL => have := c2.out; omega); intro v1 w2 ho hb hg hat; replace HB := Aside0.mk hb; replace HO := Aside0.mk ho; clear ho hb hg hat))
                go_roundg k1
                case measure => have := HK.out; omega
                case rel => exact ⟨_, _, rfl, H', ⟨by have := HK.out; omega⟩, HO, HB⟩
              · rw [if_neg c2] at H
                exact absurd H (by simp)
            · rw [if_neg c5] at H
              exact absurd H (by simp)
          · rw [if_neg c4] at H
            exact absurd H (by simp)
        · rw [if_neg c3] at H
          exact absurd H (by simp)

def search_lay.dir (part d : ByteArray) : ByteArray := if d.toList = ([] : List UInt8) ∧ part.toList = ([] : List UInt8) then (⟨#[47]⟩ : ByteArray) else d
def search_lay.l0 : Nat → List ByteArray → ByteArray → Bool → List ByteArray → Int → Option (List ByteArray)
  | 0, _, _, _, _, _ => none
  | k + 1, ps, o, sec, out, i => if i < (ps.length : Int) then (if 0 ≤ i then ((search_Expand.f k (rdOf ByteArray.empty ps i) o).bind fun t => (if (t.2 && sec) = true then search_lay.l0 k ps o sec out (wrap64 (i + 1)) else (if Lib.containsS out (search_lay.dir (rdOf ByteArray.empty ps i) t.1) = true then search_lay.l0 k ps o sec out (wrap64 (i + 1)) else (if out.length < 8796093022208 then search_lay.l0 k ps o sec (out ++ [search_lay.dir (rdOf ByteArray.empty ps i) t.1]) (wrap64 (i + 1)) else (none))))) else (none)) else some out
def search_lay.f (k : Nat) (p : Nat → Bool) (s o : ByteArray) (sec : Bool) (out : List ByteArray) : Option (List ByteArray) := (search_split.f k p s).bind fun ps => search_lay.l0 k ps o sec out 0
theorem search_lay.mono_l : ∀ k, (∀ y0 y1 y2 y3 y4, LeO (search_lay.l0 k y0 y1 y2 y3 y4) (search_lay.l0 (k + 1) y0 y1 y2 y3 y4))
  | 0 => fun _ _ _ _ _ r h => by simp [search_lay.l0] at h
  | k + 1 => by
    have ih0 := search_lay.mono_l k
    intro y0 y1 y2 y3 y4
    unfold search_lay.l0
    repeat' first
      | (with_reducible exact ih0 _ _ _ _ _)
      | (with_reducible exact search_Expand.mono _ _ _)
      | (with_reducible exact LeO.refl _)
      | (with_reducible exact LeO.none _)
      | (with_reducible refine LeO.ite ?_ ?_)
      | (with_reducible refine LeO.bind ?_ (fun _ => ?_))
theorem search_lay.mono : ∀ p s o sec out k, LeO (search_lay.f k p s o sec out) (search_lay.f (k + 1) p s o sec out) := fun p s o sec out k => LeO.bind (search_split.mono _ _ _) (fun _ => search_lay.mono_l k _ _ _ _ _)
theorem search_lay.holds (base : Nat) (ok : Nat → Prop) (v : Value) (xs : List ByteArray) (x : ByteArray) (w : World) (h : Kd.R Kd.string 9 w base ok v xs) :
    Calls Try.prog 19 #[v, .string x] w fun e w' => e = .returned (.bool (Lib.containsS xs x)) ∧ w' = w := by
  have h63 := (Kd.R_reads h).choose_spec.choose_spec.2.2.2.1
  obtain ⟨inner, ho⟩ := Kd.R_own h
  rcases ho.2 with ⟨rfl, h0⟩ | ⟨g, cap, cur, rfl, _⟩
  · obtain rfl : xs = [] := List.length_eq_zero_iff.1 h0
    exact Try.slices_Contains_string_empty none 0 x w
  · have := Try.slices_Contains_string g 0 xs.length cap xs x w (Nat.le_refl _) h63 (fun j hj => by
      have := (Kd.R_cell ByteArray.empty h (j : Int) (by omega) (by omega)).1
      rw [Int.toNat_natCast] at this
      rw [Nat.zero_add]
      exact this)
    rw [List.take_length] at this
    exact this
set_option maxHeartbeats 8000000 in
set_option maxRecDepth 100000 in
theorem search_lay.calls (k : Nat) (p : Nat → Bool) (g : Nat) (lb : Array Value) (eg : ∀ args w, (callFunc g args).run Try.prog w = .ok (.enter g args) w) (s o : ByteArray) (sec : Bool) (out r : List ByteArray) (v : Value) (ba bo : Nat) (q0 q1 q2 : Value) (w0 w : World) (hB : Below w0.heap.size w0 w) (hp : PredAt Try.prog g lb encR p w0) (hba : w.heap[ba]? = some (.cells #[q0, q1, q2, .bool sec] 24 (0, 0))) (hbo : w.heap[bo]? = some (.cells #[v] 26 (0, 0))) (hlo : w0.heap.size ≤ bo) (hne : ba ≠ bo) (hO : Kd.R Kd.string 9 w w0.heap.size (fun _ => True) v out) (h : search_lay.f k p s o sec out = some r) :
    Calls Try.prog 17 #[.string s, .string o, .func (.func g) #[] lb, .pointer (some ⟨ba, 0, none⟩), .pointer (some ⟨bo, 0, none⟩)] w fun e w' => e = .returned (.tuple #[]) ∧ ∃ v', w'.heap[bo]? = some (.cells #[v'] 26 (0, 0)) ∧ Kd.R Kd.string 9 w' w0.heap.size (fun _ => True) v' r ∧ Below w0.heap.size w0 w' ∧ w'.heap[ba]? = some (.cells #[q0, q1, q2, .bool sec] 24 (0, 0)) := by
  obtain ⟨ps, A0, H⟩ := Option.bind_eq_some_iff.mp h
  have A0 := Aside0.mk A0
  have H' := Aside0.mk H
  have hp := Aside0.mk hp
  have HB := Aside0.mk hB
  have HO := Aside0.mk hO
  have BA := Aside0.mk hba
  have BO := Aside0.mk hbo
  have eg := Aside0.mk eg
  clear h H hB hO hba hbo
  have eS : ∀ args w, (callFunc 18 args).run Try.prog w = .ok (.enter 18 args) w := enters_of Try.func18 (by kernel_rfl) rfl
  have eE : ∀ args w, (callFunc 10 args).run Try.prog w = .ok (.enter 10 args) w := enters_of Try.func10 (by kernel_rfl) rfl
  have eC : ∀ args w, (callFunc 19 args).run Try.prog w = .ok (.enter 19 args) w := enters_of Try.func19 (by kernel_rfl) rfl
  go_enter Try.func17, Try.ntmps17
  go_wp2_with (go_at_fn 18; refine (search_split.calls k p g lb eg.out s ps _ (hp.out.later HB.out) A0.out).mono ?_; rintro e w1 ⟨vp, rfl, hr, hb⟩; obtain ⟨Ap, cp, rfl⟩ := Kd.R_slice hr; obtain ⟨in1, own1⟩ := Kd.R_own hr; obtain ⟨in0, own0⟩ := Kd.R_own HO.out; have HP := Aside0.mk (Kd.R_lower (Kd.R_new hr own0) HB.out.size); replace HO := Aside0.mk (Kd.R_below (Kd.R_mono (ok' := fun k => True ∧ some k ≠ (Value.slice Ap ps.length cp).ownBlock) (Kd.R_bound HO.out) (fun k hk => ⟨trivial, fun e => by have := own_base own1 k e.symm; have := hk.2.2.1; omega⟩)) hb); replace BA := Aside0.mk ((hb.block ba (Array.getElem?_eq_some_iff.1 BA.out).1).trans BA.out); replace BO := Aside0.mk ((hb.block bo (Array.getElem?_eq_some_iff.1 BO.out).1).trans BO.out); replace HB := Aside0.mk (HB.out.trans (hb.mono HB.out.size)); clear hr hb own0 own1)
  go_loopg [16] k (fun kq v16 w' => ∃ (v : Value) (out : List ByteArray) (x16 : Int), v16 = .int .i64 x16 ∧ Aside0 (search_lay.l0 kq ps o sec out x16 = some r) ∧ Aside0 (kq ≤ k) ∧ Aside0 (w'.heap[bo]? = some (.cells #[v] 26 (0, 0))) ∧ Aside0 (w'.heap[ba]? = some (.cells #[q0, q1, q2, .bool sec] 24 (0, 0))) ∧ Aside0 (Kd.R Kd.string 9 w' w0.heap.size (fun k => True ∧ some k ≠ (Value.slice Ap ps.length cp).ownBlock) v out) ∧ Aside0 (Kd.R Kd.string 9 w' w0.heap.size (fun k => True ∧ some k ≠ v.ownBlock) (Value.slice Ap ps.length cp) ps) ∧ Aside0 (Below w0.heap.size w0 w'))
  case atStart => exact ⟨v, out, _, rfl, H', ⟨Nat.le_refl _⟩, BO, BA, HO, HP, HB⟩
  case round =>
    clear H' HB HO HP BA BO
    obtain ⟨v, out, x16, rfl, HA, HK, BO, BA, HO, HP, HB⟩ := hrel
    cases gk with
    | zero => exact absurd HA.out (by simp [search_lay.l0])
    | succ k1 =>
      have H := HA.out
      clear HA
      simp only [search_lay.l0] at H
      by_cases c1 : x16 < (ps.length : Int)
      · rw [if_pos c1] at H
        have c1b : decide (x16 < (ps.length : Int)) = true := decide_eq_true c1
        by_cases c2 : 0 ≤ x16
        · rw [if_pos c2] at H
          have c2b : decide (0 ≤ x16) = true := decide_eq_true c2
          obtain ⟨ad, ead, hx⟩ := Kd.at_string (Kd.R_reads' HP.out).2.2 x16 c2 c1
          cases ead
          have c1e := eq_true c1
          have c2e := eq_true c2
          obtain ⟨⟨t1, t2⟩, A1, H⟩ := Option.bind_eq_some_iff.mp H
          dsimp only at H
          have A1 := Aside0.mk A1
          obtain ⟨part, hpart⟩ : ∃ x_ : ByteArray, rdOf ByteArray.empty ps x16 = x_ := ⟨_, rfl⟩
          rw [hpart] at H hx A1
          have HX := Aside0.mk hx
          have hs0 := (show _ = some (Value.bool sec) from (blk_cell BA.out 3).trans rfl)
          have hv0 := (show _ = some v from (blk_cell BO.out 0).trans rfl)
          by_cases c6 : t1.toList = ([] : List UInt8)
          · have c6b : (t1.toList == ([] : List UInt8)) = true := beq_iff_eq.mpr c6
            have c6i : t1.toList.isEmpty = true := by rw [c6]; rfl
            by_cases c7 : part.toList = ([] : List UInt8)
            · have c7b : (part.toList == ([] : List UInt8)) = true := beq_iff_eq.mpr c7
              have c7i : part.toList.isEmpty = true := by rw [c7]; rfl
              rw [show search_lay.dir part t1 = (⟨#[47]⟩ : ByteArray) from if_pos ⟨c6, c7⟩] at H
              cases t2 with
              | false =>
                rw [if_neg (by simp)] at H
                by_cases c8 : Lib.containsS out (⟨#[47]⟩ : ByteArray) = true
                · rw [if_pos c8] at H
                  have H' := Aside0.mk H
                  clear H
                  go_wp2_with (first | (go_at_fn 10; refine (search_Expand.calls _ _ _ _ _ _ A1.out).mono ?_; rintro e w1 ⟨rfl, hb⟩; replace HO := Aside0.mk (Kd.R_below HO.out hb); replace HP := Aside0.mk (Kd.R_below HP.out hb); replace BA := Aside0.mk ((hb.block ba (Array.getElem?_eq_some_iff.1 BA.out).1).trans BA.out); replace BO := Aside0.mk ((hb.block bo (Array.getElem?_eq_some_iff.1 BO.out).1).trans BO.out); replace HB := Aside0.mk (HB.out.trans (hb.mono HB.out.size)); clear hb hs0 hv0; have hs0 := (show _ = some (Value.bool sec) from (blk_cell BA.out 3).trans rfl); have hv0 := (show _ = some v from (blk_cell BO.out 0).trans rfl)) | (go_at_fn 19; refine (search_lay.holds _ _ v out (⟨#[47]⟩ : ByteArray) _ HO.out).mono ?_; rintro e w2 ⟨rfl, rfl⟩))
                  go_roundg k1
                  case measure => have := HK.out; omega
                  case rel => exact ⟨v, out, _, by first | rfl | (simp [*]; done), H', ⟨by have := HK.out; omega⟩, BO, BA, HO, HP, HB⟩
                · rw [if_neg c8] at H
                  replace c8 := Bool.eq_false_iff.mpr c8
                  by_cases c9 : out.length < 8796093022208
                  · rw [if_pos c9] at H
                    have c9 := Aside0.mk c9
                    have H' := Aside0.mk H
                    clear H
                    go_wp2_with (first | (go_at_fn 10; refine (search_Expand.calls _ _ _ _ _ _ A1.out).mono ?_; rintro e w1 ⟨rfl, hb⟩; replace HO := Aside0.mk (Kd.R_below HO.out hb); replace HP := Aside0.mk (Kd.R_below HP.out hb); replace BA := Aside0.mk ((hb.block ba (Array.getElem?_eq_some_iff.1 BA.out).1).trans BA.out); replace BO := Aside0.mk ((hb.block bo (Array.getElem?_eq_some_iff.1 BO.out).1).trans BO.out); replace HB := Aside0.mk (HB.out.trans (hb.mono HB.out.size)); clear hb hs0 hv0; have hs0 := (show _ = some (Value.bool sec) from (blk_cell BA.out 3).trans rfl); have hv0 := (show _ = some v from (blk_cell BO.out 0).trans rfl)) | (go_at_fn 19; refine (search_lay.holds _ _ v out (⟨#[47]⟩ : ByteArray) _ HO.out).mono ?_; rintro e w2 ⟨rfl, rfl⟩) | ((with_reducible refine gate_builtin (b := .append) (xs := #[.tmp 42, .tmp 44]) rfl ?_); at_builtin; refine Kd.R_append Kd.string (w0 := w0) w0.heap.size rfl (.tmp 42) (.tmp 44) 26 9 (.string ⟨#[]⟩) 16 rfl Try.underlying26 info9 rfl (by decide) (by omega) v out (⟨#[47]⟩ : ByteArray) [.string (⟨#[47]⟩ : ByteArray)] (fun k => True ∧ some k ≠ (Value.slice (some ad) ps.length cp).ownBlock) (fun _ => False) rfl rfl ?aP (fun _ hk => hk.elim) ?aF ?aO ?aB ?aS ?aL ?_; (case aP => exact rfl); (case aB => exact HB.out); (case aF => exact (fun k hk => ⟨trivial, Kd.fresh' (Kd.R_lt HP.out) k hk⟩)); (case aO => exact HO.out); (case aS => exact HB.out.size); (case aL => have := c9.out; omega); intro v1 w2 ho hb hg hat; have hne1 := Kd.R_ne HO.out BO.out (by decide); have hne2 := Kd.R_ne HO.out BA.out (by decide); replace BO := Aside0.mk ((hg.block bo (Array.getElem?_eq_some_iff.1 BO.out).1 hne1).trans BO.out); replace BA := Aside0.mk ((hg.block ba (Array.getElem?_eq_some_iff.1 BA.out).1 hne2).trans BA.out); replace HP := Aside0.mk (Kd.R_after (ok := fun _ => True) HP.out hg hat); replace HB := Aside0.mk hb; replace HO := Aside0.mk ho; obtain ⟨An, cn, evn⟩ := Kd.R_slice HO.out; obtain rfl : v1 = Value.slice An (out.length + 1) cn := evn.trans (by rw [List.length_append]; rfl); clear evn; clear ho hb hg hat hne1 hne2 hs0 hv0; have hv0 := (show _ = some v from (blk_cell BO.out 0).trans rfl); have hf0 := blk_frozen BO.out 0))
                    go_roundg k1
                    case measure => have := HK.out; omega
                    case rel => exact ⟨_, _, _, by first | rfl | (simp [*]; done), H', ⟨by have := HK.out; omega⟩, ⟨blk_put (cs := #[v]) BO.out 0 _ rfl⟩, ⟨blk_far BA.out hne _⟩, ⟨Kd.R_set HO.out BO.out (by decide) 0 _⟩, ⟨Kd.R_set HP.out BO.out (by decide) 0 _⟩, ⟨HB.out.setCell (p := ⟨bo, 0, none⟩) hlo _⟩⟩
                  · rw [if_neg c9] at H
                    exact absurd H (by simp)
              | true =>
                cases sec with
                | false =>
                  rw [if_neg (by simp)] at H
                  by_cases c8 : Lib.containsS out (⟨#[47]⟩ : ByteArray) = true
                  · rw [if_pos c8] at H
                    have H' := Aside0.mk H
                    clear H
                    go_wp2_with (first | (go_at_fn 10; refine (search_Expand.calls _ _ _ _ _ _ A1.out).mono ?_; rintro e w1 ⟨rfl, hb⟩; replace HO := Aside0.mk (Kd.R_below HO.out hb); replace HP := Aside0.mk (Kd.R_below HP.out hb); replace BA := Aside0.mk ((hb.block ba (Array.getElem?_eq_some_iff.1 BA.out).1).trans BA.out); replace BO := Aside0.mk ((hb.block bo (Array.getElem?_eq_some_iff.1 BO.out).1).trans BO.out); replace HB := Aside0.mk (HB.out.trans (hb.mono HB.out.size)); clear hb hs0 hv0; have hs0 := (show _ = some (Value.bool false) from (blk_cell BA.out 3).trans rfl); have hv0 := (show _ = some v from (blk_cell BO.out 0).trans rfl)) | (go_at_fn 19; refine (search_lay.holds _ _ v out (⟨#[47]⟩ : ByteArray) _ HO.out).mono ?_; rintro e w2 ⟨rfl, rfl⟩))
                    go_roundg k1
                    case measure => have := HK.out; omega
                    case rel => exact ⟨v, out, _, by first | rfl | (simp [*]; done), H', ⟨by have := HK.out; omega⟩, BO, BA, HO, HP, HB⟩
                  · rw [if_neg c8] at H
                    replace c8 := Bool.eq_false_iff.mpr c8
                    by_cases c9 : out.length < 8796093022208
                    · rw [if_pos c9] at H
                      have c9 := Aside0.mk c9
                      have H' := Aside0.mk H
                      clear H
                      go_wp2_with (first | (go_at_fn 10; refine (search_Expand.calls _ _ _ _ _ _ A1.out).mono ?_; rintro e w1 ⟨rfl, hb⟩; replace HO := Aside0.mk (Kd.R_below HO.out hb); replace HP := Aside0.mk (Kd.R_below HP.out hb); replace BA := Aside0.mk ((hb.block ba (Array.getElem?_eq_some_iff.1 BA.out).1).trans BA.out); replace BO := Aside0.mk ((hb.block bo (Array.getElem?_eq_some_iff.1 BO.out).1).trans BO.out); replace HB := Aside0.mk (HB.out.trans (hb.mono HB.out.size)); clear hb hs0 hv0; have hs0 := (show _ = some (Value.bool false) from (blk_cell BA.out 3).trans rfl); have hv0 := (show _ = some v from (blk_cell BO.out 0).trans rfl)) | (go_at_fn 19; refine (search_lay.holds _ _ v out (⟨#[47]⟩ : ByteArray) _ HO.out).mono ?_; rintro e w2 ⟨rfl, rfl⟩) | ((with_reducible refine gate_builtin (b := .append) (xs := #[.tmp 42, .tmp 44]) rfl ?_); at_builtin; refine Kd.R_append Kd.string (w0 := w0) w0.heap.size rfl (.tmp 42) (.tmp 44) 26 9 (.string ⟨#[]⟩) 16 rfl Try.underlying26 info9 rfl (by decide) (by omega) v out (⟨#[47]⟩ : ByteArray) [.string (⟨#[47]⟩ : ByteArray)] (fun k => True ∧ some k ≠ (Value.slice (some ad) ps.length cp).ownBlock) (fun _ => False) rfl rfl ?aP (fun _ hk => hk.elim) ?aF ?aO ?aB ?aS ?aL ?_; (case aP => exact rfl); (case aB => exact HB.out); (case aF => exact (fun k hk => ⟨trivial, Kd.fresh' (Kd.R_lt HP.out) k hk⟩)); (case aO => exact HO.out); (case aS => exact HB.out.size); (case aL => have := c9.out; omega); intro v1 w2 ho hb hg hat; have hne1 := Kd.R_ne HO.out BO.out (by decide); have hne2 := Kd.R_ne HO.out BA.out (by decide); replace BO := Aside0.mk ((hg.block bo (Array.getElem?_eq_some_iff.1 BO.out).1 hne1).trans BO.out); replace BA := Aside0.mk ((hg.block ba (Array.getElem?_eq_some_iff.1 BA.out).1 hne2).trans BA.out); replace HP := Aside0.mk (Kd.R_after (ok := fun _ => True) HP.out hg hat); replace HB := Aside0.mk hb; replace HO := Aside0.mk ho; obtain ⟨An, cn, evn⟩ := Kd.R_slice HO.out; obtain rfl : v1 = Value.slice An (out.length + 1) cn := evn.trans (by rw [List.length_append]; rfl); clear evn; clear ho hb hg hat hne1 hne2 hs0 hv0; have hv0 := (show _ = some v from (blk_cell BO.out 0).trans rfl); have hf0 := blk_frozen BO.out 0))
                      go_roundg k1
                      case measure => have := HK.out; omega
                      case rel => exact ⟨_, _, _, by first | rfl | (simp [*]; done), H', ⟨by have := HK.out; omega⟩, ⟨blk_put (cs := #[v]) BO.out 0 _ rfl⟩, ⟨blk_far BA.out hne _⟩, ⟨Kd.R_set HO.out BO.out (by decide) 0 _⟩, ⟨Kd.R_set HP.out BO.out (by decide) 0 _⟩, ⟨HB.out.setCell (p := ⟨bo, 0, none⟩) hlo _⟩⟩
                    · rw [if_neg c9] at H
                      exact absurd H (by simp)
                | true =>
                  rw [if_pos (show (true && true) = true from rfl)] at H
                  have H' := Aside0.mk H
                  clear H
                  go_wp2_with (first | (go_at_fn 10; refine (search_Expand.calls _ _ _ _ _ _ A1.out).mono ?_; rintro e w1 ⟨rfl, hb⟩; replace HO := Aside0.mk (Kd.R_below HO.out hb); replace HP := Aside0.mk (Kd.R_below HP.out hb); replace BA := Aside0.mk ((hb.block ba (Array.getElem?_eq_some_iff.1 BA.out).1).trans BA.out); replace BO := Aside0.mk ((hb.block bo (Array.getElem?_eq_some_iff.1 BO.out).1).trans BO.out); replace HB := Aside0.mk (HB.out.trans (hb.mono HB.out.size)); clear hb hs0 hv0; have hs0 := (show _ = some (Value.bool true) from (blk_cell BA.out 3).trans rfl); have hv0 := (show _ = some v from (blk_cell BO.out 0).trans rfl)))
                  go_roundg k1
                  case measure => have := HK.out; omega
                  case rel => exact ⟨v, out, _, by first | rfl | (simp [*]; done), H', ⟨by have := HK.out; omega⟩, BO, BA, HO, HP, HB⟩
            · have c7b : (part.toList == ([] : List UInt8)) = false := beq_eq_false_iff_ne.mpr c7
              have c7i : part.toList.isEmpty = false := by cases h_ : part.toList with | nil => exact absurd h_ c7 | cons _ _ => rfl
              rw [show search_lay.dir part t1 = t1 from if_neg (fun h_ => c7 h_.2)] at H
              cases t2 with
              | false =>
                rw [if_neg (by simp)] at H
                by_cases c8 : Lib.containsS out t1 = true
                · rw [if_pos c8] at H
                  have H' := Aside0.mk H
                  clear H
                  go_wp2_with (first | (go_at_fn 10; refine (search_Expand.calls _ _ _ _ _ _ A1.out).mono ?_; rintro e w1 ⟨rfl, hb⟩; replace HO := Aside0.mk (Kd.R_below HO.out hb); replace HP := Aside0.mk (Kd.R_below HP.out hb); replace BA := Aside0.mk ((hb.block ba (Array.getElem?_eq_some_iff.1 BA.out).1).trans BA.out); replace BO := Aside0.mk ((hb.block bo (Array.getElem?_eq_some_iff.1 BO.out).1).trans BO.out); replace HB := Aside0.mk (HB.out.trans (hb.mono HB.out.size)); clear hb hs0 hv0; have hs0 := (show _ = some (Value.bool sec) from (blk_cell BA.out 3).trans rfl); have hv0 := (show _ = some v from (blk_cell BO.out 0).trans rfl)) | (go_at_fn 19; refine (search_lay.holds _ _ v out t1 _ HO.out).mono ?_; rintro e w2 ⟨rfl, rfl⟩))
                  go_roundg k1
                  case measure => have := HK.out; omega
                  case rel => exact ⟨v, out, _, by first | rfl | (simp [*]; done), H', ⟨by have := HK.out; omega⟩, BO, BA, HO, HP, HB⟩
                · rw [if_neg c8] at H
                  replace c8 := Bool.eq_false_iff.mpr c8
                  by_cases c9 : out.length < 8796093022208
                  · rw [if_pos c9] at H
                    have c9 := Aside0.mk c9
                    have H' := Aside0.mk H
                    clear H
                    go_wp2_with (first | (go_at_fn 10; refine (search_Expand.calls _ _ _ _ _ _ A1.out).mono ?_; rintro e w1 ⟨rfl, hb⟩; replace HO := Aside0.mk (Kd.R_below HO.out hb); replace HP := Aside0.mk (Kd.R_below HP.out hb); replace BA := Aside0.mk ((hb.block ba (Array.getElem?_eq_some_iff.1 BA.out).1).trans BA.out); replace BO := Aside0.mk ((hb.block bo (Array.getElem?_eq_some_iff.1 BO.out).1).trans BO.out); replace HB := Aside0.mk (HB.out.trans (hb.mono HB.out.size)); clear hb hs0 hv0; have hs0 := (show _ = some (Value.bool sec) from (blk_cell BA.out 3).trans rfl); have hv0 := (show _ = some v from (blk_cell BO.out 0).trans rfl)) | (go_at_fn 19; refine (search_lay.holds _ _ v out t1 _ HO.out).mono ?_; rintro e w2 ⟨rfl, rfl⟩) | ((with_reducible refine gate_builtin (b := .append) (xs := #[.tmp 42, .tmp 44]) rfl ?_); at_builtin; refine Kd.R_append Kd.string (w0 := w0) w0.heap.size rfl (.tmp 42) (.tmp 44) 26 9 (.string ⟨#[]⟩) 16 rfl Try.underlying26 info9 rfl (by decide) (by omega) v out t1 [.string t1] (fun k => True ∧ some k ≠ (Value.slice (some ad) ps.length cp).ownBlock) (fun _ => False) rfl rfl ?aP (fun _ hk => hk.elim) ?aF ?aO ?aB ?aS ?aL ?_; (case aP => exact rfl); (case aB => exact HB.out); (case aF => exact (fun k hk => ⟨trivial, Kd.fresh' (Kd.R_lt HP.out) k hk⟩)); (case aO => exact HO.out); (case aS => exact HB.out.size); (case aL => have := c9.out; omega); intro v1 w2 ho hb hg hat; have hne1 := Kd.R_ne HO.out BO.out (by decide); have hne2 := Kd.R_ne HO.out BA.out (by decide); replace BO := Aside0.mk ((hg.block bo (Array.getElem?_eq_some_iff.1 BO.out).1 hne1).trans BO.out); replace BA := Aside0.mk ((hg.block ba (Array.getElem?_eq_some_iff.1 BA.out).1 hne2).trans BA.out); replace HP := Aside0.mk (Kd.R_after (ok := fun _ => True) HP.out hg hat); replace HB := Aside0.mk hb; replace HO := Aside0.mk ho; obtain ⟨An, cn, evn⟩ := Kd.R_slice HO.out; obtain rfl : v1 = Value.slice An (out.length + 1) cn := evn.trans (by rw [List.length_append]; rfl); clear evn; clear ho hb hg hat hne1 hne2 hs0 hv0; have hv0 := (show _ = some v from (blk_cell BO.out 0).trans rfl); have hf0 := blk_frozen BO.out 0))
                    go_roundg k1
                    case measure => have := HK.out; omega
                    case rel => exact ⟨_, _, _, by first | rfl | (simp [*]; done), H', ⟨by have := HK.out; omega⟩, ⟨blk_put (cs := #[v]) BO.out 0 _ rfl⟩, ⟨blk_far BA.out hne _⟩, ⟨Kd.R_set HO.out BO.out (by decide) 0 _⟩, ⟨Kd.R_set HP.out BO.out (by decide) 0 _⟩, ⟨HB.out.setCell (p := ⟨bo, 0, none⟩) hlo _⟩⟩
                  · rw [if_neg c9] at H
                    exact absurd H (by simp)
              | true =>
                cases sec with
                | false =>
                  rw [if_neg (by simp)] at H
                  by_cases c8 : Lib.containsS out t1 = true
                  · rw [if_pos c8] at H
                    have H' := Aside0.mk H
                    clear H
                    go_wp2_with (first | (go_at_fn 10; refine (search_Expand.calls _ _ _ _ _ _ A1.out).mono ?_; rintro e w1 ⟨rfl, hb⟩; replace HO := Aside0.mk (Kd.R_below HO.out hb); replace HP := Aside0.mk (Kd.R_below HP.out hb); replace BA := Aside0.mk ((hb.block ba (Array.getElem?_eq_some_iff.1 BA.out).1).trans BA.out); replace BO := Aside0.mk ((hb.block bo (Array.getElem?_eq_some_iff.1 BO.out).1).trans BO.out); replace HB := Aside0.mk (HB.out.trans (hb.mono HB.out.size)); clear hb hs0 hv0; have hs0 := (show _ = some (Value.bool false) from (blk_cell BA.out 3).trans rfl); have hv0 := (show _ = some v from (blk_cell BO.out 0).trans rfl)) | (go_at_fn 19; refine (search_lay.holds _ _ v out t1 _ HO.out).mono ?_; rintro e w2 ⟨rfl, rfl⟩))
                    go_roundg k1
                    case measure => have := HK.out; omega
                    case rel => exact ⟨v, out, _, by first | rfl | (simp [*]; done), H', ⟨by have := HK.out; omega⟩, BO, BA, HO, HP, HB⟩
                  · rw [if_neg c8] at H
                    replace c8 := Bool.eq_false_iff.mpr c8
                    by_cases c9 : out.length < 8796093022208
                    · rw [if_pos c9] at H
                      have c9 := Aside0.mk c9
                      have H' := Aside0.mk H
                      clear H
                      go_wp2_with (first | (go_at_fn 10; refine (search_Expand.calls _ _ _ _ _ _ A1.out).mono ?_; rintro e w1 ⟨rfl, hb⟩; replace HO := Aside0.mk (Kd.R_below HO.out hb); replace HP := Aside0.mk (Kd.R_below HP.out hb); replace BA := Aside0.mk ((hb.block ba (Array.getElem?_eq_some_iff.1 BA.out).1).trans BA.out); replace BO := Aside0.mk ((hb.block bo (Array.getElem?_eq_some_iff.1 BO.out).1).trans BO.out); replace HB := Aside0.mk (HB.out.trans (hb.mono HB.out.size)); clear hb hs0 hv0; have hs0 := (show _ = some (Value.bool false) from (blk_cell BA.out 3).trans rfl); have hv0 := (show _ = some v from (blk_cell BO.out 0).trans rfl)) | (go_at_fn 19; refine (search_lay.holds _ _ v out t1 _ HO.out).mono ?_; rintro e w2 ⟨rfl, rfl⟩) | ((with_reducible refine gate_builtin (b := .append) (xs := #[.tmp 42, .tmp 44]) rfl ?_); at_builtin; refine Kd.R_append Kd.string (w0 := w0) w0.heap.size rfl (.tmp 42) (.tmp 44) 26 9 (.string ⟨#[]⟩) 16 rfl Try.underlying26 info9 rfl (by decide) (by omega) v out t1 [.string t1] (fun k => True ∧ some k ≠ (Value.slice (some ad) ps.length cp).ownBlock) (fun _ => False) rfl rfl ?aP (fun _ hk => hk.elim) ?aF ?aO ?aB ?aS ?aL ?_; (case aP => exact rfl); (case aB => exact HB.out); (case aF => exact (fun k hk => ⟨trivial, Kd.fresh' (Kd.R_lt HP.out) k hk⟩)); (case aO => exact HO.out); (case aS => exact HB.out.size); (case aL => have := c9.out; omega); intro v1 w2 ho hb hg hat; have hne1 := Kd.R_ne HO.out BO.out (by decide); have hne2 := Kd.R_ne HO.out BA.out (by decide); replace BO := Aside0.mk ((hg.block bo (Array.getElem?_eq_some_iff.1 BO.out).1 hne1).trans BO.out); replace BA := Aside0.mk ((hg.block ba (Array.getElem?_eq_some_iff.1 BA.out).1 hne2).trans BA.out); replace HP := Aside0.mk (Kd.R_after (ok := fun _ => True) HP.out hg hat); replace HB := Aside0.mk hb; replace HO := Aside0.mk ho; obtain ⟨An, cn, evn⟩ := Kd.R_slice HO.out; obtain rfl : v1 = Value.slice An (out.length + 1) cn := evn.trans (by rw [List.length_append]; rfl); clear evn; clear ho hb hg hat hne1 hne2 hs0 hv0; have hv0 := (show _ = some v from (blk_cell BO.out 0).trans rfl); have hf0 := blk_frozen BO.out 0))
                      go_roundg k1
                      case measure => have := HK.out; omega
                      case rel => exact ⟨_, _, _, by first | rfl | (simp [*]; done), H', ⟨by have := HK.out; omega⟩, ⟨blk_put (cs := #[v]) BO.out 0 _ rfl⟩, ⟨blk_far BA.out hne _⟩, ⟨Kd.R_set HO.out BO.out (by decide) 0 _⟩, ⟨Kd.R_set HP.out BO.out (by decide) 0 _⟩, ⟨HB.out.setCell (p := ⟨bo, 0, none⟩) hlo _⟩⟩
                    · rw [if_neg c9] at H
                      exact absurd H (by simp)
                | true =>
                  rw [if_pos (show (true && true) = true from rfl)] at H
                  have H' := Aside0.mk H
                  clear H
                  go_wp2_with (first | (go_at_fn 10; refine (search_Expand.calls _ _ _ _ _ _ A1.out).mono ?_; rintro e w1 ⟨rfl, hb⟩; replace HO := Aside0.mk (Kd.R_below HO.out hb); replace HP := Aside0.mk (Kd.R_below HP.out hb); replace BA := Aside0.mk ((hb.block ba (Array.getElem?_eq_some_iff.1 BA.out).1).trans BA.out); replace BO := Aside0.mk ((hb.block bo (Array.getElem?_eq_some_iff.1 BO.out).1).trans BO.out); replace HB := Aside0.mk (HB.out.trans (hb.mono HB.out.size)); clear hb hs0 hv0; have hs0 := (show _ = some (Value.bool true) from (blk_cell BA.out 3).trans rfl); have hv0 := (show _ = some v from (blk_cell BO.out 0).trans rfl)))
                  go_roundg k1
                  case measure => have := HK.out; omega
                  case rel => exact ⟨v, out, _, by first | rfl | (simp [*]; done), H', ⟨by have := HK.out; omega⟩, BO, BA, HO, HP, HB⟩
          · have c6b : (t1.toList == ([] : List UInt8)) = false := beq_eq_false_iff_ne.mpr c6
            have c6i : t1.toList.isEmpty = false := by cases h_ : t1.toList with | nil => exact absurd h_ c6 | cons _ _ => rfl
            rw [show search_lay.dir part t1 = t1 from if_neg (fun h_ => c6 h_.1)] at H
            cases t2 with
            | false =>
              rw [if_neg (by simp)] at H
              by_cases c8 : Lib.containsS out t1 = true
              · rw [if_pos c8] at H
                have H' := Aside0.mk H
                clear H
                go_wp2_with (first | (go_at_fn 10; refine (search_Expand.calls _ _ _ _ _ _ A1.out).mono ?_; rintro e w1 ⟨rfl, hb⟩; replace HO := Aside0.mk (Kd.R_below HO.out hb); replace HP := Aside0.mk (Kd.R_below HP.out hb); replace BA := Aside0.mk ((hb.block ba (Array.getElem?_eq_some_iff.1 BA.out).1).trans BA.out); replace BO := Aside0.mk ((hb.block bo (Array.getElem?_eq_some_iff.1 BO.out).1).trans BO.out); replace HB := Aside0.mk (HB.out.trans (hb.mono HB.out.size)); clear hb hs0 hv0; have hs0 := (show _ = some (Value.bool sec) from (blk_cell BA.out 3).trans rfl); have hv0 := (show _ = some v from (blk_cell BO.out 0).trans rfl)) | (go_at_fn 19; refine (search_lay.holds _ _ v out t1 _ HO.out).mono ?_; rintro e w2 ⟨rfl, rfl⟩))
                go_roundg k1
                case measure => have := HK.out; omega
                case rel => exact ⟨v, out, _, by first | rfl | (simp [*]; done), H', ⟨by have := HK.out; omega⟩, BO, BA, HO, HP, HB⟩
              · rw [if_neg c8] at H
                replace c8 := Bool.eq_false_iff.mpr c8
                by_cases c9 : out.length < 8796093022208
                · rw [if_pos c9] at H
                  have c9 := Aside0.mk c9
                  have H' := Aside0.mk H
                  clear H
                  go_wp2_with (first | (go_at_fn 10; refine (search_Expand.calls _ _ _ _ _ _ A1.out).mono ?_; rintro e w1 ⟨rfl, hb⟩; replace HO := Aside0.mk (Kd.R_below HO.out hb); replace HP := Aside0.mk (Kd.R_below HP.out hb); replace BA := Aside0.mk ((hb.block ba (Array.getElem?_eq_some_iff.1 BA.out).1).trans BA.out); replace BO := Aside0.mk ((hb.block bo (Array.getElem?_eq_some_iff.1 BO.out).1).trans BO.out); replace HB := Aside0.mk (HB.out.trans (hb.mono HB.out.size)); clear hb hs0 hv0; have hs0 := (show _ = some (Value.bool sec) from (blk_cell BA.out 3).trans rfl); have hv0 := (show _ = some v from (blk_cell BO.out 0).trans rfl)) | (go_at_fn 19; refine (search_lay.holds _ _ v out t1 _ HO.out).mono ?_; rintro e w2 ⟨rfl, rfl⟩) | ((with_reducible refine gate_builtin (b := .append) (xs := #[.tmp 42, .tmp 44]) rfl ?_); at_builtin; refine Kd.R_append Kd.string (w0 := w0) w0.heap.size rfl (.tmp 42) (.tmp 44) 26 9 (.string ⟨#[]⟩) 16 rfl Try.underlying26 info9 rfl (by decide) (by omega) v out t1 [.string t1] (fun k => True ∧ some k ≠ (Value.slice (some ad) ps.length cp).ownBlock) (fun _ => False) rfl rfl ?aP (fun _ hk => hk.elim) ?aF ?aO ?aB ?aS ?aL ?_; (case aP => exact rfl); (case aB => exact HB.out); (case aF => exact (fun k hk => ⟨trivial, Kd.fresh' (Kd.R_lt HP.out) k hk⟩)); (case aO => exact HO.out); (case aS => exact HB.out.size); (case aL => have := c9.out; omega); intro v1 w2 ho hb hg hat; have hne1 := Kd.R_ne HO.out BO.out (by decide); have hne2 := Kd.R_ne HO.out BA.out (by decide); replace BO := Aside0.mk ((hg.block bo (Array.getElem?_eq_some_iff.1 BO.out).1 hne1).trans BO.out); replace BA := Aside0.mk ((hg.block ba (Array.getElem?_eq_some_iff.1 BA.out).1 hne2).trans BA.out); replace HP := Aside0.mk (Kd.R_after (ok := fun _ => True) HP.out hg hat); replace HB := Aside0.mk hb; replace HO := Aside0.mk ho; obtain ⟨An, cn, evn⟩ := Kd.R_slice HO.out; obtain rfl : v1 = Value.slice An (out.length + 1) cn := evn.trans (by rw [List.length_append]; rfl); clear evn; clear ho hb hg hat hne1 hne2 hs0 hv0; have hv0 := (show _ = some v from (blk_cell BO.out 0).trans rfl); have hf0 := blk_frozen BO.out 0))
                  go_roundg k1
                  case measure => have := HK.out; omega
                  case rel => exact ⟨_, _, _, by first | rfl | (simp [*]; done), H', ⟨by have := HK.out; omega⟩, ⟨blk_put (cs := #[v]) BO.out 0 _ rfl⟩, ⟨blk_far BA.out hne _⟩, ⟨Kd.R_set HO.out BO.out (by decide) 0 _⟩, ⟨Kd.R_set HP.out BO.out (by decide) 0 _⟩, ⟨HB.out.setCell (p := ⟨bo, 0, none⟩) hlo _⟩⟩
                · rw [if_neg c9] at H
                  exact absurd H (by simp)
            | true =>
              cases sec with
              | false =>
                rw [if_neg (by simp)] at H
                by_cases c8 : Lib.containsS out t1 = true
                · rw [if_pos c8] at H
                  have H' := Aside0.mk H
                  clear H
                  go_wp2_with (first | (go_at_fn 10; refine (search_Expand.calls _ _ _ _ _ _ A1.out).mono ?_; rintro e w1 ⟨rfl, hb⟩; replace HO := Aside0.mk (Kd.R_below HO.out hb); replace HP := Aside0.mk (Kd.R_below HP.out hb); replace BA := Aside0.mk ((hb.block ba (Array.getElem?_eq_some_iff.1 BA.out).1).trans BA.out); replace BO := Aside0.mk ((hb.block bo (Array.getElem?_eq_some_iff.1 BO.out).1).trans BO.out); replace HB := Aside0.mk (HB.out.trans (hb.mono HB.out.size)); clear hb hs0 hv0; have hs0 := (show _ = some (Value.bool false) from (blk_cell BA.out 3).trans rfl); have hv0 := (show _ = some v from (blk_cell BO.out 0).trans rfl)) | (go_at_fn 19; refine (search_lay.holds _ _ v out t1 _ HO.out).mono ?_; rintro e w2 ⟨rfl, rfl⟩))
                  go_roundg k1
                  case measure => have := HK.out; omega
                  case rel => exact ⟨v, out, _, by first | rfl | (simp [*]; done), H', ⟨by have := HK.out; omega⟩, BO, BA, HO, HP, HB⟩
                · rw [if_neg c8] at H
                  replace c8 := Bool.eq_false_iff.mpr c8
                  by_cases c9 : out.length < 8796093022208
                  · rw [if_pos c9] at H
                    have c9 := Aside0.mk c9
                    have H' := Aside0.mk H
                    clear H
                    go_wp2_with (first | (go_at_fn 10; refine (search_Expand.calls _ _ _ _ _ _ A1.out).mono ?_; rintro e w1 ⟨rfl, hb⟩; replace HO := Aside0.mk (Kd.R_below HO.out hb); replace HP := Aside0.mk (Kd.R_below HP.out hb); replace BA := Aside0.mk ((hb.block ba (Array.getElem?_eq_some_iff.1 BA.out).1).trans BA.out); replace BO := Aside0.mk ((hb.block bo (Array.getElem?_eq_some_iff.1 BO.out).1).trans BO.out); replace HB := Aside0.mk (HB.out.trans (hb.mono HB.out.size)); clear hb hs0 hv0; have hs0 := (show _ = some (Value.bool false) from (blk_cell BA.out 3).trans rfl); have hv0 := (show _ = some v from (blk_cell BO.out 0).trans rfl)) | (go_at_fn 19; refine (search_lay.holds _ _ v out t1 _ HO.out).mono ?_; rintro e w2 ⟨rfl, rfl⟩) | ((with_reducible refine gate_builtin (b := .append) (xs := #[.tmp 42, .tmp 44]) rfl ?_); at_builtin; refine Kd.R_append Kd.string (w0 := w0) w0.heap.size rfl (.tmp 42) (.tmp 44) 26 9 (.string ⟨#[]⟩) 16 rfl Try.underlying26 info9 rfl (by decide) (by omega) v out t1 [.string t1] (fun k => True ∧ some k ≠ (Value.slice (some ad) ps.length cp).ownBlock) (fun _ => False) rfl rfl ?aP (fun _ hk => hk.elim) ?aF ?aO ?aB ?aS ?aL ?_; (case aP => exact rfl); (case aB => exact HB.out); (case aF => exact (fun k hk => ⟨trivial, Kd.fresh' (Kd.R_lt HP.out) k hk⟩)); (case aO => exact HO.out); (case aS => exact HB.out.size); (case aL => have := c9.out; omega); intro v1 w2 ho hb hg hat; have hne1 := Kd.R_ne HO.out BO.out (by decide); have hne2 := Kd.R_ne HO.out BA.out (by decide); replace BO := Aside0.mk ((hg.block bo (Array.getElem?_eq_some_iff.1 BO.out).1 hne1).trans BO.out); replace BA := Aside0.mk ((hg.block ba (Array.getElem?_eq_some_iff.1 BA.out).1 hne2).trans BA.out); replace HP := Aside0.mk (Kd.R_after (ok := fun _ => True) HP.out hg hat); replace HB := Aside0.mk hb; replace HO := Aside0.mk ho; obtain ⟨An, cn, evn⟩ := Kd.R_slice HO.out; obtain rfl : v1 = Value.slice An (out.length + 1) cn := evn.trans (by rw [List.length_append]; rfl); clear evn; clear ho hb hg hat hne1 hne2 hs0 hv0; have hv0 := (show _ = some v from (blk_cell BO.out 0).trans rfl); have hf0 := blk_frozen BO.out 0))
                    go_roundg k1
                    case measure => have := HK.out; omega
                    case rel => exact ⟨_, _, _, by first | rfl | (simp [*]; done), H', ⟨by have := HK.out; omega⟩, ⟨blk_put (cs := #[v]) BO.out 0 _ rfl⟩, ⟨blk_far BA.out hne _⟩, ⟨Kd.R_set HO.out BO.out (by decide) 0 _⟩, ⟨Kd.R_set HP.out BO.out (by decide) 0 _⟩, ⟨HB.out.setCell (p := ⟨bo, 0, none⟩) hlo _⟩⟩
                  · rw [if_neg c9] at H
                    exact absurd H (by simp)
              | true =>
                rw [if_pos (show (true && true) = true from rfl)] at H
                have H' := Aside0.mk H
                clear H
                go_wp2_with (first | (go_at_fn 10; refine (search_Expand.calls _ _ _ _ _ _ A1.out).mono ?_; rintro e w1 ⟨rfl, hb⟩; replace HO := Aside0.mk (Kd.R_below HO.out hb); replace HP := Aside0.mk (Kd.R_below HP.out hb); replace BA := Aside0.mk ((hb.block ba (Array.getElem?_eq_some_iff.1 BA.out).1).trans BA.out); replace BO := Aside0.mk ((hb.block bo (Array.getElem?_eq_some_iff.1 BO.out).1).trans BO.out); replace HB := Aside0.mk (HB.out.trans (hb.mono HB.out.size)); clear hb hs0 hv0; have hs0 := (show _ = some (Value.bool true) from (blk_cell BA.out 3).trans rfl); have hv0 := (show _ = some v from (blk_cell BO.out 0).trans rfl)))
                go_roundg k1
                case measure => have := HK.out; omega
                case rel => exact ⟨v, out, _, by first | rfl | (simp [*]; done), H', ⟨by have := HK.out; omega⟩, BO, BA, HO, HP, HB⟩
        · rw [if_neg c2] at H
          exact absurd H (by simp)
      · rw [if_neg c1] at H
        have c1b : decide (x16 < (ps.length : Int)) = false := decide_eq_false c1
        obtain rfl := Option.some.inj H
        go_wp2
        go_end0
        exact ⟨rfl, v, BO.out, Kd.R_mono HO.out (fun _ _ => trivial), HB.out, BA.out⟩

def search_Dirs.colon : Nat → Bool := fun r => decide (r = 58)
def search_Dirs.semi : Nat → Bool := fun r => decide (r = 58) || decide (r = 59)
theorem search_Dirs.isColon (w : World) : PredAt Try.prog 20 #[] encR search_Dirs.colon w := fun W r _ => by
  unfold FnGives search_Dirs.colon
  have z1 : ((r : Int) == 58) = decide (r = 58) := by
    by_cases h : r = 58
    · subst h; rfl
    · rw [decide_eq_false h]; exact beq_eq_false_iff_ne.mpr (by omega)
  go_enter Try.func20, Try.ntmps20
  go_wp2
  go_ret
  exact ⟨by first | rfl | (simp [z1]; done) | (simp; omega), 0, rfl⟩
theorem search_Dirs.isSemi (w : World) : PredAt Try.prog 21 #[] encR search_Dirs.semi w := fun W r _ => by
  unfold FnGives search_Dirs.semi
  by_cases h1 : r = 58
  · subst h1
    go_enter Try.func21, Try.ntmps21
    go_wp2
    go_ret
    exact ⟨by first | rfl | simp, 0, rfl⟩
  · have z1 : ((r : Int) == 58) = false := beq_eq_false_iff_ne.mpr (by omega)
    have z2 : ((r : Int) = 58) = False := eq_false (by omega)
    by_cases h2 : r = 59
    · subst h2
      go_enter Try.func21, Try.ntmps21
      go_wp2
      go_ret
      exact ⟨by first | rfl | simp, 0, rfl⟩
    · have z3 : ((r : Int) == 59) = false := beq_eq_false_iff_ne.mpr (by omega)
      have z4 : ((r : Int) = 59) = False := eq_false (by omega)
      go_enter Try.func21, Try.ntmps21
      go_wp2
      go_ret
      exact ⟨by first | rfl | (simp [h1, h2]; done) | (simp [h1, h2]; omega), 0, rfl⟩
theorem search_Dirs.two (w : World) (oa ob : Obj) : ((w.alloc oa).alloc ob).heap[w.heap.size]? = some oa ∧ ((w.alloc oa).alloc ob).heap[w.heap.size + 1]? = some ob := by
  constructor
  · exact (Lib.alloc_old (w.alloc oa) ob w.heap.size (by show _ < (w.heap.push oa).size; rw [Array.size_push]; omega)).trans (by show (w.heap.push oa)[w.heap.size]? = _; simp)
  · show ((w.heap.push oa).push ob)[w.heap.size + 1]? = some ob
    have h : (w.heap.push oa).size = w.heap.size + 1 := Array.size_push ..
    rw [← h]
    exact Array.getElem?_push_size

end Go.Proofs.Ytjbndfogjmfbhaa.PSearchDirs
