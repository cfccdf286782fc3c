/- Printed by this session's own program (wip/tools: a turn of the kit's print) out of the translation: each Go function that the law reaches as a Lean function, and that the machine's call comes to what that function tells; no condition but what each theorem names. -/
import Derived.Test.YtjbndfogjmfbhaaPDynOrdersx0
import Derived.Test.YtjbndfogjmfbhaaPDynOrdersx1
namespace Go.Proofs.Ytjbndfogjmfbhaa.PDynOrders
open Go.RowKit Go.Proofs.YtjbndfogjmfbhaaW.PrintWords Go.Proofs.YtjbndfogjmfbhaaW.PrintLast Go.Proofs.YtjbndfogjmfbhaaW.PrintMore Go.Proofs.YtjbndfogjmfbhaaX
attribute [local go_sem] max2_int min2_int max_two min_two max_three min_three max_four min_four   -- for this text's walks alone
set_option linter.unusedVariables false
set_option linter.unusedSimpArgs false

/-! ### dyn_sound: function 44 (by hand) -/
/-- Whether a number that may be there is another one. -/
def dyn_sound.ok1 (o : Option Int) (s : Int) : Bool := match o with | none => true | some v => v == s
def dyn_sound.sz (f : Int → Option Int) : Bool := dyn_sound.ok1 (f 20) 7 && (dyn_sound.ok1 (f 9) 24 && (dyn_sound.ok1 (f 11) 24 && dyn_sound.ok1 (f 37) 8))
def dyn_sound.pr (g : Nat → Int) : Nat → Bool
  | 0 => (g 6 == 0) == (g 7 == 0)
  | 1 => (g 17 == 0) == (g 1 == 0)
  | 2 => (g 23 == 0) == (g 24 == 0)
  | 3 => (g 18 == 0) == (g 20 == 0)
  | 4 => (g 19 == 0) == (g 21 == 0)
  | 5 => (g 28 == 0) == (g 29 == 0)
  | 6 => (g 30 == 0) == (g 31 == 0)
  | _ => true
def dyn_sound.all (g : Nat → Int) : Bool := dyn_sound.pr g 0 && (dyn_sound.pr g 1 && (dyn_sound.pr g 2 && (dyn_sound.pr g 3 && (dyn_sound.pr g 4 && (dyn_sound.pr g 5 && (dyn_sound.pr g 6))))))
def dyn_sound.ver (g : Nat → Int) : Bool := (g 28 != 0 || g 30 != 0) && g 26 == 0
def dyn_sound.last (g : Nat → Int) : Bool := g 4 != 0 && (g 8 != 0 && (g 5 != 0 && (g 3 != 0 || g 25 != 0)))
def dyn_sound.b (f : Int → Option Int) (g : Nat → Int) : Bool := dyn_sound.sz f && (dyn_sound.all g && (!dyn_sound.ver g && dyn_sound.last g))
def dyn_sound.T4 : DataW Unit := .map [(.int .u64 9, .lit (.int .u64 24)), (.int .u64 11, .lit (.int .u64 24)), (.int .u64 20, .lit (.int .u64 7)), (.int .u64 37, .lit (.int .u64 8))]
theorem dyn_sound.T4_eq : ((((DataW.map []).put (.int .u64 20) (.lit (.int .u64 7))).put (.int .u64 9) (.lit (.int .u64 24))).put (.int .u64 11) (.lit (.int .u64 24))).put (.int .u64 37) (.lit (.int .u64 8)) = dyn_sound.T4 := by kernel_rfl
def dyn_sound.tab (x c : Int) : Prop := (x = 9 ∧ c = 24) ∨ (x = 11 ∧ c = 24) ∨ (x = 20 ∧ c = 7) ∨ (x = 37 ∧ c = 8)
theorem dyn_sound.T4_at {x c : Int} (h : Maps.has dyn_sound.T4 (.int .u64 x) = true) (hat : ∀ zd, dyn_sound.T4.atKey (.int .u64 x) zd = .lit (.int .u64 c)) : dyn_sound.tab x c := by
  have hx : x = 9 ∨ x = 11 ∨ x = 20 ∨ x = 37 := by
    unfold dyn_sound.T4 at h
    simp [Maps.has, Lit.sameKey] at h
    omega
  have h2 := hat .nil
  unfold dyn_sound.tab
  rcases hx with rfl | rfl | rfl | rfl
  · have e : dyn_sound.T4.atKey (.int .u64 9) .nil = .lit (.int .u64 24) := by kernel_rfl
    rw [e] at h2; cases h2; exact .inl ⟨rfl, rfl⟩
  · have e : dyn_sound.T4.atKey (.int .u64 11) .nil = .lit (.int .u64 24) := by kernel_rfl
    rw [e] at h2; cases h2; exact .inr (.inl ⟨rfl, rfl⟩)
  · have e : dyn_sound.T4.atKey (.int .u64 20) .nil = .lit (.int .u64 7) := by kernel_rfl
    rw [e] at h2; cases h2; exact .inr (.inr (.inl ⟨rfl, rfl⟩))
  · have e : dyn_sound.T4.atKey (.int .u64 37) .nil = .lit (.int .u64 8) := by kernel_rfl
    rw [e] at h2; cases h2; exact .inr (.inr (.inr ⟨rfl, rfl⟩))
theorem dyn_sound.T4_has {x c : Int} (h : dyn_sound.tab x c) : Maps.has dyn_sound.T4 (.int .u64 x) = true := by
  rcases h with ⟨rfl, rfl⟩ | ⟨rfl, rfl⟩ | ⟨rfl, rfl⟩ | ⟨rfl, rfl⟩ <;> kernel_rfl
theorem dyn_sound.sz_of (f : Int → Option Int) (h : ∀ x c, dyn_sound.tab x c → dyn_sound.ok1 (f x) c = true) : dyn_sound.sz f = true := by
  unfold dyn_sound.sz
  rw [h 20 7 (.inr (.inr (.inl ⟨rfl, rfl⟩))), h 9 24 (.inl ⟨rfl, rfl⟩), h 11 24 (.inr (.inl ⟨rfl, rfl⟩)), h 37 8 (.inr (.inr (.inr ⟨rfl, rfl⟩)))]
  rfl
theorem dyn_sound.sz_not (f : Int → Option Int) {x c : Int} (ht : dyn_sound.tab x c) (h : dyn_sound.ok1 (f x) c = false) (g : Nat → Int) : dyn_sound.b f g = false := by
  have : dyn_sound.sz f = false := by
    unfold dyn_sound.sz
    rcases ht with ⟨rfl, rfl⟩ | ⟨rfl, rfl⟩ | ⟨rfl, rfl⟩ | ⟨rfl, rfl⟩ <;> rw [h] <;> simp
  unfold dyn_sound.b
  rw [this, Bool.false_and]
theorem dyn_sound.pr_not (f : Int → Option Int) (g : Nat → Int) (i : Nat) (hi : i < 7) (h : dyn_sound.pr g i = false) : dyn_sound.b f g = false := by
  have : dyn_sound.all g = false := by
    unfold dyn_sound.all
    rcases (show i = 0 ∨ i = 1 ∨ i = 2 ∨ i = 3 ∨ i = 4 ∨ i = 5 ∨ i = 6 by omega) with rfl | rfl | rfl | rfl | rfl | rfl | rfl <;> rw [h] <;> simp
  unfold dyn_sound.b
  rw [this, Bool.false_and, Bool.and_false]
theorem dyn_sound.pr_all (g : Nat → Int) (h : ∀ i, i < 7 → dyn_sound.pr g i = true) : dyn_sound.all g = true := by
  unfold dyn_sound.all
  rw [h 0 (by omega), h 1 (by omega), h 2 (by omega), h 3 (by omega), h 4 (by omega), h 5 (by omega), h 6 (by omega)]
  rfl
theorem grow_keep {w w' : World} {row : Option Nat} {i : Nat} {o : Obj} (hg : w.grownBy w' row) (h : w.heap[i]? = some o) (hne : some i ≠ row) : w'.heap[i]? = some o :=
  (hg.block i (Array.getElem?_eq_some_iff.1 h).1 hne).trans h
theorem alloc_keep {w : World} {i : Nat} {x : Obj} (o : Obj) (h : w.heap[i]? = some x) : (w.alloc o).heap[i]? = some x :=
  ((MapKept.heap_alloc w o).2 i (Array.getElem?_eq_some_iff.1 h).1).trans h
theorem dyn_sound.last_not (f : Int → Option Int) (g : Nat → Int) (hv : dyn_sound.ver g = true) : dyn_sound.b f g = false := by
  unfold dyn_sound.b
  rw [hv, Bool.not_true, Bool.false_and, Bool.and_false, Bool.and_false]
theorem dyn_sound.last_is (f : Int → Option Int) (g : Nat → Int) (hs : dyn_sound.sz f = true) (ha : dyn_sound.all g = true) (hv : dyn_sound.ver g = false) : dyn_sound.b f g = dyn_sound.last g := by
  unfold dyn_sound.b
  rw [hs, ha, hv, Bool.not_false, Bool.true_and, Bool.true_and, Bool.true_and]
set_option maxHeartbeats 16000000 in
set_option maxRecDepth 100000 in
theorem dyn_sound.calls (v : Value) (g : Nat → Int) (q : Nat → Bool) (bm n : Nat) (f : Int → Option Int) (w : World) (hm : MapN Try.prog 36 36 w bm n f) :
    Calls Try.prog 44 #[.agg #[v, .int .u64 (g 1), .int .u64 (g 2), .int .u64 (g 3), .int .u64 (g 4), .int .u64 (g 5), .int .u64 (g 6), .int .u64 (g 7), .int .u64 (g 8), .int .u64 (g 9), .int .u64 (g 10), .int .u64 (g 11), .int .u64 (g 12), .int .u64 (g 13), .bool (q 14), .bool (q 15), .bool (q 16), .int .u64 (g 17), .int .u64 (g 18), .int .u64 (g 19), .int .u64 (g 20), .int .u64 (g 21), .int .u64 (g 22), .int .u64 (g 23), .int .u64 (g 24), .int .u64 (g 25), .int .u64 (g 26), .int .u64 (g 27), .int .u64 (g 28), .int .u64 (g 29), .int .u64 (g 30), .int .u64 (g 31), .bool (q 32), .bool (q 33), .bool (q 34), .bool (q 35), .bool (q 36)], .map (some bm)] w fun e w' => e = .returned (.bool (dyn_sound.b f g)) ∧ Below w.heap.size w w' := by
  have hu43 := Try.underlying43
  have hu36 := Try.underlying36
  have hu89 := Try.underlying89
  have hmm := @run_makeMap Try.prog
  have K36 := Maps.int_keyed hu36
  have zz : ∀ w : World, (zeroValue 36).run Try.prog w = .ok (.int .u64 0) w := fun w => by kernel_rfl
  have HB := Aside0.mk ((Below.refl w.heap.size w).alloc (Nat.le_refl _) (.cells #[v, .int .u64 (g 1), .int .u64 (g 2), .int .u64 (g 3), .int .u64 (g 4), .int .u64 (g 5), .int .u64 (g 6), .int .u64 (g 7), .int .u64 (g 8), .int .u64 (g 9), .int .u64 (g 10), .int .u64 (g 11), .int .u64 (g 12), .int .u64 (g 13), .bool (q 14), .bool (q 15), .bool (q 16), .int .u64 (g 17), .int .u64 (g 18), .int .u64 (g 19), .int .u64 (g 20), .int .u64 (g 21), .int .u64 (g 22), .int .u64 (g 23), .int .u64 (g 24), .int .u64 (g 25), .int .u64 (g 26), .int .u64 (g 27), .int .u64 (g 28), .int .u64 (g 29), .int .u64 (g 30), .int .u64 (g 31), .bool (q 32), .bool (q 33), .bool (q 34), .bool (q 35), .bool (q 36)] 43))
  have BA := Aside0.mk (show (w.alloc (.cells #[v, .int .u64 (g 1), .int .u64 (g 2), .int .u64 (g 3), .int .u64 (g 4), .int .u64 (g 5), .int .u64 (g 6), .int .u64 (g 7), .int .u64 (g 8), .int .u64 (g 9), .int .u64 (g 10), .int .u64 (g 11), .int .u64 (g 12), .int .u64 (g 13), .bool (q 14), .bool (q 15), .bool (q 16), .int .u64 (g 17), .int .u64 (g 18), .int .u64 (g 19), .int .u64 (g 20), .int .u64 (g 21), .int .u64 (g 22), .int .u64 (g 23), .int .u64 (g 24), .int .u64 (g 25), .int .u64 (g 26), .int .u64 (g 27), .int .u64 (g 28), .int .u64 (g 29), .int .u64 (g 30), .int .u64 (g 31), .bool (q 32), .bool (q 33), .bool (q 34), .bool (q 35), .bool (q 36)] 43)).heap[w.heap.size]? = some (.cells #[v, .int .u64 (g 1), .int .u64 (g 2), .int .u64 (g 3), .int .u64 (g 4), .int .u64 (g 5), .int .u64 (g 6), .int .u64 (g 7), .int .u64 (g 8), .int .u64 (g 9), .int .u64 (g 10), .int .u64 (g 11), .int .u64 (g 12), .int .u64 (g 13), .bool (q 14), .bool (q 15), .bool (q 16), .int .u64 (g 17), .int .u64 (g 18), .int .u64 (g 19), .int .u64 (g 20), .int .u64 (g 21), .int .u64 (g 22), .int .u64 (g 23), .int .u64 (g 24), .int .u64 (g 25), .int .u64 (g 26), .int .u64 (g 27), .int .u64 (g 28), .int .u64 (g 29), .int .u64 (g 30), .int .u64 (g 31), .bool (q 32), .bool (q 33), .bool (q 34), .bool (q 35), .bool (q 36)] 43 (0, 0)) from (MapKept.heap_alloc w _).1)
  have HM := Aside0.mk (hm.grown (World.grownBy_alloc w (.cells #[v, .int .u64 (g 1), .int .u64 (g 2), .int .u64 (g 3), .int .u64 (g 4), .int .u64 (g 5), .int .u64 (g 6), .int .u64 (g 7), .int .u64 (g 8), .int .u64 (g 9), .int .u64 (g 10), .int .u64 (g 11), .int .u64 (g 12), .int .u64 (g 13), .bool (q 14), .bool (q 15), .bool (q 16), .int .u64 (g 17), .int .u64 (g 18), .int .u64 (g 19), .int .u64 (g 20), .int .u64 (g 21), .int .u64 (g 22), .int .u64 (g 23), .int .u64 (g 24), .int .u64 (g 25), .int .u64 (g 26), .int .u64 (g 27), .int .u64 (g 28), .int .u64 (g 29), .int .u64 (g 30), .int .u64 (g 31), .bool (q 32), .bool (q 33), .bool (q 34), .bool (q 35), .bool (q 36)] 43) none) (by simp))
  clear hm
  have HS := Aside0.mk (show w.heap.size < (w.alloc (.cells #[v, .int .u64 (g 1), .int .u64 (g 2), .int .u64 (g 3), .int .u64 (g 4), .int .u64 (g 5), .int .u64 (g 6), .int .u64 (g 7), .int .u64 (g 8), .int .u64 (g 9), .int .u64 (g 10), .int .u64 (g 11), .int .u64 (g 12), .int .u64 (g 13), .bool (q 14), .bool (q 15), .bool (q 16), .int .u64 (g 17), .int .u64 (g 18), .int .u64 (g 19), .int .u64 (g 20), .int .u64 (g 21), .int .u64 (g 22), .int .u64 (g 23), .int .u64 (g 24), .int .u64 (g 25), .int .u64 (g 26), .int .u64 (g 27), .int .u64 (g 28), .int .u64 (g 29), .int .u64 (g 30), .int .u64 (g 31), .bool (q 32), .bool (q 33), .bool (q 34), .bool (q 35), .bool (q 36)] 43)).heap.size from (Array.getElem?_eq_some_iff.1 BA.out).1)
  go_enter Try.func44, Try.ntmps44
  go_upto_region 1 with (fail)
  generalize w.alloc (.cells #[v, .int .u64 (g 1), .int .u64 (g 2), .int .u64 (g 3), .int .u64 (g 4), .int .u64 (g 5), .int .u64 (g 6), .int .u64 (g 7), .int .u64 (g 8), .int .u64 (g 9), .int .u64 (g 10), .int .u64 (g 11), .int .u64 (g 12), .int .u64 (g 13), .bool (q 14), .bool (q 15), .bool (q 16), .int .u64 (g 17), .int .u64 (g 18), .int .u64 (g 19), .int .u64 (g 20), .int .u64 (g 21), .int .u64 (g 22), .int .u64 (g 23), .int .u64 (g 24), .int .u64 (g 25), .int .u64 (g 26), .int .u64 (g 27), .int .u64 (g 28), .int .u64 (g 29), .int .u64 (g 30), .int .u64 (g 31), .bool (q 32), .bool (q 33), .bool (q 34), .bool (q 35), .bool (q 36)] 43) = wi at BA HB HM HS ⊢
  have own0 := World.ownsMap_made (H := Unit) wi Try.prog 36 (plainElem Try.prog 36)
  have ml : ∀ i : Nat, i < 8 → i < maxLen := fun i h => by unfold maxLen; omega
  have zk0 : keyOf Try.prog 36 (.int .u64 20) = some (.int .u64 20) := Maps.keyOf_int_mk hu36 (by decide)
  have zv0 : plainElem (H := Unit) Try.prog 36 (.int .u64 7) = some (.lit (.int .u64 7), []) := plainElem_int hu36 (by decide)
  have zk1 : keyOf Try.prog 36 (.int .u64 9) = some (.int .u64 9) := Maps.keyOf_int_mk hu36 (by decide)
  have zv1 : plainElem (H := Unit) Try.prog 36 (.int .u64 24) = some (.lit (.int .u64 24), []) := plainElem_int hu36 (by decide)
  have zk2 : keyOf Try.prog 36 (.int .u64 11) = some (.int .u64 11) := Maps.keyOf_int_mk hu36 (by decide)
  have zv2 : plainElem (H := Unit) Try.prog 36 (.int .u64 24) = some (.lit (.int .u64 24), []) := plainElem_int hu36 (by decide)
  have zk3 : keyOf Try.prog 36 (.int .u64 37) = some (.int .u64 37) := Maps.keyOf_int_mk hu36 (by decide)
  have zv3 : plainElem (H := Unit) Try.prog 36 (.int .u64 8) = some (.lit (.int .u64 8), []) := plainElem_int hu36 (by decide)
  go_wp2_with (first | (show wpList _ _ _ ((Oper.mk _ (Op.insert _ _ _ _) _ _ _ _) :: _) _ _; refine wpList_insert_own _ rfl _ _ _ 89 rfl 36 36 K36 hu89 (plainElem (H := Unit) Try.prog 36) wi.heap.size 0 _ rfl own0 (ml 0 (by omega)) _ _ _ rfl rfl zk0 _ [] zv0 ?_; intro w1 own1 gr1) | (show wpList _ _ _ ((Oper.mk _ (Op.insert _ _ _ _) _ _ _ _) :: _) _ _; refine wpList_insert_own _ rfl _ _ _ 89 rfl 36 36 K36 hu89 (plainElem (H := Unit) Try.prog 36) wi.heap.size 1 _ rfl own1 (ml 1 (by omega)) _ _ _ rfl rfl zk1 _ [] zv1 ?_; intro w2 own2 gr2) | (show wpList _ _ _ ((Oper.mk _ (Op.insert _ _ _ _) _ _ _ _) :: _) _ _; refine wpList_insert_own _ rfl _ _ _ 89 rfl 36 36 K36 hu89 (plainElem (H := Unit) Try.prog 36) wi.heap.size 2 _ rfl own2 (ml 2 (by omega)) _ _ _ rfl rfl zk2 _ [] zv2 ?_; intro w3 own3 gr3) | (show wpList _ _ _ ((Oper.mk _ (Op.insert _ _ _ _) _ _ _ _) :: _) _ _; refine wpList_insert_own _ rfl _ _ _ 89 rfl 36 36 K36 hu89 (plainElem (H := Unit) Try.prog 36) wi.heap.size 3 _ rfl own3 (ml 3 (by omega)) _ _ _ rfl rfl zk3 _ [] zv3 ?_; intro w4 own4 gr4) | (at_range; refine wpList_range_own _ rfl _ 89 rfl 36 36 K36 hu89 _ wi.heap.size 4 _ rfl own4 ?_; intro w5 rg5 gr5 hs5) | go_in)
  rw [dyn_sound.T4_eq] at rg5
  have hlt := HS.out
  have gr0 := World.grownBy_alloc wi (.map #[] 0) none
  have sz0 : wi.heap.size < (wi.alloc (.map #[] 0)).heap.size := by simp
  have hbm := HM.out.lt
  replace HB := Aside0.mk (HB.out.grown gr0 HB.out.size (fun k e => by cases e))
  replace HB := Aside0.mk (HB.out.grown gr1 HB.out.size (fun k e => by cases e; exact Nat.le_of_lt hlt))
  replace HB := Aside0.mk (HB.out.grown gr2 HB.out.size (fun k e => by cases e; exact Nat.le_of_lt hlt))
  replace HB := Aside0.mk (HB.out.grown gr3 HB.out.size (fun k e => by cases e; exact Nat.le_of_lt hlt))
  replace HB := Aside0.mk (HB.out.grown gr4 HB.out.size (fun k e => by cases e; exact Nat.le_of_lt hlt))
  replace HB := Aside0.mk (HB.out.grown gr5 HB.out.size (fun k e => by cases e))
  replace BA := Aside0.mk (grow_keep gr0 BA.out (by simp))
  replace HM := Aside0.mk (HM.out.grown gr0 (by simp))
  replace BA := Aside0.mk (grow_keep gr1 BA.out (by intro e; have := Option.some.inj e; omega))
  replace HM := Aside0.mk (HM.out.grown gr1 (by intro e; have := Option.some.inj e; omega))
  replace BA := Aside0.mk (grow_keep gr2 BA.out (by intro e; have := Option.some.inj e; omega))
  replace HM := Aside0.mk (HM.out.grown gr2 (by intro e; have := Option.some.inj e; omega))
  replace BA := Aside0.mk (grow_keep gr3 BA.out (by intro e; have := Option.some.inj e; omega))
  replace HM := Aside0.mk (HM.out.grown gr3 (by intro e; have := Option.some.inj e; omega))
  replace BA := Aside0.mk (grow_keep gr4 BA.out (by intro e; have := Option.some.inj e; omega))
  replace HM := Aside0.mk (HM.out.grown gr4 (by intro e; have := Option.some.inj e; omega))
  replace BA := Aside0.mk (grow_keep gr5 BA.out (by simp))
  replace HM := Aside0.mk (HM.out.grown gr5 (by simp))
  have RG := Aside0.mk (rg5)
  have hr : w.heap.size < w4.heap.size := Nat.lt_of_lt_of_le hlt (Nat.le_trans gr0.size (Nat.le_trans gr1.size (Nat.le_trans gr2.size (Nat.le_trans gr3.size gr4.size))))
  have hr2 : bm < w4.heap.size := Nat.lt_of_lt_of_le hbm (Nat.le_trans gr0.size (Nat.le_trans gr1.size (Nat.le_trans gr2.size (Nat.le_trans gr3.size gr4.size))))
  clear own0 own1 own2 own3 own4 gr0 gr1 gr2 gr3 gr4 gr5 rg5 zk0 zk1 zk2 zk3 zv0 zv1 zv2 zv3 sz0
  generalize w4.heap.size = rr at RG hr hr2 ⊢
  go_loopg [5] (Maps.size dyn_sound.T4) (fun kq v5 wr => ∃ left : Lit → Bool, Aside0 (wr.ranges Try.prog 36 (plainElem (H := Unit) Try.prog 36) wi.heap.size rr 4 dyn_sound.T4 left kq) ∧ Aside0 (∀ z, left z = true → Maps.has dyn_sound.T4 z = true) ∧ Aside0 (∀ x c, dyn_sound.tab x c → left (.int .u64 x) = false → dyn_sound.ok1 (f x) c = true) ∧ Aside0 (wr.heap[w.heap.size]? = some (.cells #[v, .int .u64 (g 1), .int .u64 (g 2), .int .u64 (g 3), .int .u64 (g 4), .int .u64 (g 5), .int .u64 (g 6), .int .u64 (g 7), .int .u64 (g 8), .int .u64 (g 9), .int .u64 (g 10), .int .u64 (g 11), .int .u64 (g 12), .int .u64 (g 13), .bool (q 14), .bool (q 15), .bool (q 16), .int .u64 (g 17), .int .u64 (g 18), .int .u64 (g 19), .int .u64 (g 20), .int .u64 (g 21), .int .u64 (g 22), .int .u64 (g 23), .int .u64 (g 24), .int .u64 (g 25), .int .u64 (g 26), .int .u64 (g 27), .int .u64 (g 28), .int .u64 (g 29), .int .u64 (g 30), .int .u64 (g 31), .bool (q 32), .bool (q 33), .bool (q 34), .bool (q 35), .bool (q 36)] 43 (0, 0))) ∧ Aside0 (MapN Try.prog 36 36 wr bm n f) ∧ Aside0 (Below w.heap.size w wr))
  case atStart => exact ⟨_, RG, ⟨fun z h => h⟩, ⟨fun x c ht h => absurd (dyn_sound.T4_has ht) (by rw [h]; decide)⟩, BA, HM, HB⟩
  case round =>
    clear BA HM HB RG
    obtain ⟨left, RG, HL, HO, BA, HM, HB⟩ := hrel
    go_wp2_with (first | (at_next; refine wpList_next_ranges_ii _ rfl _ rfl 36 36 .u64 .u64 K36 hu36 hu36 wi.heap.size rr 4 _ _ _ rfl RG.out ?_ ?_) | go_in)
    · intro _ hl0
      have hsz : dyn_sound.sz f = true := dyn_sound.sz_of f (fun x c ht => HO.out x c ht (hl0 _))
      clear HL HO RG HM hl0 hr hr2
      have HZ := Aside0.mk (hsz)
      clear hsz
      have hc1 := (show _ = some (Value.int .u64 (g 1)) from (blk_cell BA.out 1).trans rfl)
      have hc3 := (show _ = some (Value.int .u64 (g 3)) from (blk_cell BA.out 3).trans rfl)
      have hc4 := (show _ = some (Value.int .u64 (g 4)) from (blk_cell BA.out 4).trans rfl)
      have hc5 := (show _ = some (Value.int .u64 (g 5)) from (blk_cell BA.out 5).trans rfl)
      have hc6 := (show _ = some (Value.int .u64 (g 6)) from (blk_cell BA.out 6).trans rfl)
      have hc7 := (show _ = some (Value.int .u64 (g 7)) from (blk_cell BA.out 7).trans rfl)
      have hc8 := (show _ = some (Value.int .u64 (g 8)) from (blk_cell BA.out 8).trans rfl)
      have hc17 := (show _ = some (Value.int .u64 (g 17)) from (blk_cell BA.out 17).trans rfl)
      have hc18 := (show _ = some (Value.int .u64 (g 18)) from (blk_cell BA.out 18).trans rfl)
      have hc19 := (show _ = some (Value.int .u64 (g 19)) from (blk_cell BA.out 19).trans rfl)
      have hc20 := (show _ = some (Value.int .u64 (g 20)) from (blk_cell BA.out 20).trans rfl)
      have hc21 := (show _ = some (Value.int .u64 (g 21)) from (blk_cell BA.out 21).trans rfl)
      have hc23 := (show _ = some (Value.int .u64 (g 23)) from (blk_cell BA.out 23).trans rfl)
      have hc24 := (show _ = some (Value.int .u64 (g 24)) from (blk_cell BA.out 24).trans rfl)
      have hc25 := (show _ = some (Value.int .u64 (g 25)) from (blk_cell BA.out 25).trans rfl)
      have hc26 := (show _ = some (Value.int .u64 (g 26)) from (blk_cell BA.out 26).trans rfl)
      have hc28 := (show _ = some (Value.int .u64 (g 28)) from (blk_cell BA.out 28).trans rfl)
      have hc29 := (show _ = some (Value.int .u64 (g 29)) from (blk_cell BA.out 29).trans rfl)
      have hc30 := (show _ = some (Value.int .u64 (g 30)) from (blk_cell BA.out 30).trans rfl)
      have hc31 := (show _ = some (Value.int .u64 (g 31)) from (blk_cell BA.out 31).trans rfl)
      go_wp2
      replace HB := Aside0.mk (HB.out.alloc HB.out.size (.cells #[Value.int .u64 (g 6), Value.int .u64 (g 7), Value.int .u64 (g 17), Value.int .u64 (g 1), Value.int .u64 (g 23), Value.int .u64 (g 24), Value.int .u64 (g 18), Value.int .u64 (g 20), Value.int .u64 (g 19), Value.int .u64 (g 21), Value.int .u64 (g 28), Value.int .u64 (g 29), Value.int .u64 (g 30), Value.int .u64 (g 31)] 100))
      have BP := Aside0.mk (show (wr.alloc (.cells #[Value.int .u64 (g 6), Value.int .u64 (g 7), Value.int .u64 (g 17), Value.int .u64 (g 1), Value.int .u64 (g 23), Value.int .u64 (g 24), Value.int .u64 (g 18), Value.int .u64 (g 20), Value.int .u64 (g 19), Value.int .u64 (g 21), Value.int .u64 (g 28), Value.int .u64 (g 29), Value.int .u64 (g 30), Value.int .u64 (g 31)] 100)).heap[wr.heap.size]? = some (.cells #[Value.int .u64 (g 6), Value.int .u64 (g 7), Value.int .u64 (g 17), Value.int .u64 (g 1), Value.int .u64 (g 23), Value.int .u64 (g 24), Value.int .u64 (g 18), Value.int .u64 (g 20), Value.int .u64 (g 19), Value.int .u64 (g 21), Value.int .u64 (g 28), Value.int .u64 (g 29), Value.int .u64 (g 30), Value.int .u64 (g 31)] 100 (0, 0)) from (MapKept.heap_alloc wr _).1)
      have HS2 := Aside0.mk (show w.heap.size < wr.heap.size from (Array.getElem?_eq_some_iff.1 BA.out).1)
      replace BA := Aside0.mk (((MapKept.heap_alloc wr (.cells #[Value.int .u64 (g 6), Value.int .u64 (g 7), Value.int .u64 (g 17), Value.int .u64 (g 1), Value.int .u64 (g 23), Value.int .u64 (g 24), Value.int .u64 (g 18), Value.int .u64 (g 20), Value.int .u64 (g 19), Value.int .u64 (g 21), Value.int .u64 (g 28), Value.int .u64 (g 29), Value.int .u64 (g 30), Value.int .u64 (g 31)] 100)).2 _ HS2.out).trans BA.out)
      clear hc1 hc3 hc4 hc5 hc6 hc7 hc8 hc17 hc18 hc19 hc20 hc21 hc23 hc24 hc25 hc26 hc28 hc29 hc30 hc31
      generalize wr.alloc (.cells #[Value.int .u64 (g 6), Value.int .u64 (g 7), Value.int .u64 (g 17), Value.int .u64 (g 1), Value.int .u64 (g 23), Value.int .u64 (g 24), Value.int .u64 (g 18), Value.int .u64 (g 20), Value.int .u64 (g 19), Value.int .u64 (g 21), Value.int .u64 (g 28), Value.int .u64 (g 29), Value.int .u64 (g 30), Value.int .u64 (g 31)] 100) = wp at BA BP HB ⊢
      generalize wr.heap.size = bp at BP HS2 ⊢
      go_loopg [68] 7 (fun kq v68 wq => ∃ (i : Nat) (x68 : Int), v68 = .int .i64 x68 ∧ Aside0 (x68 = (i : Int)) ∧ Aside0 (i + kq = 7) ∧ Aside0 (∀ j, j < i → dyn_sound.pr g j = true) ∧ Aside0 (wq.heap[w.heap.size]? = some (.cells #[v, .int .u64 (g 1), .int .u64 (g 2), .int .u64 (g 3), .int .u64 (g 4), .int .u64 (g 5), .int .u64 (g 6), .int .u64 (g 7), .int .u64 (g 8), .int .u64 (g 9), .int .u64 (g 10), .int .u64 (g 11), .int .u64 (g 12), .int .u64 (g 13), .bool (q 14), .bool (q 15), .bool (q 16), .int .u64 (g 17), .int .u64 (g 18), .int .u64 (g 19), .int .u64 (g 20), .int .u64 (g 21), .int .u64 (g 22), .int .u64 (g 23), .int .u64 (g 24), .int .u64 (g 25), .int .u64 (g 26), .int .u64 (g 27), .int .u64 (g 28), .int .u64 (g 29), .int .u64 (g 30), .int .u64 (g 31), .bool (q 32), .bool (q 33), .bool (q 34), .bool (q 35), .bool (q 36)] 43 (0, 0))) ∧ Aside0 (wq.heap[bp]? = some (.cells #[Value.int .u64 (g 6), Value.int .u64 (g 7), Value.int .u64 (g 17), Value.int .u64 (g 1), Value.int .u64 (g 23), Value.int .u64 (g 24), Value.int .u64 (g 18), Value.int .u64 (g 20), Value.int .u64 (g 19), Value.int .u64 (g 21), Value.int .u64 (g 28), Value.int .u64 (g 29), Value.int .u64 (g 30), Value.int .u64 (g 31)] 100 (0, 0))) ∧ Aside0 (Below w.heap.size w wq))
      case atStart => exact ⟨0, 0, rfl, ⟨rfl⟩, ⟨rfl⟩, ⟨fun j hj => absurd hj (Nat.not_lt_zero j)⟩, BA, BP, HB⟩
      case round =>
        clear BA BP HB
        obtain ⟨i, x68, rfl, HX, HI, HP, BA, BP, HB⟩ := hrel
        have hi7 : i = 0 ∨ i = 1 ∨ i = 2 ∨ i = 3 ∨ i = 4 ∨ i = 5 ∨ i = 6 ∨ i = 7 := by have := HI.out; omega
        rcases hi7 with rfl | rfl | rfl | rfl | rfl | rfl | rfl | rfl
        · obtain rfl : x68 = 0 := HX.out
          have hp0 := (show _ = some (Value.int .u64 (g 6)) from (blk_cell BP.out 0).trans rfl)
          have hp1 := (show _ = some (Value.int .u64 (g 7)) from (blk_cell BP.out 1).trans rfl)
          cases ha : (g 6 == 0) <;> cases hb : (g 7 == 0)
          · have hpr : dyn_sound.pr g 0 = true := by show ((g 6 == 0) == (g 7 == 0)) = _; rw [ha, hb]; rfl
            go_wp2
            go_roundg (7 - 1)
            case measure => have := HI.out; omega
            case rel => exact ⟨1, 1, rfl, ⟨rfl⟩, ⟨rfl⟩, ⟨fun j hj => by rcases (show j < 0 ∨ j = 0 by omega) with h | rfl; exact HP.out j h; exact hpr⟩, ⟨alloc_keep _ BA.out⟩, ⟨alloc_keep _ BP.out⟩, ⟨HB.out.alloc HB.out.size _⟩⟩
          · have hpr : dyn_sound.pr g 0 = false := by show ((g 6 == 0) == (g 7 == 0)) = _; rw [ha, hb]; rfl
            go_wp2
            go_ret
            exact ⟨by rw [dyn_sound.pr_not f g 0 (by omega) hpr]; rfl, HB.out.alloc HB.out.size _⟩
          · have hpr : dyn_sound.pr g 0 = false := by show ((g 6 == 0) == (g 7 == 0)) = _; rw [ha, hb]; rfl
            go_wp2
            go_ret
            exact ⟨by rw [dyn_sound.pr_not f g 0 (by omega) hpr]; rfl, HB.out.alloc HB.out.size _⟩
          · have hpr : dyn_sound.pr g 0 = true := by show ((g 6 == 0) == (g 7 == 0)) = _; rw [ha, hb]; rfl
            go_wp2
            go_roundg (7 - 1)
            case measure => have := HI.out; omega
            case rel => exact ⟨1, 1, rfl, ⟨rfl⟩, ⟨rfl⟩, ⟨fun j hj => by rcases (show j < 0 ∨ j = 0 by omega) with h | rfl; exact HP.out j h; exact hpr⟩, ⟨alloc_keep _ BA.out⟩, ⟨alloc_keep _ BP.out⟩, ⟨HB.out.alloc HB.out.size _⟩⟩
        · obtain rfl : x68 = 1 := HX.out
          have hp0 := (show _ = some (Value.int .u64 (g 17)) from (blk_cell BP.out 2).trans rfl)
          have hp1 := (show _ = some (Value.int .u64 (g 1)) from (blk_cell BP.out 3).trans rfl)
          cases ha : (g 17 == 0) <;> cases hb : (g 1 == 0)
          · have hpr : dyn_sound.pr g 1 = true := by show ((g 17 == 0) == (g 1 == 0)) = _; rw [ha, hb]; rfl
            go_wp2
            go_roundg (7 - 2)
            case measure => have := HI.out; omega
            case rel => exact ⟨2, 2, rfl, ⟨rfl⟩, ⟨rfl⟩, ⟨fun j hj => by rcases (show j < 1 ∨ j = 1 by omega) with h | rfl; exact HP.out j h; exact hpr⟩, ⟨alloc_keep _ BA.out⟩, ⟨alloc_keep _ BP.out⟩, ⟨HB.out.alloc HB.out.size _⟩⟩
          · have hpr : dyn_sound.pr g 1 = false := by show ((g 17 == 0) == (g 1 == 0)) = _; rw [ha, hb]; rfl
            go_wp2
            go_ret
            exact ⟨by rw [dyn_sound.pr_not f g 1 (by omega) hpr]; rfl, HB.out.alloc HB.out.size _⟩
          · have hpr : dyn_sound.pr g 1 = false := by show ((g 17 == 0) == (g 1 == 0)) = _; rw [ha, hb]; rfl
            go_wp2
            go_ret
            exact ⟨by rw [dyn_sound.pr_not f g 1 (by omega) hpr]; rfl, HB.out.alloc HB.out.size _⟩
          · have hpr : dyn_sound.pr g 1 = true := by show ((g 17 == 0) == (g 1 == 0)) = _; rw [ha, hb]; rfl
            go_wp2
            go_roundg (7 - 2)
            case measure => have := HI.out; omega
            case rel => exact ⟨2, 2, rfl, ⟨rfl⟩, ⟨rfl⟩, ⟨fun j hj => by rcases (show j < 1 ∨ j = 1 by omega) with h | rfl; exact HP.out j h; exact hpr⟩, ⟨alloc_keep _ BA.out⟩, ⟨alloc_keep _ BP.out⟩, ⟨HB.out.alloc HB.out.size _⟩⟩
        · obtain rfl : x68 = 2 := HX.out
          have hp0 := (show _ = some (Value.int .u64 (g 23)) from (blk_cell BP.out 4).trans rfl)
          have hp1 := (show _ = some (Value.int .u64 (g 24)) from (blk_cell BP.out 5).trans rfl)
          cases ha : (g 23 == 0) <;> cases hb : (g 24 == 0)
          · have hpr : dyn_sound.pr g 2 = true := by show ((g 23 == 0) == (g 24 == 0)) = _; rw [ha, hb]; rfl
            go_wp2
            go_roundg (7 - 3)
            case measure => have := HI.out; omega
            case rel => exact ⟨3, 3, rfl, ⟨rfl⟩, ⟨rfl⟩, ⟨fun j hj => by rcases (show j < 2 ∨ j = 2 by omega) with h | rfl; exact HP.out j h; exact hpr⟩, ⟨alloc_keep _ BA.out⟩, ⟨alloc_keep _ BP.out⟩, ⟨HB.out.alloc HB.out.size _⟩⟩
          · have hpr : dyn_sound.pr g 2 = false := by show ((g 23 == 0) == (g 24 == 0)) = _; rw [ha, hb]; rfl
            go_wp2
            go_ret
            exact ⟨by rw [dyn_sound.pr_not f g 2 (by omega) hpr]; rfl, HB.out.alloc HB.out.size _⟩
          · have hpr : dyn_sound.pr g 2 = false := by show ((g 23 == 0) == (g 24 == 0)) = _; rw [ha, hb]; rfl
            go_wp2
            go_ret
            exact ⟨by rw [dyn_sound.pr_not f g 2 (by omega) hpr]; rfl, HB.out.alloc HB.out.size _⟩
          · have hpr : dyn_sound.pr g 2 = true := by show ((g 23 == 0) == (g 24 == 0)) = _; rw [ha, hb]; rfl
            go_wp2
            go_roundg (7 - 3)
            case measure => have := HI.out; omega
            case rel => exact ⟨3, 3, rfl, ⟨rfl⟩, ⟨rfl⟩, ⟨fun j hj => by rcases (show j < 2 ∨ j = 2 by omega) with h | rfl; exact HP.out j h; exact hpr⟩, ⟨alloc_keep _ BA.out⟩, ⟨alloc_keep _ BP.out⟩, ⟨HB.out.alloc HB.out.size _⟩⟩
        · obtain rfl : x68 = 3 := HX.out
          have hp0 := (show _ = some (Value.int .u64 (g 18)) from (blk_cell BP.out 6).trans rfl)
          have hp1 := (show _ = some (Value.int .u64 (g 20)) from (blk_cell BP.out 7).trans rfl)
          cases ha : (g 18 == 0) <;> cases hb : (g 20 == 0)
          · have hpr : dyn_sound.pr g 3 = true := by show ((g 18 == 0) == (g 20 == 0)) = _; rw [ha, hb]; rfl
            go_wp2
            go_roundg (7 - 4)
            case measure => have := HI.out; omega
            case rel => exact ⟨4, 4, rfl, ⟨rfl⟩, ⟨rfl⟩, ⟨fun j hj => by rcases (show j < 3 ∨ j = 3 by omega) with h | rfl; exact HP.out j h; exact hpr⟩, ⟨alloc_keep _ BA.out⟩, ⟨alloc_keep _ BP.out⟩, ⟨HB.out.alloc HB.out.size _⟩⟩
          · have hpr : dyn_sound.pr g 3 = false := by show ((g 18 == 0) == (g 20 == 0)) = _; rw [ha, hb]; rfl
            go_wp2
            go_ret
            exact ⟨by rw [dyn_sound.pr_not f g 3 (by omega) hpr]; rfl, HB.out.alloc HB.out.size _⟩
          · have hpr : dyn_sound.pr g 3 = false := by show ((g 18 == 0) == (g 20 == 0)) = _; rw [ha, hb]; rfl
            go_wp2
            go_ret
            exact ⟨by rw [dyn_sound.pr_not f g 3 (by omega) hpr]; rfl, HB.out.alloc HB.out.size _⟩
          · have hpr : dyn_sound.pr g 3 = true := by show ((g 18 == 0) == (g 20 == 0)) = _; rw [ha, hb]; rfl
            go_wp2
            go_roundg (7 - 4)
            case measure => have := HI.out; omega
            case rel => exact ⟨4, 4, rfl, ⟨rfl⟩, ⟨rfl⟩, ⟨fun j hj => by rcases (show j < 3 ∨ j = 3 by omega) with h | rfl; exact HP.out j h; exact hpr⟩, ⟨alloc_keep _ BA.out⟩, ⟨alloc_keep _ BP.out⟩, ⟨HB.out.alloc HB.out.size _⟩⟩
        · obtain rfl : x68 = 4 := HX.out
          have hp0 := (show _ = some (Value.int .u64 (g 19)) from (blk_cell BP.out 8).trans rfl)
          have hp1 := (show _ = some (Value.int .u64 (g 21)) from (blk_cell BP.out 9).trans rfl)
          cases ha : (g 19 == 0) <;> cases hb : (g 21 == 0)
          · have hpr : dyn_sound.pr g 4 = true := by show ((g 19 == 0) == (g 21 == 0)) = _; rw [ha, hb]; rfl
            go_wp2
            go_roundg (7 - 5)
            case measure => have := HI.out; omega
            case rel => exact ⟨5, 5, rfl, ⟨rfl⟩, ⟨rfl⟩, ⟨fun j hj => by rcases (show j < 4 ∨ j = 4 by omega) with h | rfl; exact HP.out j h; exact hpr⟩, ⟨alloc_keep _ BA.out⟩, ⟨alloc_keep _ BP.out⟩, ⟨HB.out.alloc HB.out.size _⟩⟩
          · have hpr : dyn_sound.pr g 4 = false := by show ((g 19 == 0) == (g 21 == 0)) = _; rw [ha, hb]; rfl
            go_wp2
            go_ret
            exact ⟨by rw [dyn_sound.pr_not f g 4 (by omega) hpr]; rfl, HB.out.alloc HB.out.size _⟩
          · have hpr : dyn_sound.pr g 4 = false := by show ((g 19 == 0) == (g 21 == 0)) = _; rw [ha, hb]; rfl
            go_wp2
            go_ret
            exact ⟨by rw [dyn_sound.pr_not f g 4 (by omega) hpr]; rfl, HB.out.alloc HB.out.size _⟩
          · have hpr : dyn_sound.pr g 4 = true := by show ((g 19 == 0) == (g 21 == 0)) = _; rw [ha, hb]; rfl
            go_wp2
            go_roundg (7 - 5)
            case measure => have := HI.out; omega
            case rel => exact ⟨5, 5, rfl, ⟨rfl⟩, ⟨rfl⟩, ⟨fun j hj => by rcases (show j < 4 ∨ j = 4 by omega) with h | rfl; exact HP.out j h; exact hpr⟩, ⟨alloc_keep _ BA.out⟩, ⟨alloc_keep _ BP.out⟩, ⟨HB.out.alloc HB.out.size _⟩⟩
        · obtain rfl : x68 = 5 := HX.out
          have hp0 := (show _ = some (Value.int .u64 (g 28)) from (blk_cell BP.out 10).trans rfl)
          have hp1 := (show _ = some (Value.int .u64 (g 29)) from (blk_cell BP.out 11).trans rfl)
          cases ha : (g 28 == 0) <;> cases hb : (g 29 == 0)
          · have hpr : dyn_sound.pr g 5 = true := by show ((g 28 == 0) == (g 29 == 0)) = _; rw [ha, hb]; rfl
            go_wp2
            go_roundg (7 - 6)
            case measure => have := HI.out; omega
            case rel => exact ⟨6, 6, rfl, ⟨rfl⟩, ⟨rfl⟩, ⟨fun j hj => by rcases (show j < 5 ∨ j = 5 by omega) with h | rfl; exact HP.out j h; exact hpr⟩, ⟨alloc_keep _ BA.out⟩, ⟨alloc_keep _ BP.out⟩, ⟨HB.out.alloc HB.out.size _⟩⟩
          · have hpr : dyn_sound.pr g 5 = false := by show ((g 28 == 0) == (g 29 == 0)) = _; rw [ha, hb]; rfl
            go_wp2
            go_ret
            exact ⟨by rw [dyn_sound.pr_not f g 5 (by omega) hpr]; rfl, HB.out.alloc HB.out.size _⟩
          · have hpr : dyn_sound.pr g 5 = false := by show ((g 28 == 0) == (g 29 == 0)) = _; rw [ha, hb]; rfl
            go_wp2
            go_ret
            exact ⟨by rw [dyn_sound.pr_not f g 5 (by omega) hpr]; rfl, HB.out.alloc HB.out.size _⟩
          · have hpr : dyn_sound.pr g 5 = true := by show ((g 28 == 0) == (g 29 == 0)) = _; rw [ha, hb]; rfl
            go_wp2
            go_roundg (7 - 6)
            case measure => have := HI.out; omega
            case rel => exact ⟨6, 6, rfl, ⟨rfl⟩, ⟨rfl⟩, ⟨fun j hj => by rcases (show j < 5 ∨ j = 5 by omega) with h | rfl; exact HP.out j h; exact hpr⟩, ⟨alloc_keep _ BA.out⟩, ⟨alloc_keep _ BP.out⟩, ⟨HB.out.alloc HB.out.size _⟩⟩
        · obtain rfl : x68 = 6 := HX.out
          have hp0 := (show _ = some (Value.int .u64 (g 30)) from (blk_cell BP.out 12).trans rfl)
          have hp1 := (show _ = some (Value.int .u64 (g 31)) from (blk_cell BP.out 13).trans rfl)
          cases ha : (g 30 == 0) <;> cases hb : (g 31 == 0)
          · have hpr : dyn_sound.pr g 6 = true := by show ((g 30 == 0) == (g 31 == 0)) = _; rw [ha, hb]; rfl
            go_wp2
            go_roundg (7 - 7)
            case measure => have := HI.out; omega
            case rel => exact ⟨7, 7, rfl, ⟨rfl⟩, ⟨rfl⟩, ⟨fun j hj => by rcases (show j < 6 ∨ j = 6 by omega) with h | rfl; exact HP.out j h; exact hpr⟩, ⟨alloc_keep _ BA.out⟩, ⟨alloc_keep _ BP.out⟩, ⟨HB.out.alloc HB.out.size _⟩⟩
          · have hpr : dyn_sound.pr g 6 = false := by show ((g 30 == 0) == (g 31 == 0)) = _; rw [ha, hb]; rfl
            go_wp2
            go_ret
            exact ⟨by rw [dyn_sound.pr_not f g 6 (by omega) hpr]; rfl, HB.out.alloc HB.out.size _⟩
          · have hpr : dyn_sound.pr g 6 = false := by show ((g 30 == 0) == (g 31 == 0)) = _; rw [ha, hb]; rfl
            go_wp2
            go_ret
            exact ⟨by rw [dyn_sound.pr_not f g 6 (by omega) hpr]; rfl, HB.out.alloc HB.out.size _⟩
          · have hpr : dyn_sound.pr g 6 = true := by show ((g 30 == 0) == (g 31 == 0)) = _; rw [ha, hb]; rfl
            go_wp2
            go_roundg (7 - 7)
            case measure => have := HI.out; omega
            case rel => exact ⟨7, 7, rfl, ⟨rfl⟩, ⟨rfl⟩, ⟨fun j hj => by rcases (show j < 6 ∨ j = 6 by omega) with h | rfl; exact HP.out j h; exact hpr⟩, ⟨alloc_keep _ BA.out⟩, ⟨alloc_keep _ BP.out⟩, ⟨HB.out.alloc HB.out.size _⟩⟩
        · obtain rfl : x68 = 7 := HX.out
          have hall := dyn_sound.pr_all g HP.out
          clear HP HI BP HX
          have hc1 := (show _ = some (Value.int .u64 (g 1)) from (blk_cell BA.out 1).trans rfl)
          have hc3 := (show _ = some (Value.int .u64 (g 3)) from (blk_cell BA.out 3).trans rfl)
          have hc4 := (show _ = some (Value.int .u64 (g 4)) from (blk_cell BA.out 4).trans rfl)
          have hc5 := (show _ = some (Value.int .u64 (g 5)) from (blk_cell BA.out 5).trans rfl)
          have hc6 := (show _ = some (Value.int .u64 (g 6)) from (blk_cell BA.out 6).trans rfl)
          have hc7 := (show _ = some (Value.int .u64 (g 7)) from (blk_cell BA.out 7).trans rfl)
          have hc8 := (show _ = some (Value.int .u64 (g 8)) from (blk_cell BA.out 8).trans rfl)
          have hc17 := (show _ = some (Value.int .u64 (g 17)) from (blk_cell BA.out 17).trans rfl)
          have hc18 := (show _ = some (Value.int .u64 (g 18)) from (blk_cell BA.out 18).trans rfl)
          have hc19 := (show _ = some (Value.int .u64 (g 19)) from (blk_cell BA.out 19).trans rfl)
          have hc20 := (show _ = some (Value.int .u64 (g 20)) from (blk_cell BA.out 20).trans rfl)
          have hc21 := (show _ = some (Value.int .u64 (g 21)) from (blk_cell BA.out 21).trans rfl)
          have hc23 := (show _ = some (Value.int .u64 (g 23)) from (blk_cell BA.out 23).trans rfl)
          have hc24 := (show _ = some (Value.int .u64 (g 24)) from (blk_cell BA.out 24).trans rfl)
          have hc25 := (show _ = some (Value.int .u64 (g 25)) from (blk_cell BA.out 25).trans rfl)
          have hc26 := (show _ = some (Value.int .u64 (g 26)) from (blk_cell BA.out 26).trans rfl)
          have hc28 := (show _ = some (Value.int .u64 (g 28)) from (blk_cell BA.out 28).trans rfl)
          have hc29 := (show _ = some (Value.int .u64 (g 29)) from (blk_cell BA.out 29).trans rfl)
          have hc30 := (show _ = some (Value.int .u64 (g 30)) from (blk_cell BA.out 30).trans rfl)
          have hc31 := (show _ = some (Value.int .u64 (g 31)) from (blk_cell BA.out 31).trans rfl)
          cases n28 : (g 28 != 0)
          · cases n30 : (g 30 != 0)
            · have hver : dyn_sound.ver g = false := by unfold dyn_sound.ver; rw [n28, n30]; rfl
              have hbl := dyn_sound.last_is f g HZ.out hall hver
              cases n4 : (g 4 != 0)
              · skip
                have hl : dyn_sound.last g = false := by unfold dyn_sound.last; simp only [n4]; rfl
                go_wp2
                go_ret
                exact ⟨by first | rfl | (rw [hbl, hl]; rfl), HB.out⟩
              · skip
                cases n8 : (g 8 != 0)
                · skip
                  have hl : dyn_sound.last g = false := by unfold dyn_sound.last; simp only [n4, n8]; rfl
                  go_wp2
                  go_ret
                  exact ⟨by first | rfl | (rw [hbl, hl]; rfl), HB.out⟩
                · skip
                  cases n5 : (g 5 != 0)
                  · skip
                    have hl : dyn_sound.last g = false := by unfold dyn_sound.last; simp only [n4, n8, n5]; rfl
                    go_wp2
                    go_ret
                    exact ⟨by first | rfl | (rw [hbl, hl]; rfl), HB.out⟩
                  · skip
                    cases n3 : (g 3 != 0)
                    · skip
                      cases n25 : (g 25 != 0)
                      · skip
                        have hl : dyn_sound.last g = false := by unfold dyn_sound.last; simp only [n4, n8, n5, n3, n25]; rfl
                        go_wp2
                        go_ret
                        exact ⟨by first | rfl | (rw [hbl, hl]; rfl), HB.out⟩
                      · skip
                        have hl : dyn_sound.last g = true := by unfold dyn_sound.last; simp only [n4, n8, n5, n3, n25]; rfl
                        go_wp2
                        go_ret
                        exact ⟨by first | rfl | (rw [hbl, hl]; rfl), HB.out⟩
                    · skip
                      have hl : dyn_sound.last g = true := by unfold dyn_sound.last; simp only [n4, n8, n5, n3]; rfl
                      go_wp2
                      go_ret
                      exact ⟨by first | rfl | (rw [hbl, hl]; rfl), HB.out⟩
            · cases n26 : (g 26 == 0)
              · have hver : dyn_sound.ver g = false := by unfold dyn_sound.ver; rw [n28, n30, n26]; rfl
                have hbl := dyn_sound.last_is f g HZ.out hall hver
                cases n4 : (g 4 != 0)
                · skip
                  have hl : dyn_sound.last g = false := by unfold dyn_sound.last; simp only [n4]; rfl
                  go_wp2
                  go_ret
                  exact ⟨by first | rfl | (rw [hbl, hl]; rfl), HB.out⟩
                · skip
                  cases n8 : (g 8 != 0)
                  · skip
                    have hl : dyn_sound.last g = false := by unfold dyn_sound.last; simp only [n4, n8]; rfl
                    go_wp2
                    go_ret
                    exact ⟨by first | rfl | (rw [hbl, hl]; rfl), HB.out⟩
                  · skip
                    cases n5 : (g 5 != 0)
                    · skip
                      have hl : dyn_sound.last g = false := by unfold dyn_sound.last; simp only [n4, n8, n5]; rfl
                      go_wp2
                      go_ret
                      exact ⟨by first | rfl | (rw [hbl, hl]; rfl), HB.out⟩
                    · skip
                      cases n3 : (g 3 != 0)
                      · skip
                        cases n25 : (g 25 != 0)
                        · skip
                          have hl : dyn_sound.last g = false := by unfold dyn_sound.last; simp only [n4, n8, n5, n3, n25]; rfl
                          go_wp2
                          go_ret
                          exact ⟨by first | rfl | (rw [hbl, hl]; rfl), HB.out⟩
                        · skip
                          have hl : dyn_sound.last g = true := by unfold dyn_sound.last; simp only [n4, n8, n5, n3, n25]; rfl
                          go_wp2
                          go_ret
                          exact ⟨by first | rfl | (rw [hbl, hl]; rfl), HB.out⟩
                      · skip
                        have hl : dyn_sound.last g = true := by unfold dyn_sound.last; simp only [n4, n8, n5, n3]; rfl
                        go_wp2
                        go_ret
                        exact ⟨by first | rfl | (rw [hbl, hl]; rfl), HB.out⟩
              · have hver : dyn_sound.ver g = true := by unfold dyn_sound.ver; rw [n28, n30, n26]; rfl
                have hbl := dyn_sound.last_not f g hver
                go_wp2
                go_ret
                exact ⟨by first | rfl | (rw [hbl]; rfl), HB.out⟩
          · cases n26 : (g 26 == 0)
            · have hver : dyn_sound.ver g = false := by unfold dyn_sound.ver; rw [n28, n26]; simp
              have hbl := dyn_sound.last_is f g HZ.out hall hver
              cases n4 : (g 4 != 0)
              · skip
                have hl : dyn_sound.last g = false := by unfold dyn_sound.last; simp only [n4]; rfl
                go_wp2
                go_ret
                exact ⟨by first | rfl | (rw [hbl, hl]; rfl), HB.out⟩
              · skip
                cases n8 : (g 8 != 0)
                · skip
                  have hl : dyn_sound.last g = false := by unfold dyn_sound.last; simp only [n4, n8]; rfl
                  go_wp2
                  go_ret
                  exact ⟨by first | rfl | (rw [hbl, hl]; rfl), HB.out⟩
                · skip
                  cases n5 : (g 5 != 0)
                  · skip
                    have hl : dyn_sound.last g = false := by unfold dyn_sound.last; simp only [n4, n8, n5]; rfl
                    go_wp2
                    go_ret
                    exact ⟨by first | rfl | (rw [hbl, hl]; rfl), HB.out⟩
                  · skip
                    cases n3 : (g 3 != 0)
                    · skip
                      cases n25 : (g 25 != 0)
                      · skip
                        have hl : dyn_sound.last g = false := by unfold dyn_sound.last; simp only [n4, n8, n5, n3, n25]; rfl
                        go_wp2
                        go_ret
                        exact ⟨by first | rfl | (rw [hbl, hl]; rfl), HB.out⟩
                      · skip
                        have hl : dyn_sound.last g = true := by unfold dyn_sound.last; simp only [n4, n8, n5, n3, n25]; rfl
                        go_wp2
                        go_ret
                        exact ⟨by first | rfl | (rw [hbl, hl]; rfl), HB.out⟩
                    · skip
                      have hl : dyn_sound.last g = true := by unfold dyn_sound.last; simp only [n4, n8, n5, n3]; rfl
                      go_wp2
                      go_ret
                      exact ⟨by first | rfl | (rw [hbl, hl]; rfl), HB.out⟩
            · have hver : dyn_sound.ver g = true := by unfold dyn_sound.ver; rw [n28, n26]; simp
              have hbl := dyn_sound.last_not f g hver
              go_wp2
              go_ret
              exact ⟨by first | rfl | (rw [hbl]; rfl), HB.out⟩
    · intro x c w1 cnt1 hwx hwc hlx hat hrg1 hcnt hg1 hs1 hen
      have ht : dyn_sound.tab x c := dyn_sound.T4_at (HL.out _ hlx) hat
      have HT := Aside0.mk (ht)
      replace BA := Aside0.mk (grow_keep hg1 BA.out (by intro e; have := Option.some.inj e; omega))
      replace HM := Aside0.mk (HM.out.grown hg1 (by intro e; have := Option.some.inj e; omega))
      replace HB := Aside0.mk (HB.out.grown hg1 HB.out.size (fun k e => by cases e; exact Nat.le_of_lt hr))
      have hlk := HM.out.look hu36 hu36 hu89 (zz _) hwx
      have HRG := Aside0.mk (hrg1)
      clear hat hg1 hrg1 hlx ht
      rcases hf : f x with _ | y
      · rw [hf] at hlk
        replace hlk : _ = Result.ok (Value.tuple #[.int .u64 0, .bool false]) w1 := hlk
        have hok : dyn_sound.ok1 (f x) c = true := by rw [hf]; rfl
        go_wp2
        go_roundg cnt1
        case measure => exact hcnt
        case rel =>
          exact ⟨_, HRG, ⟨fun z h => HL.out z (by rw [Bool.and_eq_true] at h; exact h.1)⟩, ⟨fun x' c' ht' h => by
          by_cases e : x' = x
          · subst e
            have : c' = c := by
              have h1 := HT.out
              unfold dyn_sound.tab at h1 ht'
              omega
            rw [this]; exact hok
          · refine HO.out x' c' ht' ?_
            have hs : (Lit.int .u64 x').sameKey (.int .u64 x) = false := Maps.sameKey_ne (fun e' => e (by cases e'; rfl))
            rw [hs, Bool.not_false, Bool.and_true] at h
            exact h⟩, BA, HM, HB⟩
      · rw [hf] at hlk
        replace hlk : _ = Result.ok (Value.tuple #[.int .u64 y, .bool true]) w1 := hlk
        by_cases hyc : y = c
        · have hok : dyn_sound.ok1 (f x) c = true := by rw [hf, hyc]; exact beq_iff_eq.mpr rfl
          have hne : (y != c) = false := by rw [hyc]; exact bne_self_eq_false c
          go_wp2
          go_roundg cnt1
          case measure => exact hcnt
          case rel =>
            exact ⟨_, HRG, ⟨fun z h => HL.out z (by rw [Bool.and_eq_true] at h; exact h.1)⟩, ⟨fun x' c' ht' h => by
          by_cases e : x' = x
          · subst e
            have : c' = c := by
              have h1 := HT.out
              unfold dyn_sound.tab at h1 ht'
              omega
            rw [this]; exact hok
          · refine HO.out x' c' ht' ?_
            have hs : (Lit.int .u64 x').sameKey (.int .u64 x) = false := Maps.sameKey_ne (fun e' => e (by cases e'; rfl))
            rw [hs, Bool.not_false, Bool.and_true] at h
            exact h⟩, BA, HM, HB⟩
        · have hok : dyn_sound.ok1 (f x) c = false := by rw [hf]; exact beq_eq_false_iff_ne.mpr hyc
          have hne : (y != c) = true := bne_iff_ne.mpr hyc
          go_wp2
          go_ret
          exact ⟨by rw [dyn_sound.sz_not f HT.out hok g]; rfl, HB.out⟩

/-! ### dyn_read: function 30 (by hand) -/
/-- The tag whose value a field is. -/
def dyn_read.tg : Nat → Int
  | 1 => 2
  | 2 => 3
  | 3 => 4
  | 4 => 5
  | 5 => 6
  | 6 => 7
  | 7 => 8
  | 8 => 10
  | 9 => 12
  | 10 => 13
  | 11 => 14
  | 12 => 15
  | 13 => 29
  | 17 => 23
  | 18 => 25
  | 19 => 26
  | 20 => 27
  | 21 => 28
  | 22 => 30
  | 23 => 36
  | 24 => 35
  | 25 => 1879047925
  | 26 => 1879048176
  | 27 => 1879048187
  | 28 => 1879048188
  | 29 => 1879048189
  | 30 => 1879048190
  | 31 => 1879048191
  | _ => 0
def dyn_read.gs (f : Int → Option Int) : Nat → Int := fun j => if dyn_read.tg j = 0 then 0 else (f (dyn_read.tg j)).getD 0
def dyn_read.qs (f : Int → Option Int) : Nat → Bool
  | 14 => (f 14).isSome
  | 15 => (f 15).isSome
  | 16 => (f 29).isSome
  | 35 => (f 12).isSome
  | 36 => (f 13).isSome
  | 32 => (f 16).isSome || (Go.bits .and .u64 (dyn_read.gs f 22) 2 != 0)
  | 34 => (f 22).isSome || (Go.bits .and .u64 (dyn_read.gs f 22) 4 != 0)
  | 33 => (f 24).isSome || (Go.bits .and .u64 (dyn_read.gs f 22) 8 != 0) || (Go.bits .and .u64 (dyn_read.gs f 27) 1 != 0)
  | _ => false
abbrev dyn_read.Res := List Int × Int × Int × Int × Int × Int × Int × Int × Int × Int × Int × Int × Int × Int × Bool × Bool × Bool × Int × Int × Int × Int × Int × Int × Int × Int × Int × Int × Int × Int × Int × Int × Int × Bool × Bool × Bool × Bool × Bool × Option Int
def dyn_read.out (ne : List Int) (g : Nat → Int) (q : Nat → Bool) (e : Option Int) : dyn_read.Res := (ne, g 1, g 2, g 3, g 4, g 5, g 6, g 7, g 8, g 9, g 10, g 11, g 12, g 13, q 14, q 15, q 16, g 17, g 18, g 19, g 20, g 21, g 22, g 23, g 24, g 25, g 26, g 27, g 28, g 29, g 30, g 31, q 32, q 33, q 34, q 35, q 36, e)
def dyn_read.bad (c : Int) : dyn_read.Res := dyn_read.out [] (fun _ => 0) (fun _ => false) (some c)
def dyn_read.l0 : Nat → List Int → List Int → (Int → Option Int) → Int → Option dyn_read.Res
  | 0, _, _, _, _ => none
  | k + 1, s, ne, f, n => if (s.length : Int) ≥ 16 then ((dyn_word.f k s).bind fun tag => ((dyn_word.f k (s.drop 8)).bind fun val => (if tag = 0 then (if dyn_sound.b f (dyn_read.gs f) = true then some (dyn_read.out ne (dyn_read.gs f) (dyn_read.qs f) none) else some (dyn_read.bad 3)) else (if n = 256 then some (dyn_read.bad 2) else (if tag = 1 then (if ne.length < 17592186044416 then dyn_read.l0 k (s.drop 16) (ne ++ [val]) f (wrap64 (n + 1)) else none) else (if dyn_known.b tag = true then (if (Lit.int .u64 tag).wf = true then (if (Lit.int .u64 val).wf = true then (if (f tag).isSome = true then some (dyn_read.bad 5) else dyn_read.l0 k (s.drop 16) ne (updN f tag val) (wrap64 (n + 1))) else none) else none) else dyn_read.l0 k (s.drop 16) ne f (wrap64 (n + 1)))))))) else some (dyn_read.bad 3)
def dyn_read.f (k : Nat) (l0 : List Int) : Option dyn_read.Res := dyn_read.l0 k l0 [] (fun _ => none) 0
theorem dyn_read.mono_l : ∀ k, (∀ y0 y1 y2 y3, LeO (dyn_read.l0 k y0 y1 y2 y3) (dyn_read.l0 (k + 1) y0 y1 y2 y3))
  | 0 => fun _ _ _ _ r h => by simp [dyn_read.l0] at h
  | k + 1 => by
    have ih0 := dyn_read.mono_l k
    intro y0 y1 y2 y3
    unfold dyn_read.l0
    repeat' first
      | (with_reducible exact ih0 _ _ _ _)
      | (with_reducible exact dyn_word.mono _ _)
      | (with_reducible exact LeO.refl _)
      | (with_reducible exact LeO.none _)
      | (with_reducible refine LeO.ite ?_ ?_)
      | (with_reducible refine LeO.bind ?_ (fun _ => ?_))
theorem dyn_read.mono : ∀ a0 k, LeO (dyn_read.f k a0) (dyn_read.f (k + 1) a0) := fun a0 k => dyn_read.mono_l k _ _ _ _
theorem dyn_read.cut (A : Option Addr) (xs : List Int) (c m : Nat) (hm : m ≤ xs.length) (hc : xs.length ≤ c) : ∃ A' : Option Addr, (∀ W, (Instr.slice 35 (.slice A xs.length c) (some (.int .i64 (m : Int))) none none).run Try.prog W = .ok (.slice A' (xs.drop m).length (c - m)) W) ∧ ∀ w, (Kd.int .u8).C w A xs.length xs → (Kd.int .u8).C w A' (xs.drop m).length (xs.drop m) := by
  obtain ⟨i, hi, hz⟩ := Option.map_eq_some_iff.1 info5
  refine ⟨if c = m then A else A.map (·.add (m * (Kd.int .u8).sz)), fun W => ?_, fun w h => Kd.C_drop h hm hc⟩
  have := cut_from (P := Try.prog) 35 5 .i64 Try.underlying35 hi 1 (congrArg (fun p => p.2.1) hz) A xs.length c (m : Int) (Int.natCast_nonneg _) (by omega) W
  rw [Int.toNat_natCast] at this
  rw [this, List.length_drop]
  rfl
theorem R_mapped {α : Type} {d : Kd α} {e base : Nat} {w w1 : World} {b n : Nat} {f : Int → Option Int} {v : Value} {xs : List α} (h : d.R e w base (fun _ => True) v xs) (hm : MapN Try.prog 36 36 w b n f) (hg : w.grownBy w1 (some b)) : d.R e w1 base (fun _ => True) v xs :=
  Kd.R_mono (Kd.R_grown (Kd.R_bound h) hg (fun k hk => by obtain ⟨q, _, cells, hc⟩ := hk.2.2.2; exact hm.ne hc)) (fun _ _ => trivial)
theorem dyn_read.has (f : Int → Option Int) (t : Int) (bt bm n : Nat) (w : World) (hbt : w.heap[bt]? = some (.cells #[.map (some bm)] 89 (0, 0))) (hm : MapN Try.prog 36 36 w bm n f) (ht : (Lit.int .u64 t).wf = true) :
    Calls Try.prog 45 #[.int .u64 t, .pointer (some ⟨bt, 0, none⟩)] w fun e w' => e = .returned (.bool (f t).isSome) ∧ w' = w := by
  have hu36 := Try.underlying36
  have hu89 := Try.underlying89
  have hc0 := (show _ = some (Value.map (some bm)) from (blk_cell hbt 0).trans rfl)
  have hlk := hm.look hu36 hu36 hu89 (by kernel_rfl) ht
  clear hm hbt
  go_enter Try.func45, Try.ntmps45
  go_wp2
  go_ret
  exact ⟨by first | rfl | simp, rfl⟩
theorem wpList_zero {w : World} {ops : Array Oper} {rest : List Oper} {o : Oper} {a : Act} {Q : Exit → Act → World → Prop} (hg : o.guard = none) (t : TypeId) (hop : o.op = Op.build t #[]) (Z : Value) (h : (Instr.build t #[]).run Try.prog w = .ok Z w)
    (hK : wpList Try.prog ops Q rest (a.put o.dst Z) w) : wpList Try.prog ops Q (o :: rest) a w := by
  refine wpList_plain hg fun K' hK' => ?_
  unfold Oper.wp
  simp [execOp, hop, h, Result.andThen]
  exact hK' _ _ hK
theorem dyn_word.calls_n (k : Nat) (A0 : Option Addr) (c0 n : Nat) (l0 : List Int) (r : Int) (w : World) (hn : l0.length = n) (hr0 : Kd.C (Kd.int .u8) w A0 l0.length l0) (hc0 : l0.length ≤ c0) (h : dyn_word.f k l0 = some r) :
    Calls Try.prog 41 #[.slice A0 n c0] w fun e w' => e = .returned (.int .u64 r) ∧ Drawn0 w w' := by
  subst hn
  exact dyn_word.calls k A0 c0 l0 r w hr0 hc0 h
def dyn_read.cells (v : Value) (g : Nat → Int) : Array Value := #[v, .int .u64 (g 1), .int .u64 (g 2), .int .u64 (g 3), .int .u64 (g 4), .int .u64 (g 5), .int .u64 (g 6), .int .u64 (g 7), .int .u64 (g 8), .int .u64 (g 9), .int .u64 (g 10), .int .u64 (g 11), .int .u64 (g 12), .int .u64 (g 13), .bool false, .bool false, .bool false, .int .u64 (g 17), .int .u64 (g 18), .int .u64 (g 19), .int .u64 (g 20), .int .u64 (g 21), .int .u64 (g 22), .int .u64 (g 23), .int .u64 (g 24), .int .u64 (g 25), .int .u64 (g 26), .int .u64 (g 27), .int .u64 (g 28), .int .u64 (g 29), .int .u64 (g 30), .int .u64 (g 31), .bool false, .bool false, .bool false, .bool false, .bool false]
theorem dyn_read.cells_none : dyn_read.cells (.slice none 0 0) (dyn_read.gs (fun _ => none)) = #[.slice none 0 0, .int .u64 0, .int .u64 0, .int .u64 0, .int .u64 0, .int .u64 0, .int .u64 0, .int .u64 0, .int .u64 0, .int .u64 0, .int .u64 0, .int .u64 0, .int .u64 0, .int .u64 0, .bool false, .bool false, .bool false, .int .u64 0, .int .u64 0, .int .u64 0, .int .u64 0, .int .u64 0, .int .u64 0, .int .u64 0, .int .u64 0, .int .u64 0, .int .u64 0, .int .u64 0, .int .u64 0, .int .u64 0, .int .u64 0, .int .u64 0, .bool false, .bool false, .bool false, .bool false, .bool false] := by kernel_rfl
theorem dyn_read.put (v : Value) (f : Int → Option Int) (t x : Int) (j : Nat) (hj : dyn_field.j t = j) (h0 : j ≠ 0) : (dyn_read.cells v (dyn_read.gs f)).setIfInBounds j (.int .u64 x) = dyn_read.cells v (dyn_read.gs (updN f t x)) := by
  by_cases c0 : t = 2
  · subst c0; obtain rfl : j = 1 := hj.symm.trans (by kernel_rfl); rfl
  by_cases c1 : t = 3
  · subst c1; obtain rfl : j = 2 := hj.symm.trans (by kernel_rfl); rfl
  by_cases c2 : t = 4
  · subst c2; obtain rfl : j = 3 := hj.symm.trans (by kernel_rfl); rfl
  by_cases c3 : t = 5
  · subst c3; obtain rfl : j = 4 := hj.symm.trans (by kernel_rfl); rfl
  by_cases c4 : t = 6
  · subst c4; obtain rfl : j = 5 := hj.symm.trans (by kernel_rfl); rfl
  by_cases c5 : t = 7
  · subst c5; obtain rfl : j = 6 := hj.symm.trans (by kernel_rfl); rfl
  by_cases c6 : t = 8
  · subst c6; obtain rfl : j = 7 := hj.symm.trans (by kernel_rfl); rfl
  by_cases c7 : t = 10
  · subst c7; obtain rfl : j = 8 := hj.symm.trans (by kernel_rfl); rfl
  by_cases c8 : t = 12
  · subst c8; obtain rfl : j = 9 := hj.symm.trans (by kernel_rfl); rfl
  by_cases c9 : t = 13
  · subst c9; obtain rfl : j = 10 := hj.symm.trans (by kernel_rfl); rfl
  by_cases c10 : t = 14
  · subst c10; obtain rfl : j = 11 := hj.symm.trans (by kernel_rfl); rfl
  by_cases c11 : t = 15
  · subst c11; obtain rfl : j = 12 := hj.symm.trans (by kernel_rfl); rfl
  by_cases c12 : t = 23
  · subst c12; obtain rfl : j = 17 := hj.symm.trans (by kernel_rfl); rfl
  by_cases c13 : t = 25
  · subst c13; obtain rfl : j = 18 := hj.symm.trans (by kernel_rfl); rfl
  by_cases c14 : t = 26
  · subst c14; obtain rfl : j = 19 := hj.symm.trans (by kernel_rfl); rfl
  by_cases c15 : t = 27
  · subst c15; obtain rfl : j = 20 := hj.symm.trans (by kernel_rfl); rfl
  by_cases c16 : t = 28
  · subst c16; obtain rfl : j = 21 := hj.symm.trans (by kernel_rfl); rfl
  by_cases c17 : t = 29
  · subst c17; obtain rfl : j = 13 := hj.symm.trans (by kernel_rfl); rfl
  by_cases c18 : t = 30
  · subst c18; obtain rfl : j = 22 := hj.symm.trans (by kernel_rfl); rfl
  by_cases c19 : t = 35
  · subst c19; obtain rfl : j = 24 := hj.symm.trans (by kernel_rfl); rfl
  by_cases c20 : t = 36
  · subst c20; obtain rfl : j = 23 := hj.symm.trans (by kernel_rfl); rfl
  by_cases c21 : t = 1879047925
  · subst c21; obtain rfl : j = 25 := hj.symm.trans (by kernel_rfl); rfl
  by_cases c22 : t = 1879048176
  · subst c22; obtain rfl : j = 26 := hj.symm.trans (by kernel_rfl); rfl
  by_cases c23 : t = 1879048187
  · subst c23; obtain rfl : j = 27 := hj.symm.trans (by kernel_rfl); rfl
  by_cases c24 : t = 1879048188
  · subst c24; obtain rfl : j = 28 := hj.symm.trans (by kernel_rfl); rfl
  by_cases c25 : t = 1879048189
  · subst c25; obtain rfl : j = 29 := hj.symm.trans (by kernel_rfl); rfl
  by_cases c26 : t = 1879048190
  · subst c26; obtain rfl : j = 30 := hj.symm.trans (by kernel_rfl); rfl
  by_cases c27 : t = 1879048191
  · subst c27; obtain rfl : j = 31 := hj.symm.trans (by kernel_rfl); rfl
  refine absurd ?_ h0
  rw [← hj]
  unfold dyn_field.j
  rw [if_neg c0, if_neg c1, if_neg c2, if_neg c3, if_neg c4, if_neg c5, if_neg c6, if_neg c7, if_neg c8, if_neg c9, if_neg c10, if_neg c11, if_neg c12, if_neg c13, if_neg c14, if_neg c15, if_neg c16, if_neg c17, if_neg c18, if_neg c19, if_neg c20, if_neg c21, if_neg c22, if_neg c23, if_neg c24, if_neg c25, if_neg c26, if_neg c27]
theorem dyn_read.ite_lt {p : Prop} [Decidable p] {a b n : Nat} (h1 : a < n) (h2 : b < n) : (if p then a else b) < n := by
  split
  · exact h1
  · exact h2
theorem dyn_read.j_lt (t : Int) : dyn_field.j t < 32 := by
  unfold dyn_field.j
  repeat (refine dyn_read.ite_lt (by decide) ?_)
  decide
theorem dyn_read.at_j (v : Value) (g : Nat → Int) (t : Int) : ∃ u, (dyn_read.cells v g)[dyn_field.j t]? = some u := by
  have h := dyn_read.j_lt t
  have hs : (dyn_read.cells v g).size = 37 := rfl
  exact ⟨_, Array.getElem?_eq_getElem (by omega)⟩
theorem wpList_load_if {ops : Array Oper} {rest : List Oper} {o : Oper} {a : Act} {w : World} {Q : Exit → Act → World → Prop} (hw : Region.wanted o (yielded ops a.tmps) = true) (ty : TypeId) (x : Operand) (ho : o.op = .load ty x)
    (g : Nat) (hx : a.eval x = .pointer (some ⟨g, 0, none⟩)) (t : TypeId) (cs : Array Value) (fr : Nat × Nat) (fs : Array Field) (hg : w.heap[g]? = some (.cells cs t fr))
    (hu : Try.prog.underlying ty = some (.struct fs)) (hi : (Try.prog.info? ty).map (·.size) = some cs.size)
    (h : wpList Try.prog ops Q rest (a.put o.dst (.agg cs)) w) : wpList Try.prog ops Q (o :: rest) a w :=
  wpList_step fun K hK => by
    rw [if_pos hw]
    exact wp_load_row ty x ho g hx t cs fr _ hg hu rfl hi (hK _ _ h)
theorem dyn_read.not (f : Int → Option Int) (t x : Int) (hj : dyn_field.j t = 0) : dyn_read.gs (updN f t x) = dyn_read.gs f := by
  funext j
  unfold dyn_read.gs
  split
  · rfl
  · unfold updN
    rw [if_neg]
    intro e
    subst e
    revert hj
    rename_i hj0
    revert hj0
    unfold dyn_read.tg
    split <;> intro h1 h2 <;> first | exact absurd rfl h1 | exact absurd h2 (by decide)
def dyn_read.cq (v : Value) (g : Nat → Int) (q : Nat → Bool) : Array Value := #[v, .int .u64 (g 1), .int .u64 (g 2), .int .u64 (g 3), .int .u64 (g 4), .int .u64 (g 5), .int .u64 (g 6), .int .u64 (g 7), .int .u64 (g 8), .int .u64 (g 9), .int .u64 (g 10), .int .u64 (g 11), .int .u64 (g 12), .int .u64 (g 13), .bool (q 14), .bool (q 15), .bool (q 16), .int .u64 (g 17), .int .u64 (g 18), .int .u64 (g 19), .int .u64 (g 20), .int .u64 (g 21), .int .u64 (g 22), .int .u64 (g 23), .int .u64 (g 24), .int .u64 (g 25), .int .u64 (g 26), .int .u64 (g 27), .int .u64 (g 28), .int .u64 (g 29), .int .u64 (g 30), .int .u64 (g 31), .bool (q 32), .bool (q 33), .bool (q 34), .bool (q 35), .bool (q 36)]
def dyn_read.upq (q : Nat → Bool) (j : Nat) (b : Bool) : Nat → Bool := fun i => if i = j then b else q i
theorem dyn_read.below_row {B g : Nat} {w0 w : World} (hb : Below B w0 w) (hBg : B ≤ g) (cs : Array Value) : Below B w0 (w.setRow g cs) := hb.trans ⟨rfl, rfl, rfl, by simp, fun k hk => setRow_other w g k cs (by omega)⟩
theorem dyn_read.cq_one (A : Option Addr) (m c : Nat) (g : Nat → Int) (q : Nat → Bool) : (dyn_read.cq (.slice A m c) g q).all (·.oneCell') = true := by first | rfl | (unfold dyn_read.cq; simp [Value.oneCell'])
theorem dyn_read.cq_info (v : Value) (g : Nat → Int) (q : Nat → Bool) : (Try.prog.info? 43).map (·.size) = some (dyn_read.cq v g q).size := show (Try.prog.info? 43).map (·.size) = some 37 by kernel_rfl
theorem dyn_read.cq_false (v : Value) (g : Nat → Int) : dyn_read.cells v g = dyn_read.cq v g (fun _ => false) := rfl

end Go.Proofs.Ytjbndfogjmfbhaa.PDynOrders
