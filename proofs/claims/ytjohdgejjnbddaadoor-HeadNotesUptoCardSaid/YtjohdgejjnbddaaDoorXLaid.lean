/- The variable errors.errorType as a row lists it: its cell holds the handle of 'error' (ErrTy0); a world that meets the condition (after the kit's ToyasProofs). -/
import Derived.Test.YtjohdgejjnbddaaDoorRows
import Derived.Test.YtjohdgejjnbddaaDoorXIs
import Derived.ChangeSame
import Derived.ChangeVars
import Derived.JoinedOf
import Derived.RowKit
import Derived.RowKitTokens
import Derived.LaidLaws
import Derived.LaidHandle
import Derived.Stop.Joined
namespace Go.Proofs.YtjohdgejjnbddaaDoorX
open Go Go.ChangeShapes Go.WideShapes Go.RowKit Go.Proofs.YtjohdgejjnbddaaDoor

theorem laid_et : Tryd.prog.globalNamed "errors.errorType" = some 1 := by kernel_rfl
theorem laid_rt : (Tryd.prog.cutTypes.find? (·.1 == "internal/reflectlite.rtype")).map (·.2) = some 189 := by kernel_rfl
theorem laid_oneRow : ((List.range 235).filter fun t => Tryd.prog.rowNamed t [101, 114, 114, 111, 114]) = [29] := by kernel_rfl
theorem laid_size : Tryd.prog.types.size = 235 := by kernel_rfl

theorem errTy0_of_laid {W : World} (h : laidMetH Tryd.prog [("errors.errorType", Rows.laid_errors_errorType), ("shackle/head.fixed", Rows.laid_shackle_head_fixed)] W) : ErrTy0 W := by
  have h' : laidMet Tryd.prog [("shackle/head.fixed", Rows.laid_shackle_head_fixed)] W ∧ handlesMet Tryd.prog [("errors.errorType", Rows.laid_errors_errorType)] W := h
  obtain ⟨name, u, ty, e1, e2, e3, e4, e5⟩ := h'.2 _ (List.mem_singleton.2 rfl)
  have en : name = [101, 114, 114, 111, 114] := (Option.some.inj e1).symm
  subst en
  obtain rfl := Option.some.inj (laid_rt.symm.trans e2)
  have hm : ty ∈ (List.range 235).filter fun t => Tryd.prog.rowNamed t [101, 114, 114, 111, 114] := List.mem_filter.2 ⟨List.mem_range.2 (by rw [← laid_size]; exact e3), e4⟩
  rw [laid_oneRow] at hm
  obtain rfl := List.mem_singleton.1 hm
  have hh : typeHandle Tryd.prog 29 = .pointer (some ⟨3, 29, none⟩) := by kernel_rfl
  rw [hh] at e5
  unfold ErrTy0
  simpa using World.var?_cell laid_et e5 0


theorem mapM_get {α β : Type} (f : α → Option β) : ∀ (l : List α) (xs : List β), l.mapM f = some xs → xs.length = l.length ∧ ∀ (i : Nat) (a : α), l[i]? = some a → ∃ b, xs[i]? = some b ∧ f a = some b
  | [], xs, h => by
    simp at h
    subst h
    exact ⟨rfl, fun i a h => by simp at h⟩
  | a :: l, xs, h => by
    rw [List.mapM_cons] at h
    cases hf : f a with
    | none => simp [hf] at h
    | some b =>
      cases hl : l.mapM f with
      | none => simp [hf, hl] at h
      | some ys =>
        obtain rfl : b :: ys = xs := by simpa [hf, hl] using h
        obtain ⟨h1, h2⟩ := mapM_get f l ys hl
        refine ⟨by simp [h1], fun i x hx => ?_⟩
        cases i with
        | zero =>
          obtain rfl : a = x := by simpa using hx
          exact ⟨b, rfl, hf⟩
        | succ i => exact h2 i x (by simpa using hx)
section
variable {P : Program} {w : World} {base : Nat} {spare : Nat → Bool} {held : Bool}
theorem trod_array {t e : TypeId} {n fuel : Nat} {cs : List Value} {ds : List (DataW Unit)} {ps : List MemPlace} (hu : P.underlying t = some (.array n e)) (h : DataW.trod (fun _ => ()) P w base spare held fuel t cs = some (.agg ds, ps)) :
    cs.length = P.cellsOf t ∧ ∀ i d, i < n → ds[i]? = some d → ∃ fuel' q, DataW.trod (fun _ => ()) P w base spare held fuel' e ((cs.drop (i * P.cellsOf e)).take (P.cellsOf e)) = some (d, q) := by
  cases fuel with
  | zero => simp [DataW.trod] at h
  | succ fuel =>
    unfold DataW.trod at h
    rw [hu] at h
    dsimp only at h
    by_cases hc : cs.length = P.cellsOf t
    · rw [if_pos hc] at h
      cases hm : (List.range n).mapM fun i => DataW.trod (fun _ => ()) P w base spare held fuel e ((cs.drop (i * P.cellsOf e)).take (P.cellsOf e)) with
      | none => rw [hm] at h; simp at h
      | some xs =>
        rw [hm] at h
        simp only [Option.map_some, Option.some.injEq, Prod.mk.injEq, DataW.agg.injEq] at h
        obtain ⟨h1, -⟩ := h
        refine ⟨hc, fun i d hi hd => ?_⟩
        obtain ⟨hl, hg⟩ := mapM_get _ _ _ hm
        obtain ⟨b, hb, hf⟩ := hg i i (List.getElem?_range hi)
        subst h1
        rw [List.getElem?_map, hb] at hd
        obtain rfl : b.1 = d := by simpa using hd
        exact ⟨fuel, b.2, hf⟩
    · rw [if_neg hc] at h
      cases h
theorem trod_int {t : TypeId} {k : IntKind} {n : Int} {fuel : Nat} {cs : List Value} {ps : List MemPlace} (hu : P.underlying t = some (.int k)) (h : DataW.trod (fun _ => ()) P w base spare held fuel t cs = some (.lit (.int k n), ps)) : cs = [.int k n] := by
  cases fuel with
  | zero => simp [DataW.trod] at h
  | succ fuel =>
    unfold DataW.trod at h
    rw [hu] at h
    split at h <;> try (first | (cases h; done) | (simp_all; done))
end
theorem laid_hf : Tryd.prog.globalNamed "shackle/head.fixed" = some 0 := by kernel_rfl
theorem laid_hft : (Tryd.prog.globals[0]?).map (·.type) = some 118 := by kernel_rfl
theorem cells117 : Tryd.prog.cellsOf 117 = 4 := by kernel_rfl
theorem cells118 : Tryd.prog.cellsOf 118 = 52 := by kernel_rfl
theorem cells24 : Tryd.prog.cellsOf 24 = 1 := by kernel_rfl
theorem gFix_of_laid {W : World} (h : laidMetH Tryd.prog [("errors.errorType", Rows.laid_errors_errorType), ("shackle/head.fixed", Rows.laid_shackle_head_fixed)] W) : GFix W := by
  have h' : laidMet Tryd.prog [("shackle/head.fixed", Rows.laid_shackle_head_fixed)] W ∧ handlesMet Tryd.prog [("errors.errorType", Rows.laid_errors_errorType)] W := h
  obtain ⟨ps, ⟨g, t, cs, fuel, p, q, e1, e2, e3, e4, -, -⟩, -⟩ := h'.1
  obtain rfl := Option.some.inj (laid_hf.symm.trans e1)
  obtain rfl := Option.some.inj (laid_hft.symm.trans e2)
  unfold Rows.laid_shackle_head_fixed at e4
  obtain ⟨hl, hrow⟩ := trod_array Tryd.underlying118 e4
  rw [cells118] at hl
  rw [cells117] at hrow
  have cell : ∀ (i j : Nat) (ds : List (DataW Unit)) (n : Int), i < 13 → j < 4 → (match Rows.laid_shackle_head_fixed (H := Unit) with | .agg l => l[i]? | _ => none) = some (.agg ds) → ds[j]? = some (.lit (.int .u64 n)) → cs.toList[4 * i + j]? = some (.int .u64 n) := by
    intro i j ds n hi hj hd hn
    obtain ⟨f1, q1, h1⟩ := hrow i _ hi hd
    obtain ⟨-, h2⟩ := trod_array Tryd.underlying117 h1
    rw [cells24] at h2
    obtain ⟨f2, q2, h3⟩ := h2 j _ hj hn
    have h4 := trod_int Tryd.underlying24 h3
    have h5 : (((cs.toList.drop (i * 4)).take 4).drop (j * 1)).take 1 = [.int .u64 n] := h4
    have h6 := congrArg (fun l => l[0]?) h5
    simp only [List.getElem?_take, List.getElem?_drop, List.getElem?_cons_zero] at h6
    rw [if_pos (by omega), if_pos (by omega)] at h6
    rw [show 4 * i + j = i * 4 + (j * 1 + 0) by omega]
    exact h6
  have hcell := World.var?_cell laid_hf e3
  intro k v hk
  have hk' : k < 52 := (List.getElem?_eq_some_iff.1 hk).1
  have h1 := hcell k
  have key : cs.toList[k]? = some v := by
    have hh : k = 0 ∨ k = 1 ∨ k = 2 ∨ k = 3 ∨ k = 4 ∨ k = 5 ∨ k = 6 ∨ k = 7 ∨ k = 8 ∨ k = 9 ∨ k = 10 ∨ k = 11 ∨ k = 12 ∨ k = 13 ∨ k = 14 ∨ k = 15 ∨ k = 16 ∨ k = 17 ∨ k = 18 ∨ k = 19 ∨ k = 20 ∨ k = 21 ∨ k = 22 ∨ k = 23 ∨ k = 24 ∨ k = 25 ∨ k = 26 ∨ k = 27 ∨ k = 28 ∨ k = 29 ∨ k = 30 ∨ k = 31 ∨ k = 32 ∨ k = 33 ∨ k = 34 ∨ k = 35 ∨ k = 36 ∨ k = 37 ∨ k = 38 ∨ k = 39 ∨ k = 40 ∨ k = 41 ∨ k = 42 ∨ k = 43 ∨ k = 44 ∨ k = 45 ∨ k = 46 ∨ k = 47 ∨ k = 48 ∨ k = 49 ∨ k = 50 ∨ k = 51 := by omega
    rcases hh with rfl | rfl | rfl | rfl | rfl | rfl | rfl | rfl | rfl | rfl | rfl | rfl | rfl | rfl | rfl | rfl | rfl | rfl | rfl | rfl | rfl | rfl | rfl | rfl | rfl | rfl | rfl | rfl | rfl | rfl | rfl | rfl | rfl | rfl | rfl | rfl | rfl | rfl | rfl | rfl | rfl | rfl | rfl | rfl | rfl | rfl | rfl | rfl | rfl | rfl | rfl | rfl
    · exact (cell 0 0 _ 0 (by decide) (by decide) rfl rfl).trans hk
    · exact (cell 0 1 _ 1 (by decide) (by decide) rfl rfl).trans hk
    · exact (cell 0 2 _ 127 (by decide) (by decide) rfl rfl).trans hk
    · exact (cell 0 3 _ 127 (by decide) (by decide) rfl rfl).trans hk
    · exact (cell 1 0 _ 1 (by decide) (by decide) rfl rfl).trans hk
    · exact (cell 1 1 _ 1 (by decide) (by decide) rfl rfl).trans hk
    · exact (cell 1 2 _ 69 (by decide) (by decide) rfl rfl).trans hk
    · exact (cell 1 3 _ 69 (by decide) (by decide) rfl rfl).trans hk
    · exact (cell 2 0 _ 2 (by decide) (by decide) rfl rfl).trans hk
    · exact (cell 2 1 _ 1 (by decide) (by decide) rfl rfl).trans hk
    · exact (cell 2 2 _ 76 (by decide) (by decide) rfl rfl).trans hk
    · exact (cell 2 3 _ 76 (by decide) (by decide) rfl rfl).trans hk
    · exact (cell 3 0 _ 3 (by decide) (by decide) rfl rfl).trans hk
    · exact (cell 3 1 _ 1 (by decide) (by decide) rfl rfl).trans hk
    · exact (cell 3 2 _ 70 (by decide) (by decide) rfl rfl).trans hk
    · exact (cell 3 3 _ 70 (by decide) (by decide) rfl rfl).trans hk
    · exact (cell 4 0 _ 4 (by decide) (by decide) rfl rfl).trans hk
    · exact (cell 4 1 _ 1 (by decide) (by decide) rfl rfl).trans hk
    · exact (cell 4 2 _ 2 (by decide) (by decide) rfl rfl).trans hk
    · exact (cell 4 3 _ 2 (by decide) (by decide) rfl rfl).trans hk
    · exact (cell 5 0 _ 5 (by decide) (by decide) rfl rfl).trans hk
    · exact (cell 5 1 _ 1 (by decide) (by decide) rfl rfl).trans hk
    · exact (cell 5 2 _ 1 (by decide) (by decide) rfl rfl).trans hk
    · exact (cell 5 3 _ 1 (by decide) (by decide) rfl rfl).trans hk
    · exact (cell 6 0 _ 6 (by decide) (by decide) rfl rfl).trans hk
    · exact (cell 6 1 _ 1 (by decide) (by decide) rfl rfl).trans hk
    · exact (cell 6 2 _ 1 (by decide) (by decide) rfl rfl).trans hk
    · exact (cell 6 3 _ 1 (by decide) (by decide) rfl rfl).trans hk
    · exact (cell 7 0 _ 7 (by decide) (by decide) rfl rfl).trans hk
    · exact (cell 7 1 _ 1 (by decide) (by decide) rfl rfl).trans hk
    · exact (cell 7 2 _ 0 (by decide) (by decide) rfl rfl).trans hk
    · exact (cell 7 3 _ 3 (by decide) (by decide) rfl rfl).trans hk
    · exact (cell 8 0 _ 16 (by decide) (by decide) rfl rfl).trans hk
    · exact (cell 8 1 _ 2 (by decide) (by decide) rfl rfl).trans hk
    · exact (cell 8 2 _ 2 (by decide) (by decide) rfl rfl).trans hk
    · exact (cell 8 3 _ 3 (by decide) (by decide) rfl rfl).trans hk
    · exact (cell 9 0 _ 18 (by decide) (by decide) rfl rfl).trans hk
    · exact (cell 9 1 _ 2 (by decide) (by decide) rfl rfl).trans hk
    · exact (cell 9 2 _ 62 (by decide) (by decide) rfl rfl).trans hk
    · exact (cell 9 3 _ 62 (by decide) (by decide) rfl rfl).trans hk
    · exact (cell 10 0 _ 20 (by decide) (by decide) rfl rfl).trans hk
    · exact (cell 10 1 _ 4 (by decide) (by decide) rfl rfl).trans hk
    · exact (cell 10 2 _ 1 (by decide) (by decide) rfl rfl).trans hk
    · exact (cell 10 3 _ 1 (by decide) (by decide) rfl rfl).trans hk
    · exact (cell 11 0 _ 52 (by decide) (by decide) rfl rfl).trans hk
    · exact (cell 11 1 _ 2 (by decide) (by decide) rfl rfl).trans hk
    · exact (cell 11 2 _ 64 (by decide) (by decide) rfl rfl).trans hk
    · exact (cell 11 3 _ 64 (by decide) (by decide) rfl rfl).trans hk
    · exact (cell 12 0 _ 54 (by decide) (by decide) rfl rfl).trans hk
    · exact (cell 12 1 _ 2 (by decide) (by decide) rfl rfl).trans hk
    · exact (cell 12 2 _ 56 (by decide) (by decide) rfl rfl).trans hk
    · exact (cell 12 3 _ 56 (by decide) (by decide) rfl rfl).trans hk
  rw [Array.getElem?_toList] at key
  simpa [key] using h1
theorem errTy_of_laid {W : World} (h : laidMetH Tryd.prog [("errors.errorType", Rows.laid_errors_errorType), ("shackle/head.fixed", Rows.laid_shackle_head_fixed)] W) : ErrTy W := ⟨errTy0_of_laid h, gFix_of_laid h⟩
noncomputable def laidWorld (os : Os) : World :=
  let w0 := World.holding Tryd.prog os ⟨#[], #[], []⟩
  { w0 with heap := (w0.heap.modify 1 fun
      | .cells _ t frozen => .cells #[.iface 189 (.agg #[.pointer (some ⟨3, 29, none⟩)])] t frozen
      | o => o).modify 0 fun
      | .cells _ t frozen => .cells tabV.toArray t frozen
      | o => o }
theorem laidWorld_met (os : Os) (args : Array Value) : laidMetH Tryd.prog [("errors.errorType", Rows.laid_errors_errorType), ("shackle/head.fixed", Rows.laid_shackle_head_fixed)] ((laidWorld os).forCall (fun _ _ => 0) ⟨#[], args, []⟩).memory :=
  laidMetH_of_parts (laidMet_of_run' 8 (by kernel_rfl) (by kernel_rfl)) (by kernel_rfl)
end Go.Proofs.YtjohdgejjnbddaaDoorX
