/- Printed by this session's own program (wip/tools: a turn of the kit's print) out of the translation: each Go function that the law reaches as a Lean function, and that the machine's call comes to what that function tells; no condition but what each theorem names. -/
import Derived.Test.YtjohdgejjnbddaaDoorPHeadNotesx0
import Derived.Test.YtjohdgejjnbddaaDoorPHeadNotesx1
import Derived.Test.YtjohdgejjnbddaaDoorPHeadNotesx2
import Derived.Test.YtjohdgejjnbddaaDoorPHeadNotesx3
import Derived.Test.YtjohdgejjnbddaaDoorPHeadNotesx4
namespace Go.Proofs.YtjohdgejjnbddaaDoor.PHeadNotes
open Go.RowKit Go.Proofs.YtjohdgejjnbddaaDoorW.PrintWords Go.Proofs.YtjohdgejjnbddaaDoorW.PrintLast Go.Proofs.YtjohdgejjnbddaaDoorW.PrintMore Go.Proofs.YtjohdgejjnbddaaDoorX
attribute [local go_sem] max2_int min2_int max_two min_two max_three min_three max_four min_four   -- for this text's walks alone
set_option linter.unusedVariables false
set_option linter.unusedSimpArgs false

/-! ### head_Read: function 9 (by hand) -/
/-! ### head.Read -/
/-- The program headers from the i-th on: an error, or all of them. -/
def goV (l : List Int) (from_ : Int) : Nat → Nat → List S50 → Int → Option Int × List S50
 | 0, _, ps, _ => (none, ps)
 | d + 1, i, ps, nd => match progV l (IntKind.u64.wrap (from_ + IntKind.u64.wrap (56 * (i : Int)))) ps nd with
  | (some q, _, _) => (some q, [])
  | (none, ps', nd') => goV l from_ d (i + 1) ps' nd'
/-- head.Read: the type, the entry, the program headers, the error. -/
def readV (l : List Int) : Int × Int × List S50 × Option Int :=
 match beginV l with
 | (_, some q) => (0, 0, [], some q)
 | (n, none) => match goV l (getV l 32 8) n.toNat 0 [] 0 with
  | (some q, _) => (0, 0, [], some q)
  | (none, ps) => if (ps.any fun x => x.f0 == 1) = true then (wrap64 (getV l 16 2), getV l 24 8, ps, none) else (0, 0, [], some 6)
theorem size27 : (Tryd.prog.info? 27).map (·.size) = some 3 := by kernel_rfl
theorem getL_nonneg : ∀ (k : Nat) (l : List Int) (a v i : Int) (r : Int × Option Int), 0 ≤ v → span_Get.l0 k l a v i = some r → 0 ≤ r.1
 | 0, l, a, v, i, r, _, h => by simp [span_Get.l0] at h
 | k + 1, l, a, v, i, r, hv, h => by
  rw [span_Get.l0] at h
  split at h
  ·split at h
   ·split at h
    ·exact getL_nonneg k l a _ _ r (hd_bits_nonneg _ _) h
    ·cases h
   ·cases h
  ·cases h
   exact hv
theorem getV_nonneg (l : List Int) (a n : Int) : 0 ≤ getV l a n := by
 unfold getV
 cases h : head_file_get.f 12 l a n with
 | none => exact Int.le_refl _
 | some r =>
  show 0 ≤ r
  unfold head_file_get.f at h
  rw [Option.bind_eq_some_iff] at h; obtain ⟨x, hx, h⟩ := h
  have key : 0 ≤ x.1 := by
   unfold span_Get.f at hx
   rw [Option.bind_eq_some_iff] at hx; obtain ⟨t, -, hx⟩ := hx
   split at hx
   ·rw [Option.bind_eq_some_iff] at hx; obtain ⟨t2, -, hx⟩ := hx
    split at hx
    ·exact getL_nonneg _ _ _ _ _ _ (Int.le_refl _) hx
    ·split at hx
     ·split at hx
      ·cases hx; exact Int.le_refl _
      ·cases hx
     ·cases hx
   ·cases hx
    exact Int.le_refl _
  split at h
  ·cases h
   exact key
  ·cases h
   exact Int.le_refl _
theorem beginV_n (l : List Int) (N : Int) (h : beginV l = (N, none)) : N = getV l 56 2 ∧ 0 ≤ N ∧ N ≤ 16 := by
 have h0 := getV_nonneg l 56 2
 unfold beginV at h
 split at h
 ·cases h
 ·split at h
  ·cases h
  ·split at h
   ·cases h
   ·split at h
    ·cases h
    ·split at h
     ·cases h
     ·split at h
      ·cases h
       exact ⟨rfl, h0, by omega⟩
      ·cases h
theorem progV_len {l : List Int} {p : Int} {ps ps2 : List S50} {nd nd2 : Int} (h : progV l p ps nd = (none, ps2, nd2)) : ps2.length = ps.length + 1 := by
 unfold progV at h
 split at h
 ·cases h
 ·cases h
  rw [List.length_append]
  rfl
theorem Rdr.setT {w : World} {gb : Nat} {A0 : Option Addr} {c0 : Nat} {l : List Int} {ty en : Int} {pv : Value} {nd : Int} (h : Rdr w gb A0 c0 l ty en pv nd) (n m : Int) : Rdr ((w.setCell ⟨gb, 1, none⟩ (.int .i64 n)).setCell ⟨gb, 2, none⟩ (.int .u64 m)) gb A0 c0 l n m pv nd :=
 ⟨blk_set (blk_set h.at_ 1 _) 2 _, h.cap⟩
theorem ErrAt.row {CT PT ST : TypeId} {W : World} {base : Nat} {r : Option Int} {v : Value} (h : ErrAt CT PT ST W base r v) {g t : Nat} {old : Array Value} (cs : Array Value) (hg : W.heap[g]? = some (.cells old t (0, 0))) (hne : t ≠ ST := by decide) : ErrAt CT PT ST (W.setRow g cs) base r v := by
 cases r with
 | none => exact h
 | some q =>
  by_cases hq : q < 0
  ·obtain ⟨b, e, hb, hh⟩ := ErrAt.spot_eq h hq; subst e; exact ErrAt.of_spot hq hb ((setRow_other W g b cs (fun e => by rw [e, hg] at hh; injection hh with hh; injection hh with _ h2 _; exact hne h2)).trans hh)
  ·obtain rfl := ErrAt.code_eq h hq; exact ErrAt.of_code (by omega)
theorem Rdr.c1 {w : World} {gb : Nat} {A0 : Option Addr} {c0 : Nat} {l : List Int} {ty en : Int} {pv : Value} {nd : Int} (h : Rdr w gb A0 c0 l ty en pv nd) : w.cell? ⟨gb, 1, none⟩ = some (.int .i64 ty) := by
 simp [World.cell?, h.at_]
theorem Rdr.c2 {w : World} {gb : Nat} {A0 : Option Addr} {c0 : Nat} {l : List Int} {ty en : Int} {pv : Value} {nd : Int} (h : Rdr w gb A0 c0 l ty en pv nd) : w.cell? ⟨gb, 2, none⟩ = some (.int .u64 en) := by
 simp [World.cell?, h.at_]

set_option maxHeartbeats 16000000 in
set_option maxRecDepth 100000 in
theorem read_at (A0 : Option Addr) (c0 : Nat) (l : List Int) (w : World) (hF : GFix w) (hC : Kd.C (Kd.int .u8) w A0 l.length l) (hc : l.length ≤ c0) (hn : l.length < 140737488355328) :
  Calls Tryd.prog 9 #[.slice A0 l.length c0] w fun e w' => ∃ v ve, e = .returned (.tuple #[.agg #[.int .i64 (readV l).1, .int .u64 (readV l).2.1, v], ve]) ∧ ErrAt 32 103 105 w' w.heap.size (readV l).2.2.2 ve ∧ Kd.R k50 50 w' w.heap.size (fun _ => True) v (readV l).2.2.1 ∧ Below w.heap.size w w' := by
 have hu72 := Tryd.underlying72; have hu70 := Tryd.underlying70; have hu27 := Tryd.underlying27; have hu29 := Tryd.underlying29; have hu32 := Tryd.underlying32; have HNN := aM (And.intro hn hc); obtain ⟨w1, gh, e1, e2, hh1, hb1⟩ := alloc_named w (.cells #[.int .i64 0, .int .u64 0, .slice none 0 0] 27); obtain ⟨w2, gb, e3, e4, hr2, hb2⟩ := alloc_named w1 (.cells #[.slice A0 l.length c0, .int .i64 0, .int .u64 0, .slice none 0 0, .int .u64 0] 72); have HW := aM hb1; have HCC := aM (Kd.C_below hC hb1); have HFF := aM (GFix.below hb1 hF); have HH := aM hh1; have HB := aM hb2; have HR := aM (show Rdr w2 gb A0 c0 l 0 0 (.slice none 0 0) 0 from ⟨hr2, hc⟩); have HGB := aM (show w1.heap.size ≤ gb by rw [← e4]; exact Nat.le_refl _); have HGH := aM (show w.heap.size ≤ gh by rw [← e2]; exact Nat.le_refl _); clear hF hC hc hn hh1 hb1 hb2 hr2; obtain ⟨B, hB⟩ : ∃ B, readV l = B := ⟨_, rfl⟩; rw [hB]
 unfold readV at hB
 obtain ⟨⟨N, er⟩, hBG⟩ : ∃ x, beginV l = x := ⟨_, rfl⟩; rw [hBG] at hB; have HBG := aM hBG; have HD := aM hB; clear hB hBG
 cases er with
 | some q =>
  have hd := HD.out
  dsimp only at hd
  subst hd
  go_enter Tryd.func9, Tryd.ntmps9
  go_wp2_with (first | (go_at_call 23; refine (begin_at gb A0 c0 l 0 0 _ 0 _ HR.out (Kd.C_below HCC.out HB.out) (GFix.below HB.out HFF.out) HNN.out.1 (getV_nonneg _ _ _)).mono ?_; rw [HBG.out]; rintro e w3 ⟨ve, rfl, hE, hb⟩; have HE := aM (ErrAt.lower hE (below_size HB.out)); obtain ⟨tE, xE, rfl⟩ := ErrAt.some_form hE; clear hE; have HR2 := aM (HR.out.below hb); have HB2 := aM (below_step HB.out hb); clear HR HB hb; have HR := HR2; have HB := HB2; clear HR2 HB2) | (refine wpList_store_row rfl 27 (.tmp 2) (.tmp 21) rfl gh #[.int .i64 0, .int .u64 0, .slice none 0 0] rfl rfl 27 #[.int .i64 0, .int .u64 0, .slice none 0 0] (blk_below HH.out HB.out) size27 rfl (by simp [Value.oneCell']) ?_))
  ((try simp only [Exit.inBlock, Exit.then]); refine bodyPost_ret (results_ct rfl _ _ gh 27 #[.int .i64 0, .int .u64 0, .slice none 0 0] (0, 0) _ rfl (setRow_heap _ gh #[.int .i64 0, .int .u64 0, .slice none 0 0] #[.int .i64 0, .int .u64 0, .slice none 0 0] 27 (0, 0) (blk_below HH.out HB.out)) hu27 rfl size27) rfl ?_)
  exact ⟨_, _, rfl, ErrAt.lower (ErrAt.row HE.out _ (blk_below HH.out HB.out)) (below_size HW.out), Kd.R_nil _ _ _ _ _, below_row (below_step HW.out HB.out) HGH.out _⟩
 | none =>
  have hd := HD.out
  dsimp only at hd
  have HD2 := aM hd; clear HD hd
  go_enter Tryd.func9, Tryd.ntmps9
  go_wp2_with (first | (go_at_call 23; refine (begin_at gb A0 c0 l 0 0 _ 0 _ HR.out (Kd.C_below HCC.out HB.out) (GFix.below HB.out HFF.out) HNN.out.1 (getV_nonneg _ _ _)).mono ?_; rw [HBG.out]; rintro e w3 ⟨ve, rfl, hE, hb⟩; have HE := aM (ErrAt.lower hE (below_size HB.out)); obtain rfl := ErrAt.none_eq hE; clear hE; have HR2 := aM (HR.out.below hb); have HB2 := aM (below_step HB.out hb); clear HR HB hb; have HR := HR2; have HB := HB2; clear HR2 HB2))
  clear e1 e2 e3 e4; have hb := below_drew1 (Below.refl w3.heap.size w3); have HR2 := aM (HR.out.below hb); have HB2 := aM (below_step HB.out hb); clear HR HB hb; have HR := HR2; have HB := HB2; clear HR2 HB2; have gc := HR.out.c0; obtain ⟨TY, hTY⟩ : ∃ x, getV l 16 2 = x := ⟨_, rfl⟩; obtain ⟨EN, hEN⟩ : ∃ x, getV l 24 8 = x := ⟨_, rfl⟩; obtain ⟨FR, hFR⟩ : ∃ x, getV l 32 8 = x := ⟨_, rfl⟩; have hd := HD2.out; rw [hTY, hEN, hFR] at hd; have HD := aM hd; have HTY := aM hTY; have HEN := aM hEN; have HFR := aM hFR; clear hTY hEN hFR hd HD2; refine start_ (n := 21) (S := fun w' => w'.cell? ⟨gb, 0, none⟩ = some (.slice A0 l.length c0)) (ds := [16, 20]) #[nn,nn,nn,nn,nn,nn,nn,nn,nn,nn,nn,nn,nn,nn,nn,nn,nn,nn,nn,nn,nn] (by kernel_rfl) rfl (by kernel_rfl) (gc) (fun hHeld => ?_); refine pure_ (i := 0) (N := some 23) (v := ?_) (a' := ?_) #[yy,nn,nn,nn,nn,nn,nn,nn,nn,nn,nn,nn,nn,nn,nn,nn,nn,nn,nn,nn,nn] rfl rfl (by kernel_rfl) (fun _ _ _ h => h) (Or.inl ⟨by rfl, ?_⟩) ?_ ?_; rotate_left
  ·intro w'
   go_simp
   with_reducible rfl
  rotate_left
  ·simp only [Act.put, sA, sZ, sS, i64_w, i32_w]
   rfl
  refine pure_ (i := 1) (N := some 24) (v := ?_) (a' := ?_) #[yy,yy,nn,nn,nn,nn,nn,nn,nn,nn,nn,nn,nn,nn,nn,nn,nn,nn,nn,nn,nn] rfl rfl (by kernel_rfl) (fun _ _ _ h => h) (Or.inl ⟨by rfl, ?_⟩) ?_ ?_; rotate_left
  ·intro w'
   go_simp
   with_reducible rfl
  rotate_left
  ·simp only [Act.put, sA, sZ, sS, i64_w, i32_w]
   rfl
  refine pure_ (i := 2) (N := some 25) (v := ?_) (a' := ?_) #[yy,yy,yy,nn,nn,nn,nn,nn,nn,nn,nn,nn,nn,nn,nn,nn,nn,nn,nn,nn,nn] rfl rfl (by kernel_rfl) (fun _ _ _ h => h) (Or.inl ⟨by rfl, ?_⟩) ?_ ?_; rotate_left
  ·intro w'
   go_simp
   with_reducible rfl
  rotate_left
  ·simp only [Act.put, sA, sZ, sS, i64_w, i32_w]
   rfl
  refine pure_ (i := 3) (N := some 26) (v := ?_) (a' := ?_) #[yy,yy,yy,yy,nn,nn,nn,nn,nn,nn,nn,nn,nn,nn,nn,nn,nn,nn,nn,nn,nn] rfl rfl (by kernel_rfl) (fun _ _ _ h => h) (Or.inl ⟨by rfl, ?_⟩) ?_ ?_; rotate_left
  ·intro w'
   go_simp
   with_reducible rfl
  rotate_left
  ·simp only [Act.put, sA, sZ, sS, i64_w, i32_w]
   rfl
  refine pure_ (i := 4) (N := some 27) (v := ?_) (a' := ?_) #[yy,yy,yy,yy,yy,nn,nn,nn,nn,nn,nn,nn,nn,nn,nn,nn,nn,nn,nn,nn,nn] rfl rfl (by kernel_rfl) (fun _ _ _ h => h) (Or.inl ⟨by rfl, ?_⟩) ?_ ?_; rotate_left
  ·intro w'
   go_simp
   with_reducible rfl
  rotate_left
  ·simp only [Act.put, sA, sZ, sS, i64_w, i32_w]
   rfl
  refine pure_ (i := 8) (N := some 31) (v := ?_) (a' := ?_) #[yy,yy,yy,yy,yy,nn,nn,nn,yy,nn,nn,nn,nn,nn,nn,nn,nn,nn,nn,nn,nn] rfl rfl (by kernel_rfl) (fun _ _ _ h => h) (Or.inl ⟨by rfl, ?_⟩) ?_ ?_; rotate_left
  ·intro w'
   go_simp
   with_reducible rfl
  rotate_left
  ·simp only [Act.put, sA, sZ, sS, i64_w, i32_w]
   rfl
  refine pure_ (i := 9) (N := some 32) (v := ?_) (a' := ?_) #[yy,yy,yy,yy,yy,nn,nn,nn,yy,yy,nn,nn,nn,nn,nn,nn,nn,nn,nn,nn,nn] rfl rfl (by kernel_rfl) (fun _ _ _ h => h) (Or.inl ⟨by rfl, ?_⟩) ?_ ?_; rotate_left
  ·intro w'
   go_simp
   with_reducible rfl
  rotate_left
  ·simp only [Act.put, sA, sZ, sS, i64_w, i32_w]
   rfl
  refine pure_ (i := 10) (N := some 33) (v := ?_) (a' := ?_) #[yy,yy,yy,yy,yy,nn,nn,nn,yy,yy,yy,nn,nn,nn,nn,nn,nn,nn,nn,nn,nn] rfl rfl (by kernel_rfl) (fun _ _ _ h => h) (Or.inl ⟨by rfl, ?_⟩) ?_ ?_; rotate_left
  ·intro w'
   go_simp
   with_reducible rfl
  rotate_left
  ·simp only [Act.put, sA, sZ, sS, i64_w, i32_w]
   rfl
  refine take_ (i := 5) (N := some 28) (v := ?_) (a' := ?_) #[yy,yy,yy,yy,yy,yy,nn,nn,yy,yy,yy,nn,nn,nn,nn,nn,nn,nn,nn,nn,nn] rfl rfl (by kernel_rfl) (fun _ _ _ h => h) (Or.inl ⟨by rfl, ?_⟩) hHeld ?_ ?_; rotate_left
  ·intro w' s0
   go_simp
   with_reducible rfl
  rotate_left
  ·simp only [Act.put, sA, sZ, sS, i64_w, i32_w]
   rfl
  refine take_ (i := 11) (N := some 34) (v := ?_) (a' := ?_) #[yy,yy,yy,yy,yy,yy,nn,nn,yy,yy,yy,yy,nn,nn,nn,nn,nn,nn,nn,nn,nn] rfl rfl (by kernel_rfl) (fun _ _ _ h => h) (Or.inl ⟨by rfl, ?_⟩) hHeld ?_ ?_; rotate_left
  ·intro w' s0
   go_simp
   with_reducible rfl
  rotate_left
  ·simp only [Act.put, sA, sZ, sS, i64_w, i32_w]
   rfl
  refine one_ (i := 6) (N := some 29) #[yy,yy,yy,yy,yy,yy,yy,nn,yy,yy,yy,yy,nn,nn,nn,nn,nn,nn,nn,nn,nn] rfl rfl (by kernel_rfl) (by decide) (fun K hK => ?_); refine goes_ Tryd.func24 (by kernel_rfl) rfl #[.agg #[.slice A0 l.length c0], .int .u64 16, .int .i64 2] (by rfl) rfl rfl (by simp only [List.map_toArray, List.map_cons, List.map_nil]; rfl) ?_
  with_reducible refine (get_at A0 c0 l _ _ _ (Kd.C_below HCC.out HB.out) HNN.out.2 HNN.out.1 (by decide) (by decide) (by decide)).mono ?_
  rintro e w4 ⟨he_, hb⟩; rw [HTY.out] at he_; subst he_; have HR2 := aM (HR.out.below hb); have HB2 := aM (below_step HB.out hb); clear HR HB hb; have HR := HR2; have HB := HB2; clear HR2 HB2; refine ⟨_, rfl, ?_⟩; refine hK.out _ _ (HR.out.c0) (fun hHeld => ?_); clear hK K; refine norm_ (a' := ?_) ?_ ?_; rotate_left
  ·show Act.put _ (some 29) _ = _
   simp only [Act.put, sA, sZ, sS, i64_w, i32_w]
   rfl
  refine pure_ (i := 7) (N := some 30) (v := ?_) (a' := ?_) #[yy,yy,yy,yy,yy,yy,yy,yy,yy,yy,yy,yy,nn,nn,nn,nn,nn,nn,nn,nn,nn] rfl rfl (by kernel_rfl) (fun _ _ _ h => h) (Or.inl ⟨by rfl, ?_⟩) ?_ ?_; rotate_left
  ·intro w'
   go_simp
   with_reducible rfl
  rotate_left
  ·simp only [Act.put, sA, sZ, sS, i64_w, i32_w]
   rfl
  refine one_ (i := 12) (N := some 35) #[yy,yy,yy,yy,yy,yy,yy,yy,yy,yy,yy,yy,yy,nn,nn,nn,nn,nn,nn,nn,nn] rfl rfl (by kernel_rfl) (by decide) (fun K hK => ?_); refine goes_ Tryd.func24 (by kernel_rfl) rfl #[.agg #[.slice A0 l.length c0], .int .u64 24, .int .i64 8] (by rfl) rfl rfl (by simp only [List.map_toArray, List.map_cons, List.map_nil]; rfl) ?_
  with_reducible refine (get_at A0 c0 l _ _ _ (Kd.C_below HCC.out HB.out) HNN.out.2 HNN.out.1 (by decide) (by decide) (by decide)).mono ?_
  rintro e w5 ⟨he_, hb⟩; rw [HEN.out] at he_; subst he_; have HR2 := aM (HR.out.below hb); have HB2 := aM (below_step HB.out hb); clear HR HB hb; have HR := HR2; have HB := HB2; clear HR2 HB2; have g1 := HR.out.c1; have g2 := HR.out.c2; have f1 := blk_frozen HR.out.at_ 1; have f2 := blk_frozen HR.out.at_ 2; refine ⟨_, rfl, ?_⟩; refine hK.out _ _ (HR.out.c0) (fun hHeld => ?_); clear hK K; refine norm_ (a' := ?_) ?_ ?_; rotate_left
  ·show Act.put _ (some 35) _ = _
   simp only [Act.put, sA, sZ, sS, i64_w, i32_w]
   rfl
  refine pure_ (i := 13) (N := some 36) (v := ?_) (a' := ?_) #[yy,yy,yy,yy,yy,yy,yy,yy,yy,yy,yy,yy,yy,yy,nn,nn,nn,nn,nn,nn,nn] rfl rfl (by kernel_rfl) (fun _ _ _ h => h) (Or.inl ⟨by rfl, ?_⟩) ?_ ?_; rotate_left
  ·intro w'
   go_simp
   with_reducible rfl
  rotate_left
  ·simp only [Act.put, sA, sZ, sS, i64_w, i32_w]
   rfl
  refine pure_ (i := 14) (N := some 37) (v := ?_) (a' := ?_) #[yy,yy,yy,yy,yy,yy,yy,yy,yy,yy,yy,yy,yy,yy,yy,nn,nn,nn,nn,nn,nn] rfl rfl (by kernel_rfl) (fun _ _ _ h => h) (Or.inl ⟨by rfl, ?_⟩) ?_ ?_; rotate_left
  ·intro w'
   go_simp
   with_reducible rfl
  rotate_left
  ·simp only [Act.put, sA, sZ, sS, i64_w, i32_w]
   rfl
  refine pure_ (i := 15) (N := some 38) (v := ?_) (a' := ?_) #[yy,yy,yy,yy,yy,yy,yy,yy,yy,yy,yy,yy,yy,yy,yy,yy,nn,nn,nn,nn,nn] rfl rfl (by kernel_rfl) (fun _ _ _ h => h) (Or.inl ⟨by rfl, ?_⟩) ?_ ?_; rotate_left
  ·intro w'
   go_simp
   with_reducible rfl
  rotate_left
  ·simp only [Act.put, sA, sZ, sS, i64_w, i32_w]
   rfl
  refine last_ (i := 16) (N := none) #[yy,yy,yy,yy,yy,yy,yy,yy,yy,yy,yy,yy,yy,yy,yy,yy,yy,nn,nn,nn,nn] rfl rfl (by kernel_rfl) (by decide) (fun K hK => ?_); refine skip_ (w1 := ?_) (by rfl) rfl ?_ ?_; rotate_left
  ·go_simp
   rfl
  refine hK.out _ _ ?_; clear hK K; refine pure_ (i := 17) (N := some 39) (v := ?_) (a' := ?_) #[yy,yy,yy,yy,yy,yy,yy,yy,yy,yy,yy,yy,yy,yy,yy,yy,yy,yy,nn,nn,nn] rfl rfl (by kernel_rfl) (fun _ _ _ h => h) (Or.inl ⟨by rfl, ?_⟩) ?_ ?_; rotate_left
  ·intro w'
   go_simp
   with_reducible rfl
  rotate_left
  ·simp only [Act.put, sA, sZ, sS, i64_w, i32_w]
   rfl
  refine pure_ (i := 18) (N := some 40) (v := ?_) (a' := ?_) #[yy,yy,yy,yy,yy,yy,yy,yy,yy,yy,yy,yy,yy,yy,yy,yy,yy,yy,yy,nn,nn] rfl rfl (by kernel_rfl) (fun _ _ _ h => h) (Or.inl ⟨by rfl, ?_⟩) ?_ ?_; rotate_left
  ·intro w'
   go_simp
   with_reducible rfl
  rotate_left
  ·simp only [Act.put, sA, sZ, sS, i64_w, i32_w]
   rfl
  refine pure_ (i := 19) (N := some 41) (v := ?_) (a' := ?_) #[yy,yy,yy,yy,yy,yy,yy,yy,yy,yy,yy,yy,yy,yy,yy,yy,yy,yy,yy,yy,nn] rfl rfl (by kernel_rfl) (fun _ _ _ h => h) (Or.inl ⟨by rfl, ?_⟩) ?_ ?_; rotate_left
  ·intro w'
   go_simp
   with_reducible rfl
  rotate_left
  ·simp only [Act.put, sA, sZ, sS, i64_w, i32_w]
   rfl
  refine last_ (i := 20) (N := none) #[yy,yy,yy,yy,yy,yy,yy,yy,yy,yy,yy,yy,yy,yy,yy,yy,yy,yy,yy,yy,yy] rfl rfl (by kernel_rfl) (by decide) (fun K hK => ?_); refine skip_ (w1 := ?_) (by rfl) rfl ?_ ?_; rotate_left
  ·go_simp
   rfl
  refine hK.out _ _ ?_; clear hK K; refine done_ (by kernel_rfl) ?_; have HR2 := aM (HR.out.setT (wrap64 TY) EN); have HB2 := aM (below_set (j := 2) (v := .int .u64 EN) (below_set (j := 1) (v := .int .i64 (wrap64 TY)) HB.out HGB.out) HGB.out); clear HR HB gc g1 g2 f1 f2; have HR := HR2; have HB := HB2; clear HR2 HB2 hHeld; generalize (w5.setCell ⟨gb, 1, none⟩ (.int .i64 (wrap64 TY))).setCell ⟨gb, 2, none⟩ (.int .u64 EN) = w6 at *; have gc := HR.out.c0; have HN16 := aM (beginV_n l N HBG.out)
  go_wp2_with (first | (go_at_call 24; refine (get_at A0 c0 l _ _ _ (Kd.C_below HCC.out HB.out) HNN.out.2 HNN.out.1 (by decide) (by decide) (by decide)).mono ?_; rw [HFR.out]; rintro e w7 ⟨rfl, hb⟩; have HR2 := aM (HR.out.below hb); have HB2 := aM (below_step HB.out hb); clear HR HB hb; have HR := HR2; have HB := HB2; clear HR2 HB2))
  obtain ⟨X, hX⟩ : ∃ x, goV l FR N.toNat 0 [] 0 = x := ⟨_, rfl⟩; have hd := HD.out; rw [hX] at hd; have HD2 := aM hd; have HX := aM (show goV l FR (N.toNat - 0) 0 [] 0 = X from hX); clear hX hd HD
  go_loopg [48] (N.toNat + 1) (fun kq v48 w' => ∃ (i : Nat) (ps : List S50) (nd : Int) (pv : Value), v48 = .int .u64 (i : Int) ∧ Aside0 (i + kq = N.toNat + 1 ∧ i ≤ N.toNat ∧ ps.length ≤ i) ∧ Aside0 (goV l FR (N.toNat - i) i ps nd = X) ∧ Aside0 (Rdr w' gb A0 c0 l (wrap64 TY) EN pv nd) ∧ Aside0 (Kd.R k50 50 w' w1.heap.size (fun _ => True) pv ps) ∧ Aside0 (Below w1.heap.size w1 w'))
  case atStart => exact ⟨0, [], 0, .slice none 0 0, rfl, ⟨by omega, by omega, by simp⟩, HX, HR, ⟨Kd.R_nil _ _ _ _ _⟩, HB⟩
  case round =>
   clear HX HR HB gc; obtain ⟨i, ps, nd, pv, rfl, HK, HX, HR, HP, HB⟩ := hrel; have gc := HR.out.c0
   cases gk with
   | zero => exact absurd HK.out (by omega)
   | succ k1 =>
    by_cases hi : i < N.toNat
    ·have hi2 : decide ((i : Int) < N) = true := decide_eq_true (by omega)
     have hwi : IntKind.u64.wrap ((i : Int) + 1) = ((i + 1 : Nat) : Int) := by rw [hd_uwrap (by omega) (by have := HN16.out; omega)]; omega
     have HWI := aM hwi; have HI := aM hi; obtain ⟨d, hdd⟩ : ∃ d, N.toNat - i = d + 1 := ⟨N.toNat - i - 1, by omega⟩; have hx := HX.out; rw [hdd, goV] at hx; obtain ⟨⟨er, ps2, nd2⟩, hpv⟩ : ∃ x, progV l (IntKind.u64.wrap (FR + IntKind.u64.wrap (56 * (i : Int)))) ps nd = x := ⟨_, rfl⟩; rw [hpv] at hx; have HPV := aM hpv; have HDD := aM (show N.toNat - (i + 1) = d by omega); clear hwi hi hdd HX
     cases er with
     | some q =>
      dsimp only at hx
      subst hx; have hd := HD2.out
      dsimp only at hd
      subst hd; clear HD2 hpv
      go_wp2_with (first | (go_at_call 25; refine (prog_at gb A0 c0 l _ _ _ ps nd (IntKind.u64.wrap (FR + IntKind.u64.wrap (56 * (i : Int)))) w1 _ HB.out HGB.out HCC.out HR.out HP.out HNN.out.1 (by have := HK.out; have := HN16.out; omega) ⟨getV_nonneg _ _ _, getV_nonneg _ _ _⟩ (hd_wrap_in _).1 (hd_wrap_in _).2).mono ?_; rw [HPV.out]; rintro e w8 ⟨ve, pv2, rfl, hE, hR2, hP2, hB2⟩; have HE := aM hE; clear HR HP HB gc; have HR := aM hR2; have HP := aM hP2; have HB := aM hB2; clear hR2 hP2 hB2; obtain ⟨tE, xE, rfl⟩ := ErrAt.some_form hE; clear hE) | (refine wpList_store_row rfl 27 (.tmp 2) (.tmp 59) rfl gh #[.int .i64 0, .int .u64 0, .slice none 0 0] rfl rfl 27 #[.int .i64 0, .int .u64 0, .slice none 0 0] (blk_below HH.out HB.out) size27 rfl (by simp [Value.oneCell']) ?_))
      ((try simp only [Exit.inBlock, Exit.then]); refine bodyPost_ret (results_ct rfl _ _ gh 27 #[.int .i64 0, .int .u64 0, .slice none 0 0] (0, 0) _ rfl (setRow_heap _ gh #[.int .i64 0, .int .u64 0, .slice none 0 0] #[.int .i64 0, .int .u64 0, .slice none 0 0] 27 (0, 0) (blk_below HH.out HB.out)) hu27 rfl size27) rfl ?_)
      exact ⟨_, _, rfl, ErrAt.lower (ErrAt.row HE.out _ (blk_below HH.out HB.out)) (below_size HW.out), Kd.R_nil _ _ _ _ _, below_row (below_step HW.out HB.out) HGH.out _⟩
     | none =>
      dsimp only at hx
      have HX2 := aM hx; have HL := aM (progV_len hpv); clear hx hpv
      go_wp2_with (first | (go_at_call 25; refine (prog_at gb A0 c0 l _ _ _ ps nd (IntKind.u64.wrap (FR + IntKind.u64.wrap (56 * (i : Int)))) w1 _ HB.out HGB.out HCC.out HR.out HP.out HNN.out.1 (by have := HK.out; have := HN16.out; omega) ⟨getV_nonneg _ _ _, getV_nonneg _ _ _⟩ (hd_wrap_in _).1 (hd_wrap_in _).2).mono ?_; rw [HPV.out]; rintro e w8 ⟨ve, pv2, rfl, hE, hR2, hP2, hB2⟩; have HE := aM hE; clear HR HP HB gc; have HR := aM hR2; have HP := aM hP2; have HB := aM hB2; clear hR2 hP2 hB2; obtain rfl := ErrAt.none_eq hE; clear hE))
      go_roundg k1
      case measure => omega
      case rel => exact ⟨i + 1, ps2, nd2, pv2, by rw [HWI.out], ⟨by have := HK.out; have := HI.out; have := HL.out; omega⟩, ⟨by rw [HDD.out]; exact HX2.out⟩, HR, HP, HB⟩
    ·have hi2 : decide ((i : Int) < N) = false := decide_eq_false (by have := HN16.out; omega)
     have hie : N.toNat - i = 0 := by omega
     have hx := HX.out; rw [hie, goV] at hx; subst hx; have hd := HD2.out
     dsimp only at hd
     obtain ⟨AP, cP, rfl⟩ := Kd.R_slice HP.out; have gp := HR.out.c3; have g1 := HR.out.c1; have g2 := HR.out.c2; clear hi hie HX
     by_cases hq : (ps.any fun x => x.f0 == 1) = true
     ·rw [if_pos hq] at hd; subst hd; clear HD2
      go_wp2_with (first | (go_at_call 26; refine (has27_at AP cP ps _ (Kd.R_reads' HP.out).2.2 (Kd.R_reads' HP.out).2.1 (by have := HK.out; have := HN16.out; omega)).mono ?_; rw [hq]; rintro e w9 ⟨rfl, hb⟩; clear gc gp g1 g2; have HP2 := aM (Kd.R_below HP.out hb); have HR2 := aM (HR.out.below hb); have HB2 := aM (below_step HB.out hb); clear HR HB hb; have HR := HR2; have HB := HB2; clear HR2 HB2; have gc := HR.out.c0; have gp := HR.out.c3; have g1 := HR.out.c1; have g2 := HR.out.c2) | (refine wpList_store_row rfl 27 (.tmp 2) (.tmp 74) rfl gh #[.int .i64 (wrap64 TY), .int .u64 EN, .slice AP ps.length cP] rfl rfl 27 #[.int .i64 0, .int .u64 0, .slice none 0 0] (blk_below HH.out HB.out) size27 rfl (by simp [Value.oneCell']) ?_))
      ((try simp only [Exit.inBlock, Exit.then]); refine bodyPost_ret (results_ct rfl _ _ gh 27 #[.int .i64 (wrap64 TY), .int .u64 EN, .slice AP ps.length cP] (0, 0) _ rfl (setRow_heap _ gh #[.int .i64 0, .int .u64 0, .slice none 0 0] #[.int .i64 (wrap64 TY), .int .u64 EN, .slice AP ps.length cP] 27 (0, 0) (blk_below HH.out HB.out)) hu27 rfl size27) rfl ?_)
      exact ⟨_, _, rfl, ErrAt.of_none, Kd.R_mono (Kd.R_lower (Kd.R_step (Kd.R_mono (ok' := fun k => k ≠ gh) (Kd.R_bound HP2.out) (fun k hk => by have h1 := hk.2.1; have h2 := blk_lt HH.out; omega)) (fun k hk _ => setRow_other _ gh k _ hk)) (below_size HW.out)) (fun _ _ => trivial), below_row (below_step HW.out HB.out) HGH.out _⟩
     ·rw [if_neg hq] at hd; subst hd; rw [Bool.not_eq_true] at hq; clear HD2
      go_wp2_with (first | (go_at_call 26; refine (has27_at AP cP ps _ (Kd.R_reads' HP.out).2.2 (Kd.R_reads' HP.out).2.1 (by have := HK.out; have := HN16.out; omega)).mono ?_; rw [hq]; rintro e w9 ⟨rfl, hb⟩; clear gc gp g1 g2; have HR2 := aM (HR.out.below hb); have HB2 := aM (below_step HB.out hb); clear HR HB hb; have HR := HR2; have HB := HB2; clear HR2 HB2) | (refine wpList_store_row rfl 27 (.tmp 2) (.tmp 69) rfl gh #[.int .i64 0, .int .u64 0, .slice none 0 0] rfl rfl 27 #[.int .i64 0, .int .u64 0, .slice none 0 0] (blk_below HH.out HB.out) size27 rfl (by simp [Value.oneCell']) ?_))
      ((try simp only [Exit.inBlock, Exit.then]); refine bodyPost_ret (results_ct rfl _ _ gh 27 #[.int .i64 0, .int .u64 0, .slice none 0 0] (0, 0) _ rfl (setRow_heap _ gh #[.int .i64 0, .int .u64 0, .slice none 0 0] #[.int .i64 0, .int .u64 0, .slice none 0 0] 27 (0, 0) (blk_below HH.out HB.out)) hu27 rfl size27) rfl ?_)
      exact ⟨_, _, rfl, ErrAt.of_code (by decide), Kd.R_nil _ _ _ _ _, below_row (below_step HW.out HB.out) HGH.out _⟩

def head_Read.f (l0 : List Int) : Option (Int × Int × List (S50) × Option Int) := if l0.length < 140737488355328 then some (readV l0) else none
theorem head_Read.calls (A0 : Option Addr) (c0 : Nat) (l0 : List Int) (r1 : Int) (r2 : Int) (r3 : List (S50)) (r4 : Option Int) (w : World) (hG : ErrTy w) (hr0 : Kd.C (Kd.int .u8) w A0 l0.length l0) (hc0 : l0.length ≤ c0) (h : head_Read.f l0 = some (r1, r2, r3, r4)) :
  Calls Tryd.prog 9 #[.slice A0 l0.length c0] w fun e w' => ∃ v2_ ve3_ : Value, e = .returned (.tuple #[.agg #[.int .i64 r1, .int .u64 r2, v2_], ve3_]) ∧ ErrAt 32 103 105 w' w.heap.size r4 ve3_ ∧ Kd.R k50 50 w' w.heap.size (fun _ => True) v2_ r3 ∧ Below w.heap.size w w' := by
 unfold head_Read.f at h
 split at h
 case isFalse => cases h
 rename_i hn
 have h2 := Option.some.inj h; have := read_at A0 c0 l0 w hG.2 hr0 hc0 hn; rw [h2] at this; exact this

/-! ### bytes_Clone: function 62 (by hand) -/
def bytes_Clone.f (l0 : List Int) : Option (List Int) := if l0.length < 140737488355328 then some l0 else none
theorem bytes_Clone.calls (A0 : Option Addr) (c0 : Nat) (l0 : List Int) (r : List Int) (w : World) (hr0 : Kd.C (Kd.int .u8) w A0 l0.length l0) (hc0 : l0.length ≤ c0) (h : bytes_Clone.f l0 = some r) :
  Calls Tryd.prog 62 #[.slice A0 l0.length c0] w fun e w' => ∃ v0_ : Value, e = .returned v0_ ∧ Kd.R (Kd.int .u8) 5 w' w.heap.size (fun _ => True) v0_ r ∧ Below w.heap.size w w' := by
 unfold bytes_Clone.f at h
 split at h
 case isFalse => cases h
 rename_i hl
 obtain rfl := Option.some.inj h
 rcases A0 with _ | a
 ·have h0 : l0 = [] := by
   rcases l0 with _ | ⟨x, xs⟩
   ·rfl
   ·obtain ⟨ad, e, _⟩ := hr0.2.2 (by simp)
    cases e
  subst h0; refine (Tryd.bytes_Clone_nil 0 c0 w).mono ?_; rintro e w' ⟨rfl, rfl⟩; exact ⟨_, rfl, Kd.R_nil _ _ _ _ _, Below.refl _ _⟩
 ·have hcell : ∀ i, i < l0.length → w.cell? (a.add i) = some (.int .u8 (l0.getD i 0)) := fun i hi => by
   obtain ⟨ad, e, hc⟩ := hr0.2.2 (by omega); obtain rfl := Option.some.inj e; obtain ⟨cs, hl, hK, hcs⟩ := hc i _ (List.getElem?_eq_getElem hi); have hK2 : cs = [.int .u8 l0[i]] := hK; subst hK2; have := hcs 0 _ rfl; rw [List.getD_eq_getElem?_getD, List.getElem?_eq_getElem hi]
   have h1 : i * (Kd.int .u8).sz + 0 = i := by show i * 1 + 0 = i; omega
   rw [h1] at this; exact this
  refine (Tryd.bytes_Clone_at a l0.length c0 l0 w rfl (by omega) hcell).mono ?_; rintro e w' ⟨v', rfl, hown, -, hB⟩; exact ⟨v', rfl, Kd.R_of_own hown (fun _ _ => trivial), hB⟩

/-! ### span_Cut: function 36 -/
def span_Cut.f (l0 : List Int) (a1 : Int) (a2 : Int) : Option (List Int × Option Int) := (span_In.f (IntKind.u64.wrap ((l0.length : Int))) a1 a2).bind fun t130 => (if t130 = true then (if 0 ≤ a1 then (if a1 ≤ (IntKind.u64.wrap (a1 + a2)) then (if (IntKind.u64.wrap (a1 + a2)) ≤ (l0.length : Int) then ((bytes_Clone.f ((l0.take ((IntKind.u64.wrap (a1 + a2)) : Int).toNat).drop (a1 : Int).toNat)).bind fun t132 => (some (t132, none))) else (none)) else (none)) else (none)) else (if 0 ≤ a1 then (if a1 < 18446744073709551616 then (some (([] : List Int), some (spZ a1 4))) else (none)) else (none)))
set_option maxHeartbeats 8000000 in
set_option maxRecDepth 100000 in
theorem span_Cut.calls (A0 : Option Addr) (c0 : Nat) (l0 : List Int) (a1 : Int) (a2 : Int) (r1 : List Int) (r2 : Option Int) (w : World) (hr0 : Kd.C (Kd.int .u8) w A0 l0.length l0) (hc0 : l0.length ≤ c0) (h : span_Cut.f l0 a1 a2 = some (r1, r2)) :
  Calls Tryd.prog 36 #[.slice A0 l0.length c0, .int .u64 a1, .int .u64 a2] w fun e w' => ∃ v0_ ve1_ : Value, e = .returned (.tuple #[v0_, ve1_]) ∧ ErrAt 32 103 105 w' w.heap.size r2 ve1_ ∧ Kd.R (Kd.int .u8) 5 w' w.heap.size (fun _ => True) v0_ r1 ∧ Below w.heap.size w w' := by
 have hu105 := Tryd.underlying105; have hu29 := Tryd.underlying29; have hu32 := Tryd.underlying32; have HR0 := aM hr0; have HC0 := aM hc0; clear hr0 hc0; have HB := aM (Below.refl w.heap.size w); have H : ((span_In.f (IntKind.u64.wrap ((l0.length : Int))) a1 a2).bind fun t130 => (if t130 = true then (if 0 ≤ a1 then (if a1 ≤ (IntKind.u64.wrap (a1 + a2)) then (if (IntKind.u64.wrap (a1 + a2)) ≤ (l0.length : Int) then ((bytes_Clone.f ((l0.take ((IntKind.u64.wrap (a1 + a2)) : Int).toNat).drop (a1 : Int).toNat)).bind fun t132 => (some (t132, none))) else (none)) else (none)) else (none)) else (if 0 ≤ a1 then (if a1 < 18446744073709551616 then (some (([] : List Int), some (spZ a1 4))) else (none)) else (none)))) = some (r1, r2) := h; clear h; replace H := Option.bind_eq_some_iff.mp H; obtain ⟨t130, A40, H⟩ := H; replace H : (if t130 = true then (if 0 ≤ a1 then (if a1 ≤ (IntKind.u64.wrap (a1 + a2)) then (if (IntKind.u64.wrap (a1 + a2)) ≤ (l0.length : Int) then ((bytes_Clone.f ((l0.take ((IntKind.u64.wrap (a1 + a2)) : Int).toNat).drop (a1 : Int).toNat)).bind fun t132 => (some (t132, none))) else (none)) else (none)) else (none)) else (if 0 ≤ a1 then (if a1 < 18446744073709551616 then (some (([] : List Int), some (spZ a1 4))) else (none)) else (none))) = some (r1, r2) := H; have A4 := aM A40; clear A40
 by_cases c5 : t130 = true
 ·subst c5
  have H1 : (if 0 ≤ a1 then (if a1 ≤ (IntKind.u64.wrap (a1 + a2)) then (if (IntKind.u64.wrap (a1 + a2)) ≤ (l0.length : Int) then ((bytes_Clone.f ((l0.take ((IntKind.u64.wrap (a1 + a2)) : Int).toNat).drop (a1 : Int).toNat)).bind fun t132 => (some (t132, none))) else (none)) else (none)) else (none)) = some (r1, r2) := by rw [if_pos rfl] at H; exact H
  clear H; have H := H1; clear H1
  by_cases c6 : 0 ≤ a1
  ·rw [if_pos c6] at H; have c6b0 := eq_true c6; have c6b1 : decide (0 ≤ a1) = true := decide_eq_true c6; clear c6
   by_cases c7 : a1 ≤ (IntKind.u64.wrap (a1 + a2))
   ·rw [if_pos c7] at H; have c7b0 := eq_true c7; have c7b1 : decide (a1 ≤ (IntKind.u64.wrap (a1 + a2))) = true := decide_eq_true c7
    by_cases c8 : (IntKind.u64.wrap (a1 + a2)) ≤ (l0.length : Int)
    ·rw [if_pos c8] at H; have c8b0 := eq_true c8; have c8b1 : decide ((IntKind.u64.wrap (a1 + a2)) ≤ (l0.length : Int)) = true := decide_eq_true c8; replace H := Option.bind_eq_some_iff.mp H; obtain ⟨t132, A90, H⟩ := H; replace H : (some (t132, none)) = some (r1, r2) := H; have A9 := aM A90; clear A90; simp only [Option.some.injEq, Prod.mk.injEq] at H; obtain ⟨rfl, rfl⟩ := H
     go_enter Tryd.func36, Tryd.ntmps36
     go_wp2_with (first | ((with_reducible refine gate_callee (f := 56) rfl ?_); refine goesL_ (some 13) rfl rfl Tryd.func56 (by kernel_rfl) rfl #[.int .u64 (IntKind.u64.wrap ((l0.length : Int))), .int .u64 a1, .int .u64 a2] rfl (by (try simp only [List.map_toArray, List.map_cons, List.map_nil]); first | done | rfl | (simp only [List.length_drop, List.length_take]; rfl)) ?_; (with_reducible refine (span_In.calls (IntKind.u64.wrap ((l0.length : Int))) a1 a2 true _ A4.out).mono ?_); rintro e w' ⟨rfl, ⟨nd, rfl⟩⟩; refine ⟨_, rfl, ?_⟩; obtain ⟨i010, hi010, _, hsz10, _⟩ := info_parts info5; obtain ⟨A10, hcut10, hA10, hC10⟩ := print_mid_of (P := Tryd.prog) (Value.int .u8) 0 22 5 .u64 .u64 Tryd.underlying22 hi010 hsz10 A0 c0 l0 a1 (IntKind.u64.wrap (a1 + a2)) (of_decide_eq_true (by first | (with_reducible assumption) | assumption)) (by first | omega | exact of_decide_eq_true (by first | (with_reducible assumption) | assumption)) (of_decide_eq_true (by first | (with_reducible assumption) | assumption)) HC0.out; have HR131 := aM (Kd.C_of_reads (h1 := fun _ => rfl) (hA10 _ (Kd.reads_of_C HR0.out))); have HC131 := aM hC10; clear hA10 hC10 hi010 hsz10) | ((with_reducible refine gate_callee (f := 62) rfl ?_); refine goesL_ (some 26) rfl rfl Tryd.func62 (by kernel_rfl) rfl #[.slice A10 ((l0.take ((IntKind.u64.wrap (a1 + a2)) : Int).toNat).drop (a1 : Int).toNat).length (c0 - a1.toNat)] rfl (by (try simp only [List.map_toArray, List.map_cons, List.map_nil]); first | done | (rw [show ((l0.take ((IntKind.u64.wrap (a1 + a2)) : Int).toNat).drop (a1 : Int).toNat).length = ((IntKind.u64.wrap (a1 + a2)).toNat - a1.toNat) from (by rw [List.length_drop, List.length_take]; have h_ : ((IntKind.u64.wrap (a1 + a2)) : Int) ≤ (l0.length : Int) := of_decide_eq_true (by first | (with_reducible assumption) | assumption); omega)] <;> rfl) | rfl | (simp only [List.length_drop, List.length_take]; rfl)) ?_; (with_reducible refine (bytes_Clone.calls _ _ ((l0.take ((IntKind.u64.wrap (a1 + a2)) : Int).toNat).drop (a1 : Int).toNat) t132 _ ?side1 ?side2 A9.out).mono ?_); (case side1 => repeat (first | exact HR131.out | (with_reducible refine cA ?_ _) | (with_reducible refine cN ?_ _) | (with_reducible refine cD ?_))); (case side2 => exact HC131.out); rintro e w11 ⟨v133, rfl, ho0, hb⟩; refine ⟨_, rfl, ?_⟩; have HO134 := aM (Kd.R_lower ho0 (below_size (by repeat (first | (with_reducible first | exact HB.out | apply bA | apply bN | apply bD) | exact HB.out)))); replace HB := aM (below_step (by repeat (first | (with_reducible first | exact HB.out | apply bA | apply bN | apply bD) | exact HB.out)) hb); (try clear hb); (try clear hb2); (try clear hk); (try clear hi); (try clear ho0)))
     go_ret2
     exact ⟨_, .nilIface, by first | rfl | (simp [errW_none, errW_some] <;> rfl) | (simp [*, errW_none, errW_some] <;> rfl), ErrAt.of_none, by (with_reducible repeat (first | apply rA | apply rN | apply rD)); exact HO134.out, by repeat (first | (with_reducible first | exact HB.out | apply bA | apply bN | apply bD) | exact HB.out)⟩
    ·rw [if_neg c8] at H; exact absurd H (by simp)
   ·rw [if_neg c7] at H; exact absurd H (by simp)
  ·rw [if_neg c6] at H; exact absurd H (by simp)
 ·replace c5 := Bool.eq_false_iff.mpr c5; subst c5
  have H1 : (if 0 ≤ a1 then (if a1 < 18446744073709551616 then (some (([] : List Int), some (spZ a1 4))) else (none)) else (none)) = some (r1, r2) := by rw [if_neg (show ¬ (false = true) by decide)] at H; exact H
  clear H; have H := H1; clear H1
  by_cases c12 : 0 ≤ a1
  ·rw [if_pos c12] at H; have c12b0 := eq_true c12; have c12b1 : decide (0 ≤ a1) = true := decide_eq_true c12; clear c12
   by_cases c13 : a1 < 18446744073709551616
   ·rw [if_pos c13] at H; have c13b0 := eq_true c13; have c13b1 : decide (a1 < 18446744073709551616) = true := decide_eq_true c13; clear c13; simp only [Option.some.injEq, Prod.mk.injEq] at H; obtain ⟨rfl, rfl⟩ := H
    go_enter Tryd.func36, Tryd.ntmps36
    go_wp2_with (first | ((with_reducible refine gate_callee (f := 56) rfl ?_); refine goesL_ (some 13) rfl rfl Tryd.func56 (by kernel_rfl) rfl #[.int .u64 (IntKind.u64.wrap ((l0.length : Int))), .int .u64 a1, .int .u64 a2] rfl (by (try simp only [List.map_toArray, List.map_cons, List.map_nil]); first | done | rfl | (simp only [List.length_drop, List.length_take]; rfl)) ?_; (with_reducible refine (span_In.calls (IntKind.u64.wrap ((l0.length : Int))) a1 a2 false _ A4.out).mono ?_); rintro e w' ⟨rfl, ⟨nd, rfl⟩⟩; refine ⟨_, rfl, ?_⟩) | ((with_reducible refine gate_dst (N := 18) rfl ?_); refine box_event ?hg (N := 18) ?hd (cs := #[.int .u64 a1, .iface 32 (.int .i64 4)]) (t := 105) ?hr ?_; (case hd => rfl); (case hg => rfl); (case hr => first | (go_simp; done) | (go_simp; rfl)); intro gb135 hg w14 hbox hb; have BK135 := aM (hbox); have GW135 := aM ((by rw [hg]; exact (below_size (by repeat (first | (with_reducible first | exact HB.out | apply bA | apply bN | apply bD) | exact HB.out))) : w.heap.size ≤ gb135)); have GE135 := aM ((by rw [hg]; exact (below_size (by repeat (first | (with_reducible first | exact HB.out | apply bA | apply bN | apply bD) | exact HB.out))) : w.heap.size ≤ gb135)); replace HB := aM (below_step (by repeat (first | (with_reducible first | exact HB.out | apply bA | apply bN | apply bD) | exact HB.out)) hb); clear hb hbox hg))
    go_ret2
    exact ⟨_, .iface 103 (.pointer (some ⟨gb135, 0, none⟩)), by first | rfl | (simp [errW_none, errW_some] <;> rfl) | (simp [*, errW_none, errW_some] <;> rfl), (ErrAt.of_made (by first | (with_reducible exact of_decide_eq_true (by assumption)) | exact of_decide_eq_true (by assumption) | decide | omega) (by first | (with_reducible exact of_decide_eq_true (by assumption)) | exact of_decide_eq_true (by assumption) | decide | omega) (by first | (with_reducible exact of_decide_eq_true (by assumption)) | exact of_decide_eq_true (by assumption) | decide | omega) GW135.out (by (with_reducible repeat (first | refine kN ?_ _ | refine kD ?_ | refine kA ?_ _)); exact BK135.out)), by first | exact Kd.R_nil _ _ _ _ _ | exact Kd.N_nil _ _ _ _ _ | exact Kd.V_nil _ _ _ _ _ | exact Kd.Q_nil _ _ _ _ _ | exact Kd.S_nil _ _ _ _ _, by repeat (first | (with_reducible first | exact HB.out | apply bA | apply bN | apply bD | refine below_set ?_ GE135.out) | exact HB.out)⟩
   ·rw [if_neg c13] at H; exact absurd H (by simp)
  ·rw [if_neg c12] at H; exact absurd H (by simp)

/-! ### bytealg_IndexByte: function 93 (by hand) -/
-- the model runs internal/bytealg.IndexByte by itself

/-! ### bytes_IndexByte: function 63 (by hand) -/
def bytes_IndexByte.f (l0 : List Int) (a1 : Int) : Option Int := some (Go.Lib.indexByte (Go.Lib.bytesOf l0) a1.toNat.toUInt8)
theorem bytes_IndexByte.calls (A0 : Option Addr) (c0 : Nat) (l0 : List Int) (a1 : Int) (r : Int) (w : World) (hr0 : Kd.C (Kd.int .u8) w A0 l0.length l0) (hc0 : l0.length ≤ c0) (h : bytes_IndexByte.f l0 a1 = some r) :
  Calls Tryd.prog 63 #[.slice A0 l0.length c0, .int .u8 a1] w fun e w' => e = .returned (.int .i64 r) ∧ Drawn0 w w' := by
 obtain rfl := Option.some.inj h
 have hcell : 0 < l0.length → ∃ a, A0 = some a ∧ ∀ i, i < l0.length → w.cell? (a.add i) = some (.int .u8 (l0.getD i 0)) := fun hn => by
  obtain ⟨ad, e, hc⟩ := hr0.2.2 hn; refine ⟨ad, e, fun i hi => ?_⟩; obtain ⟨cs, hl, hK, hcs⟩ := hc i _ (List.getElem?_eq_getElem hi); have hK2 : cs = [.int .u8 l0[i]] := hK; subst hK2; have := hcs 0 _ rfl; rw [List.getD_eq_getElem?_getD, List.getElem?_eq_getElem hi]
  have h1 : i * (Kd.int .u8).sz + 0 = i := by show i * 1 + 0 = i; omega
  rw [h1] at this; exact this
 have hix : (callFunc 93 #[.slice A0 l0.length c0, .int .u8 a1]).run Tryd.prog w = .ok (.value (.int .i64 (Go.Lib.indexByte (Go.Lib.bytesOf l0) a1.toNat.toUInt8))) w := by
  rw [run_callFunc_extern Tryd.func93 (by kernel_rfl) (by kernel_rfl) (by kernel_rfl) (e := Extern.BytealgIndexByte.indexByte) (by kernel_rfl), run_indexByte_at w A0 l0.length c0 l0 rfl hcell a1]
  rfl
 clear hcell hr0 hc0
 go_enter Tryd.func63, Tryd.ntmps63
 go_wp2
 go_ret
 exact ⟨rfl, Drawn0.refl _⟩

/-! ### span_Text: function 37 -/
def span_Text.f (l0 : List Int) (a1 : Int) : Option (ByteArray × Option Int) := if a1 ≥ (IntKind.u64.wrap ((l0.length : Int))) then (if 0 ≤ a1 then (if a1 < 18446744073709551616 then (some ((⟨#[]⟩ : ByteArray), some (spZ a1 4))) else (none)) else (none)) else (if 0 ≤ a1 then (if a1 ≤ (l0.length : Int) then ((bytes_IndexByte.f (l0.drop (a1 : Int).toNat) 0).bind fun t138 => (if t138 < 0 then (if a1 < 18446744073709551616 then (some ((⟨#[]⟩ : ByteArray), some (spZ a1 29))) else (none)) else (if a1 ≤ (IntKind.u64.wrap (a1 + (IntKind.u64.wrap (t138)))) then (if (IntKind.u64.wrap (a1 + (IntKind.u64.wrap (t138)))) ≤ (l0.length : Int) then (some (strOfNums ((l0.take ((IntKind.u64.wrap (a1 + (IntKind.u64.wrap (t138)))) : Int).toNat).drop (a1 : Int).toNat), none)) else (none)) else (none)))) else (none)) else (none))
set_option maxHeartbeats 8000000 in
set_option maxRecDepth 100000 in
theorem span_Text.calls (A0 : Option Addr) (c0 : Nat) (l0 : List Int) (a1 : Int) (r1 : ByteArray) (r2 : Option Int) (w : World) (hr0 : Kd.C (Kd.int .u8) w A0 l0.length l0) (hc0 : l0.length ≤ c0) (h : span_Text.f l0 a1 = some (r1, r2)) :
  Calls Tryd.prog 37 #[.slice A0 l0.length c0, .int .u64 a1] w fun e w' => ∃ ve1_ : Value, e = .returned (.tuple #[.string r1, ve1_]) ∧ ErrAt 32 103 105 w' w.heap.size r2 ve1_ ∧ Below w.heap.size w w' := by
 have hu105 := Tryd.underlying105; have hu29 := Tryd.underlying29; have hu32 := Tryd.underlying32; have HR0 := aM hr0; have HC0 := aM hc0; clear hr0 hc0; have HB := aM (Below.refl w.heap.size w); have H : (if a1 ≥ (IntKind.u64.wrap ((l0.length : Int))) then (if 0 ≤ a1 then (if a1 < 18446744073709551616 then (some ((⟨#[]⟩ : ByteArray), some (spZ a1 4))) else (none)) else (none)) else (if 0 ≤ a1 then (if a1 ≤ (l0.length : Int) then ((bytes_IndexByte.f (l0.drop (a1 : Int).toNat) 0).bind fun t138 => (if t138 < 0 then (if a1 < 18446744073709551616 then (some ((⟨#[]⟩ : ByteArray), some (spZ a1 29))) else (none)) else (if a1 ≤ (IntKind.u64.wrap (a1 + (IntKind.u64.wrap (t138)))) then (if (IntKind.u64.wrap (a1 + (IntKind.u64.wrap (t138)))) ≤ (l0.length : Int) then (some (strOfNums ((l0.take ((IntKind.u64.wrap (a1 + (IntKind.u64.wrap (t138)))) : Int).toNat).drop (a1 : Int).toNat), none)) else (none)) else (none)))) else (none)) else (none))) = some (r1, r2) := h; clear h
 by_cases c3 : a1 ≥ (IntKind.u64.wrap ((l0.length : Int)))
 ·rw [if_pos c3] at H; have c3b0 : decide ((IntKind.u64.wrap ((l0.length : Int))) ≤ a1) = true := decide_eq_true c3; clear c3
  by_cases c4 : 0 ≤ a1
  ·rw [if_pos c4] at H; have c4b0 := eq_true c4; have c4b1 : decide (0 ≤ a1) = true := decide_eq_true c4; clear c4
   by_cases c5 : a1 < 18446744073709551616
   ·rw [if_pos c5] at H; have c5b0 := eq_true c5; have c5b1 : decide (a1 < 18446744073709551616) = true := decide_eq_true c5; clear c5; simp only [Option.some.injEq, Prod.mk.injEq] at H; obtain ⟨rfl, rfl⟩ := H
    go_enter Tryd.func37, Tryd.ntmps37
    go_wp2_with (first | ((with_reducible refine gate_dst (N := 15) rfl ?_); refine box_event ?hg (N := 15) ?hd (cs := #[.int .u64 a1, .iface 32 (.int .i64 4)]) (t := 105) ?hr ?_; (case hd => rfl); (case hg => rfl); (case hr => first | (go_simp; done) | (go_simp; rfl)); intro gb136 hg w6 hbox hb; have BK136 := aM (hbox); have GW136 := aM ((by rw [hg]; exact (below_size (by repeat (first | (with_reducible first | exact HB.out | apply bA | apply bN | apply bD) | exact HB.out))) : w.heap.size ≤ gb136)); have GE136 := aM ((by rw [hg]; exact (below_size (by repeat (first | (with_reducible first | exact HB.out | apply bA | apply bN | apply bD) | exact HB.out))) : w.heap.size ≤ gb136)); replace HB := aM (below_step (by repeat (first | (with_reducible first | exact HB.out | apply bA | apply bN | apply bD) | exact HB.out)) hb); clear hb hbox hg))
    go_ret2
    exact ⟨.iface 103 (.pointer (some ⟨gb136, 0, none⟩)), by first | rfl | (simp [errW_none, errW_some] <;> rfl) | (simp [*, errW_none, errW_some] <;> rfl), (ErrAt.of_made (by first | (with_reducible exact of_decide_eq_true (by assumption)) | exact of_decide_eq_true (by assumption) | decide | omega) (by first | (with_reducible exact of_decide_eq_true (by assumption)) | exact of_decide_eq_true (by assumption) | decide | omega) (by first | (with_reducible exact of_decide_eq_true (by assumption)) | exact of_decide_eq_true (by assumption) | decide | omega) GW136.out (by (with_reducible repeat (first | refine kN ?_ _ | refine kD ?_ | refine kA ?_ _)); exact BK136.out)), by repeat (first | (with_reducible first | exact HB.out | apply bA | apply bN | apply bD | refine below_set ?_ GE136.out) | exact HB.out)⟩
   ·rw [if_neg c5] at H; exact absurd H (by simp)
  ·rw [if_neg c4] at H; exact absurd H (by simp)
 ·rw [if_neg c3] at H; have c3b0 : decide ((IntKind.u64.wrap ((l0.length : Int))) ≤ a1) = false := decide_eq_false c3; clear c3
  by_cases c7 : 0 ≤ a1
  ·rw [if_pos c7] at H; have c7b0 := eq_true c7; have c7b1 : decide (0 ≤ a1) = true := decide_eq_true c7; clear c7
   by_cases c8 : a1 ≤ (l0.length : Int)
   ·rw [if_pos c8] at H; have c8b0 := eq_true c8; have c8b1 : decide (a1 ≤ (l0.length : Int)) = true := decide_eq_true c8; clear c8; replace H := Option.bind_eq_some_iff.mp H; obtain ⟨t138, A90, H⟩ := H; replace H : (if t138 < 0 then (if a1 < 18446744073709551616 then (some ((⟨#[]⟩ : ByteArray), some (spZ a1 29))) else (none)) else (if a1 ≤ (IntKind.u64.wrap (a1 + (IntKind.u64.wrap (t138)))) then (if (IntKind.u64.wrap (a1 + (IntKind.u64.wrap (t138)))) ≤ (l0.length : Int) then (some (strOfNums ((l0.take ((IntKind.u64.wrap (a1 + (IntKind.u64.wrap (t138)))) : Int).toNat).drop (a1 : Int).toNat), none)) else (none)) else (none))) = some (r1, r2) := H; have A9 := aM A90; clear A90
    by_cases c10 : t138 < 0
    ·rw [if_pos c10] at H; have c10b0 : decide (t138 < 0) = true := decide_eq_true c10; clear c10; have c11b0 := eq_true (of_decide_eq_true (by first | (with_reducible assumption) | assumption) : 0 ≤ a1)
     by_cases c12 : a1 < 18446744073709551616
     ·rw [if_pos c12] at H; have c12b0 := eq_true c12; have c12b1 : decide (a1 < 18446744073709551616) = true := decide_eq_true c12; clear c12; simp only [Option.some.injEq, Prod.mk.injEq] at H; obtain ⟨rfl, rfl⟩ := H; obtain ⟨i013, hi013, _, hsz13, _⟩ := info_parts info5; obtain ⟨A13, hcut13, hA13, hC13⟩ := print_drop_of (P := Tryd.prog) (Value.int .u8) 0 22 5 .u64 Tryd.underlying22 hi013 hsz13 A0 c0 l0 a1 (of_decide_eq_true (by first | (with_reducible assumption) | assumption)) (of_decide_eq_true (by first | (with_reducible assumption) | assumption)) HC0.out; have HR137 := aM (Kd.C_of_reads (h1 := fun _ => rfl) (hA13 _ (Kd.reads_of_C HR0.out))); have HC137 := aM hC13; clear hA13 hC13 hi013 hsz13
      go_enter Tryd.func37, Tryd.ntmps37
      go_wp2_with (first | ((with_reducible refine gate_callee (f := 63) rfl ?_); refine goesL_ (some 20) rfl rfl Tryd.func63 (by kernel_rfl) rfl #[.slice A13 (l0.drop (a1 : Int).toNat).length (c0 - a1.toNat), .int .u8 0] rfl (by (try simp only [List.map_toArray, List.map_cons, List.map_nil]); first | done | (rw [show (l0.drop (a1 : Int).toNat).length = (l0.length - a1.toNat) from List.length_drop] <;> rfl) | rfl | (simp only [List.length_drop, List.length_take]; rfl)) ?_; (with_reducible refine (bytes_IndexByte.calls _ _ (l0.drop (a1 : Int).toNat) 0 t138 _ ?side1 ?side2 A9.out).mono ?_); (case side1 => repeat (first | exact HR137.out | (with_reducible refine cA ?_ _) | (with_reducible refine cN ?_ _) | (with_reducible refine cD ?_))); (case side2 => exact HC137.out); rintro e w' ⟨rfl, ⟨nd, rfl⟩⟩; refine ⟨_, rfl, ?_⟩) | ((with_reducible refine gate_dst (N := 26) rfl ?_); refine box_event ?hg (N := 26) ?hd (cs := #[.int .u64 a1, .iface 32 (.int .i64 29)]) (t := 105) ?hr ?_; (case hd => rfl); (case hg => rfl); (case hr => first | (go_simp; done) | (go_simp; rfl)); intro gb139 hg w14 hbox hb; have BK139 := aM (hbox); have GW139 := aM ((by rw [hg]; exact (below_size (by repeat (first | (with_reducible first | exact HB.out | apply bA | apply bN | apply bD) | exact HB.out))) : w.heap.size ≤ gb139)); have GE139 := aM ((by rw [hg]; exact (below_size (by repeat (first | (with_reducible first | exact HB.out | apply bA | apply bN | apply bD) | exact HB.out))) : w.heap.size ≤ gb139)); replace HB := aM (below_step (by repeat (first | (with_reducible first | exact HB.out | apply bA | apply bN | apply bD) | exact HB.out)) hb); clear hb hbox hg))
      go_ret2
      exact ⟨.iface 103 (.pointer (some ⟨gb139, 0, none⟩)), by first | rfl | (simp [errW_none, errW_some] <;> rfl) | (simp [*, errW_none, errW_some] <;> rfl), (ErrAt.of_made (by first | (with_reducible exact of_decide_eq_true (by assumption)) | exact of_decide_eq_true (by assumption) | decide | omega) (by first | (with_reducible exact of_decide_eq_true (by assumption)) | exact of_decide_eq_true (by assumption) | decide | omega) (by first | (with_reducible exact of_decide_eq_true (by assumption)) | exact of_decide_eq_true (by assumption) | decide | omega) GW139.out (by (with_reducible repeat (first | refine kN ?_ _ | refine kD ?_ | refine kA ?_ _)); exact BK139.out)), by repeat (first | (with_reducible first | exact HB.out | apply bA | apply bN | apply bD | refine below_set ?_ GE139.out) | exact HB.out)⟩
     ·rw [if_neg c12] at H; exact absurd H (by simp)
    ·rw [if_neg c10] at H; have c10b0 : decide (t138 < 0) = false := decide_eq_false c10; clear c10; have c15b0 := eq_true (of_decide_eq_true (by first | (with_reducible assumption) | assumption) : 0 ≤ a1)
     by_cases c16 : a1 ≤ (IntKind.u64.wrap (a1 + (IntKind.u64.wrap (t138))))
     ·rw [if_pos c16] at H; have c16b0 := eq_true c16; have c16b1 : decide (a1 ≤ (IntKind.u64.wrap (a1 + (IntKind.u64.wrap (t138))))) = true := decide_eq_true c16
      by_cases c17 : (IntKind.u64.wrap (a1 + (IntKind.u64.wrap (t138)))) ≤ (l0.length : Int)
      ·rw [if_pos c17] at H; have c17b0 := eq_true c17; have c17b1 : decide ((IntKind.u64.wrap (a1 + (IntKind.u64.wrap (t138)))) ≤ (l0.length : Int)) = true := decide_eq_true c17; simp only [Option.some.injEq, Prod.mk.injEq] at H; obtain ⟨rfl, rfl⟩ := H; obtain ⟨i018, hi018, _, hsz18, _⟩ := info_parts info5; obtain ⟨A18, hcut18, hA18, hC18⟩ := print_drop_of (P := Tryd.prog) (Value.int .u8) 0 22 5 .u64 Tryd.underlying22 hi018 hsz18 A0 c0 l0 a1 (of_decide_eq_true (by first | (with_reducible assumption) | assumption)) (of_decide_eq_true (by first | (with_reducible assumption) | assumption)) HC0.out; have HR137 := aM (Kd.C_of_reads (h1 := fun _ => rfl) (hA18 _ (Kd.reads_of_C HR0.out))); have HC137 := aM hC18; clear hA18 hC18 hi018 hsz18
       go_enter Tryd.func37, Tryd.ntmps37
       go_wp2_with (first | ((with_reducible refine gate_callee (f := 63) rfl ?_); refine goesL_ (some 20) rfl rfl Tryd.func63 (by kernel_rfl) rfl #[.slice A18 (l0.drop (a1 : Int).toNat).length (c0 - a1.toNat), .int .u8 0] rfl (by (try simp only [List.map_toArray, List.map_cons, List.map_nil]); first | done | (rw [show (l0.drop (a1 : Int).toNat).length = (l0.length - a1.toNat) from List.length_drop] <;> rfl) | rfl | (simp only [List.length_drop, List.length_take]; rfl)) ?_; (with_reducible refine (bytes_IndexByte.calls _ _ (l0.drop (a1 : Int).toNat) 0 t138 _ ?side1 ?side2 A9.out).mono ?_); (case side1 => repeat (first | exact HR137.out | (with_reducible refine cA ?_ _) | (with_reducible refine cN ?_ _) | (with_reducible refine cD ?_))); (case side2 => exact HC137.out); rintro e w' ⟨rfl, ⟨nd, rfl⟩⟩; refine ⟨_, rfl, ?_⟩; obtain ⟨i019, hi019, _, hsz19, _⟩ := info_parts info5; obtain ⟨A19, hcut19, hA19, hC19⟩ := print_mid_of (P := Tryd.prog) (Value.int .u8) 0 22 5 .u64 .u64 Tryd.underlying22 hi019 hsz19 A0 c0 l0 a1 (IntKind.u64.wrap (a1 + (IntKind.u64.wrap (t138)))) (of_decide_eq_true (by first | (with_reducible assumption) | assumption)) (by first | omega | exact of_decide_eq_true (by first | (with_reducible assumption) | assumption)) (of_decide_eq_true (by first | (with_reducible assumption) | assumption)) HC0.out; have HR140 := aM (Kd.C_of_reads (h1 := fun _ => rfl) (hA19 _ (Kd.reads_of_C HR0.out))); have HC140 := aM hC19; clear hA19 hC19 hi019 hsz19; have hcv20 := Kd.C_string (P := Tryd.prog) (A := A19) (c := (c0 - a1.toNat)) Tryd.underlying22 Tryd.underlying5 Tryd.underlying9 HR140.out; have hcv20n := fun nq => Kd.C_string (P := Tryd.prog) (A := A19) (c := (c0 - a1.toNat)) Tryd.underlying22 Tryd.underlying5 Tryd.underlying9 (Kd.C_drewN HR140.out nq); (try rw [show ((l0.take ((IntKind.u64.wrap (a1 + (IntKind.u64.wrap (t138)))) : Int).toNat).drop (a1 : Int).toNat).length = ((IntKind.u64.wrap (a1 + (IntKind.u64.wrap (t138)))).toNat - a1.toNat) from (by rw [List.length_drop, List.length_take]; have h_ : ((IntKind.u64.wrap (a1 + (IntKind.u64.wrap (t138)))) : Int) ≤ (l0.length : Int) := of_decide_eq_true (by first | (with_reducible assumption) | assumption); omega)] at hcv20); (try rw [show ((l0.take ((IntKind.u64.wrap (a1 + (IntKind.u64.wrap (t138)))) : Int).toNat).drop (a1 : Int).toNat).length = ((IntKind.u64.wrap (a1 + (IntKind.u64.wrap (t138)))).toNat - a1.toNat) from (by rw [List.length_drop, List.length_take]; have h_ : ((IntKind.u64.wrap (a1 + (IntKind.u64.wrap (t138)))) : Int) ≤ (l0.length : Int) := of_decide_eq_true (by first | (with_reducible assumption) | assumption); omega)] at hcv20n)))
       go_ret2
       exact ⟨.nilIface, by first | rfl | (simp [errW_none, errW_some] <;> rfl) | (simp [*, errW_none, errW_some] <;> rfl), ErrAt.of_none, by repeat (first | (with_reducible first | exact HB.out | apply bA | apply bN | apply bD) | exact HB.out)⟩
      ·rw [if_neg c17] at H; exact absurd H (by simp)
     ·rw [if_neg c16] at H; exact absurd H (by simp)
   ·rw [if_neg c8] at H; exact absurd H (by simp)
  ·rw [if_neg c7] at H; exact absurd H (by simp)

/-! ### head_Interp: function 14 (by hand) -/
/-! ### head.Interp -/
def interpF (l : List Int) (ps : List S50) : Option (ByteArray × Option Int) :=
 if ps.length < 140737488355328 then
  if idxP (fun x : S50 => x.f0 == 3) ps 0 < 0 then some (⟨#[]⟩, some 6) else
  let x := rd_T50 ps (idxP (fun x : S50 => x.f0 == 3) ps 0)
  (span_Cut.f l x.f2 x.f4).bind fun c => match c.2 with
   | some q => some (⟨#[]⟩, some q)
   | none => (span_Text.f c.1 0).bind fun s => match s.2 with
    | some _ => if 0 ≤ x.f2 ∧ x.f2 < 18446744073709551616 then some (⟨#[]⟩, some (spZ x.f2 29)) else none
    | none => if 255 < s.1.size then (if 0 ≤ x.f2 ∧ x.f2 < 18446744073709551616 then some (⟨#[]⟩, some (spZ x.f2 2)) else none) else some (s.1, none)
 else none
theorem cells7_below {w w' : World} {a : Addr} {b o : Nat} {v0 v1 v2 v3 v4 v5 v6 : Value} (h : w.cell? a = some v0 ∧ w.cell? ⟨b, o + 1, none⟩ = some v1 ∧ w.cell? ⟨b, o + 2, none⟩ = some v2 ∧ w.cell? ⟨b, o + 3, none⟩ = some v3 ∧ w.cell? ⟨b, o + 4, none⟩ = some v4 ∧ w.cell? ⟨b, o + 5, none⟩ = some v5 ∧ w.cell? ⟨b, o + 6, none⟩ = some v6) (hb : Below w.heap.size w w') :
  w'.cell? a = some v0 ∧ w'.cell? ⟨b, o + 1, none⟩ = some v1 ∧ w'.cell? ⟨b, o + 2, none⟩ = some v2 ∧ w'.cell? ⟨b, o + 3, none⟩ = some v3 ∧ w'.cell? ⟨b, o + 4, none⟩ = some v4 ∧ w'.cell? ⟨b, o + 5, none⟩ = some v5 ∧ w'.cell? ⟨b, o + 6, none⟩ = some v6 := by
 obtain ⟨h0, h1, h2, h3, h4, h5, h6⟩ := h
 have go : ∀ {a : Addr} {v : Value}, w.cell? a = some v → w'.cell? a = some v := fun h => (hb.cell (World.block_lt_of_cell? w _ h)).trans h
 exact ⟨go h0, go h1, go h2, go h3, go h4, go h5, go h6⟩
theorem idxP_range (q : S50 → Bool) : ∀ (ps : List S50) (i : Int), idxP q ps i = -1 ∨ (i ≤ idxP q ps i ∧ idxP q ps i < i + ps.length)
 | [], i => .inl rfl
 | x :: r, i => by
  rw [idxP, List.length_cons]
  split
  ·right; omega
  ·rcases idxP_range q r (i + 1) with h | h
   ·exact .inl h
   ·right; omega
set_option maxHeartbeats 16000000 in
set_option maxRecDepth 100000 in
theorem interp_at (A0 : Option Addr) (c0 : Nat) (l : List Int) (ty en : Int) (A2 : Option Addr) (c2 : Nat) (ps : List S50) (r1 : ByteArray) (r2 : Option Int) (w : World) (hr0 : Kd.C (Kd.int .u8) w A0 l.length l) (hc0 : l.length ≤ c0) (hr2 : Kd.C k50 w A2 ps.length ps) (hc2 : ps.length ≤ c2) (h : interpF l ps = some (r1, r2)) :
  Calls Tryd.prog 14 #[.slice A0 l.length c0, .agg #[.int .i64 ty, .int .u64 en, .slice A2 ps.length c2]] w fun e w' => ∃ ve : Value, e = .returned (.tuple #[.string r1, ve]) ∧ ErrAt 32 103 105 w' w.heap.size r2 ve ∧ Below w.heap.size w w' := by
 have hu27 := Tryd.underlying27; have hu25 := Tryd.underlying25; have hu50 := Tryd.underlying50; have hu29 := Tryd.underlying29; have hu32 := Tryd.underlying32; have HR0 := aM hr0; have HC0 := aM hc0; have HR2 := aM hr2; have HC2 := aM hc2; have H : interpF l ps = some (r1, r2) := h
 unfold interpF at H
 split at H
 case isFalse => cases H
 rename_i hn
 have HN := aM hn; obtain ⟨I, hI⟩ : ∃ I, idxP (fun x : S50 => x.f0 == 3) ps 0 = I := ⟨_, rfl⟩; rw [hI] at H; have hrng := idxP_range (fun x : S50 => x.f0 == 3) ps 0; rw [hI] at hrng; have HI := aM hI; have HRG := aM hrng; clear hI hrng hn hr0 hc0 hr2 hc2 h; obtain ⟨w1, gh, e1, e2, hh1, hb1⟩ := alloc_named w (.cells #[.int .i64 ty, .int .u64 en, .slice A2 ps.length c2] 27); have HB := aM hb1; have HH := aM hh1
 have g2 : w1.cell? ⟨gh, 2, none⟩ = some (.slice A2 ps.length c2) := by simp [World.cell?, hh1]
 clear hb1 hh1
 by_cases hneg : I < 0
 ·rw [if_pos hneg] at H; obtain ⟨rfl, rfl⟩ := Prod.mk.inj (Option.some.inj H); have d1 : decide (I < 0) = true := decide_eq_true hneg; clear H
  go_enter Tryd.func14, Tryd.ntmps14
  go_wp2_with (first | (go_at_call 34; refine (idx35_at A2 c2 ps _ (Kd.C_below HR2.out HB.out) HC2.out HN.out).mono ?_; rw [HI.out]; rintro e w2 ⟨rfl, hb⟩; have HH2 := aM (blk_below HH.out hb); clear g2 HH; have HH := HH2; have g2 : _ = some (Value.slice A2 ps.length c2) := (blk_cell HH.out 2).trans rfl; clear HH2; have HB2 := aM (below_step HB.out hb); clear HB hb; have HB := HB2; clear HB2))
  go_ret2
  exact ⟨_, rfl, ErrAt.of_code (by decide), HB.out⟩
 rw [if_neg hneg] at H; have d1 : decide (I < 0) = false := decide_eq_false hneg
 have hI0 : 0 ≤ I := by omega
 have hI1 : I < ps.length := by have := HRG.out; omega
 clear hneg; obtain ⟨ad, rfl, t0, t1, t2, t3, t4, t5, t6⟩ := at_T50 (Kd.C_below HR2.out HB.out) I hI0 hI1; obtain ⟨X, hX⟩ : ∃ X, rd_T50 ps I = X := ⟨_, rfl⟩; rw [hX] at t0 t1 t2 t3 t4 t5 t6 H; have HTT := aM (And.intro t0 (And.intro t1 (And.intro t2 (And.intro t3 (And.intro t4 (And.intro t5 t6)))))); clear t0 t1 t2 t3 t4 t5 t6 hX; have p0 := eq_true hI0; have q0 := eq_true hI1; clear hI0 hI1
 dsimp only at H
 rw [Option.bind_eq_some_iff] at H; obtain ⟨⟨cl, ce⟩, hcut, H⟩ := H; have HCUT := aM hcut; clear hcut
 cases ce with
 | some q =>
  obtain ⟨rfl, rfl⟩ := Prod.mk.inj (Option.some.inj H); clear H
  go_enter Tryd.func14, Tryd.ntmps14
  go_wp2_with (first | (go_at_call 34; refine (idx35_at (some ad) c2 ps _ (Kd.C_below HR2.out HB.out) HC2.out HN.out).mono ?_; rw [HI.out]; rintro e w2 ⟨rfl, hb⟩; obtain ⟨t0, t1, t2, t3, t4, t5, t6⟩ := cells7_below HTT.out hb; have HH2 := aM (blk_below HH.out hb); clear g2 HH; have HH := HH2; have g2 : _ = some (Value.slice (some ad) ps.length c2) := (blk_cell HH.out 2).trans rfl; clear HH2; have HB2 := aM (below_step HB.out hb); clear HB hb; have HB := HB2; clear HB2) | (go_at_call 36; refine (span_Cut.calls A0 c0 l X.f2 X.f4 _ _ _ (Kd.C_below HR0.out (by repeat (first | exact HB.out | apply bA | apply bN | apply bD))) HC0.out HCUT.out).mono ?_; rintro e w4 ⟨v0, ve, rfl, hE, hO, hb⟩; have HO := aM hO; have HE := aM (ErrAt.lower hE (below_size (by repeat (first | exact HB.out | apply bA | apply bN | apply bD)))); obtain ⟨Ax, cx, rfl⟩ := Kd.R_slice hO; clear hO; obtain ⟨tE, xE, rfl⟩ := ErrAt.some_form hE; have xf := (hb.cell (p := ⟨_, 2, none⟩) (by simp)).trans (World.cell?_alloc_at _ _ _ _ rfl); have HB2 := aM (below_step (by repeat (first | exact HB.out | apply bA | apply bN | apply bD)) hb); clear HB hb hE; have HB := HB2; clear HB2))
  go_ret2
  exact ⟨_, rfl, HE.out, HB.out⟩
 | none =>
  dsimp only at H
  rw [Option.bind_eq_some_iff] at H; obtain ⟨⟨st, se⟩, htx, H⟩ := H; have HTX := aM htx; clear htx
  cases se with
  | some q =>
   dsimp only at H
   split at H
   case isFalse => cases H
   rename_i hb0
   obtain ⟨rfl, rfl⟩ := Prod.mk.inj (Option.some.inj H); have HXR := aM hb0; clear H hb0
   go_enter Tryd.func14, Tryd.ntmps14
   go_wp2_with (first | (go_at_call 34; refine (idx35_at (some ad) c2 ps _ (Kd.C_below HR2.out HB.out) HC2.out HN.out).mono ?_; rw [HI.out]; rintro e w2 ⟨rfl, hb⟩; obtain ⟨t0, t1, t2, t3, t4, t5, t6⟩ := cells7_below HTT.out hb; have HH2 := aM (blk_below HH.out hb); clear g2 HH; have HH := HH2; have g2 : _ = some (Value.slice (some ad) ps.length c2) := (blk_cell HH.out 2).trans rfl; clear HH2; have HB2 := aM (below_step HB.out hb); clear HB hb; have HB := HB2; clear HB2) | (go_at_call 36; refine (span_Cut.calls A0 c0 l X.f2 X.f4 _ _ _ (Kd.C_below HR0.out (by repeat (first | exact HB.out | apply bA | apply bN | apply bD))) HC0.out HCUT.out).mono ?_; rintro e w4 ⟨v0, ve, rfl, hE, hO, hb⟩; have HO := aM hO; have HE := aM (ErrAt.lower hE (below_size (by repeat (first | exact HB.out | apply bA | apply bN | apply bD)))); obtain ⟨Ax, cx, rfl⟩ := Kd.R_slice hO; clear hO; obtain rfl := ErrAt.none_eq hE; clear HE; have xf := (hb.cell (p := ⟨_, 2, none⟩) (by simp)).trans (World.cell?_alloc_at _ _ _ _ rfl); have HB2 := aM (below_step (by repeat (first | exact HB.out | apply bA | apply bN | apply bD)) hb); clear HB hb hE; have HB := HB2; clear HB2) | (go_at_call 37; refine (span_Text.calls Ax cx cl 0 _ _ _ (Kd.R_reads' HO.out).2.2 (Kd.R_reads' HO.out).2.1 HTX.out).mono ?_; rintro e w5 ⟨ve, rfl, hE, hb⟩; obtain ⟨tE, xE, rfl⟩ := ErrAt.some_form hE; have xf2 := (hb.cell (p := ⟨_, 2, none⟩) (World.block_lt_of_cell? _ _ xf)).trans xf; clear xf; have xf := xf2; clear xf2; have HB2 := aM (below_step HB.out hb); clear HB hb; have HB := HB2; clear HB2; clear hE) | (go_at_call 38; refine (spot_at 29 X.f2 _ (by decide) HXR.out.1 HXR.out.2).mono ?_; rintro e w6 ⟨ve, rfl, hE, hb⟩; have HE := aM (ErrAt.lower hE (below_size HB.out)); clear hE; have HB2 := aM (below_step HB.out hb); clear HB hb; have HB := HB2; clear HB2))
   go_ret2
   exact ⟨_, rfl, HE.out, HB.out⟩
  | none =>
   dsimp only at H
   by_cases hs : 255 < st.size
   ·rw [if_pos hs] at H
    split at H
    case isFalse => cases H
    rename_i hb0
    obtain ⟨rfl, rfl⟩ := Prod.mk.inj (Option.some.inj H); have HXR := aM hb0; have d2 : decide ((255 : Int) < (st.size : Int)) = true := decide_eq_true (by omega); have d3 : decide (255 < st.size) = true := decide_eq_true hs; clear H hb0 hs
    go_enter Tryd.func14, Tryd.ntmps14
    go_wp2_with (first | (go_at_call 34; refine (idx35_at (some ad) c2 ps _ (Kd.C_below HR2.out HB.out) HC2.out HN.out).mono ?_; rw [HI.out]; rintro e w2 ⟨rfl, hb⟩; obtain ⟨t0, t1, t2, t3, t4, t5, t6⟩ := cells7_below HTT.out hb; have HH2 := aM (blk_below HH.out hb); clear g2 HH; have HH := HH2; have g2 : _ = some (Value.slice (some ad) ps.length c2) := (blk_cell HH.out 2).trans rfl; clear HH2; have HB2 := aM (below_step HB.out hb); clear HB hb; have HB := HB2; clear HB2) | (go_at_call 36; refine (span_Cut.calls A0 c0 l X.f2 X.f4 _ _ _ (Kd.C_below HR0.out (by repeat (first | exact HB.out | apply bA | apply bN | apply bD))) HC0.out HCUT.out).mono ?_; rintro e w4 ⟨v0, ve, rfl, hE, hO, hb⟩; have HO := aM hO; have HE := aM (ErrAt.lower hE (below_size (by repeat (first | exact HB.out | apply bA | apply bN | apply bD)))); obtain ⟨Ax, cx, rfl⟩ := Kd.R_slice hO; clear hO; obtain rfl := ErrAt.none_eq hE; clear HE; have xf := (hb.cell (p := ⟨_, 2, none⟩) (by simp)).trans (World.cell?_alloc_at _ _ _ _ rfl); have HB2 := aM (below_step (by repeat (first | exact HB.out | apply bA | apply bN | apply bD)) hb); clear HB hb hE; have HB := HB2; clear HB2) | (go_at_call 37; refine (span_Text.calls Ax cx cl 0 _ _ _ (Kd.R_reads' HO.out).2.2 (Kd.R_reads' HO.out).2.1 HTX.out).mono ?_; rintro e w5 ⟨ve, rfl, hE, hb⟩; obtain rfl := ErrAt.none_eq hE; have xf2 := (hb.cell (p := ⟨_, 2, none⟩) (World.block_lt_of_cell? _ _ xf)).trans xf; clear xf; have xf := xf2; clear xf2; have HB2 := aM (below_step HB.out hb); clear HB hb; have HB := HB2; clear HB2; clear hE) | (go_at_call 38; refine (spot_at 2 X.f2 _ (by decide) HXR.out.1 HXR.out.2).mono ?_; rintro e w6 ⟨ve, rfl, hE, hb⟩; have HE := aM (ErrAt.lower hE (below_size HB.out)); clear hE; have HB2 := aM (below_step HB.out hb); clear HB hb; have HB := HB2; clear HB2))
    go_ret2
    exact ⟨_, rfl, HE.out, HB.out⟩
   ·rw [if_neg hs] at H; obtain ⟨rfl, rfl⟩ := Prod.mk.inj (Option.some.inj H); have d2 : decide ((255 : Int) < (st.size : Int)) = false := decide_eq_false (by omega); have d3 : decide (255 < st.size) = false := decide_eq_false hs; clear H hs
    go_enter Tryd.func14, Tryd.ntmps14
    go_wp2_with (first | (go_at_call 34; refine (idx35_at (some ad) c2 ps _ (Kd.C_below HR2.out HB.out) HC2.out HN.out).mono ?_; rw [HI.out]; rintro e w2 ⟨rfl, hb⟩; obtain ⟨t0, t1, t2, t3, t4, t5, t6⟩ := cells7_below HTT.out hb; have HH2 := aM (blk_below HH.out hb); clear g2 HH; have HH := HH2; have g2 : _ = some (Value.slice (some ad) ps.length c2) := (blk_cell HH.out 2).trans rfl; clear HH2; have HB2 := aM (below_step HB.out hb); clear HB hb; have HB := HB2; clear HB2) | (go_at_call 36; refine (span_Cut.calls A0 c0 l X.f2 X.f4 _ _ _ (Kd.C_below HR0.out (by repeat (first | exact HB.out | apply bA | apply bN | apply bD))) HC0.out HCUT.out).mono ?_; rintro e w4 ⟨v0, ve, rfl, hE, hO, hb⟩; have HO := aM hO; have HE := aM (ErrAt.lower hE (below_size (by repeat (first | exact HB.out | apply bA | apply bN | apply bD)))); obtain ⟨Ax, cx, rfl⟩ := Kd.R_slice hO; clear hO; obtain rfl := ErrAt.none_eq hE; clear HE; have xf := (hb.cell (p := ⟨_, 2, none⟩) (by simp)).trans (World.cell?_alloc_at _ _ _ _ rfl); have HB2 := aM (below_step (by repeat (first | exact HB.out | apply bA | apply bN | apply bD)) hb); clear HB hb hE; have HB := HB2; clear HB2) | (go_at_call 37; refine (span_Text.calls Ax cx cl 0 _ _ _ (Kd.R_reads' HO.out).2.2 (Kd.R_reads' HO.out).2.1 HTX.out).mono ?_; rintro e w5 ⟨ve, rfl, hE, hb⟩; obtain rfl := ErrAt.none_eq hE; have xf2 := (hb.cell (p := ⟨_, 2, none⟩) (World.block_lt_of_cell? _ _ xf)).trans xf; clear xf; have xf := xf2; clear xf2; have HB2 := aM (below_step HB.out hb); clear HB hb; have HB := HB2; clear HB2; clear hE))
    go_ret2
    exact ⟨_, rfl, ErrAt.of_none, HB.out⟩

def head_Interp.f (l0 : List Int) (a1_0 : Int) (a1_1 : Int) (l1_2 : List (S50)) : Option (ByteArray × Option Int) := interpF l0 l1_2
theorem head_Interp.calls (A0 : Option Addr) (c0 : Nat) (l0 : List Int) (a1_0 : Int) (a1_1 : Int) (A1_2 : Option Addr) (c1_2 : Nat) (l1_2 : List (S50)) (r1 : ByteArray) (r2 : Option Int) (w : World) (hr0 : Kd.C (Kd.int .u8) w A0 l0.length l0) (hc0 : l0.length ≤ c0) (hr1_2 : Kd.C k50 w A1_2 l1_2.length l1_2) (hc1_2 : l1_2.length ≤ c1_2) (h : head_Interp.f l0 a1_0 a1_1 l1_2 = some (r1, r2)) :
  Calls Tryd.prog 14 #[.slice A0 l0.length c0, .agg #[.int .i64 a1_0, .int .u64 a1_1, .slice A1_2 l1_2.length c1_2]] w fun e w' => ∃ ve1_ : Value, e = .returned (.tuple #[.string r1, ve1_]) ∧ ErrAt 32 103 105 w' w.heap.size r2 ve1_ ∧ Below w.heap.size w w' :=
 interp_at A0 c0 l0 a1_0 a1_1 A1_2 c1_2 l1_2 r1 r2 w hr0 hc0 hr1_2 hc1_2 h

/-! ### bits_Len64: function 94 (by hand) -/
def bits_Len64.f (a0 : Int) : Option Int := if 0 ≤ a0 then (if a0 ≤ 18446744073709551615 then some ((Go.Lib.bitLen a0.toNat : Nat) : Int) else none) else none
theorem bits_Len64.calls (a0 : Int) (r : Int) (w : World) (h : bits_Len64.f a0 = some r) :
  Calls Tryd.prog 94 #[.int .u64 a0] w fun e w' => e = .returned (.int .i64 r) ∧ Drawn0 w w' := by
 unfold bits_Len64.f at h
 split at h
 ·split at h
  ·rename_i h0 h1
   obtain rfl := Option.some.inj h; refine (Tryd.bits_Len64 a0 w h0 h1).mono ?_; rintro e w' ⟨rfl, rfl⟩; exact ⟨rfl, Drawn0.refl _⟩
  ·cases h
 ·cases h

end Go.Proofs.YtjohdgejjnbddaaDoor.PHeadNotes
