import Derived.Test.YtjbndfogjmfbhaaPSearchPlainx3
namespace Go.Proofs.Ytjbndfogjmfbhaa.Pure
open Go.RowKit Go.Proofs.Ytjbndfogjmfbhaa.PSearchPlain Go.Proofs.YtjbndfogjmfbhaaW.PrintWords Go.Proofs.YtjbndfogjmfbhaaW.PrintLast Go.Proofs.YtjbndfogjmfbhaaX
theorem w64 {n : Int} (h0 : 0 ≤ n) (h1 : n < 9223372036854775808) : wrap64 n = n := by unfold wrap64; omega
theorem ext_zero (s : ByteArray) (n : Nat) : s.extract n n = (⟨#[]⟩ : ByteArray) := by
  apply ByteArray.ext
  rw [ByteArray.data_extract]
  simp
  omega
theorem ba_assoc (a b c : ByteArray) : a ++ b ++ c = a ++ (b ++ c) := by
  apply ByteArray.ext
  simp [ByteArray.data_append, Array.append_assoc]
theorem ext_join (s : ByteArray) (a b c : Nat) (h1 : a ≤ b) (h2 : b ≤ c) : s.extract a b ++ s.extract b c = s.extract a c := by
  apply ByteArray.ext
  rw [ByteArray.data_append, ByteArray.data_extract, ByteArray.data_extract, ByteArray.data_extract]
  rw [Array.extract_append_extract]
  congr 1 <;> omega
theorem nil_app (b : ByteArray) : (⟨#[]⟩ : ByteArray) ++ b = b := by
  apply ByteArray.ext
  simp [ByteArray.data_append]
/-- Over a stretch without a dollar. -/
theorem run (s o : ByteArray) (hs : s.size < 9223372036854775807) (has : Bool) : ∀ (m i k : Nat) (out : ByteArray), i + m ≤ s.size → out.size + m < 140737488355328 → (∀ j, i ≤ j → j < i + m → bt s j ≠ 36) →
    search_Expand.l0 (k + m) s o out has i = search_Expand.l0 k s o (out ++ s.extract i (i + m)) has ((i + m : Nat) : Int)
  | 0, i, k, out, _, _, _ => by
    rw [Nat.add_zero, Nat.add_zero, ext_zero]
    congr 1
    apply ByteArray.ext
    simp [ByteArray.data_append]
  | m + 1, i, k, out, h1, h2, h3 => by
    rw [show k + (m + 1) = (k + m) + 1 from rfl, search_Expand.l0, if_pos (by omega), if_pos (by omega), if_neg (h3 i (Nat.le_refl _) (by omega)), if_pos (by omega), w64 (by omega) (by omega), Int.toNat_natCast, show ((i : Int) + 1) = ((i + 1 : Nat) : Int) from by omega]
    rw [run s o hs has m (i + 1) k _ (by omega) (by rw [ByteArray.size_append, ByteArray.size_extract]; omega) (fun j hj hj2 => h3 j (by omega) (by omega))]
    rw [ba_assoc, ext_join s i (i + 1) _ (by omega) (by omega), show i + 1 + m = i + (m + 1) from by omega]
theorem up : shacklelaw14_up.f 64 = some true := by decide +kernel
theorem step (s o : ByteArray) (k : Nat) (out : ByteArray) (has : Bool) (i : Nat) (hi : i < s.size) (hs : s.size < 9223372036854775807) (hd : bt s i = 36) (t1 : ByteArray) (t2 : Int) (ht : search_token.f k (s.extract (i + 1) s.size) = some (t1, t2)) :
    search_Expand.l0 (k + 1) s o out has i = (if t1.toList = ([79, 82, 73, 71, 73, 78] : List UInt8) then ((search_dir.f k o).bind fun d => (if out.size + d.size < 140737488355328 then search_Expand.l0 k s o (out ++ d) true (wrap64 ((wrap64 ((i : Int) + t2)) + 1)) else (none))) else (if t1.toList = ([76, 73, 66] : List UInt8) then (if out.size + 5 < 140737488355328 then search_Expand.l0 k s o (out ++ (⟨#[108, 105, 98, 54, 52]⟩ : ByteArray)) has (wrap64 ((wrap64 ((i : Int) + t2)) + 1)) else (none)) else (if t1.toList = ([80, 76, 65, 84, 70, 79, 82, 77] : List UInt8) then (if out.size + 6 < 140737488355328 then search_Expand.l0 k s o (out ++ (⟨#[120, 56, 54, 95, 54, 52]⟩ : ByteArray)) has (wrap64 ((wrap64 ((i : Int) + t2)) + 1)) else (none)) else (if out.size < 140737488355328 then search_Expand.l0 k s o (out ++ (⟨#[36]⟩ : ByteArray)) has (wrap64 ((wrap64 ((i : Int) + t2)) + 1)) else (none))))) := by
  rw [search_Expand.l0, if_pos (by omega), if_pos (by omega), if_pos hd, w64 (by omega) (by omega), if_pos (by omega), if_pos (by omega), show (((i : Int) + 1)).toNat = i + 1 from by omega, ht, Option.bind_some]
theorem bt_app_l (a b : ByteArray) (j : Nat) (h : j < a.size) : bt (a ++ b) j = bt a j := by
  unfold bt
  rw [dif_pos (by rw [ByteArray.size_append, Int.toNat_natCast]; omega), dif_pos (by rw [Int.toNat_natCast]; omega)]
  simp only [Int.toNat_natCast]
  rw [ByteArray.getElem_append_left h]
theorem bt_app_r (a b : ByteArray) (j : Nat) (h : j < b.size) : bt (a ++ b) ((a.size + j : Nat) : Int) = bt b j := by
  unfold bt
  rw [dif_pos (by rw [ByteArray.size_append, Int.toNat_natCast]; omega), dif_pos (by rw [Int.toNat_natCast]; omega)]
  simp only [Int.toNat_natCast]
  rw [ByteArray.getElem_append_right (by omega)]
  congr 3
  omega
theorem ext_app_l (a b : ByteArray) (i j : Nat) (h : j ≤ a.size) : (a ++ b).extract i j = a.extract i j := by
  apply ByteArray.ext
  rw [ByteArray.data_extract, ByteArray.data_extract, ByteArray.data_append, Array.extract_append]
  have : b.data.extract (i - a.data.size) (j - a.data.size) = #[] := by
    have : j - a.data.size = 0 := by have : a.data.size = a.size := rfl; omega
    rw [this]
    simp
  rw [this, Array.append_empty]
theorem ext_app_r (a b : ByteArray) (i j : Nat) : (a ++ b).extract (a.size + i) (a.size + j) = b.extract i j := by
  apply ByteArray.ext
  rw [ByteArray.data_extract, ByteArray.data_extract, ByteArray.data_append, Array.extract_append]
  have e : a.data.size = a.size := rfl
  rw [e, show a.size + i - a.size = i from by omega, show a.size + j - a.size = j from by omega]
  rw [Array.extract_empty_of_size_le_start (by omega), Array.empty_append]
theorem ext_all (b : ByteArray) : b.extract 0 b.size = b := by
  apply ByteArray.ext
  rw [ByteArray.data_extract]
  exact Array.extract_size
theorem toList_inj' {a b : ByteArray} (h : a.toList = b.toList) : a = b := by
  apply ByteArray.ext
  rw [Go.Lib.toList_data, Go.Lib.toList_data] at h
  exact Array.toList_inj.1 h
theorem hp_true (p s : ByteArray) : strings_HasPrefix.f (p ++ s) p = some true := by
  unfold strings_HasPrefix.f stringslite_HasPrefix.f
  rw [if_pos (by rw [ByteArray.size_append]; omega), if_pos (by omega), if_pos (by rw [ByteArray.size_append]; omega)]
  rw [Int.toNat_natCast, ext_app_l _ _ _ _ (Nat.le_refl _), ext_all]
  simp
theorem bt_ext (x : ByteArray) (n j : Nat) (hj : j < n) (hn : n ≤ x.size) : bt (x.extract 0 n) j = bt x j := by
  unfold bt
  rw [dif_pos (by rw [ByteArray.size_extract, Int.toNat_natCast]; omega), dif_pos (by rw [Int.toNat_natCast]; omega)]
  simp only [Int.toNat_natCast]
  rw [ByteArray.getElem_extract]
  simp
theorem hp_byte (x p : ByteArray) (j : Nat) (hj : j < p.size) (h : bt x j ≠ bt p j) : strings_HasPrefix.f x p = some false := by
  unfold strings_HasPrefix.f stringslite_HasPrefix.f
  by_cases c : (x.size : Int) ≥ (p.size : Int)
  · rw [if_pos c, if_pos (by omega), if_pos (by omega), Int.toNat_natCast, Option.bind_some]
    refine congrArg some (beq_eq_false_iff_ne.2 (fun e => h ?_))
    have := toList_inj' e
    rw [← bt_ext x p.size j hj (by omega), this]
  · rw [if_neg c]
    rfl
def nORIGIN : ByteArray := ⟨#[79, 82, 73, 71, 73, 78]⟩
theorem tok_origin (k : Nat) (s : ByteArray) : search_token.f (k + 1) ((⟨#[123, 79, 82, 73, 71, 73, 78, 125]⟩ : ByteArray) ++ s) = some ((⟨#[79, 82, 73, 71, 73, 78]⟩ : ByteArray), 8) := by
  unfold search_token.f
  rw [Option.bind_some, search_token.l0, if_pos (by decide), if_pos (by decide), if_pos (by decide), if_pos (by decide), if_pos (by decide)]
  rw [show ((⟨#[123]⟩ : ByteArray) ++ rdOf ByteArray.empty [(⟨#[79, 82, 73, 71, 73, 78]⟩ : ByteArray), ⟨#[76, 73, 66]⟩, ⟨#[80, 76, 65, 84, 70, 79, 82, 77]⟩] 0) ++ (⟨#[125]⟩ : ByteArray) = (⟨#[123, 79, 82, 73, 71, 73, 78, 125]⟩ : ByteArray) from by decide +kernel]
  rw [hp_true, Option.bind_some, if_pos rfl]
  exact congrArg some (by decide +kernel)
theorem tok_lib (k : Nat) (s : ByteArray) : search_token.f (k + 2) ((⟨#[123, 76, 73, 66, 125]⟩ : ByteArray) ++ s) = some ((⟨#[76, 73, 66]⟩ : ByteArray), 5) := by
  unfold search_token.f
  rw [Option.bind_some, show k + 2 = (k + 1) + 1 from rfl, search_token.l0, if_pos (by decide), if_pos (by decide), if_pos (by decide), if_pos (by decide), if_pos (by decide)]
  rw [hp_byte _ _ 1 (by decide) (by rw [show ((1 : Nat) : Int) = 1 from rfl, show (1 : Int) = ((1 : Nat) : Int) from rfl, bt_app_l _ _ 1 (by decide)]; decide +kernel), Option.bind_some, if_neg (by decide)]
  rw [hp_byte _ _ 0 (by decide) (by rw [bt_app_l _ _ 0 (by decide)]; decide +kernel), Option.bind_some, if_neg (by decide)]
  rw [show wrap64 (0 + 1) = 1 from by decide +kernel, search_token.l0, if_pos (by decide), if_pos (by decide), if_pos (by decide), if_pos (by decide), if_pos (by decide)]
  rw [show ((⟨#[123]⟩ : ByteArray) ++ rdOf ByteArray.empty [(⟨#[79, 82, 73, 71, 73, 78]⟩ : ByteArray), ⟨#[76, 73, 66]⟩, ⟨#[80, 76, 65, 84, 70, 79, 82, 77]⟩] 1) ++ (⟨#[125]⟩ : ByteArray) = (⟨#[123, 76, 73, 66, 125]⟩ : ByteArray) from by decide +kernel]
  rw [hp_true, Option.bind_some, if_pos rfl]
  exact congrArg some (by decide +kernel)
theorem tok_platform (k : Nat) : search_token.f (k + 4) (⟨#[123, 80, 76, 65, 84, 70, 79, 82, 77, 125]⟩ : ByteArray) = some ((⟨#[80, 76, 65, 84, 70, 79, 82, 77]⟩ : ByteArray), 10) := by
  have h : search_token.f 4 (⟨#[123, 80, 76, 65, 84, 70, 79, 82, 77, 125]⟩ : ByteArray) = some ((⟨#[80, 76, 65, 84, 70, 79, 82, 77]⟩ : ByteArray), 10) := by decide +kernel
  induction k with
  | zero => exact h
  | succ k ih => exact search_token.mono _ (k + 4) _ ih
theorem dir_xy (k : Nat) : search_dir.f (k + 5) (⟨#[47, 120, 47, 121]⟩ : ByteArray) = some (⟨#[47, 120]⟩ : ByteArray) := by
  have h : search_dir.f 5 (⟨#[47, 120, 47, 121]⟩ : ByteArray) = some (⟨#[47, 120]⟩ : ByteArray) := by decide +kernel
  induction k with
  | zero => exact h
  | succ k ih => exact search_dir.mono _ (k + 5) _ ih
theorem ends (s o out : ByteArray) (has : Bool) (k : Nat) (i : Int) (h : (s.size : Int) ≤ i) : search_Expand.l0 (k + 1) s o out has i = some (out, has) := by
  rw [search_Expand.l0, if_neg (by omega)]
theorem first (s o : ByteArray) (hs : s.size < 140737488355000) (hd : ∀ j, j < s.size → bt s j ≠ 36) (k : Nat) : search_Expand.f (k + 1 + s.size) s o = some (s, false) := by
  unfold search_Expand.f
  have := run s o (by omega) false s.size 0 (k + 1) (⟨#[]⟩ : ByteArray) (by omega) (by show 0 + s.size < _; omega) (fun j _ hj => hd j (by omega))
  rw [Nat.zero_add, nil_app, ext_all] at this
  rw [show (0 : Int) = ((0 : Nat) : Int) from rfl, this, ends _ _ _ _ _ _ (Int.le_refl _)]
theorem second (s : ByteArray) (hs : s.size < 140737488355000) (hd : ∀ j, j < s.size → bt s j ≠ 36) (k : Nat) : search_Expand.f (k + 5 + s.size + 1) ((⟨#[36, 123, 79, 82, 73, 71, 73, 78, 125]⟩ : ByteArray) ++ s) (⟨#[47, 120, 47, 121]⟩ : ByteArray) = some ((⟨#[47, 120]⟩ : ByteArray) ++ s, true) := by
  have hz : ((⟨#[36, 123, 79, 82, 73, 71, 73, 78, 125]⟩ : ByteArray) ++ s).size = 9 + s.size := by rw [ByteArray.size_append]; rfl
  unfold search_Expand.f
  have e1 : ((⟨#[36, 123, 79, 82, 73, 71, 73, 78, 125]⟩ : ByteArray) ++ s) = (⟨#[36]⟩ : ByteArray) ++ ((⟨#[123, 79, 82, 73, 71, 73, 78, 125]⟩ : ByteArray) ++ s) := by rw [← ba_assoc]; rfl
  have ht : search_token.f (k + 5 + s.size) (((⟨#[36, 123, 79, 82, 73, 71, 73, 78, 125]⟩ : ByteArray) ++ s).extract (0 + 1) ((⟨#[36, 123, 79, 82, 73, 71, 73, 78, 125]⟩ : ByteArray) ++ s).size) = some ((⟨#[79, 82, 73, 71, 73, 78]⟩ : ByteArray), 8) := by
    rw [e1]
    have := ext_app_r (⟨#[36]⟩ : ByteArray) ((⟨#[123, 79, 82, 73, 71, 73, 78, 125]⟩ : ByteArray) ++ s) 0 ((⟨#[123, 79, 82, 73, 71, 73, 78, 125]⟩ : ByteArray) ++ s).size
    rw [show (⟨#[36]⟩ : ByteArray).size + 0 = 0 + 1 from rfl, ext_all] at this
    rw [ByteArray.size_append (a := (⟨#[36]⟩ : ByteArray)), this, show k + 5 + s.size = (k + 4 + s.size) + 1 from by omega]
    exact tok_origin _ s
  have h := step _ (⟨#[47, 120, 47, 121]⟩ : ByteArray) (k + 5 + s.size) (⟨#[]⟩ : ByteArray) false 0 (by rw [hz]; omega) (by rw [hz]; omega) (by rw [bt_app_l _ _ 0 (by decide)]; decide +kernel) _ _ ht
  rw [show (0 : Int) = ((0 : Nat) : Int) from rfl, h, if_pos (by decide +kernel), show k + 5 + s.size = (k + s.size) + 5 from by omega, dir_xy, Option.bind_some, if_pos (by decide), nil_app]
  rw [show wrap64 (wrap64 (((0 : Nat) : Int) + 8) + 1) = ((9 : Nat) : Int) from by decide +kernel]
  have := run ((⟨#[36, 123, 79, 82, 73, 71, 73, 78, 125]⟩ : ByteArray) ++ s) (⟨#[47, 120, 47, 121]⟩ : ByteArray) (by rw [hz]; omega) true s.size 9 (k + 5) (⟨#[47, 120]⟩ : ByteArray) (by rw [hz]; omega) (by show 2 + s.size < _; omega) (fun j hj1 hj2 => by
    have := bt_app_r (⟨#[36, 123, 79, 82, 73, 71, 73, 78, 125]⟩ : ByteArray) s (j - 9) (by omega)
    rw [show (⟨#[36, 123, 79, 82, 73, 71, 73, 78, 125]⟩ : ByteArray).size = 9 from rfl, show 9 + (j - 9) = j from by omega] at this
    rw [this]
    exact hd _ (by omega))
  rw [show (k + s.size) + 5 = (k + 5) + s.size from by omega, this, show k + 5 = (k + 4) + 1 from rfl, ends _ _ _ _ _ _ (by rw [hz]; omega)]
  have e2 := ext_app_r (⟨#[36, 123, 79, 82, 73, 71, 73, 78, 125]⟩ : ByteArray) s 0 s.size
  rw [show (⟨#[36, 123, 79, 82, 73, 71, 73, 78, 125]⟩ : ByteArray).size = 9 from rfl, Nat.add_zero, ext_all] at e2
  rw [e2]
def tP : ByteArray := ⟨#[36, 123, 80, 76, 65, 84, 70, 79, 82, 77, 125]⟩
theorem third (s o : ByteArray) (hs : s.size < 140737488355000) (hd : ∀ j, j < s.size → bt s j ≠ 36) (k : Nat) : search_Expand.f (k + 6 + s.size + 1) (((⟨#[36, 123, 76, 73, 66, 125]⟩ : ByteArray) ++ s) ++ tP) o = some (((⟨#[108, 105, 98, 54, 52]⟩ : ByteArray) ++ s) ++ (⟨#[120, 56, 54, 95, 54, 52]⟩ : ByteArray), false) := by
  obtain ⟨u, hu⟩ : ∃ u, u = ((⟨#[36, 123, 76, 73, 66, 125]⟩ : ByteArray) ++ s) ++ tP := ⟨_, rfl⟩
  have hz : u.size = 6 + s.size + 11 := by rw [hu, ByteArray.size_append, ByteArray.size_append]; rfl
  have e1 : u = (⟨#[36]⟩ : ByteArray) ++ ((⟨#[123, 76, 73, 66, 125]⟩ : ByteArray) ++ (s ++ tP)) := by rw [hu, ba_assoc, ← ba_assoc (⟨#[36]⟩ : ByteArray)]; rfl
  have e2 : u = (⟨#[36, 123, 76, 73, 66, 125]⟩ : ByteArray) ++ (s ++ tP) := by rw [hu, ba_assoc]
  rw [← hu]
  unfold search_Expand.f
  have ht : search_token.f (k + 6 + s.size) (u.extract (0 + 1) u.size) = some ((⟨#[76, 73, 66]⟩ : ByteArray), 5) := by
    have := ext_app_r (⟨#[36]⟩ : ByteArray) ((⟨#[123, 76, 73, 66, 125]⟩ : ByteArray) ++ (s ++ tP)) 0 ((⟨#[123, 76, 73, 66, 125]⟩ : ByteArray) ++ (s ++ tP)).size
    rw [show (⟨#[36]⟩ : ByteArray).size + 0 = 0 + 1 from rfl, ext_all] at this
    rw [e1, ByteArray.size_append (a := (⟨#[36]⟩ : ByteArray)), this, show k + 6 + s.size = (k + 4 + s.size) + 2 from by omega]
    exact tok_lib _ _
  have h := step u o (k + 6 + s.size) (⟨#[]⟩ : ByteArray) false 0 (by rw [hz]; omega) (by rw [hz]; omega) (by rw [e2, bt_app_l _ _ 0 (by decide)]; decide +kernel) _ _ ht
  rw [show (0 : Int) = ((0 : Nat) : Int) from rfl, h, if_neg (by decide +kernel), if_pos (by decide +kernel), if_pos (by decide), nil_app]
  rw [show wrap64 (wrap64 (((0 : Nat) : Int) + 5) + 1) = ((6 : Nat) : Int) from by decide +kernel]
  have hr := run u o (by rw [hz]; omega) false s.size 6 (k + 6) (⟨#[108, 105, 98, 54, 52]⟩ : ByteArray) (by rw [hz]; omega) (by show 5 + s.size < _; omega) (fun j hj1 hj2 => by
    have h1 := bt_app_r (⟨#[36, 123, 76, 73, 66, 125]⟩ : ByteArray) (s ++ tP) (j - 6) (by rw [ByteArray.size_append]; omega)
    rw [show (⟨#[36, 123, 76, 73, 66, 125]⟩ : ByteArray).size = 6 from rfl, show 6 + (j - 6) = j from by omega, ← e2, bt_app_l _ _ _ (by omega)] at h1
    rw [h1]
    exact hd _ (by omega))
  have e3 : u.extract 6 (6 + s.size) = s := by
    have h1 := ext_app_r (⟨#[36, 123, 76, 73, 66, 125]⟩ : ByteArray) (s ++ tP) 0 s.size
    rw [show (⟨#[36, 123, 76, 73, 66, 125]⟩ : ByteArray).size = 6 from rfl, Nat.add_zero, ← e2, ext_app_l _ _ _ _ (Nat.le_refl _), ext_all] at h1
    exact h1
  rw [hr, e3]
  have hq : ((⟨#[36, 123, 76, 73, 66, 125]⟩ : ByteArray) ++ s).size = 6 + s.size := by rw [ByteArray.size_append]; rfl
  have ht2 : search_token.f (k + 5) (u.extract (6 + s.size + 1) u.size) = some ((⟨#[80, 76, 65, 84, 70, 79, 82, 77]⟩ : ByteArray), 10) := by
    have h1 := ext_app_r ((⟨#[36, 123, 76, 73, 66, 125]⟩ : ByteArray) ++ s) tP 1 11
    rw [hq, ← hu] at h1
    rw [hz, h1, show tP.extract 1 11 = (⟨#[123, 80, 76, 65, 84, 70, 79, 82, 77, 125]⟩ : ByteArray) from by decide +kernel, show k + 5 = (k + 1) + 4 from by omega]
    exact tok_platform _
  have h2 := step u o (k + 5) ((⟨#[108, 105, 98, 54, 52]⟩ : ByteArray) ++ s) false (6 + s.size) (by rw [hz]; omega) (by rw [hz]; omega) (by
    have h1 := bt_app_r ((⟨#[36, 123, 76, 73, 66, 125]⟩ : ByteArray) ++ s) tP 0 (by decide)
    rw [hq, ← hu, Nat.add_zero] at h1
    rw [h1]; decide +kernel) _ _ ht2
  rw [show k + 6 = (k + 5) + 1 from rfl, h2, if_neg (by decide +kernel), if_neg (by decide +kernel), if_pos (by decide +kernel), if_pos (by rw [ByteArray.size_append]; show 5 + s.size + 6 < _; omega)]
  rw [w64 (n := ((6 + s.size : Nat) : Int) + 10) (by omega) (by omega), w64 (by omega) (by omega), show k + 5 = (k + 4) + 1 from rfl, ends _ _ _ _ _ _ (by rw [hz]; omega)]
theorem law (s o : ByteArray) (hs : s.size ≤ 140737488351232) (K : Nat) (hK : 10 + s.size ≤ K) : ∀ (m i k : Nat), i + m = s.size → K + m + 1 ≤ k → (∀ j, j < i → bt s j ≠ 36) → shacklelaw14_SearchPlain.l0 k s o true i = some true
  | 0, i, k, h1, h2, h3 => by
    obtain ⟨k, rfl⟩ : ∃ q, k = q + 1 := ⟨k - 1, by omega⟩
    have hd : ∀ j, j < s.size → bt s j ≠ 36 := fun j hj => h3 j (by omega)
    obtain ⟨q, rfl⟩ : ∃ q, k = q + 6 + s.size + 1 := ⟨k - 7 - s.size, by omega⟩
    rw [shacklelaw14_SearchPlain.l0, if_neg (by omega)]
    rw [show q + 6 + s.size + 1 = (q + 6) + 1 + s.size from by omega, first s o (by omega) hd, Option.bind_some, if_pos (by omega)]
    rw [show (q + 6) + 1 + s.size = (q + 1) + 5 + s.size + 1 from by omega, second s (by omega) hd, Option.bind_some, if_pos (by omega), if_pos (by rw [ByteArray.size_append]; show 6 + s.size + 11 ≤ _; omega)]
    rw [show (q + 1) + 5 + s.size + 1 = q + 6 + s.size + 1 from by omega]
    have h3 := third s o (by omega) hd q
    unfold tP at h3
    rw [h3, Option.bind_some, if_pos rfl, if_pos rfl, if_neg Bool.false_ne_true, if_pos (by omega), if_pos rfl, if_pos rfl, if_pos (by omega), if_pos (by rw [ByteArray.size_append]; show 5 + s.size + 6 ≤ _; omega), if_pos rfl]
    rfl
  | m + 1, i, k, h1, h2, h3 => by
    obtain ⟨k, rfl⟩ : ∃ q, k = q + 1 := ⟨k - 1, by omega⟩
    rw [shacklelaw14_SearchPlain.l0, if_pos (by omega), if_pos (by omega)]
    by_cases c : bt s i = 36
    · rw [if_pos c]
    · rw [if_neg c, w64 (by omega) (by omega), show ((i : Int) + 1) = ((i + 1 : Nat) : Int) from by omega]
      exact law s o hs K hK m (i + 1) k (by omega) (by omega) (fun j hj => by
        by_cases e : j = i
        · rw [e]; exact c
        · exact h3 j (by omega))
theorem upk (k : Nat) : shacklelaw14_up.f (64 + k) = some true := by
  induction k with
  | zero => exact up
  | succ k ih => exact shacklelaw14_up.mono (64 + k) _ ih
theorem SearchPlain : shacklelaw14_SearchPlain.Pure := by
  intro a0 a1 h0 _
  refine ⟨64 + (10 + a0.size + a0.size + 1), ?_⟩
  unfold shacklelaw14_SearchPlain.f
  rw [upk, Option.bind_some]
  exact law a0 a1 h0 (10 + a0.size) (Nat.le_refl _) a0.size 0 _ (by omega) (by omega) (fun j hj => absurd hj (by omega))
end Go.Proofs.Ytjbndfogjmfbhaa.Pure
