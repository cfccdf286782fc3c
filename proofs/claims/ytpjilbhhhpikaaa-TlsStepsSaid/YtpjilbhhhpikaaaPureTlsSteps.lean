/- The plain law of shacklelaw18.TlsSteps: what the program's layout tells, module by module, and of fewer modules. No condition but what each theorem says. -/
import Derived.Test.YtpjilbhhhpikaaaPTlsStepsx2
import Derived.Test.YtpjilbhhhpikaaaXBits
namespace Go.Proofs.Ytpjilbhhhpikaaa.Pure
open Go.RowKit Go.Proofs.Ytpjilbhhhpikaaa.PTlsSteps Go.Proofs.YtpjilbhhhpikaaaW.PrintWords Go.Proofs.YtpjilbhhhpikaaaW.PrintLast Go.Proofs.YtpjilbhhhpikaaaX
theorem w64 {n : Int} (h0 : 0 ≤ n) (h1 : n < 9223372036854775808) : wrap64 n = n := by unfold wrap64; omega
theorem wu {n : Int} (h0 : 0 ≤ n) (h1 : n < 18446744073709551616) : IntKind.u64.wrap n = n := by
  rw [IntKind.wrap_u64]
  omega
theorem wfu {n : Int} (h : gI .u64 n) : 0 ≤ n ∧ n < 18446744073709551616 := by
  have h1 : (Lit.int .u64 n).wf = true := h
  simp only [Lit.wf, Bool.and_eq_true, decide_eq_true_eq] at h1
  have h2 : IntKind.u64.min = 0 := by decide
  have h3 : IntKind.u64.max = 18446744073709551615 := by decide
  omega
def pw : List Int := [1, 2, 4, 8, 16, 32, 64, 128, 256, 512, 1024, 2048, 4096]
theorem pw_le {a : Int} (h : a ∈ pw) : 1 ≤ a ∧ a ≤ 4096 := by
  simp only [pw, List.mem_cons, List.not_mem_nil, or_false] at h
  omega
theorem pw_pow {a : Int} (h : a ∈ pw) : ∃ i : Nat, i < 13 ∧ a = ((2 ^ i : Nat) : Int) := by
  simp only [pw, List.mem_cons, List.not_mem_nil, or_false] at h
  rcases h with rfl | rfl | rfl | rfl | rfl | rfl | rfl | rfl | rfl | rfl | rfl | rfl | rfl
  · exact ⟨0, by decide, by decide⟩
  · exact ⟨1, by decide, by decide⟩
  · exact ⟨2, by decide, by decide⟩
  · exact ⟨3, by decide, by decide⟩
  · exact ⟨4, by decide, by decide⟩
  · exact ⟨5, by decide, by decide⟩
  · exact ⟨6, by decide, by decide⟩
  · exact ⟨7, by decide, by decide⟩
  · exact ⟨8, by decide, by decide⟩
  · exact ⟨9, by decide, by decide⟩
  · exact ⟨10, by decide, by decide⟩
  · exact ⟨11, by decide, by decide⟩
  · exact ⟨12, by decide, by decide⟩
set_option maxRecDepth 100000 in
theorem and_pw_nat : ∀ n : Nat, n < 4097 → 1 ≤ n → ((n &&& (n - 1) = 0) ↔ (n : Int) ∈ pw) := by decide +kernel
theorem and_pw {a : Int} (h1 : 1 ≤ a) (h2 : a ≤ 4096) : Go.bits .and .u64 a (IntKind.u64.wrap (a - 1)) = 0 ↔ a ∈ pw := by
  rw [wu (by omega) (by omega)]
  obtain ⟨n, rfl⟩ := Int.eq_ofNat_of_zero_le (show 0 ≤ a by omega)
  rw [show (n : Int) - 1 = ((n - 1 : Nat) : Int) by omega, bits_and_u64_nat _ _ (by omega) (by omega), ← and_pw_nat n (by omega) (by omega)]
  exact ⟨fun h => by exact_mod_cast h, fun h => by exact_mod_cast h⟩
def al (x : S37) : Int := if x.f2 = 0 then 1 else x.f2
def okm (x : S37) : Prop := al x ∈ pw ∧ (x.f0.length : Int) ≤ x.f1 ∧ x.f1 ≤ 1048576
instance (x : S37) : Decidable (okm x) := by unfold okm; infer_instance
def upTo (n a : Int) : Int := (n + a - 1) - (n + a - 1) % a
theorem upTo_le {n a : Int} (ha : 1 ≤ a) : n ≤ upTo n a ∧ upTo n a < n + a ∧ upTo n a % a = 0 := by
  unfold upTo
  have h1 := Int.emod_nonneg (n + a - 1) (show a ≠ 0 by omega)
  have h2 := Int.emod_lt_of_pos (n + a - 1) (show 0 < a by omega)
  refine ⟨by omega, by omega, ?_⟩
  rw [Int.sub_emod, Int.emod_emod_of_dvd _ (Int.dvd_refl a), Int.sub_self, Int.zero_emod]
theorem upTo_least {n a v : Int} (ha : 1 ≤ a) (h1 : n ≤ v) (h2 : v < upTo n a) : v % a ≠ 0 := by
  intro h
  obtain ⟨u1, u2, u3⟩ := upTo_le (n := n) ha
  have h3 : (upTo n a - v) % a = 0 := by rw [Int.sub_emod, u3, h]; simp
  obtain ⟨q, hq⟩ := Int.dvd_of_emod_eq_zero h3
  have : upTo n a - v < a := by omega
  have h4 : 0 < q := by
    rcases Int.lt_or_le 0 q with h | h
    · exact h
    · have := Int.mul_nonpos_of_nonneg_of_nonpos (show 0 ≤ a by omega) h
      omega
  have : a * 1 ≤ a * q := Int.mul_le_mul_of_nonneg_left h4 (by omega)
  omega
def run : List S37 → List Int → Int → Int → Option (List Int × Int × Int)
  | [], o, n, m => some (o, n, m)
  | x :: r, o, n, m => if okm x then (if upTo (n + x.f1) (al x) ≤ 1048576 then run r (o ++ [upTo (n + x.f1) (al x)]) (upTo (n + x.f1) (al x)) (mx m (al x)) else none) else none
/-- What is known of a module. -/
def fair (x : S37) : Prop := 0 ≤ x.f1 ∧ x.f1 < 18446744073709551616 ∧ 0 ≤ x.f2 ∧ x.f2 < 18446744073709551616 ∧ x.f0.length < 18446744073709551616
theorem al_mx (x : S37) (h : fair x) : mx x.f2 1 = al x := by
  obtain ⟨_, _, h1, _, _⟩ := h
  unfold mx al
  by_cases c : x.f2 = 0
  · rw [if_pos c, if_pos (by omega)]
  · rw [if_neg c, if_neg (by omega)]
theorem al_le (x : S37) (h : fair x) : 1 ≤ al x ∧ al x < 18446744073709551616 := by
  obtain ⟨_, _, h1, h2, _⟩ := h
  unfold al
  split <;> omega
theorem sound_eq (x : S37) (h : fair x) : tls_sound.f x.f0 x.f1 x.f2 = some (al x, decide (okm x)) := by
  unfold tls_sound.f
  rw [al_mx x h]
  obtain ⟨a1, a2⟩ := al_le x h
  obtain ⟨h1, h2, h3, h4, h5⟩ := h
  rw [wu (n := (x.f0.length : Int)) (by omega) (by omega)]
  by_cases c4 : al x ≤ 4096
  · by_cases c : al x ∈ pw
    · rw [if_pos ((and_pw a1 c4).mpr c), if_pos c4]
      by_cases c2 : (x.f0.length : Int) ≤ x.f1
      · rw [if_pos c2]
        congr 2
        unfold okm
        simp [c, c2]
      · rw [if_neg c2]
        congr 2
        unfold okm
        simp [c2]
    · rw [if_neg (fun e => c ((and_pw a1 c4).mp e))]
      congr 2
      unfold okm
      simp [c]
  · have c : ¬ al x ∈ pw := fun e => c4 (pw_le e).2
    have hd : decide (okm x) = false := by unfold okm; simp [c]
    rw [hd]
    by_cases c1 : Go.bits .and .u64 (al x) (IntKind.u64.wrap (al x - 1)) = 0
    · rw [if_pos c1, if_neg c4]
    · rw [if_neg c1]
theorem up_eq {n a : Int} (h0 : 0 ≤ n) (h1 : n ≤ 4194304) (ha : a ∈ pw) : tls_up.f n a = some (upTo n a) := by
  obtain ⟨a1, a2⟩ := pw_le ha
  obtain ⟨i, hi, rfl⟩ := pw_pow ha
  unfold tls_up.f upTo
  rw [wu (n := n + _) (by omega) (by omega), wu (by omega) (by omega), wu (by omega) (by omega)]
  obtain ⟨m, rfl⟩ := Int.eq_ofNat_of_zero_le h0
  have hc : (m : Int) + ((2 ^ i : Nat) : Int) - 1 = ((m + 2 ^ i - 1 : Nat) : Int) := by omega
  rw [hc, show ((2 ^ i : Nat) : Int) - 1 = ((2 ^ i - 1 : Nat) : Int) by omega, u64_andNot_nat _ _ (by omega) (by omega), andNot_pow _ i (by omega) (by omega)]
  congr 1
  have := Nat.mod_le (m + 2 ^ i - 1) (2 ^ i)
  rw [← Int.natCast_emod]
  omega
def tellP : Option (List Int × Int × Int) → List Int × Int × Int × Option Int
  | some (o, n, m) => (o, n, m, none)
  | none => ([], 0, 0, some 21)
theorem at_drop {l : List S37} {i : Nat} {x : S37} {r : List S37} (h : l.drop i = x :: r) : i < l.length ∧ rd_T37 l (i : Int) = x ∧ l.drop (i + 1) = r := by
  have hlt : i < l.length := by
    rcases Nat.lt_or_ge i l.length with c | c
    · exact c
    · rw [List.drop_eq_nil_of_le c] at h; cases h
  rw [List.drop_eq_getElem_cons hlt] at h
  injection h with h1 h2
  refine ⟨hlt, ?_, h2⟩
  unfold rd_T37
  rw [Int.toNat_natCast, List.getD_eq_getElem?_getD, List.getElem?_eq_getElem hlt]
  exact h1
theorem lay_P (l : List S37) (hl : l.length < 4398046511104) (hf : ∀ x ∈ l, fair x) : ∀ (r : List S37) (i : Nat) (o : List Int) (n m : Int), l.drop i = r → o.length = i → 0 ≤ n → n ≤ 1048576 →
    ∃ k, tls_Layout.l0 k o n m l (l.length : Int) (i : Int) = some (tellP (run r o n m))
  | [], i, o, n, m, hd, ho, h0, h1 => by
    have hi : l.length ≤ i := by
      rcases Nat.lt_or_ge i l.length with c | c
      · rw [List.drop_eq_getElem_cons c] at hd; cases hd
      · exact c
    refine ⟨1, ?_⟩
    rw [tls_Layout.l0, if_neg (by omega)]
    rfl
  | x :: r, i, o, n, m, hd, ho, h0, h1 => by
    obtain ⟨hlt, hx, hd2⟩ := at_drop hd
    have hfx : fair x := hf x (by have := List.drop_subset i l; exact this (by rw [hd]; exact List.mem_cons_self ..))
    by_cases c : okm x
    · have c' := c
      obtain ⟨c1, c2, c3⟩ := c'
      obtain ⟨a1, a2⟩ := pw_le c1
      have hs1 := hfx.1
      obtain ⟨u1, u2, u3⟩ := upTo_le (n := n + x.f1) a1
      by_cases g : upTo (n + x.f1) (al x) ≤ 1048576
      · obtain ⟨k, hk⟩ := lay_P l hl hf r (i + 1) (o ++ [upTo (n + x.f1) (al x)]) (upTo (n + x.f1) (al x)) (mx m (al x)) hd2 (by simp [ho]) (by omega) g
        refine ⟨k + 1, ?_⟩
        rw [tls_Layout.l0, if_pos (by omega), if_pos (by omega), if_pos (by omega), hx, sound_eq x hfx, Option.bind_some, if_pos (by simpa using c), wu (by omega) (by omega), up_eq (by omega) (by omega) c1, Option.bind_some, if_neg (by omega), if_pos (by omega), w64 (by omega) (by omega)]
        rw [run, if_pos c, if_pos g, ← hk]
        norm_cast
      · refine ⟨1, ?_⟩
        rw [tls_Layout.l0, if_pos (by omega), if_pos (by omega), if_pos (by omega), hx, sound_eq x hfx, Option.bind_some, if_pos (by simpa using c), wu (by omega) (by omega), up_eq (by omega) (by omega) c1, Option.bind_some, if_pos (by omega)]
        rw [run, if_pos c, if_neg g]
        rfl
    · refine ⟨1, ?_⟩
      rw [tls_Layout.l0, if_pos (by omega), if_pos (by omega), if_pos (by omega), hx, sound_eq x hfx, Option.bind_some, if_neg (by simpa using c)]
      rw [run, if_neg c]
      rfl
theorem same_self (o : List Int) (ho : o.length < 9223372036854775807) : ∃ k, shackleref18_Same.f k o o = some true := by
  have H : ∀ (d i : Nat), i + d = o.length → ∃ k, shackleref18_Same.l0 k o o (i : Int) = some true := by
    intro d
    induction d with
    | zero => intro i hi; exact ⟨1, by rw [shackleref18_Same.l0, if_neg (by omega)]⟩
    | succ d ih =>
      intro i hi
      obtain ⟨k, hk⟩ := ih (i + 1) (by omega)
      refine ⟨k + 1, ?_⟩
      rw [shackleref18_Same.l0, if_pos (by omega), if_pos (by omega), if_pos (by omega), if_pos rfl, w64 (by omega) (by omega), ← hk]
      norm_cast
  obtain ⟨k, hk⟩ := H o.length 0 (by omega)
  exact ⟨k, by unfold shackleref18_Same.f; rw [if_pos rfl]; exact hk⟩
theorem run_len : ∀ (r : List S37) (o : List Int) (n m : Int) (o' : List Int) (n' m' : Int), run r o n m = some (o', n', m') → o'.length = o.length + r.length
  | [], o, n, m, o', n', m', h => by
    rw [run] at h
    injection h with h; injection h with h1 h2
    subst h1; simp
  | x :: r, o, n, m, o', n', m', h => by
    rw [run] at h
    split at h
    · split at h
      · have := run_len r _ _ _ _ _ _ h
        simp at this ⊢
        omega
      · cases h
    · cases h
theorem run_pre : ∀ (r : List S37) (o : List Int) (n m : Int) (o' : List Int) (n' m' : Int), run r o n m = some (o', n', m') → ∃ q, o' = o ++ q
  | [], o, n, m, o', n', m', h => by
    rw [run] at h
    injection h with h; injection h with h1 h2
    exact ⟨[], by rw [List.append_nil]; exact h1.symm⟩
  | x :: r, o, n, m, o', n', m', h => by
    rw [run] at h
    split at h
    · split at h
      · obtain ⟨q, hq⟩ := run_pre r _ _ _ _ _ _ h
        exact ⟨upTo (n + x.f1) (al x) :: q, by rw [hq, List.append_assoc]; rfl⟩
      · cases h
    · cases h
theorem pw_dvd : ∀ a ∈ pw, ∀ b ∈ pw, a ≤ b → b % a = 0 := by decide
theorem mx_pw {a b : Int} (ha : a ∈ pw) (hb : b ∈ pw) : mx a b ∈ pw ∧ a ≤ mx a b ∧ b ≤ mx a b := by
  unfold mx
  by_cases c : a < b
  · rw [if_pos c]; exact ⟨hb, by omega, by omega⟩
  · rw [if_neg c]; exact ⟨ha, by omega, by omega⟩
theorem run_m : ∀ (r : List S37) (o : List Int) (n m : Int) (o' : List Int) (n' m' : Int), run r o n m = some (o', n', m') → m ∈ pw → m' ∈ pw ∧ m ≤ m'
  | [], o, n, m, o', n', m', h, hm => by
    rw [run] at h
    injection h with h; injection h with h1 h2; injection h2 with h2 h3
    subst h3; exact ⟨hm, Int.le_refl _⟩
  | x :: r, o, n, m, o', n', m', h, hm => by
    rw [run] at h
    split at h
    · rename_i c
      split at h
      · obtain ⟨a1, a2, a3⟩ := mx_pw hm c.1
        obtain ⟨b1, b2⟩ := run_m r _ _ _ _ _ _ h a1
        exact ⟨b1, by omega⟩
      · cases h
    · cases h
theorem run_take : ∀ (r : List S37) (o : List Int) (n m : Int) (o' : List Int) (n' m' : Int), run r o n m = some (o', n', m') → ∀ j, j ≤ r.length → ∃ n2 m2, run (r.take j) o n m = some (o'.take (o.length + j), n2, m2)
  | r, o, n, m, o', n', m', h, 0, _ => by
    obtain ⟨q, hq⟩ := run_pre r _ _ _ _ _ _ h
    refine ⟨n, m, ?_⟩
    rw [List.take_zero, run, hq, Nat.add_zero, List.take_append_of_le_length (Nat.le_refl _), List.take_of_length_le (Nat.le_refl _)]
  | [], o, n, m, o', n', m', h, j + 1, hj => by simp at hj
  | x :: r, o, n, m, o', n', m', h, j + 1, hj => by
    rw [run] at h
    split at h
    · rename_i c
      split at h
      · rename_i g
        obtain ⟨n2, m2, h2⟩ := run_take r _ _ _ _ _ _ h j (by simp at hj; omega)
        refine ⟨n2, m2, ?_⟩
        rw [List.take_succ_cons, run, if_pos c, if_pos g, h2]
        congr 3
        simp
        omega
      · cases h
    · cases h
theorem rd_pre (p q : List Int) (t : Int) : rd ((p ++ [t]) ++ q) (p.length : Int) = t := by
  unfold rd
  rw [Int.toNat_natCast, List.getD_eq_getElem?_getD, List.getElem?_append_left (by simp), List.getElem?_append_right (Nat.le_refl _), Nat.sub_self]
  rfl
theorem next64 (i : Nat) (h : i < 4398046511104) : wrap64 ((i : Int) + 1) = ((i + 1 : Nat) : Int) := by rw [w64 (by omega) (by omega)]; rfl
theorem add_one' (K n : Nat) : K + (n + 1) + 1 = (K + n + 1) + 1 := by omega
theorem not_ge {s a T : Int} (h0 : 0 ≤ s) (h1 : s ≤ 2097152) (a1 : 1 ≤ a) (a2 : a ≤ 4096) (u2 : T < s + a) : ¬ T ≥ IntKind.u64.wrap (s + a) := by
  rw [wu (by omega) (by omega)]
  omega
set_option maxHeartbeats 1000000 in
theorem steps (l : List S37) (hl : l.length < 4398046511104) (hf : ∀ x ∈ l, fair x) (a1 : Int) (o : List Int) (nL mL : Int) (K0 : Nat) (ho : o.length = l.length) (hn : nL ≤ 1048576)
    (hend : ∀ K, K0 ≤ K → shacklelaw18_TlsSteps.l0 (K + 1) l a1 true o nL mL nL (l.length : Int) = some true) :
    ∀ (r : List S37) (i : Nat) (p : List Int) (n m : Int), l.drop i = r → p.length = i → 0 ≤ n → n ≤ 1048576 → m ∈ pw → run r p n m = some (o, nL, mL) → ∀ K, K0 ≤ K → shacklelaw18_TlsSteps.l0 (K + r.length + 1) l a1 true o nL mL n (i : Int) = some true
  | [], i, p, n, m, hd, hp, h0, h1, hm, hr, K, hK => by
    rw [run] at hr
    injection hr with hr; injection hr with e1 e2; injection e2 with e2 e3
    subst e2
    have hi : i = l.length := by rw [← hp, ← ho, e1]
    rw [hi]
    exact hend K hK
  | x :: r, i, p, n, m, hd, hp, h0, h1, hm, hr, K, hK => by
    obtain ⟨hlt, hx, hd2⟩ := at_drop hd
    have hfx : fair x := hf x (by have := List.drop_subset i l; exact this (by rw [hd]; exact List.mem_cons_self ..))
    rw [run] at hr
    split at hr
    · rename_i c
      split at hr
      · rename_i g
        obtain ⟨c1, c2, c3⟩ := c
        obtain ⟨p1, p2⟩ := pw_le c1
        obtain ⟨u1, u2, u3⟩ := upTo_le (n := n + x.f1) p1
        obtain ⟨f1, f2, f3, f4, f5⟩ := hfx
        obtain ⟨q, hq⟩ := run_pre r _ _ _ _ _ _ hr
        have hrd : rd o (i : Int) = upTo (n + x.f1) (al x) := by rw [hq, ← hp]; exact rd_pre p q _
        obtain ⟨m1, m2, m3⟩ := mx_pw hm c1
        obtain ⟨n1, n2⟩ := run_m r _ _ _ _ _ _ hr m1
        have ht0 : 0 ≤ upTo (n + x.f1) (al x) := Int.le_trans (Int.add_nonneg h0 f1) u1
        have hdiv : Int.tmod mL (al x) = 0 := by
          rw [Int.tmod_eq_emod_of_nonneg (Int.le_trans (by decide) (pw_le n1).1)]
          exact pw_dvd _ c1 _ n1 (Int.le_trans m3 n2)
        have hdt : Int.tmod (upTo (n + x.f1) (al x)) (al x) = 0 := by
          rw [Int.tmod_eq_emod_of_nonneg ht0]
          exact u3
        have ih := steps l hl hf a1 o nL mL K0 ho hn hend r (i + 1) (p ++ [upTo (n + x.f1) (al x)]) _ _ hd2 (by simp [hp]) ht0 g m1 hr K hK
        have hcast : wrap64 ((i : Int) + 1) = ((i + 1 : Nat) : Int) := next64 i (Nat.lt_trans hlt hl)
        have hs0 : 0 ≤ n + x.f1 := Int.add_nonneg h0 f1
        have hs1 : n + x.f1 ≤ 2097152 := Int.le_trans (Int.add_le_add h1 c3) (by decide)
        have hs2 : n + x.f1 < 18446744073709551616 := Int.lt_of_le_of_lt hs1 (by decide)
        have hi0 : (i : Int) < (l.length : Int) := Int.ofNat_lt.mpr hlt
        have hi1 : 0 ≤ (i : Int) := Int.natCast_nonneg _
        have hi2 : (i : Int) < (o.length : Int) := by rw [ho]; exact hi0
        have hge := not_ge hs0 hs1 p1 p2 u2
        have hlt2 : ¬ upTo (n + x.f1) (al x) < n + x.f1 := Int.not_lt.mpr u1
        rw [List.length_cons, add_one', shacklelaw18_TlsSteps.l0, if_pos hi0, if_pos hi1, hx, hrd, wu hs0 hs2, hcast]
        clear hr hq hcast hd hd2 u3 f1 f2 f3 f4 f5 h0 h1 n1 n2 m1 m2 m3 hs0 hs1 hs2 c2 c3 hi0 hi1
        by_cases c4 : x.f2 = 0
        · have ha : al x = 1 := by unfold al; rw [if_pos c4]
          rw [ha] at hge hlt2 ih ⊢
          rw [if_pos c4, if_pos hi2, if_pos (Int.tmod_one _), if_neg hlt2, if_neg hge, if_pos (Int.tmod_one _)]
          exact ih
        · have ha : al x = x.f2 := by unfold al; rw [if_neg c4]
          rw [ha] at hdiv hdt hge hlt2 ih ⊢
          rw [if_neg c4, if_pos hi2, if_pos hdt, if_neg hlt2, if_neg hge, if_pos hdiv]
          exact ih
      · cases hr
    · cases hr
theorem pick_eq (a1 : Int) (h : (Lit.int .i64 a1).wf = true) (n : Nat) (hn : n < 4398046511104) : ∃ t : Nat, t ≤ n ∧ shacklelaw18_pick.f a1 (wrap64 ((n : Int) + 1)) = some (t : Int) := by
  have hb : -9223372036854775808 ≤ a1 ∧ a1 ≤ 9223372036854775807 := by
    simp only [Lit.wf, Bool.and_eq_true, decide_eq_true_eq] at h
    have h2 : IntKind.i64.min = -9223372036854775808 := by decide
    have h3 : IntKind.i64.max = 9223372036854775807 := by decide
    omega
  have key : ∀ b : Int, 0 ≤ b → ∃ t : Nat, t ≤ n ∧ Int.tmod b ((n : Int) + 1) = (t : Int) := by
    intro b hb
    rw [Int.tmod_eq_emod_of_nonneg hb]
    have g1 := Int.emod_nonneg b (show (n : Int) + 1 ≠ 0 by omega)
    have g2 := Int.emod_lt_of_pos b (show (0 : Int) < (n : Int) + 1 by omega)
    exact ⟨(b % ((n : Int) + 1)).toNat, by omega, by omega⟩
  unfold shacklelaw18_pick.f
  rw [w64 (n := (n : Int) + 1) (by omega) (by omega)]
  by_cases c : a1 < 0
  · rw [if_pos c, if_neg (by omega)]
    have e1 : wrap64 (a1 + 1) = a1 + 1 := by unfold wrap64; omega
    have e2 : wrap64 (-(a1 + 1)) = -(a1 + 1) := w64 (by omega) (by omega)
    rw [e1, e2]
    obtain ⟨t, t1, t2⟩ := key (-(a1 + 1)) (by omega)
    exact ⟨t, t1, by rw [t2]⟩
  · rw [if_neg c, if_neg (by omega)]
    obtain ⟨t, t1, t2⟩ := key a1 (by omega)
    exact ⟨t, t1, by rw [t2]⟩
theorem TlsSteps : shacklelaw18_TlsSteps.Pure := by
  intro l a1 hg hz ha
  have hlen : l.length < 4398046511104 := by have := hz.1; omega
  have hfair : ∀ x ∈ l, fair x := by
    intro x hx
    obtain ⟨g1, g2, g3⟩ := hg.2 x hx
    have z1 := (hz.2 x hx).1.1
    have b1 := wfu g2
    have b2 := wfu g3
    exact ⟨b1.1, b1.2, b2.1, b2.2, by omega⟩
  obtain ⟨k1, h1⟩ := lay_P l hlen hfair l 0 [] 0 1 rfl rfl (by decide) (by decide)
  have e1 : tls_Layout.f k1 l = some (tellP (run l [] 0 1)) := h1
  cases hr : run l [] 0 1 with
  | none =>
    rw [hr] at e1
    refine ⟨k1, ?_⟩
    unfold shacklelaw18_TlsSteps.f
    rw [show shacklelaw18_up.f = some true from rfl, Option.bind_some, e1]
    rfl
  | some z =>
    obtain ⟨o, nL, mL⟩ := z
    rw [hr] at e1
    have e1 : tls_Layout.f k1 l = some (o, nL, mL, none) := e1
    have ho : o.length = l.length := by have := run_len l _ _ _ _ _ _ hr; simpa using this
    obtain ⟨t, t1, t2⟩ := pick_eq a1 ha l.length hlen
    obtain ⟨n2, m2, h2⟩ := run_take l _ _ _ _ _ _ hr t t1
    rw [List.length_nil, Nat.zero_add] at h2
    obtain ⟨k2, h3⟩ := lay_P (l.take t) (by simp; omega) (fun x hx => hfair x (List.mem_of_mem_take hx)) (l.take t) 0 [] 0 1 rfl rfl (by decide) (by decide)
    have e2 : tls_Layout.f k2 (l.take t) = some (o.take t, n2, m2, none) := by rw [h2] at h3; exact h3
    obtain ⟨k3, e3⟩ := same_self (o.take t) (by simp; omega)
    have hnL : ∀ (r : List S37) (p : List Int) (n m : Int), n ≤ 1048576 → run r p n m = some (o, nL, mL) → nL ≤ 1048576 := by
      intro r
      induction r with
      | nil =>
        intro p n m hn h
        rw [run] at h
        injection h with h; injection h with q1 q2; injection q2 with q2 q3
        omega
      | cons x r ih =>
        intro p n m hn h
        rw [run] at h
        split at h
        · split at h
          · rename_i g
            exact ih _ _ _ g h
          · cases h
        · cases h
    have hend : ∀ K, k2 + k3 ≤ K → shacklelaw18_TlsSteps.l0 (K + 1) l a1 true o nL mL nL (l.length : Int) = some true := by
      intro K hK
      have m2' := at_rounds (g := fun k => tls_Layout.f k (l.take t)) (fun k => tls_Layout.mono (l.take t) k) (show k2 ≤ K by omega) e2
      have m3' := at_rounds (g := fun k => shackleref18_Same.f k (o.take t) (o.take t)) (fun k => shackleref18_Same.mono (o.take t) (o.take t) k) (show k3 ≤ K by omega) e3
      rw [shacklelaw18_TlsSteps.l0, if_neg (by omega), if_pos rfl, t2, Option.bind_some, if_pos (by omega), if_pos (by omega), Int.toNat_natCast, m2', Option.bind_some, if_pos (by omega), m3', Option.bind_some, if_pos rfl]
      rfl
    have hs := steps l hlen hfair a1 o nL mL (k2 + k3) ho (hnL l [] 0 1 (by decide) hr) hend l 0 [] 0 1 rfl rfl (by decide) (by decide) (by decide) hr
    refine ⟨(k1 + k2 + k3) + l.length + 1, ?_⟩
    have m1 := at_rounds (g := fun k => tls_Layout.f k l) (fun k => tls_Layout.mono l k) (show k1 ≤ (k1 + k2 + k3) + l.length + 1 by omega) e1
    unfold shacklelaw18_TlsSteps.f
    rw [show shacklelaw18_up.f = some true from rfl, Option.bind_some, m1, Option.bind_some, if_pos rfl]
    show (if (o.length : Int) = (l.length : Int) then _ else _) = _
    rw [if_pos (by omega)]
    exact hs (k1 + k2 + k3) (by omega)
end Go.Proofs.Ytpjilbhhhpikaaa.Pure
