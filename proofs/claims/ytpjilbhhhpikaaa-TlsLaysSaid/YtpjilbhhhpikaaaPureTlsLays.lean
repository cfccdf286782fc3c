/- The plain law of shacklelaw18.TlsLays: the program's layout and the document's come to one list of offsets. No condition but what each theorem says. -/
import Derived.Test.YtpjilbhhhpikaaaPTlsLaysx3
import Derived.Test.YtpjilbhhhpikaaaXBits
namespace Go.Proofs.Ytpjilbhhhpikaaa.Pure
open Go.RowKit Go.Proofs.Ytpjilbhhhpikaaa.PTlsLays Go.Proofs.YtpjilbhhhpikaaaW.PrintWords Go.Proofs.YtpjilbhhhpikaaaW.PrintLast Go.Proofs.YtpjilbhhhpikaaaX
theorem w64 {n : Int} (h0 : 0 ≤ n) (h1 : n < 9223372036854775808) : wrap64 n = n := by unfold wrap64; omega
theorem wu {n : Int} (h0 : 0 ≤ n) (h1 : n < 18446744073709551616) : IntKind.u64.wrap n = n := by
  rw [IntKind.wrap_u64]
  omega
theorem wfu {n : Int} (h : gI .u64 n) : 0 ≤ n ∧ n < 18446744073709551616 := by
  have h1 : (Lit.int .u64 n).wf = true := h
  simp only [Lit.wf, Bool.and_eq_true, decide_eq_true_eq] at h1
  have h2 : IntKind.u64.min = 0 := by decide
  have h3 : IntKind.u64.max = 18446744073709551615 := by decide
  omega
def pw : List Int := [1, 2, 4, 8, 16, 32, 64, 128, 256, 512, 1024, 2048, 4096]
theorem pw_le {a : Int} (h : a ∈ pw) : 1 ≤ a ∧ a ≤ 4096 := by
  simp only [pw, List.mem_cons, List.not_mem_nil, or_false] at h
  omega
theorem pw_pow {a : Int} (h : a ∈ pw) : ∃ i : Nat, i < 13 ∧ a = ((2 ^ i : Nat) : Int) := by
  simp only [pw, List.mem_cons, List.not_mem_nil, or_false] at h
  rcases h with rfl | rfl | rfl | rfl | rfl | rfl | rfl | rfl | rfl | rfl | rfl | rfl | rfl
  · exact ⟨0, by decide, by decide⟩
  · exact ⟨1, by decide, by decide⟩
  · exact ⟨2, by decide, by decide⟩
  · exact ⟨3, by decide, by decide⟩
  · exact ⟨4, by decide, by decide⟩
  · exact ⟨5, by decide, by decide⟩
  · exact ⟨6, by decide, by decide⟩
  · exact ⟨7, by decide, by decide⟩
  · exact ⟨8, by decide, by decide⟩
  · exact ⟨9, by decide, by decide⟩
  · exact ⟨10, by decide, by decide⟩
  · exact ⟨11, by decide, by decide⟩
  · exact ⟨12, by decide, by decide⟩
set_option maxRecDepth 100000 in
theorem and_pw_nat : ∀ n : Nat, n < 4097 → 1 ≤ n → ((n &&& (n - 1) = 0) ↔ (n : Int) ∈ pw) := by decide +kernel
theorem and_pw {a : Int} (h1 : 1 ≤ a) (h2 : a ≤ 4096) : Go.bits .and .u64 a (IntKind.u64.wrap (a - 1)) = 0 ↔ a ∈ pw := by
  rw [wu (by omega) (by omega)]
  obtain ⟨n, rfl⟩ := Int.eq_ofNat_of_zero_le (show 0 ≤ a by omega)
  rw [show (n : Int) - 1 = ((n - 1 : Nat) : Int) by omega, bits_and_u64_nat _ _ (by omega) (by omega), ← and_pw_nat n (by omega) (by omega)]
  exact ⟨fun h => by exact_mod_cast h, fun h => by exact_mod_cast h⟩
def al (x : S37) : Int := if x.f2 = 0 then 1 else x.f2
def okm (x : S37) : Prop := al x ∈ pw ∧ (x.f0.length : Int) ≤ x.f1 ∧ x.f1 ≤ 1048576
instance (x : S37) : Decidable (okm x) := by unfold okm; infer_instance
def upTo (n a : Int) : Int := (n + a - 1) - (n + a - 1) % a
theorem upTo_le {n a : Int} (ha : 1 ≤ a) : n ≤ upTo n a ∧ upTo n a < n + a ∧ upTo n a % a = 0 := by
  unfold upTo
  have h1 := Int.emod_nonneg (n + a - 1) (show a ≠ 0 by omega)
  have h2 := Int.emod_lt_of_pos (n + a - 1) (show 0 < a by omega)
  refine ⟨by omega, by omega, ?_⟩
  rw [Int.sub_emod, Int.emod_emod_of_dvd _ (Int.dvd_refl a), Int.sub_self, Int.zero_emod]
theorem upTo_least {n a v : Int} (ha : 1 ≤ a) (h1 : n ≤ v) (h2 : v < upTo n a) : v % a ≠ 0 := by
  intro h
  obtain ⟨u1, u2, u3⟩ := upTo_le (n := n) ha
  have h3 : (upTo n a - v) % a = 0 := by rw [Int.sub_emod, u3, h]; simp
  obtain ⟨q, hq⟩ := Int.dvd_of_emod_eq_zero h3
  have : upTo n a - v < a := by omega
  have h4 : 0 < q := by
    rcases Int.lt_or_le 0 q with h | h
    · exact h
    · have := Int.mul_nonpos_of_nonneg_of_nonpos (show 0 ≤ a by omega) h
      omega
  have : a * 1 ≤ a * q := Int.mul_le_mul_of_nonneg_left h4 (by omega)
  omega
def run : List S37 → List Int → Int → Int → Option (List Int × Int × Int)
  | [], o, n, m => some (o, n, m)
  | x :: r, o, n, m => if okm x then (if upTo (n + x.f1) (al x) ≤ 1048576 then run r (o ++ [upTo (n + x.f1) (al x)]) (upTo (n + x.f1) (al x)) (mx m (al x)) else none) else none
/-- What is known of a module. -/
def fair (x : S37) : Prop := 0 ≤ x.f1 ∧ x.f1 < 18446744073709551616 ∧ 0 ≤ x.f2 ∧ x.f2 < 18446744073709551616 ∧ x.f0.length < 18446744073709551616
theorem al_mx (x : S37) (h : fair x) : mx x.f2 1 = al x := by
  obtain ⟨_, _, h1, _, _⟩ := h
  unfold mx al
  by_cases c : x.f2 = 0
  · rw [if_pos c, if_pos (by omega)]
  · rw [if_neg c, if_neg (by omega)]
theorem al_le (x : S37) (h : fair x) : 1 ≤ al x ∧ al x < 18446744073709551616 := by
  obtain ⟨_, _, h1, h2, _⟩ := h
  unfold al
  split <;> omega
theorem sound_eq (x : S37) (h : fair x) : tls_sound.f x.f0 x.f1 x.f2 = some (al x, decide (okm x)) := by
  unfold tls_sound.f
  rw [al_mx x h]
  obtain ⟨a1, a2⟩ := al_le x h
  obtain ⟨h1, h2, h3, h4, h5⟩ := h
  rw [wu (n := (x.f0.length : Int)) (by omega) (by omega)]
  by_cases c4 : al x ≤ 4096
  · by_cases c : al x ∈ pw
    · rw [if_pos ((and_pw a1 c4).mpr c), if_pos c4]
      by_cases c2 : (x.f0.length : Int) ≤ x.f1
      · rw [if_pos c2]
        congr 2
        unfold okm
        simp [c, c2]
      · rw [if_neg c2]
        congr 2
        unfold okm
        simp [c2]
    · rw [if_neg (fun e => c ((and_pw a1 c4).mp e))]
      congr 2
      unfold okm
      simp [c]
  · have c : ¬ al x ∈ pw := fun e => c4 (pw_le e).2
    have hd : decide (okm x) = false := by unfold okm; simp [c]
    rw [hd]
    by_cases c1 : Go.bits .and .u64 (al x) (IntKind.u64.wrap (al x - 1)) = 0
    · rw [if_pos c1, if_neg c4]
    · rw [if_neg c1]
theorem up_eq {n a : Int} (h0 : 0 ≤ n) (h1 : n ≤ 4194304) (ha : a ∈ pw) : tls_up.f n a = some (upTo n a) := by
  obtain ⟨a1, a2⟩ := pw_le ha
  obtain ⟨i, hi, rfl⟩ := pw_pow ha
  unfold tls_up.f upTo
  rw [wu (n := n + _) (by omega) (by omega), wu (by omega) (by omega), wu (by omega) (by omega)]
  obtain ⟨m, rfl⟩ := Int.eq_ofNat_of_zero_le h0
  have hc : (m : Int) + ((2 ^ i : Nat) : Int) - 1 = ((m + 2 ^ i - 1 : Nat) : Int) := by omega
  rw [hc, show ((2 ^ i : Nat) : Int) - 1 = ((2 ^ i - 1 : Nat) : Int) by omega, u64_andNot_nat _ _ (by omega) (by omega), andNot_pow _ i (by omega) (by omega)]
  congr 1
  have := Nat.mod_le (m + 2 ^ i - 1) (2 ^ i)
  rw [← Int.natCast_emod]
  omega
def tellP : Option (List Int × Int × Int) → List Int × Int × Int × Option Int
  | some (o, n, m) => (o, n, m, none)
  | none => ([], 0, 0, some 21)
def tellR : Option (List Int × Int × Int) → List Int × Int × Int × Int
  | some (o, n, m) => (o, n, m, 0)
  | none => ([], 0, 0, 21)
theorem at_drop {l : List S37} {i : Nat} {x : S37} {r : List S37} (h : l.drop i = x :: r) : i < l.length ∧ rd_T37 l (i : Int) = x ∧ l.drop (i + 1) = r := by
  have hlt : i < l.length := by
    rcases Nat.lt_or_ge i l.length with c | c
    · exact c
    · rw [List.drop_eq_nil_of_le c] at h; cases h
  rw [List.drop_eq_getElem_cons hlt] at h
  injection h with h1 h2
  refine ⟨hlt, ?_, h2⟩
  unfold rd_T37
  rw [Int.toNat_natCast, List.getD_eq_getElem?_getD, List.getElem?_eq_getElem hlt]
  exact h1
theorem lay_P (l : List S37) (hl : l.length < 4398046511104) (hf : ∀ x ∈ l, fair x) : ∀ (r : List S37) (i : Nat) (o : List Int) (n m : Int), l.drop i = r → o.length = i → 0 ≤ n → n ≤ 1048576 →
    ∃ k, tls_Layout.l0 k o n m l (l.length : Int) (i : Int) = some (tellP (run r o n m))
  | [], i, o, n, m, hd, ho, h0, h1 => by
    have hi : l.length ≤ i := by
      rcases Nat.lt_or_ge i l.length with c | c
      · rw [List.drop_eq_getElem_cons c] at hd; cases hd
      · exact c
    refine ⟨1, ?_⟩
    rw [tls_Layout.l0, if_neg (by omega)]
    rfl
  | x :: r, i, o, n, m, hd, ho, h0, h1 => by
    obtain ⟨hlt, hx, hd2⟩ := at_drop hd
    have hfx : fair x := hf x (by have := List.drop_subset i l; exact this (by rw [hd]; exact List.mem_cons_self ..))
    by_cases c : okm x
    · have c' := c
      obtain ⟨c1, c2, c3⟩ := c'
      obtain ⟨a1, a2⟩ := pw_le c1
      have hs1 := hfx.1
      obtain ⟨u1, u2, u3⟩ := upTo_le (n := n + x.f1) a1
      by_cases g : upTo (n + x.f1) (al x) ≤ 1048576
      · obtain ⟨k, hk⟩ := lay_P l hl hf r (i + 1) (o ++ [upTo (n + x.f1) (al x)]) (upTo (n + x.f1) (al x)) (mx m (al x)) hd2 (by simp [ho]) (by omega) g
        refine ⟨k + 1, ?_⟩
        rw [tls_Layout.l0, if_pos (by omega), if_pos (by omega), if_pos (by omega), hx, sound_eq x hfx, Option.bind_some, if_pos (by simpa using c), wu (by omega) (by omega), up_eq (by omega) (by omega) c1, Option.bind_some, if_neg (by omega), if_pos (by omega), w64 (by omega) (by omega)]
        rw [run, if_pos c, if_pos g, ← hk]
        norm_cast
      · refine ⟨1, ?_⟩
        rw [tls_Layout.l0, if_pos (by omega), if_pos (by omega), if_pos (by omega), hx, sound_eq x hfx, Option.bind_some, if_pos (by simpa using c), wu (by omega) (by omega), up_eq (by omega) (by omega) c1, Option.bind_some, if_pos (by omega)]
        rw [run, if_pos c, if_neg g]
        rfl
    · refine ⟨1, ?_⟩
      rw [tls_Layout.l0, if_pos (by omega), if_pos (by omega), if_pos (by omega), hx, sound_eq x hfx, Option.bind_some, if_neg (by simpa using c)]
      rw [run, if_neg c]
      rfl
theorem l1_step (k : Nat) (l : List S37) (o : List Int) (n m i a : Int) (b : Bool) (x : Int) (hx : x ≤ 4096) : shackleref18_Layout.l1 (k + 1) l o n m i a b x = shackleref18_Layout.l1 k l o n m i a (b || x == a) (IntKind.u64.wrap (2 * x)) := by
  rw [shackleref18_Layout.l1, if_pos hx]
  cases b
  · rw [if_neg (by decide)]; rfl
  · rw [if_pos rfl]; rfl
theorem l1_all (k : Nat) (l : List S37) (o : List Int) (n m i a : Int) : shackleref18_Layout.l1 (k + 13) l o n m i a false 1 = shackleref18_Layout.l1 k l o n m i a (decide (a ∈ pw)) 8192 := by
  have hw : ∀ x : Int, 0 ≤ x → x ≤ 4096 → IntKind.u64.wrap (2 * x) = 2 * x := fun x h0 h1 => wu (by omega) (by omega)
  rw [l1_step _ l o n m i a _ 1 (by decide), hw 1 (by decide) (by decide), l1_step _ l o n m i a _ (2 * 1) (by decide), hw (2 * 1) (by decide) (by decide), l1_step _ l o n m i a _ _ (by decide), hw _ (by decide) (by decide),
    l1_step _ l o n m i a _ _ (by decide), hw _ (by decide) (by decide), l1_step _ l o n m i a _ _ (by decide), hw _ (by decide) (by decide), l1_step _ l o n m i a _ _ (by decide), hw _ (by decide) (by decide), l1_step _ l o n m i a _ _ (by decide), hw _ (by decide) (by decide),
    l1_step _ l o n m i a _ _ (by decide), hw _ (by decide) (by decide), l1_step _ l o n m i a _ _ (by decide), hw _ (by decide) (by decide), l1_step _ l o n m i a _ _ (by decide), hw _ (by decide) (by decide), l1_step _ l o n m i a _ _ (by decide), hw _ (by decide) (by decide),
    l1_step _ l o n m i a _ _ (by decide), hw _ (by decide) (by decide), l1_step _ l o n m i a _ _ (by decide), hw _ (by decide) (by decide)]
  congr 1
  rw [Bool.eq_iff_iff]
  simp only [Bool.or_eq_true, beq_iff_eq, decide_eq_true_eq, pw, List.mem_cons, List.not_mem_nil, Bool.false_eq_true, or_false, false_or]
  constructor <;> (intro h; omega)
theorem l2_run (l : List S37) (o : List Int) (m i a : Int) (ha : 1 ≤ a) (n : Int) : ∀ (d : Nat) (k : Nat) (v : Int), n ≤ v → 0 ≤ v → v + d = upTo n a → upTo n a < 18446744073709551615 → shackleref18_Layout.l2 (k + d) l o v m i a = shackleref18_Layout.l2 k l o (upTo n a) m i a
  | 0, k, v, _, _, h, _ => by
    have : v = upTo n a := by omega
    rw [this]; rfl
  | d + 1, k, v, h0, h1, h, hlt => by
    rw [show k + (d + 1) = (k + d) + 1 from rfl, shackleref18_Layout.l2, if_neg (by omega), if_neg (by rw [Int.tmod_eq_emod_of_nonneg h1]; exact upTo_least ha h0 (by omega)), wu (by omega) (by omega)]
    exact l2_run l o m i a ha n d k (v + 1) (by omega) (by omega) (by omega) hlt
theorem lay_R (l : List S37) (hl : l.length < 4398046511104) (hf : ∀ x ∈ l, fair x) : ∀ (r : List S37) (i : Nat) (o : List Int) (n m : Int), l.drop i = r → o.length = i → 0 ≤ n → n ≤ 1048576 →
    ∃ k, shackleref18_Layout.l0 k l o n m (i : Int) = some (tellR (run r o n m))
  | [], i, o, n, m, hd, ho, h0, h1 => by
    have hi : l.length ≤ i := by
      rcases Nat.lt_or_ge i l.length with c | c
      · rw [List.drop_eq_getElem_cons c] at hd; cases hd
      · exact c
    refine ⟨1, ?_⟩
    rw [shackleref18_Layout.l0, if_neg (by omega)]
    rfl
  | x :: r, i, o, n, m, hd, ho, h0, h1 => by
    obtain ⟨hlt, hx, hd2⟩ := at_drop hd
    have hfx : fair x := hf x (by have := List.drop_subset i l; exact this (by rw [hd]; exact List.mem_cons_self ..))
    have hj : ∀ k, shackleref18_Layout.l0 (k + 1) l o n m (i : Int) = shackleref18_Layout.j1 k l o n m (i : Int) (al x) := by
      intro k
      rw [shackleref18_Layout.l0, if_pos (by omega), if_pos (by omega), hx]
      unfold al
      split <;> rfl
    have h1l : ∀ k, shackleref18_Layout.j1 (k + 15) l o n m (i : Int) (al x) = shackleref18_Layout.j3 k l o n m (i : Int) (al x) (decide (¬ okm x)) := by
      intro k
      rw [shackleref18_Layout.j1, show k + 14 = (k + 1) + 13 from rfl, l1_all, shackleref18_Layout.l1, if_neg (by decide)]
      obtain ⟨g1, g2, g3, g4, g5⟩ := hfx
      by_cases c1 : al x ∈ pw
      · rw [if_pos (by simpa using c1), if_pos (by omega), if_pos (by omega), hx, wu (by omega) (by omega)]
        by_cases c2 : (x.f0.length : Int) ≤ x.f1
        · rw [if_neg (by omega)]
          congr 1
          unfold okm
          simp [c1, c2]
        · rw [if_pos (by omega)]
          congr 1
          unfold okm
          simp [c2]
      · rw [if_neg (by simpa using c1)]
        congr 1
        unfold okm
        simp [c1]
    by_cases c : okm x
    · have c' := c
      obtain ⟨c1, c2, c3⟩ := c'
      obtain ⟨a1, a2⟩ := pw_le c1
      have hs1 := hfx.1
      obtain ⟨u1, u2, u3⟩ := upTo_le (n := n + x.f1) a1
      have h3 : ∀ k, shackleref18_Layout.j3 (k + (upTo (n + x.f1) (al x) - (n + x.f1)).toNat + 1) l o n m (i : Int) (al x) (decide (¬ okm x)) = shackleref18_Layout.l2 k l o (upTo (n + x.f1) (al x)) m (i : Int) (al x) := by
        intro k
        rw [shackleref18_Layout.j3, if_neg (by simpa using c), if_pos (by omega), if_pos (by omega), hx, wu (by omega) (by omega)]
        exact l2_run l o m i (al x) a1 (n + x.f1) _ k (n + x.f1) (Int.le_refl _) (by omega) (by omega) (by omega)
      by_cases g : upTo (n + x.f1) (al x) ≤ 1048576
      · obtain ⟨k, hk⟩ := lay_R l hl hf r (i + 1) (o ++ [upTo (n + x.f1) (al x)]) (upTo (n + x.f1) (al x)) (mx m (al x)) hd2 (by simp [ho]) (by omega) g
        refine ⟨((k + 1) + (upTo (n + x.f1) (al x) - (n + x.f1)).toNat + 1) + 15 + 1, ?_⟩
        rw [hj, h1l, h3, shackleref18_Layout.l2, if_neg (by omega), if_pos (by rw [Int.tmod_eq_emod_of_nonneg (by omega)]; exact u3), if_neg (by omega)]
        rw [run, if_pos c, if_pos g, ← hk, w64 (by omega) (by omega)]
        unfold mx
        by_cases c5 : al x > m
        · rw [if_pos c5, if_pos (by omega), if_pos (by omega)]; norm_cast
        · rw [if_neg c5, if_pos (by omega), if_neg (by omega)]; norm_cast
      · refine ⟨(1 + (upTo (n + x.f1) (al x) - (n + x.f1)).toNat + 1) + 15 + 1, ?_⟩
        rw [hj, h1l, h3, shackleref18_Layout.l2, if_neg (by omega), if_pos (by rw [Int.tmod_eq_emod_of_nonneg (by omega)]; exact u3), if_pos (by omega)]
        rw [run, if_pos c, if_neg g]
        rfl
    · refine ⟨1 + 15 + 1, ?_⟩
      rw [hj, h1l, shackleref18_Layout.j3, if_pos (by simpa using c)]
      rw [run, if_neg c]
      rfl
theorem same_self (o : List Int) (ho : o.length < 9223372036854775807) : ∃ k, shackleref18_Same.f k o o = some true := by
  have H : ∀ (d i : Nat), i + d = o.length → ∃ k, shackleref18_Same.l0 k o o (i : Int) = some true := by
    intro d
    induction d with
    | zero => intro i hi; exact ⟨1, by rw [shackleref18_Same.l0, if_neg (by omega)]⟩
    | succ d ih =>
      intro i hi
      obtain ⟨k, hk⟩ := ih (i + 1) (by omega)
      refine ⟨k + 1, ?_⟩
      rw [shackleref18_Same.l0, if_pos (by omega), if_pos (by omega), if_pos (by omega), if_pos rfl, w64 (by omega) (by omega), ← hk]
      norm_cast
  obtain ⟨k, hk⟩ := H o.length 0 (by omega)
  exact ⟨k, by unfold shackleref18_Same.f; rw [if_pos rfl]; exact hk⟩
theorem run_len : ∀ (r : List S37) (o : List Int) (n m : Int) (o' : List Int) (n' m' : Int), run r o n m = some (o', n', m') → o'.length = o.length + r.length
  | [], o, n, m, o', n', m', h => by
    rw [run] at h
    injection h with h; injection h with h1 h2
    subst h1; simp
  | x :: r, o, n, m, o', n', m', h => by
    rw [run] at h
    split at h
    · split at h
      · have := run_len r _ _ _ _ _ _ h
        simp at this ⊢
        omega
      · cases h
    · cases h
theorem TlsLays : shacklelaw18_TlsLays.Pure := by
  intro l hg hz
  have hlen : l.length < 4398046511104 := by have := hz.1; omega
  have hfair : ∀ x ∈ l, fair x := by
    intro x hx
    obtain ⟨g1, g2, g3⟩ := hg.2 x hx
    have z1 := (hz.2 x hx).1.1
    have b1 : 0 ≤ x.f1 ∧ x.f1 < 18446744073709551616 := by
      have := wfu g2
      omega
    have b2 : 0 ≤ x.f2 ∧ x.f2 < 18446744073709551616 := by
      have := wfu g3
      omega
    exact ⟨b1.1, b1.2, b2.1, b2.2, by omega⟩
  obtain ⟨k1, h1⟩ := lay_P l hlen hfair l 0 [] 0 1 rfl rfl (by decide) (by decide)
  obtain ⟨k2, h2⟩ := lay_R l hlen hfair l 0 [] 0 1 rfl rfl (by decide) (by decide)
  have e1 : tls_Layout.f k1 l = some (tellP (run l [] 0 1)) := h1
  have e2 : shackleref18_Layout.f k2 l = some (tellR (run l [] 0 1)) := h2
  have key : ∃ o : List Int, (tellP (run l [] 0 1)).1 = o ∧ (tellR (run l [] 0 1)).1 = o ∧ o.length < 9223372036854775807 := by
    cases hr : run l [] 0 1 with
    | none => exact ⟨[], rfl, rfl, by decide⟩
    | some p =>
      obtain ⟨o, n, m⟩ := p
      have := run_len l _ _ _ _ _ _ hr
      exact ⟨o, rfl, rfl, by simp at this; omega⟩
  obtain ⟨o, o1, o2, o3⟩ := key
  obtain ⟨k3, h3⟩ := same_self o o3
  refine ⟨k1 + k2 + k3, ?_⟩
  have m1 := at_rounds (g := fun k => tls_Layout.f k l) (fun k => tls_Layout.mono l k) (show k1 ≤ k1 + k2 + k3 by omega) e1
  have m2 := at_rounds (g := fun k => shackleref18_Layout.f k l) (fun k => shackleref18_Layout.mono l k) (show k2 ≤ k1 + k2 + k3 by omega) e2
  have m3 := at_rounds (g := fun k => shackleref18_Same.f k o o) (fun k => shackleref18_Same.mono o o k) (show k3 ≤ k1 + k2 + k3 by omega) h3
  unfold shacklelaw18_TlsLays.f
  rw [show shacklelaw18_up.f = some true from rfl, Option.bind_some, m1, Option.bind_some, m2, Option.bind_some, o1, o2, m3, Option.bind_some, if_pos rfl, if_pos rfl]
  cases hr : run l [] 0 1 with
  | none => rfl
  | some p =>
    obtain ⟨a, b, c⟩ := p
    show (if b = b then _ else _) = _
    rw [if_pos rfl]
    show (if c = c then _ else _) = _
    rw [if_pos rfl]
    rfl
end Go.Proofs.Ytpjilbhhhpikaaa.Pure
