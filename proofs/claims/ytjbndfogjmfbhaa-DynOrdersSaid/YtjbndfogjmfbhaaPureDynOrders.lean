import Derived.Test.YtjbndfogjmfbhaaPDynOrdersx7
namespace Go.Proofs.Ytjbndfogjmfbhaa.Pure
open Go.RowKit Go.Proofs.Ytjbndfogjmfbhaa.PDynOrders Go.Proofs.YtjbndfogjmfbhaaW.PrintWords Go.Proofs.YtjbndfogjmfbhaaW.PrintLast Go.Proofs.YtjbndfogjmfbhaaX
theorem up : shacklelaw05_up.f 64 = some true := by decide +kernel
/-- From some rounds on. -/
def Ev {α : Type} (F : Nat → Option α) (r : α) : Prop := ∃ k0, ∀ k, k0 ≤ k → F k = some r
theorem Ev.step {α : Type} {F G : Nat → Option α} {r : α} (h : Ev G r) (e : ∀ k, F (k + 1) = G k) : Ev F r := by
  obtain ⟨k0, h⟩ := h
  refine ⟨k0 + 1, fun k hk => ?_⟩
  obtain ⟨k, rfl⟩ : ∃ q, k = q + 1 := ⟨k - 1, by omega⟩
  rw [e]
  exact h k (by omega)
theorem Ev.same {α : Type} {F G : Nat → Option α} {r : α} (h : Ev G r) (e : ∀ k, F k = G k) : Ev F r := by
  obtain ⟨k0, h⟩ := h
  exact ⟨k0, fun k hk => (e k).trans (h k hk)⟩
theorem Ev.bind {α β : Type} {F : Nat → Option α} {G : Nat → α → Option β} {a : α} {b : β} (h1 : Ev F a) (h2 : Ev (fun k => G k a) b) : Ev (fun k => (F k).bind (G k)) b := by
  obtain ⟨k1, h1⟩ := h1
  obtain ⟨k2, h2⟩ := h2
  refine ⟨k1 + k2, fun k hk => ?_⟩
  show (F k).bind (G k) = some b
  rw [h1 k (by omega), Option.bind_some]
  exact h2 k (by omega)
theorem Ev.pure {α : Type} (r : α) : Ev (fun _ => some r) r := ⟨0, fun _ _ => rfl⟩
theorem Ev.now {α : Type} {F : Nat → Option α} {r : α} (e : ∀ k, F (k + 1) = some r) : Ev F r := Ev.step (Ev.pure r) e
theorem Ev.one {α : Type} {F : Nat → Option α} {r : α} (m : ∀ k, LeO (F k) (F (k + 1))) (k0 : Nat) (e : F k0 = some r) : Ev F r := by
  refine ⟨k0, fun k hk => ?_⟩
  obtain ⟨d, rfl⟩ : ∃ d, k = k0 + d := ⟨k - k0, by omega⟩
  clear hk
  induction d with
  | zero => exact e
  | succ d ih => exact m (k0 + d) r ih
theorem uwrap (n : Int) : IntKind.u64.wrap n = n % 18446744073709551616 := by simp [IntKind.wrap, IntKind.bits, IntKind.signed]
theorem uwrap_id {n : Int} (h0 : 0 ≤ n) (h1 : n < 18446744073709551616) : IntKind.u64.wrap n = n := by rw [uwrap]; omega
theorem w64_id {n : Int} (h0 : -9223372036854775808 ≤ n) (h1 : n < 9223372036854775808) : wrap64 n = n := by unfold wrap64; omega
theorem rd_nat (l : List Int) (i : Nat) : rd l (i : Int) = l.getD i 0 := by unfold rd; simp
theorem rd_at (l : List Int) (i : Nat) (h : i < l.length) : rd l (i : Int) = l[i] := by rw [rd_nat, List.getD_eq_getElem?_getD, List.getElem?_eq_getElem h]; rfl
theorem rd_mem (l : List Int) (i : Nat) (h : i < l.length) : rd l (i : Int) ∈ l := by rw [rd_at l i h]; exact List.getElem_mem h
theorem drop_at (l : List Int) (i : Nat) (h : i < l.length) : l.drop i = rd l (i : Int) :: l.drop (i + 1) := by rw [rd_at l i h]; exact List.drop_eq_getElem_cons h
/-! ### bytes of a number, and back -/
def bytesLE : Nat → Int → List Int
  | 0, _ => []
  | n + 1, v => v % 256 :: bytesLE n (v / 256)
theorem bytesLE_length (n : Nat) : ∀ v, (bytesLE n v).length = n := by
  induction n with
  | zero => intro v; rfl
  | succ n ih => intro v; simp [bytesLE, ih]
theorem bytesLE_byte (n : Nat) : ∀ v, ∀ x ∈ bytesLE n v, 0 ≤ x ∧ x < 256 := by
  induction n with
  | zero => intro v x hx; cases hx
  | succ n ih =>
    intro v x hx
    rcases List.mem_cons.1 hx with rfl | hx
    · omega
    · exact ih _ x hx
def decode : List Int → Nat
  | [] => 0
  | x :: l => x.toNat + 256 * decode l
theorem decode_bytes (n : Nat) : ∀ (v : Nat), decode (bytesLE n (v : Int)) = v % 256 ^ n := by
  induction n with
  | zero => intro v; simp [bytesLE, decode, Nat.mod_one]
  | succ n ih =>
    intro v
    have hc : (v : Int) / 256 = ((v / 256 : Nat) : Int) := by omega
    rw [bytesLE, hc, decode, ih, Nat.pow_succ, Nat.mul_comm (256 ^ n), Nat.mod_mul]
    have : ((v : Int) % 256).toNat = v % 256 := by omega
    rw [this]
theorem or_high (a y s : Nat) (ha : a < 2 ^ s) (hs : a < 18446744073709551616) (hy : y * 2 ^ s < 18446744073709551616) : Go.bits .or .u64 (a : Int) ((y * 2 ^ s : Nat) : Int) = ((a + y * 2 ^ s : Nat) : Int) := by
  have h1 : a ||| (y * 2 ^ s) = a + y * 2 ^ s := by
    rw [Nat.or_comm, Nat.mul_comm y, ← Nat.two_pow_add_eq_or_of_lt ha, Nat.add_comm]
  have e1 : (BitVec.ofInt 64 ((a : Nat) : Int)).toNat = a := by
    rw [BitVec.ofInt_natCast, BitVec.toNat_ofNat]
    exact Nat.mod_eq_of_lt (by omega)
  have e2 : (BitVec.ofInt 64 ((y * 2 ^ s : Nat) : Int)).toNat = y * 2 ^ s := by
    rw [BitVec.ofInt_natCast, BitVec.toNat_ofNat]
    exact Nat.mod_eq_of_lt (by omega)
  have hlt : a ||| (y * 2 ^ s) < 2 ^ 64 := Nat.or_lt_two_pow (by omega) (by omega)
  show IntKind.u64.wrap (((BitVec.ofInt 64 ((a : Nat) : Int)) ||| (BitVec.ofInt 64 ((y * 2 ^ s : Nat) : Int))).toNat : Int) = _
  rw [BitVec.toNat_or, e1, e2, ← h1]
  exact uwrap_id (Int.natCast_nonneg _) (by omega)
theorem word_loop (bs rest : List Int) (h8 : bs.length = 8) (hb : ∀ x ∈ bs, 0 ≤ x ∧ x < 256) (d : Nat) : ∀ (k i a : Nat), i + d = 8 → a < 2 ^ (8 * i) →
    dyn_word.l0 (k + d + 1) (bs ++ rest) (a : Int) (i : Int) = some ((a + 2 ^ (8 * i) * decode (bs.drop i) : Nat) : Int) := by
  induction d with
  | zero =>
    intro k i a hi ha
    rw [dyn_word.l0, if_neg (by omega), List.drop_of_length_le (by omega), decode, Nat.mul_zero, Nat.add_zero]
  | succ d ih =>
    intro k i a hi ha
    have hil : i < bs.length := by omega
    have hx := hb _ (rd_mem bs i hil)
    have hrd : rd (bs ++ rest) (i : Int) = rd bs (i : Int) := by
      rw [rd_at _ i (by rw [List.length_append]; omega), rd_at _ i hil]
      exact List.getElem_append_left hil
    obtain ⟨y, hy⟩ := Int.eq_ofNat_of_zero_le hx.1
    have hy2 : y < 256 := by omega
    have hw1 : wrap64 (8 * (i : Int)) = ((8 * i : Nat) : Int) := by rw [w64_id (by omega) (by omega)]; omega
    have hwi : wrap64 ((i : Int) + 1) = ((i + 1 : Nat) : Int) := by rw [w64_id (by omega) (by omega)]; omega
    have hwy : IntKind.u64.wrap (y : Int) = (y : Int) := uwrap_id (by omega) (by omega)
    have hi8 : 8 * i ≤ 56 := by omega
    have hp : 2 ^ (8 * i) ≤ 2 ^ 56 := Nat.pow_le_pow_right (by decide) hi8
    have hp56 : (2 : Nat) ^ 56 = 72057594037927936 := by decide
    have hyp : y * 2 ^ (8 * i) < 18446744073709551616 := by
      have : y * 2 ^ (8 * i) ≤ 255 * 2 ^ 56 := Nat.mul_le_mul (by omega) hp
      omega
    have hshl : shl .u64 (y : Int) ((8 * i : Nat) : Int) = ((y * 2 ^ (8 * i) : Nat) : Int) := by
      unfold shl
      have h1 : min (((8 * i : Nat) : Int).toNat) IntKind.u64.bits = 8 * i := by
        have h2 : IntKind.u64.bits = 64 := rfl
        rw [h2, Int.toNat_natCast]
        omega
      have h2 : (2 : Int) ^ (8 * i) = ((2 ^ (8 * i) : Nat) : Int) := by simp
      rw [h1, h2]
      have h3 : (y : Int) * ((2 ^ (8 * i) : Nat) : Int) = ((y * 2 ^ (8 * i) : Nat) : Int) := by simp
      rw [h3]
      exact uwrap_id (Int.natCast_nonneg _) (Int.ofNat_lt.2 hyp)
    have hnext : a + y * 2 ^ (8 * i) < 2 ^ (8 * (i + 1)) := by
      have e : 2 ^ (8 * (i + 1)) = 2 ^ (8 * i) * 256 := by rw [Nat.mul_add, Nat.pow_add]
      rw [e]
      have : (y + 1) * 2 ^ (8 * i) ≤ 256 * 2 ^ (8 * i) := Nat.mul_le_mul_right _ (by omega)
      rw [Nat.add_mul, Nat.one_mul] at this
      generalize 2 ^ (8 * i) = P at *
      generalize y * P = Q at *
      omega
    rw [show k + (d + 1) + 1 = (k + d + 1) + 1 by omega, dyn_word.l0, if_pos (by omega), if_pos (Int.natCast_nonneg _), if_pos (by rw [List.length_append]; omega), hw1, if_pos (Int.natCast_nonneg _), hrd, hy, hwy, hshl, or_high a y _ ha (by omega) hyp, hwi,
      ih k (i + 1) _ (by omega) hnext, drop_at bs i hil, decode, hy]
    have e : 2 ^ (8 * (i + 1)) = 2 ^ (8 * i) * 256 := by rw [Nat.mul_add, Nat.pow_add]
    rw [e, Int.toNat_natCast]
    congr 2
    rw [Nat.mul_add, Nat.mul_assoc, Nat.mul_comm y]
    omega
theorem word_is (v : Int) (h0 : 0 ≤ v) (h1 : v < 18446744073709551616) (rest : List Int) (k : Nat) (hk : 9 ≤ k) : dyn_word.f k (bytesLE 8 v ++ rest) = some v := by
  obtain ⟨n, rfl⟩ := Int.eq_ofNat_of_zero_le h0
  obtain ⟨k, rfl⟩ : ∃ q, k = q + 8 + 1 := ⟨k - 9, by omega⟩
  have := word_loop (bytesLE 8 (n : Int)) rest (bytesLE_length 8 _) (bytesLE_byte 8 _) 8 k 0 0 (by omega) (by simp)
  unfold dyn_word.f
  have e : decode (bytesLE 8 (n : Int)) = n := by rw [decode_bytes]; exact Nat.mod_eq_of_lt (by omega)
  rw [List.drop_zero, e] at this
  simpa using this
def U (x : Int) : Prop := 0 ≤ x ∧ x < 18446744073709551616
theorem wf_of {x : Int} (h : U x) : (Lit.int .u64 x).wf = true := by
  unfold U at h
  simp [Lit.wf, IntKind.min, IntKind.max, IntKind.signed, IntKind.bits]
  omega
theorem of_wf {x : Int} (h : (Lit.int .u64 x).wf = true) : U x := by
  unfold U
  simp [Lit.wf, IntKind.min, IntKind.max, IntKind.signed, IntKind.bits] at h
  omega
theorem sec_l1 (es : List S38) (i b : Int) (r : List Int) : ∀ (m j : Nat) (a : Int) (out : List Int), j + m = 8 → U a → out.length + m < 140737488355328 → (∀ a', Ev (fun k => shacklelaw05_section.l2 k es (out ++ bytesLE m a) i 0 a' b) r) → Ev (fun k => shacklelaw05_section.l1 k es out i j a b) r
  | 0, j, a, out, h, ha, hl, H => by
    refine Ev.step (H a) fun k => ?_
    rw [shacklelaw05_section.l1, if_neg (by omega), bytesLE, List.append_nil]
  | m + 1, j, a, out, h, ha, hl, H => by
    unfold U at ha
    have e : IntKind.u64.wrap (Int.tdiv a 256) = a / 256 := by rw [Int.tdiv_eq_ediv_of_nonneg ha.1]; exact uwrap_id (by omega) (by omega)
    refine Ev.step (sec_l1 es i b r m (j + 1) (a / 256) (out ++ [a % 256]) (by omega) ⟨by omega, by omega⟩ (by rw [List.length_append]; simp only [List.length_cons, List.length_nil]; omega) (fun a' => (H a').same fun k => by rw [bytesLE, List.append_assoc]; rfl)) fun k => ?_
    rw [shacklelaw05_section.l1, if_pos (by omega), if_pos (by omega), e, w64_id (by omega) (by omega)]
    rfl
theorem sec_l2 (es : List S38) (i a : Int) (r : List Int) : ∀ (m j : Nat) (b : Int) (out : List Int), j + m = 8 → U b → out.length + m < 140737488355328 → Ev (fun k => shacklelaw05_section.l0 k es (out ++ bytesLE m b) (wrap64 (i + 1))) r → Ev (fun k => shacklelaw05_section.l2 k es out i j a b) r
  | 0, j, b, out, h, hb, hl, H => by
    refine Ev.step H fun k => ?_
    rw [shacklelaw05_section.l2, if_neg (by omega), bytesLE, List.append_nil]
  | m + 1, j, b, out, h, hb, hl, H => by
    unfold U at hb
    have e : IntKind.u64.wrap (Int.tdiv b 256) = b / 256 := by rw [Int.tdiv_eq_ediv_of_nonneg hb.1]; exact uwrap_id (by omega) (by omega)
    refine Ev.step (sec_l2 es i a r m (j + 1) (b / 256) (out ++ [b % 256]) (by omega) ⟨by omega, by omega⟩ (by rw [List.length_append]; simp only [List.length_cons, List.length_nil]; omega) (H.same fun k => by rw [bytesLE, List.append_assoc]; rfl)) fun k => ?_
    rw [shacklelaw05_section.l2, if_pos (by omega), if_pos (by omega), e, w64_id (by omega) (by omega)]
    rfl
theorem sec_one (es : List S38) (i a b : Int) (r out : List Int) (ha : U a) (hb : U b) (hl : out.length + 16 < 140737488355328) (H : Ev (fun k => shacklelaw05_section.l0 k es (out ++ (bytesLE 8 a ++ bytesLE 8 b)) (wrap64 (i + 1))) r) : Ev (fun k => shacklelaw05_section.j1 k es out i a b) r := by
  have h1 := bytesLE_length 8 a
  refine Ev.step (sec_l1 es i b r 8 0 a out (by omega) ha (by omega) (fun a' => sec_l2 es i a' r 8 0 b _ (by omega) hb (by rw [List.length_append]; omega) (H.same fun k => by rw [List.append_assoc]))) fun k => ?_
  rw [shacklelaw05_section.j1]
  rfl
def entB (x : S38) : List Int := bytesLE 8 x.f0 ++ bytesLE 8 x.f1
def secT : List S38 → List Int
  | [] => bytesLE 8 0 ++ bytesLE 8 0
  | x :: r => entB x ++ secT r
theorem secT_length : ∀ l : List S38, (secT l).length = 16 * (l.length + 1)
  | [] => rfl
  | x :: r => by
    have h1 := bytesLE_length 8 x.f0
    have h2 := bytesLE_length 8 x.f1
    rw [secT, entB, List.length_append, List.length_append, secT_length r, List.length_cons]
    omega
def Ok (x : S38) : Prop := U x.f0 ∧ U x.f1
theorem rd38 (l : List S38) (i : Nat) (h : i < l.length) : rd_T38 l (i : Int) = l[i] := by
  unfold rd_T38
  rw [Int.toNat_natCast, List.getD_eq_getElem?_getD, List.getElem?_eq_getElem h]
  rfl
theorem sec_is (es : List S38) (hes : ∀ x ∈ es, Ok x) (h2 : es.length ≤ 200) : ∀ (m i : Nat) (out : List Int), i + m = es.length → out.length + 16 * (m + 1) < 140737488355328 → Ev (fun k => shacklelaw05_section.l0 k es out i) (out ++ secT (es.drop i))
  | 0, i, out, h, hl => by
    have hf : Ev (fun k => shacklelaw05_section.l0 k es (out ++ (bytesLE 8 0 ++ bytesLE 8 0)) (wrap64 ((i : Int) + 1))) (out ++ secT (es.drop i)) := by
      rw [List.drop_of_length_le (by omega), secT]
      exact Ev.now fun k => by rw [w64_id (by omega) (by omega), shacklelaw05_section.l0, if_neg (by omega)]
    refine Ev.step (sec_one es i 0 0 _ out ⟨by omega, by omega⟩ ⟨by omega, by omega⟩ (by omega) hf) fun k => ?_
    rw [shacklelaw05_section.l0, if_pos (by omega), if_neg (by omega)]
  | m + 1, i, out, h, hl => by
    have hi : i < es.length := by omega
    obtain ⟨h0, h1⟩ := hes _ (List.getElem_mem hi)
    have l1 := bytesLE_length 8 es[i].f0
    have l2' := bytesLE_length 8 es[i].f1
    have ih := sec_is es hes h2 m (i + 1) (out ++ entB es[i]) (by omega) (by rw [List.length_append, entB, List.length_append]; omega)
    rw [List.drop_eq_getElem_cons hi, secT, ← List.append_assoc]
    refine Ev.step (sec_one es i es[i].f0 es[i].f1 _ out h0 h1 (by omega) (ih.same fun k => by rw [w64_id (by omega) (by omega)]; rfl)) fun k => ?_
    rw [shacklelaw05_section.l0, if_pos (by omega), if_pos (by omega), if_pos (by omega), rd38 es i hi]
theorem section_is (es : List S38) (hes : ∀ x ∈ es, Ok x) (hl : es.length ≤ 200) : Ev (fun k => shacklelaw05_section.f k es) (secT es) := by
  have := sec_is es hes hl es.length 0 [] (by omega) (by rw [List.length_nil]; omega)
  rw [List.drop_zero, List.nil_append] at this
  exact this
/-! ### what a section tells -/
def ent : List S38 → List Int → (Int → Option Int) → dyn_read.Res
  | [], ne, f => if dyn_sound.b f (dyn_read.gs f) = true then dyn_read.out ne (dyn_read.gs f) (dyn_read.qs f) none else dyn_read.bad 3
  | x :: r, ne, f => if x.f0 = 1 then ent r (ne ++ [x.f1]) f else (if dyn_known.b x.f0 = true then (if (f x.f0).isSome = true then dyn_read.bad 5 else ent r ne (updN f x.f0 x.f1)) else ent r ne f)
theorem drop8 (a b : List Int) (h : a.length = 8) : (a ++ b).drop 8 = b := by
  rw [← h]
  exact List.drop_left
theorem drop16 (a b c : List Int) (h : a.length = 8) (h2 : b.length = 8) : ((a ++ b) ++ c).drop 16 = c := by
  rw [show 16 = (a ++ b).length by rw [List.length_append]; omega]
  exact List.drop_left
theorem read_is : ∀ (es : List S38) (_ : ∀ x ∈ es, Ok x ∧ x.f0 ≠ 0) (ne : List Int) (f : Int → Option Int) (n : Nat) (tail : List Int), n + es.length ≤ 200 → ne.length + es.length ≤ 1000 → Ev (fun k => dyn_read.l0 k (secT es ++ tail) ne f n) (ent es ne f)
  | [], hes, ne, f, n, tail, hn, hl => by
    have w0 : ∀ k, 9 ≤ k → dyn_word.f k (secT [] ++ tail) = some 0 := fun k hk => by
      show dyn_word.f k ((bytesLE 8 0 ++ bytesLE 8 0) ++ tail) = _
      rw [List.append_assoc]
      exact word_is 0 (by omega) (by omega) _ k hk
    have w1 : ∀ k, 9 ≤ k → dyn_word.f k ((secT [] ++ tail).drop 8) = some 0 := fun k hk => by
      show dyn_word.f k (((bytesLE 8 0 ++ bytesLE 8 0) ++ tail).drop 8) = _
      rw [List.append_assoc, drop8 _ _ (bytesLE_length 8 0)]
      exact word_is 0 (by omega) (by omega) _ k hk
    have hlen := secT_length []
    rw [List.length_nil] at hlen
    refine ⟨10, fun k hk => ?_⟩
    obtain ⟨k, rfl⟩ : ∃ q, k = q + 1 := ⟨k - 1, by omega⟩
    show dyn_read.l0 (k + 1) _ _ _ _ = _
    rw [dyn_read.l0, if_pos (by rw [List.length_append]; omega), w0 k (by omega), Option.bind_some, w1 k (by omega), Option.bind_some, if_pos rfl]
    unfold ent
    split <;> rfl
  | x :: r, hes, ne, f, n, tail, hn, hl => by
    obtain ⟨⟨u0, u1⟩, hx0⟩ := hes x (by simp)
    have hr : ∀ y ∈ r, Ok y ∧ y.f0 ≠ 0 := fun y hy => hes y (by simp [hy])
    have l0 := bytesLE_length 8 x.f0
    have l1 := bytesLE_length 8 x.f1
    rw [List.length_cons] at hn hl
    have es : secT (x :: r) ++ tail = bytesLE 8 x.f0 ++ (bytesLE 8 x.f1 ++ (secT r ++ tail)) := by
      rw [secT, entB, List.append_assoc, List.append_assoc]
    have w0 : ∀ k, 9 ≤ k → dyn_word.f k (secT (x :: r) ++ tail) = some x.f0 := fun k hk => by
      rw [es]
      exact word_is _ u0.1 u0.2 _ k hk
    have w1 : ∀ k, 9 ≤ k → dyn_word.f k ((secT (x :: r) ++ tail).drop 8) = some x.f1 := fun k hk => by
      rw [es, drop8 _ _ l0]
      exact word_is _ u1.1 u1.2 _ k hk
    have d16 : (secT (x :: r) ++ tail).drop 16 = secT r ++ tail := by
      rw [es, ← List.append_assoc]
      exact drop16 _ _ _ l0 l1
    have hlen := secT_length (x :: r)
    rw [List.length_cons] at hlen
    have hw : wrap64 ((n : Int) + 1) = ((n + 1 : Nat) : Int) := by rw [w64_id (by omega) (by omega)]; omega
    have key : ∀ (ne' : List Int) (f' : Int → Option Int), ne'.length ≤ ne.length + 1 → ∃ k1, ∀ k, k1 ≤ k → dyn_read.l0 k ((secT (x :: r) ++ tail).drop 16) ne' f' (wrap64 ((n : Int) + 1)) = some (ent r ne' f') := fun ne' f' hl' => by
      rw [d16, hw]
      exact read_is r hr ne' f' (n + 1) tail (by omega) (by omega)
    have go : ∀ k, 9 ≤ k → dyn_read.l0 (k + 1) (secT (x :: r) ++ tail) ne f (n : Int) = (if x.f0 = 1 then dyn_read.l0 k ((secT (x :: r) ++ tail).drop 16) (ne ++ [x.f1]) f (wrap64 ((n : Int) + 1)) else (if dyn_known.b x.f0 = true then (if (f x.f0).isSome = true then some (dyn_read.bad 5) else dyn_read.l0 k ((secT (x :: r) ++ tail).drop 16) ne (updN f x.f0 x.f1) (wrap64 ((n : Int) + 1))) else dyn_read.l0 k ((secT (x :: r) ++ tail).drop 16) ne f (wrap64 ((n : Int) + 1)))) := fun k hk => by
      rw [dyn_read.l0, if_pos (by rw [List.length_append]; omega), w0 k hk, Option.bind_some, w1 k hk, Option.bind_some, if_neg hx0, if_neg (by omega), if_pos (show ne.length < 17592186044416 by omega), if_pos (wf_of u0), if_pos (wf_of u1)]
    rw [ent]
    by_cases c1 : x.f0 = 1
    · obtain ⟨k1, h1⟩ := key (ne ++ [x.f1]) f (by rw [List.length_append]; simp)
      refine ⟨k1 + 10, fun k hk => ?_⟩
      obtain ⟨k, rfl⟩ : ∃ q, k = q + 1 := ⟨k - 1, by omega⟩
      show dyn_read.l0 (k + 1) _ _ _ _ = _
      rw [go k (by omega), if_pos c1, if_pos c1]
      exact h1 k (by omega)
    · rw [if_neg c1]
      by_cases c2 : dyn_known.b x.f0 = true
      · rw [if_pos c2]
        by_cases c3 : (f x.f0).isSome = true
        · refine ⟨10, fun k hk => ?_⟩
          obtain ⟨k, rfl⟩ : ∃ q, k = q + 1 := ⟨k - 1, by omega⟩
          show dyn_read.l0 (k + 1) _ _ _ _ = _
          rw [go k (by omega), if_neg c1, if_pos c2, if_pos c3, if_pos c3]
        · obtain ⟨k1, h1⟩ := key ne (updN f x.f0 x.f1) (by omega)
          refine ⟨k1 + 10, fun k hk => ?_⟩
          obtain ⟨k, rfl⟩ : ∃ q, k = q + 1 := ⟨k - 1, by omega⟩
          show dyn_read.l0 (k + 1) _ _ _ _ = _
          rw [go k (by omega), if_neg c1, if_pos c2, if_neg c3, if_neg c3]
          exact h1 k (by omega)
      · obtain ⟨k1, h1⟩ := key ne f (by omega)
        refine ⟨k1 + 10, fun k hk => ?_⟩
        obtain ⟨k, rfl⟩ : ∃ q, k = q + 1 := ⟨k - 1, by omega⟩
        show dyn_read.l0 (k + 1) _ _ _ _ = _
        rw [go k (by omega), if_neg c1, if_neg c2, if_neg c2]
        exact h1 k (by omega)
/-- The same, but for what stands in Needed. -/
def Sim (r1 r2 : dyn_read.Res) : Prop := r1.1.length = r2.1.length ∧ r1.2 = r2.2
theorem Sim.rfl' (r : dyn_read.Res) : Sim r r := ⟨rfl, rfl⟩
theorem Sim.trans {a b c : dyn_read.Res} (h1 : Sim a b) (h2 : Sim b c) : Sim a c := ⟨h1.1.trans h2.1, h1.2.trans h2.2⟩
theorem ent_ne : ∀ (l : List S38) (ne ne' : List Int) (f : Int → Option Int), ne.length = ne'.length → Sim (ent l ne f) (ent l ne' f)
  | [], ne, ne', f, h => by
    unfold ent
    split
    · exact ⟨h, rfl⟩
    · exact Sim.rfl' _
  | x :: r, ne, ne', f, h => by
    unfold ent
    split
    · exact ent_ne r _ _ f (by rw [List.length_append, List.length_append, h])
    · split
      · split
        · exact Sim.rfl' _
        · exact ent_ne r _ _ _ h
      · exact ent_ne r _ _ _ h
theorem upd_comm (f : Int → Option Int) (a b u v : Int) (h : a ≠ b) : updN (updN f a u) b v = updN (updN f b v) a u := by
  funext z
  unfold updN
  by_cases h1 : z = b
  · by_cases h2 : z = a
    · exact absurd (h2.symm.trans h1) h
    · rw [if_pos h1, if_neg h2, if_pos h1]
  · by_cases h2 : z = a
    · rw [if_neg h1, if_pos h2, if_pos h2]
    · rw [if_neg h1, if_neg h2, if_neg h2, if_neg h1]
theorem upd_same (f : Int → Option Int) (a u : Int) : (updN f a u a).isSome = true := by
  unfold updN
  rw [if_pos rfl]
  rfl
theorem upd_other (f : Int → Option Int) (a b u : Int) (h : b ≠ a) : (updN f a u b) = f b := by
  unfold updN
  rw [if_neg h]
theorem ent_swap (x y : S38) (l : List S38) (ne : List Int) (f : Int → Option Int) : Sim (ent (x :: y :: l) ne f) (ent (y :: x :: l) ne f) := by
  by_cases x1 : x.f0 = 1
  · by_cases y1 : y.f0 = 1
    · simp only [ent, if_pos x1, if_pos y1]
      exact ent_ne l _ _ f (by simp)
    · by_cases yk : dyn_known.b y.f0 = true
      · by_cases ys : (f y.f0).isSome = true
        · simp only [ent, if_pos x1, if_neg y1, if_pos yk, if_pos ys]
          exact Sim.rfl' _
        · simp only [ent, if_pos x1, if_neg y1, if_pos yk, if_neg ys]
          exact Sim.rfl' _
      · simp only [ent, if_pos x1, if_neg y1, if_neg yk]
        exact Sim.rfl' _
  · by_cases xk : dyn_known.b x.f0 = true
    · by_cases y1 : y.f0 = 1
      · by_cases xs : (f x.f0).isSome = true
        · simp only [ent, if_neg x1, if_pos y1, if_pos xk, if_pos xs]
          exact Sim.rfl' _
        · simp only [ent, if_neg x1, if_pos y1, if_pos xk, if_neg xs]
          exact Sim.rfl' _
      · by_cases yk : dyn_known.b y.f0 = true
        · by_cases e : y.f0 = x.f0
          · have h1 : ∀ u, ((updN f x.f0 u) y.f0).isSome = true := fun u => by rw [e]; exact upd_same _ _ _
            have h2 : ∀ u, ((updN f y.f0 u) x.f0).isSome = true := fun u => by rw [e]; exact upd_same _ _ _
            by_cases xs : (f x.f0).isSome = true
            · have ys : (f y.f0).isSome = true := by rw [e]; exact xs
              simp only [ent, if_neg x1, if_neg y1, if_pos xk, if_pos yk, if_pos xs, if_pos ys]
              exact Sim.rfl' _
            · have ys : ¬ (f y.f0).isSome = true := by rw [e]; exact xs
              simp only [ent, if_neg x1, if_neg y1, if_pos xk, if_pos yk, if_neg xs, if_neg ys, if_pos (h1 _), if_pos (h2 _)]
              exact Sim.rfl' _
          · have h1 : ∀ u, (updN f x.f0 u) y.f0 = f y.f0 := fun u => upd_other _ _ _ _ e
            have h2 : ∀ u, (updN f y.f0 u) x.f0 = f x.f0 := fun u => upd_other _ _ _ _ (fun h => e h.symm)
            by_cases xs : (f x.f0).isSome = true
            · by_cases ys : (f y.f0).isSome = true
              · simp only [ent, if_neg x1, if_neg y1, if_pos xk, if_pos yk, if_pos xs, if_pos ys]
                exact Sim.rfl' _
              · simp only [ent, if_neg x1, if_neg y1, if_pos xk, if_pos yk, if_pos xs, if_neg ys, h2]
                exact Sim.rfl' _
            · by_cases ys : (f y.f0).isSome = true
              · simp only [ent, if_neg x1, if_neg y1, if_pos xk, if_pos yk, if_neg xs, if_pos ys, h1]
                exact Sim.rfl' _
              · simp only [ent, if_neg x1, if_neg y1, if_pos xk, if_pos yk, if_neg xs, if_neg ys, h1, h2]
                rw [upd_comm f x.f0 y.f0 x.f1 y.f1 (fun h => e h.symm)]
                exact Sim.rfl' _
        · by_cases xs : (f x.f0).isSome = true
          · simp only [ent, if_neg x1, if_neg y1, if_pos xk, if_neg yk, if_pos xs]
            exact Sim.rfl' _
          · simp only [ent, if_neg x1, if_neg y1, if_pos xk, if_neg yk, if_neg xs]
            exact Sim.rfl' _
    · simp only [ent, if_neg x1, if_neg xk]
      exact Sim.rfl' _
theorem ent_perm {a b : List S38} (h : a.Perm b) : ∀ (ne : List Int) (f : Int → Option Int), Sim (ent a ne f) (ent b ne f) := by
  induction h with
  | nil => exact fun ne f => Sim.rfl' _
  | cons x h ih =>
    intro ne f
    unfold ent
    split
    · exact ih _ _
    · split
      · split
        · exact Sim.rfl' _
        · exact ih _ _
      · exact ih _ _
  | swap x y l => exact fun ne f => ent_swap y x l ne f
  | trans h1 h2 ih1 ih2 => exact fun ne f => (ih1 ne f).trans (ih2 ne f)
theorem cut_all (s : List Int) (hs : s.length < 140737488355328) : dyn_cut.f s 0 (IntKind.u64.wrap (s.length : Int)) = some (s, none) := by
  have e : IntKind.u64.wrap (s.length : Int) = (s.length : Int) := uwrap_id (by omega) (by omega)
  unfold dyn_cut.f
  rw [e, if_neg (by omega), Int.sub_zero, e, if_neg (by omega), Option.bind_some, if_pos (by omega), Int.zero_add, e, if_pos (by omega), if_pos (by omega), Int.toNat_natCast, List.take_length, show ((0 : Int)).toNat = 0 from rfl, List.drop_zero, if_pos (by rw [List.length_nil]; omega), List.nil_append]
theorem Read_is (s : List Int) (hs : s.length < 140737488355328) (r : dyn_read.Res) (h : Ev (fun k => dyn_read.f k s) r) : Ev (fun k => dyn_Read.f k s 0 0 ([(⟨2, 0, 0, 0, IntKind.u64.wrap (s.length : Int), 0, 0⟩ : S50)] : List (S50))) (dyn_Read.fin r) := by
  obtain ⟨k0, h⟩ := h
  refine ⟨k0 + 1, fun k hk => ?_⟩
  obtain ⟨k, rfl⟩ : ∃ q, k = q + 1 := ⟨k - 1, by omega⟩
  have hr : dyn_read.f k s = some r := h k (by omega)
  have hl : (0 : Int) < ((([(⟨2, 0, 0, 0, IntKind.u64.wrap (s.length : Int), 0, 0⟩ : S50)] : List (S50)).length : Nat) : Int) := by show (0 : Int) < ((1 : Nat) : Int); decide
  show dyn_Read.l0 (k + 1) s _ 0 = _
  rw [dyn_Read.l0, if_pos hl, if_pos (by decide), show rd_T50 ([(⟨2, 0, 0, 0, IntKind.u64.wrap (s.length : Int), 0, 0⟩ : S50)] : List (S50)) 0 = (⟨2, 0, 0, 0, IntKind.u64.wrap (s.length : Int), 0, 0⟩ : S50) from rfl, if_pos rfl]
  show ((dyn_cut.f s 0 (IntKind.u64.wrap (s.length : Int))).bind _) = _
  rw [cut_all s hs, Option.bind_some, if_pos (show (Option.isNone (none : Option Int)) = true from rfl)]
  show ((dyn_read.f k s).bind _) = _
  rw [hr, Option.bind_some]
theorem ite_tot {p : Prop} [Decidable p] {a b : Option Int} (h1 : ∃ x, a = some x) (h2 : ∃ x, b = some x) : ∃ x, (if p then a else b) = some x := by
  split
  · exact h1
  · exact h2
theorem further_tot (c : Int) : ∃ x, shacklelaw00_further.f (some c) = some x := by
  unfold shacklelaw00_further.f
  repeat (refine ite_tot ⟨_, rfl⟩ ?_)
  exact ⟨_, rfl⟩
theorem code_tot (c : Int) : ∃ x, shacklelaw00_Code.f (some c) = some x := by
  obtain ⟨y, hy⟩ := further_tot c
  unfold shacklelaw00_Code.f
  rw [show (some c).getD 0 = c from rfl, hy]
  repeat (refine ite_tot ⟨_, rfl⟩ ?_)
  exact ⟨_, rfl⟩
theorem same_self (k : Nat) (a1 : Int) (a2 : Int) (a3 : Int) (a4 : Int) (a5 : Int) (a6 : Int) (a7 : Int) (a8 : Int) (a9 : Int) (a10 : Int) (a11 : Int) (a12 : Int) (a13 : Int) (a14 : Bool) (a15 : Bool) (a16 : Bool) (a17 : Int) (a18 : Int) (a19 : Int) (a20 : Int) (a21 : Int) (a22 : Int) (a23 : Int) (a24 : Int) (a25 : Int) (a26 : Int) (a27 : Int) (a28 : Int) (a29 : Int) (a30 : Int) (a31 : Int) (a32 : Bool) (a33 : Bool) (a34 : Bool) (a35 : Bool) (a36 : Bool) : shackleref05_Same.f k [] a1 a2 a3 a4 a5 a6 a7 a8 a9 a10 a11 a12 a13 a14 a15 a16 a17 a18 a19 a20 a21 a22 a23 a24 a25 a26 a27 a28 a29 a30 a31 a32 a33 a34 a35 a36 [] a1 a2 a3 a4 a5 a6 a7 a8 a9 a10 a11 a12 a13 a14 a15 a16 a17 a18 a19 a20 a21 a22 a23 a24 a25 a26 a27 a28 a29 a30 a31 a32 a33 a34 a35 a36 = some true := by
  unfold shackleref05_Same.f
  rw [if_pos rfl, if_pos rfl, decide_eq_true rfl]
  simp only [beq_self_eq_true]
  rfl
def E (x : S38) : Prop := Ok x ∧ x.f0 ≠ 0
def none0 : Int → Option Int := fun _ => none
theorem readf (es : List S38) (hes : ∀ x ∈ es, E x) (hl : es.length ≤ 200) (tail : List Int) (ht : tail.length ≤ 140737488351232) : Ev (fun k => dyn_Read.f k (secT es ++ tail) 0 0 ([(⟨2, 0, 0, 0, IntKind.u64.wrap ((secT es ++ tail).length : Int), 0, 0⟩ : S50)] : List (S50))) (dyn_Read.fin (ent es [] none0)) := by
  have h2 := secT_length es
  exact Read_is _ (by rw [List.length_append]; omega) _ (read_is es hes [] none0 0 tail (by omega) (by rw [List.length_nil]; omega))
theorem pick_is (c : Int) (hc : -9223372036854775808 ≤ c ∧ c < 9223372036854775808) (n : Nat) (hn : 0 < n) : ∃ t : Nat, t < n ∧ shacklelaw05_pick.f c (n : Int) = some (t : Int) := by
  have key : ∀ a : Int, 0 ≤ a → ∃ t : Nat, t < n ∧ Int.tmod a (n : Int) = (t : Int) := fun a ha => by
    refine ⟨(a % (n : Int)).toNat, ?_, ?_⟩
    · have := Int.emod_lt_of_pos a (show (0 : Int) < (n : Int) by omega)
      have := Int.emod_nonneg a (show (n : Int) ≠ 0 by omega)
      omega
    · have := Int.emod_nonneg a (show (n : Int) ≠ 0 by omega)
      rw [Int.tmod_eq_emod_of_nonneg ha]
      omega
  unfold shacklelaw05_pick.f
  by_cases h : c < 0
  · rw [if_pos h, if_neg (by omega), w64_id (n := c + 1) (by omega) (by omega), w64_id (by omega) (by omega)]
    obtain ⟨t, h1, h2⟩ := key (-(c + 1)) (by omega)
    exact ⟨t, h1, by rw [h2]⟩
  · rw [if_neg h, if_neg (by omega)]
    obtain ⟨t, h1, h2⟩ := key c (by omega)
    exact ⟨t, h1, by rw [h2]⟩
theorem fin (x1 l2 : List Int) (left x11 : List S38) (hleft : ∀ x ∈ left, E x) (hx : ∀ x ∈ x11, E x) (hl : left.length ≤ 200) (hp : x11.Perm left) (h2 : l2.length ≤ 140737488351232) (x12 : Int) : Ev (fun k => shacklelaw05_DynOrders.l1 k x1 l2 true [] (secT left) x11 x12) true := by
  have hlx : x11.length ≤ 200 := by rw [hp.length_eq]; exact hl
  obtain ⟨k1, e1⟩ := section_is x11 (fun x h => (hx x h).1) hlx
  obtain ⟨k2, e2⟩ := readf left hleft hl [] (by simp)
  obtain ⟨k3, e3⟩ := readf x11 hx hlx l2 h2
  rw [List.append_nil] at e2
  have hs := ent_perm hp [] none0
  have hsl := secT_length x11
  generalize ent left [] none0 = ra at e2 hs
  generalize ent x11 [] none0 = rb at e3 hs
  obtain ⟨s1, s2⟩ := hs
  obtain ⟨na, ta⟩ := ra
  obtain ⟨nb, tb⟩ := rb
  obtain rfl : tb = ta := s2
  refine ⟨k1 + k2 + k3 + 1, fun k hk => ?_⟩
  obtain ⟨k, rfl⟩ : ∃ q, k = q + 1 := ⟨k - 1, by omega⟩
  have f1 : shacklelaw05_section.f k x11 = some (secT x11) := e1 k (by omega)
  have f2 : dyn_Read.f k (secT left) 0 0 ([(⟨2, 0, 0, 0, IntKind.u64.wrap ((secT left).length : Int), 0, 0⟩ : S50)] : List (S50)) = some (dyn_Read.fin (na, tb)) := e2 k (by omega)
  have f3 : dyn_Read.f k (secT x11 ++ l2) 0 0 ([(⟨2, 0, 0, 0, IntKind.u64.wrap ((secT x11 ++ l2).length : Int), 0, 0⟩ : S50)] : List (S50)) = some (dyn_Read.fin (nb, tb)) := e3 k (by omega)
  show shacklelaw05_DynOrders.l1 (k + 1) x1 l2 true [] (secT left) x11 x12 = some true
  rw [shacklelaw05_DynOrders.l1, if_neg (by simp), f1, Option.bind_some, if_pos (by omega), Option.bind_some, f2, Option.bind_some, f3, Option.bind_some]
  obtain ⟨a1, a2, a3, a4, a5, a6, a7, a8, a9, a10, a11, a12, a13, a14, a15, a16, a17, a18, a19, a20, a21, a22, a23, a24, a25, a26, a27, a28, a29, a30, a31, a32, a33, a34, a35, a36, e⟩ := tb
  have hlen : (na.length : Int) = (nb.length : Int) := by
    have : nb.length = na.length := s1
    omega
  rcases e with _ | c
  · show ((shackleref05_Same.f k [] a1 a2 a3 a4 a5 a6 a7 a8 a9 a10 a11 a12 a13 a14 a15 a16 a17 a18 a19 a20 a21 a22 a23 a24 a25 a26 a27 a28 a29 a30 a31 a32 a33 a34 a35 a36 [] a1 a2 a3 a4 a5 a6 a7 a8 a9 a10 a11 a12 a13 a14 a15 a16 a17 a18 a19 a20 a21 a22 a23 a24 a25 a26 a27 a28 a29 a30 a31 a32 a33 a34 a35 a36).bind _) = _
    rw [same_self, Option.bind_some, if_pos rfl, if_pos (by rfl)]
    show ((shacklelaw00_Code.f none).bind _) = _
    rw [show shacklelaw00_Code.f none = some 0 from rfl, Option.bind_some]
    show ((shacklelaw00_Code.f none).bind _) = _
    rw [show shacklelaw00_Code.f none = some 0 from rfl, Option.bind_some, if_pos rfl]
    exact if_pos hlen
  · obtain ⟨y, hy⟩ := code_tot c
    show ((shackleref05_Same.f k [] 0 0 0 0 0 0 0 0 0 0 0 0 0 false false false 0 0 0 0 0 0 0 0 0 0 0 0 0 0 0 false false false false false [] 0 0 0 0 0 0 0 0 0 0 0 0 0 false false false 0 0 0 0 0 0 0 0 0 0 0 0 0 0 0 false false false false false).bind _) = _
    rw [same_self, Option.bind_some, if_pos rfl, if_pos (by rfl)]
    show ((shacklelaw00_Code.f (some c)).bind _) = _
    rw [hy, Option.bind_some]
    show ((shacklelaw00_Code.f (some c)).bind _) = _
    rw [hy, Option.bind_some, if_pos rfl]
    rfl
theorem mix (x1 l2 : List Int) (left : List S38) (hleft : ∀ x ∈ left, E x) (hl : left.length ≤ 200) (h2 : l2.length ≤ 140737488351232) (h1 : ∀ c ∈ x1, -9223372036854775808 ≤ c ∧ c < 9223372036854775808) (hx1 : x1.length < 4611686018427387904) : ∀ (n : Nat) (x8 x11 : List S38) (x12 : Nat), x8.length = n → (x11 ++ x8).Perm left → x12 + n ≤ x1.length + 200 → Ev (fun k => shacklelaw05_DynOrders.l1 k x1 l2 true x8 (secT left) x11 x12) true
  | 0, x8, x11, x12, h8, hp, hq => by
    obtain rfl : x8 = [] := List.length_eq_zero_iff.1 h8
    rw [List.append_nil] at hp
    exact fin x1 l2 left x11 hleft (fun x h => hleft x (hp.mem_iff.1 h)) hl hp h2 x12
  | n + 1, x8, x11, x12, h8, hp, hq => by
    have hpl := hp.length_eq
    rw [List.length_append] at hpl
    have next : ∀ (t : Nat) (ht : t < x8.length), ((x11 ++ [x8[t]]) ++ (([] ++ x8.take t) ++ x8.drop (t + 1))).Perm left := fun t ht => by
      refine List.Perm.trans ?_ hp
      rw [List.append_assoc, List.nil_append]
      refine List.Perm.append_left x11 ?_
      show (x8[t] :: (x8.take t ++ x8.drop (t + 1))).Perm x8
      refine List.perm_middle.symm.trans ?_
      rw [← List.drop_eq_getElem_cons ht, List.take_append_drop]
    have lens : ∀ (t : Nat), t < x8.length → (([] ++ x8.take t) ++ x8.drop (t + 1)).length = n := fun t ht => by
      rw [List.length_append, List.length_append, List.length_nil, List.length_take, List.length_drop]
      omega
    by_cases c : x12 < x1.length
    · obtain ⟨t, ht, hpk⟩ := pick_is (rd x1 (x12 : Int)) (h1 _ (rd_mem x1 x12 c)) x8.length (by omega)
      have ih := mix x1 l2 left hleft hl h2 h1 hx1 n _ (x11 ++ [x8[t]]) (x12 + 1) (lens t ht) (next t ht) (by omega)
      refine Ev.step ih fun k => ?_
      have hw : wrap64 ((t : Int) + 1) = ((t + 1 : Nat) : Int) := by rw [w64_id (by omega) (by omega)]; omega
      have hw2 : wrap64 ((x12 : Int) + 1) = ((x12 + 1 : Nat) : Int) := by rw [w64_id (by omega) (by omega)]; omega
      rw [shacklelaw05_DynOrders.l1, if_pos (by omega), if_pos (by omega), if_pos (by omega), hpk, Option.bind_some, if_pos (by omega), if_pos (by omega), if_pos (by omega), if_pos (by omega), Option.bind_some, Int.toNat_natCast, if_pos (by rw [List.length_nil, List.length_take]; omega), Option.bind_some, hw, if_pos (by omega), if_pos (by omega), Option.bind_some, Int.toNat_natCast, if_pos (by have := lens t ht; rw [List.length_append] at this; omega), hw2, rd38 x8 t ht]
    · have h0 : 0 < x8.length := by omega
      have ih := mix x1 l2 left hleft hl h2 h1 hx1 n _ (x11 ++ [x8[0]]) (x12 + 1) (lens 0 h0) (next 0 h0) (by omega)
      refine Ev.step ih fun k => ?_
      have hw2 : wrap64 ((x12 : Int) + 1) = ((x12 + 1 : Nat) : Int) := by rw [w64_id (by omega) (by omega)]; omega
      have hrd : rd_T38 x8 0 = x8[0] := rd38 x8 0 h0
      rw [shacklelaw05_DynOrders.l1, if_pos (by omega), if_neg (by omega), if_pos (by omega), if_pos (by omega), if_pos (by omega), Option.bind_some, if_pos (by rw [List.length_nil, List.length_take]; omega), Option.bind_some, if_pos (by decide), if_pos (by omega), Option.bind_some, if_pos (by have := lens 0 h0; rw [List.length_append] at this; show ([] ++ x8.take 0).length + (x8.drop (0 + 1)).length < _; omega), hw2, hrd]
      rfl
theorem outer (l0 : List S38) (l1 l2 : List Int) (hes : ∀ x ∈ l0, Ok x) (hl : l0.length ≤ 200) (h2 : l2.length ≤ 140737488351232) (h1 : ∀ c ∈ l1, -9223372036854775808 ≤ c ∧ c < 9223372036854775808) (hx1 : l1.length < 4611686018427387904) : ∀ (m i : Nat) (out : List S38), i + m = l0.length → out.length ≤ i → (∀ x ∈ out, E x) → Ev (fun k => shacklelaw05_DynOrders.l0 k l0 l1 l2 true out i) true
  | 0, i, out, h, ho, hE => by
    have hs := section_is out (fun x hx => (hE x hx).1) (by omega)
    have hm := mix l1 l2 out hE (by omega) h2 h1 hx1 out.length out [] 0 rfl (List.Perm.refl _) (by omega)
    refine Ev.step (Ev.bind (G := fun k t248 => shacklelaw05_DynOrders.l1 k l1 l2 true out t248 [] 0) hs hm) fun k => ?_
    rw [shacklelaw05_DynOrders.l0, if_neg (by omega)]
  | m + 1, i, out, h, ho, hE => by
    have hi : i < l0.length := by omega
    have hw : wrap64 ((i : Int) + 1) = ((i + 1 : Nat) : Int) := by rw [w64_id (by omega) (by omega)]; omega
    by_cases c : l0[i].f0 = 0
    · refine Ev.step (outer l0 l1 l2 hes hl h2 h1 hx1 m (i + 1) out (by omega) (by omega) hE) fun k => ?_
      rw [shacklelaw05_DynOrders.l0, if_pos (by omega), if_pos (by omega), rd38 l0 i hi, if_pos c, hw]
    · refine Ev.step (outer l0 l1 l2 hes hl h2 h1 hx1 m (i + 1) (out ++ [l0[i]]) (by omega) (by rw [List.length_append]; simp only [List.length_cons, List.length_nil]; omega) (fun x hx => by
        rcases List.mem_append.1 hx with hx | hx
        · exact hE x hx
        · rw [List.mem_singleton] at hx
          subst hx
          exact ⟨hes _ (List.getElem_mem hi), c⟩)) fun k => ?_
      rw [shacklelaw05_DynOrders.l0, if_pos (by omega), if_pos (by omega), rd38 l0 i hi, if_neg c, if_pos (by omega), hw]
theorem DynOrders : shacklelaw05_DynOrders.Pure := by
  intro l0 l1 l2 g0 z0 g1 z1 _ z2
  have hes : ∀ x ∈ l0, Ok x := fun x hx => ⟨of_wf (g0.2 x hx).1, of_wf (g0.2 x hx).2⟩
  have h1 : ∀ c ∈ l1, -9223372036854775808 ≤ c ∧ c < 9223372036854775808 := fun c hc => by
    have h := g1.2 c hc
    unfold gI at h
    simp [Lit.wf, IntKind.min, IntKind.max, IntKind.signed, IntKind.bits] at h
    omega
  have hz1 := z1.1
  have hz2 := z2.1
  obtain ⟨k, hk⟩ : Ev (fun k => shacklelaw05_DynOrders.f k l0 l1 l2) true := by
    unfold shacklelaw05_DynOrders.f
    refine Ev.bind (Ev.one shacklelaw05_up.mono 64 up) ?_
    by_cases c : (l0.length : Int) > 200
    · exact (Ev.pure true).same fun k => if_pos c
    · exact (outer l0 l1 l2 hes (by omega) (by omega) h1 (by omega) l0.length 0 [] (by omega) (by simp) (fun x hx => by cases hx)).same fun k => if_neg c
  exact ⟨k, hk k (Nat.le_refl _)⟩
end Go.Proofs.Ytjbndfogjmfbhaa.Pure
