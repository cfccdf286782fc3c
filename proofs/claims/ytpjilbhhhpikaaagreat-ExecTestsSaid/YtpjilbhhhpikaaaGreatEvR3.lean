/- Numbers, comparisons, conversions, cuts, built values: reckoned by the kernel; and that the machine's operation comes to the same. No condition but what each theorem says. -/
import Derived.Test.YtpjilbhhhpikaaaGreatEvR2
import Derived.Laws.Tables
namespace Go.Ev
set_option linter.unusedVariables false
set_option linter.unusedSimpArgs false
open Go
/-! ### numbers -/
def wrapF (k : IntKind) : Int → Int
  | .ofNat m => match k with
    | .u64 => .ofNat (Nat.mod m 18446744073709551616)
    | .u8 => .ofNat (Nat.mod m 256)
    | .u16 => .ofNat (Nat.mod m 65536)
    | .u32 => .ofNat (Nat.mod m 4294967296)
    | .i64 => match Nat.ble m 9223372036854775807 with
      | true => .ofNat m
      | false => IntKind.wrap .i64 (.ofNat m)
    | .i32 => match Nat.ble m 2147483647 with
      | true => .ofNat m
      | false => IntKind.wrap .i32 (.ofNat m)
    | k => k.wrap (.ofNat m)
  | n => k.wrap n
theorem wrap_i64_in (m : Nat) (hm : m ≤ 9223372036854775807) : IntKind.wrap .i64 (m : Int) = m := by
  have : ((m : Int) % (2 ^ IntKind.i64.bits : Int)) = m := by
    show ((m : Int) % 18446744073709551616) = m
    omega
  unfold IntKind.wrap
  simp only [this]
  rw [if_neg]
  show ¬ (IntKind.i64.signed && decide ((m : Int) ≥ 9223372036854775808)) = true
  simp [IntKind.signed]
  omega
theorem wrap_i32_in (m : Nat) (hm : m ≤ 2147483647) : IntKind.wrap .i32 (m : Int) = m := by
  have : ((m : Int) % (2 ^ IntKind.i32.bits : Int)) = m := by
    show ((m : Int) % 4294967296) = m
    omega
  unfold IntKind.wrap
  simp only [this]
  rw [if_neg]
  show ¬ (IntKind.i32.signed && decide ((m : Int) ≥ 2147483648)) = true
  simp [IntKind.signed]
  omega
theorem wrap_u (k : IntKind) (hk : k.signed = false) (n : Int) : k.wrap n = n % (2 ^ k.bits : Int) := by
  unfold IntKind.wrap
  simp [hk]
theorem wrapF_eq (k : IntKind) (n : Int) : wrapF k n = k.wrap n := by
  cases n with
  | negSucc m => rfl
  | ofNat m =>
    cases k <;> simp only [wrapF]
    · split
      · rename_i hb; exact (wrap_i32_in m (Nat.le_of_ble_eq_true hb)).symm
      · rfl
    · split
      · rename_i hb; exact (wrap_i64_in m (Nat.le_of_ble_eq_true hb)).symm
      · rfl
    · rw [wrap_u _ rfl]; rfl
    · rw [wrap_u _ rfl]; rfl
    · rw [wrap_u _ rfl]; rfl
    · rw [wrap_u _ rfl]; rfl
def eqI : Int → Int → Bool
  | .ofNat a, .ofNat b => Nat.beq a b
  | .negSucc a, .negSucc b => Nat.beq a b
  | _, _ => false
theorem eqI_eq (a b : Int) : eqI a b = (a == b) := by
  cases a <;> cases b <;> simp only [eqI]
  · rename_i a b
    rw [Bool.eq_iff_iff, beq_iff_eq, Nat.beq_eq]
    exact ⟨fun h => by rw [h], fun h => Int.ofNat.inj h⟩
  · simp
  · simp
  · rename_i a b
    rw [Bool.eq_iff_iff, beq_iff_eq, Nat.beq_eq]
    exact ⟨fun h => by rw [h], fun h => Int.negSucc.inj h⟩
def leI : Int → Int → Bool
  | .ofNat a, .ofNat b => Nat.ble a b
  | .negSucc a, .negSucc b => Nat.ble b a
  | .negSucc _, .ofNat _ => true
  | .ofNat _, .negSucc _ => false
theorem leI_eq (a b : Int) : leI a b = decide (a ≤ b) := by
  rw [Bool.eq_iff_iff, decide_eq_true_iff]
  cases a with
  | ofNat a =>
    cases b with
    | ofNat b =>
      show Nat.ble a b = true ↔ (a : Int) ≤ (b : Int)
      rw [Nat.ble_eq]; omega
    | negSucc b =>
      show false = true ↔ (a : Int) ≤ Int.negSucc b
      rw [Int.negSucc_eq]
      constructor
      · intro h; cases h
      · intro h; omega
  | negSucc a =>
    cases b with
    | ofNat b =>
      show true = true ↔ Int.negSucc a ≤ (b : Int)
      rw [Int.negSucc_eq]
      constructor
      · intro _; omega
      · intro _; rfl
    | negSucc b =>
      show Nat.ble b a = true ↔ Int.negSucc a ≤ Int.negSucc b
      rw [Nat.ble_eq, Int.negSucc_eq, Int.negSucc_eq]; omega
def mulP (n : Nat) : Int → Int
  | .ofNat m => .ofNat (Nat.mul m (Nat.pow 2 n))
  | x => x * 2 ^ n
theorem mulP_eq (n : Nat) (x : Int) : mulP n x = x * 2 ^ n := by
  cases x with
  | negSucc m => rfl
  | ofNat m =>
    show ((m * 2 ^ n : Nat) : Int) = (m : Int) * 2 ^ n
    simp
def divP (n : Nat) : Int → Int
  | .ofNat m => .ofNat (Nat.div m (Nat.pow 2 n))
  | x => x.fdiv (2 ^ n)
theorem divP_eq (n : Nat) (x : Int) : divP n x = x.fdiv (2 ^ n) := by
  cases x with
  | negSucc m => rfl
  | ofNat m =>
    show ((m / 2 ^ n : Nat) : Int) = (m : Int).fdiv (2 ^ n)
    rw [Int.fdiv_eq_ediv_of_nonneg _ (Int.pow_nonneg (by decide))]
    simp
def bitsG (op : BinOp) (k : IntKind) (x y : Int) : Option Int :=
  match op with
  | .and => some (k.wrap (BitVec.ofInt k.bits x &&& BitVec.ofInt k.bits y).toNat)
  | .or => some (k.wrap (BitVec.ofInt k.bits x ||| BitVec.ofInt k.bits y).toNat)
  | .xor => some (k.wrap (BitVec.ofInt k.bits x ^^^ BitVec.ofInt k.bits y).toNat)
  | .andNot => some (k.wrap (BitVec.ofInt k.bits x &&& ~~~ BitVec.ofInt k.bits y).toNat)
  | _ => none
def bits64 (op : BinOp) (a b : Nat) : Option Int :=
  match op with
  | .and => some (.ofNat (Nat.land a b))
  | .or => some (.ofNat (Nat.lor a b))
  | .xor => some (.ofNat (Nat.xor a b))
  | _ => none
def bitsF (op : BinOp) (k : IntKind) (x y : Int) : Option Int :=
  match k, x, y with
  | .u64, .ofNat a, .ofNat b => match Nat.ble a 18446744073709551615, Nat.ble b 18446744073709551615, bits64 op a b with
    | true, true, some z => some z
    | _, _, _ => bitsG op k x y
  | .i64, .ofNat a, .ofNat b => match Nat.ble a 9223372036854775807, Nat.ble b 9223372036854775807, bits64 op a b with
    | true, true, some z => some z
    | _, _, _ => bitsG op k x y
  | k, x, y => bitsG op k x y
theorem bits64_eq {op : BinOp} {k : IntKind} (hk : k = .u64 ∨ k = .i64) {a b : Nat} {z : Int} (ha : a ≤ 18446744073709551615) (hb : b ≤ 18446744073709551615) (h63 : k = .i64 → a ≤ 9223372036854775807 ∧ b ≤ 9223372036854775807) (hz : bits64 op a b = some z) : bitsG op k (a : Int) (b : Int) = some z := by
  have hbits : k.bits = 64 := by rcases hk with rfl | rfl <;> rfl
  have h1 : ∀ n : Nat, n ≤ 18446744073709551615 → (BitVec.ofInt k.bits (n : Int)).toNat = n := by
    intro n hn
    rw [BitVec.toNat_ofInt, hbits]
    show (((n : Int) % 18446744073709551616)).toNat = n
    omega
  have hw : ∀ n : Nat, n ≤ 18446744073709551615 → (k = .i64 → n ≤ 9223372036854775807) → k.wrap (n : Int) = n := by
    intro n hn h
    rcases hk with rfl | rfl
    · rw [wrap_u _ rfl]
      show ((n : Int) % 18446744073709551616) = n
      omega
    · exact wrap_i64_in n (h rfl)
  have and_le : ∀ x y : Nat, x &&& y ≤ x := fun x y => Nat.and_le_left
  have pw : ∀ x y m : Nat, x < 2 ^ m → y < 2 ^ m → x ||| y < 2 ^ m ∧ x ^^^ y < 2 ^ m := fun x y m hx hy => ⟨Nat.or_lt_two_pow hx hy, Nat.xor_lt_two_pow hx hy⟩
  have p64 : (18446744073709551615 : Nat) + 1 = 2 ^ 64 := by decide
  have p63 : (9223372036854775807 : Nat) + 1 = 2 ^ 63 := by decide
  cases op <;> simp only [bits64] at hz <;> try cases hz
  · simp only [bitsG, BitVec.toNat_and, h1 a ha, h1 b hb]
    exact congrArg some (hw (a &&& b) (Nat.le_trans (and_le a b) ha) fun e => Nat.le_trans (and_le a b) (h63 e).1)
  · simp only [bitsG, BitVec.toNat_or, h1 a ha, h1 b hb]
    refine congrArg some (hw (a ||| b) ?_ fun e => ?_)
    · have := (pw a b 64 (by omega) (by omega)).1; omega
    · have := (pw a b 63 (by have := h63 e; omega) (by have := h63 e; omega)).1; omega
  · simp only [bitsG, BitVec.toNat_xor, h1 a ha, h1 b hb]
    refine congrArg some (hw (a ^^^ b) ?_ fun e => ?_)
    · have := (pw a b 64 (by omega) (by omega)).2; omega
    · have := (pw a b 63 (by have := h63 e; omega) (by have := h63 e; omega)).2; omega
theorem bitsF_eq (op : BinOp) (k : IntKind) (x y z : Int) (hz : bitsF op k x y = some z) : bitsG op k x y = some z := by
  unfold bitsF at hz
  split at hz
  · split at hz
    · rename_i a b h1 h2 h3
      injection hz with hz; subst hz
      exact bits64_eq (.inl rfl) (Nat.le_of_ble_eq_true h1) (Nat.le_of_ble_eq_true h2) (fun e => by cases e) h3
    · exact hz
  · split at hz
    · rename_i a b h1 h2 h3
      injection hz with hz; subst hz
      have h1 := Nat.le_of_ble_eq_true h1
      have h2 := Nat.le_of_ble_eq_true h2
      exact bits64_eq (.inr rfl) (by omega) (by omega) (fun _ => ⟨h1, h2⟩) h3
    · exact hz
  · exact hz
def kindB : IntKind → IntKind → Bool
  | .i8, .i8 => true
  | .i16, .i16 => true
  | .i32, .i32 => true
  | .i64, .i64 => true
  | .u8, .u8 => true
  | .u16, .u16 => true
  | .u32, .u32 => true
  | .u64, .u64 => true
  | _, _ => false
theorem kindB_eq {a b : IntKind} (hk : kindB a b = true) : a = b := by cases a <;> cases b <;> first | rfl | cases hk
def evInt (op : BinOp) (k : IntKind) (x y : Int) : Option V :=
  match op with
  | .add => some (.int k (wrapF k (x + y)))
  | .sub => some (.int k (wrapF k (x - y)))
  | .mul => some (.int k (wrapF k (x * y)))
  | .quo => match eqI y 0 with | true => none | false => some (.int k (wrapF k (x.tdiv y)))
  | .rem => match eqI y 0 with | true => none | false => some (.int k (x.tmod y))
  | .eql => some (.bool (eqI x y))
  | .neq => some (.bool (!eqI x y))
  | .lss => some (.bool (!leI y x))
  | .leq => some (.bool (leI x y))
  | .gtr => some (.bool (!leI x y))
  | .geq => some (.bool (leI y x))
  | .and => match bitsF .and k x y with | some z => some (.int k z) | none => none
  | .or => match bitsF .or k x y with | some z => some (.int k z) | none => none
  | .xor => match bitsF .xor k x y with | some z => some (.int k z) | none => none
  | .andNot => match bitsF .andNot k x y with | some z => some (.int k z) | none => none
  | _ => none
section
variable {P : Program} {ρ : Env} {h : H} {w : World}
theorem evInt_sound (w : World) {op : BinOp} {k : IntKind} {x y : Int} {v : V} (t : TypeId) (he : evInt op k x y = some v) : ∃ c, (binOp op t (.int k x) (.int k y)).run P w = .ok c w ∧ VRel ρ v c := by
  have le_not : ∀ a b : Int, (!decide (a ≤ b)) = decide (b < a) := fun a b => by
    rw [Bool.eq_iff_iff]; simp
  cases op <;> simp only [evInt] at he
  case add => injection he with he; subst he; exact ⟨.int k (k.wrap (x + y)), by simp [binOp, Op.intArith], by rw [wrapF_eq]; exact .int _ _⟩
  case sub => injection he with he; subst he; exact ⟨.int k (k.wrap (x - y)), by simp [binOp, Op.intArith], by rw [wrapF_eq]; exact .int _ _⟩
  case mul => injection he with he; subst he; exact ⟨.int k (k.wrap (x * y)), by simp [binOp, Op.intArith], by rw [wrapF_eq]; exact .int _ _⟩
  case quo =>
    split at he
    · cases he
    · rename_i hy
      rw [eqI_eq] at hy
      have hy : ¬ y = 0 := by simpa using hy
      injection he with he; subst he
      exact ⟨.int k (k.wrap (x.tdiv y)), by simp [binOp, Op.intDiv, hy], by rw [wrapF_eq]; exact .int _ _⟩
  case rem =>
    split at he
    · cases he
    · rename_i hy
      rw [eqI_eq] at hy
      have hy : ¬ y = 0 := by simpa using hy
      injection he with he; subst he
      exact ⟨.int k (x.tmod y), by simp [binOp, Op.intDiv, hy], .int _ _⟩
  case eql => injection he with he; subst he; exact ⟨.bool (x == y), by simp [binOp, Op.intCmp], by rw [eqI_eq]; exact .bool _⟩
  case neq => injection he with he; subst he; exact ⟨.bool (!(x == y)), by simp [binOp, Op.intCmp]; rfl, by rw [eqI_eq]; exact .bool _⟩
  case lss => injection he with he; subst he; exact ⟨.bool (decide (x < y)), by simp [binOp, Op.intCmp], by rw [leI_eq, le_not]; exact .bool _⟩
  case leq => injection he with he; subst he; exact ⟨.bool (decide (x ≤ y)), by simp [binOp, Op.intCmp], by rw [leI_eq]; exact .bool _⟩
  case gtr => injection he with he; subst he; exact ⟨.bool (decide (y < x)), by simp [binOp, Op.intCmp], by rw [leI_eq, le_not]; exact .bool _⟩
  case geq => injection he with he; subst he; exact ⟨.bool (decide (y ≤ x)), by simp [binOp, Op.intCmp], by rw [leI_eq]; exact .bool _⟩
  case and =>
    split at he
    · rename_i z hz
      injection he with he; subst he
      have hz := bitsF_eq _ _ _ _ _ hz
      injection hz with hz; subst hz
      exact ⟨_, by simp [binOp, Op.intBits], .int _ _⟩
    · cases he
  case or =>
    split at he
    · rename_i z hz
      injection he with he; subst he
      have hz := bitsF_eq _ _ _ _ _ hz
      injection hz with hz; subst hz
      exact ⟨_, by simp [binOp, Op.intBits], .int _ _⟩
    · cases he
  case xor =>
    split at he
    · rename_i z hz
      injection he with he; subst he
      have hz := bitsF_eq _ _ _ _ _ hz
      injection hz with hz; subst hz
      exact ⟨_, by simp [binOp, Op.intBits], .int _ _⟩
    · cases he
  case andNot =>
    split at he
    · rename_i z hz
      injection he with he; subst he
      have hz := bitsF_eq _ _ _ _ _ hz
      injection hz with hz; subst hz
      exact ⟨_, by simp [binOp, Op.intBits], .int _ _⟩
    · cases he
  all_goals cases he
def evShift (op : BinOp) (k : IntKind) (x : Int) : Int → Option V
  | .ofNat y => match op with
    | .shl => some (.int k (wrapF k (mulP (cond (Nat.ble y k.bits) y k.bits) x)))
    | .shr => some (.int k (divP (cond (Nat.ble y k.bits) y k.bits) x))
    | _ => none
  | _ => none
theorem min_cond (y b : Nat) : cond (Nat.ble y b) y b = min y b := by
  cases hb : Nat.ble y b with
  | true => have := Nat.le_of_ble_eq_true hb; simp; omega
  | false =>
    have : ¬ y ≤ b := fun hle => by rw [Nat.ble_eq_true_of_le hle] at hb; cases hb
    simp
    omega
theorem evShift_sound (w : World) {op : BinOp} {k k' : IntKind} {x y : Int} {v : V} (t : TypeId) (he : evShift op k x y = some v) : ∃ c, (binOp op t (.int k x) (.int k' y)).run P w = .ok c w ∧ VRel ρ v c := by
  unfold evShift at he
  split at he
  · rename_i y
    have hn : ¬ ((Int.ofNat y) < 0) := by simp
    have ht : (Int.ofNat y).toNat = y := rfl
    split at he
    · injection he with he; subst he
      refine ⟨.int k (k.wrap (x * 2 ^ min (Int.ofNat y).toNat k.bits)), ?_, ?_⟩
      · simp only [binOp, Op.shift, if_neg hn]; rfl
      · rw [wrapF_eq, mulP_eq, min_cond, ht]; exact .int _ _
    · injection he with he; subst he
      refine ⟨.int k (x.fdiv (2 ^ min (Int.ofNat y).toNat k.bits)), ?_, ?_⟩
      · simp only [binOp, Op.shift, if_neg hn]; rfl
      · rw [divP_eq, min_cond, ht]; exact .int _ _
    · cases he
  · cases he
end
end Go.Ev
