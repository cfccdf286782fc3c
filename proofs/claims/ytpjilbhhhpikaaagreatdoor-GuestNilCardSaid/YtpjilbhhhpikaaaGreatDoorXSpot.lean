/- Words for errors that may be a Spot in memory: a Spot told as a negative number, what an error's value is by that number, and comparisons of errors of two types. No condition but what each says. -/
import Derived.LaidEql
import Derived.WideLaws
import Derived.WalkKit
import GoSem.Claim
namespace Go.Proofs.YtpjilbhhhpikaaaGreatDoorX
open Go

/-- A Spot as a negative number. -/
def spZ (a c : Int) : Int := -(1 + a + 18446744073709551616 * c)
def spAt (z : Int) : Int := (-z - 1) % 18446744073709551616
def spCode (z : Int) : Int := (-z - 1) / 18446744073709551616

theorem spZ_neg {a c : Int} (h0 : 0 ≤ a) (hc : 0 ≤ c) : spZ a c < 0 := by
  unfold spZ; omega
theorem spZ_lt {a c : Int} (h0 : 0 ≤ a) (hc : 0 ≤ c) : ¬ 0 ≤ spZ a c := by
  unfold spZ; omega
theorem spAt_spZ {a c : Int} (h0 : 0 ≤ a) (h1 : a < 18446744073709551616) : spAt (spZ a c) = a := by
  unfold spAt spZ; omega
theorem spCode_spZ {a c : Int} (h0 : 0 ≤ a) (h1 : a < 18446744073709551616) : spCode (spZ a c) = c := by
  unfold spCode spZ; omega
theorem spZ_of {z : Int} (_h : z < 0) : spZ (spAt z) (spCode z) = z := by
  unfold spZ spAt spCode; omega

/-- What an error's value is at a world, told by a number: none is nil; a number that isn't negative is a Code; a negative one is a Spot's pointer, its block no lower than 'base'. CT, PT, ST: the types of the Code, of the pointer, of the Spot. -/
def ErrAt (CT PT ST : TypeId) (W : World) (base : Nat) (r : Option Int) (v : Value) : Prop :=
  match r with
  | none => v = .nilIface
  | some q => if q < 0 then ∃ b : Nat, v = .iface PT (.pointer (some ⟨b, 0, none⟩)) ∧ base ≤ b ∧ W.heap[b]? = some (.cells #[.int .u64 (spAt q), .iface CT (.int .i64 (spCode q))] ST (0, 0))
    else v = .iface CT (.int .i64 q)

theorem ErrAt.none_eq {CT PT ST : TypeId} {W : World} {base : Nat} {v : Value} (h : ErrAt CT PT ST W base none v) : v = .nilIface := h
theorem ErrAt.code_eq {CT PT ST : TypeId} {W : World} {base : Nat} {q : Int} {v : Value} (h : ErrAt CT PT ST W base (some q) v) (hq : ¬ q < 0) : v = .iface CT (.int .i64 q) := by
  simpa [ErrAt, if_neg hq] using h
theorem ErrAt.spot_eq {CT PT ST : TypeId} {W : World} {base : Nat} {q : Int} {v : Value} (h : ErrAt CT PT ST W base (some q) v) (hq : q < 0) :
    ∃ b : Nat, v = .iface PT (.pointer (some ⟨b, 0, none⟩)) ∧ base ≤ b ∧ W.heap[b]? = some (.cells #[.int .u64 (spAt q), .iface CT (.int .i64 (spCode q))] ST (0, 0)) := by
  simpa only [ErrAt, if_pos hq] using h
theorem ErrAt.of_none {CT PT ST : TypeId} {W : World} {base : Nat} : ErrAt CT PT ST W base none .nilIface := rfl
theorem ErrAt.of_code {CT PT ST : TypeId} {W : World} {base : Nat} {q : Int} (hq : 0 ≤ q) : ErrAt CT PT ST W base (some q) (.iface CT (.int .i64 q)) := by
  simp [ErrAt, if_neg (Int.not_lt.2 hq)]
theorem ErrAt.of_made {CT PT ST : TypeId} {W : World} {base : Nat} {a c : Int} {b : Nat} (h0 : 0 ≤ a) (h1 : a < 18446744073709551616) (hc : 0 ≤ c) (hb : base ≤ b)
    (hh : W.heap[b]? = some (.cells #[.int .u64 a, .iface CT (.int .i64 c)] ST (0, 0))) : ErrAt CT PT ST W base (some (spZ a c)) (.iface PT (.pointer (some ⟨b, 0, none⟩))) := by
  simp only [ErrAt, if_pos (spZ_neg h0 hc)]
  exact ⟨b, rfl, hb, by rw [spAt_spZ h0 h1, spCode_spZ h0 h1]; exact hh⟩
theorem ErrAt.of_spot {CT PT ST : TypeId} {W : World} {base : Nat} {q : Int} {b : Nat} (hq : q < 0) (hb : base ≤ b)
    (hh : W.heap[b]? = some (.cells #[.int .u64 (spAt q), .iface CT (.int .i64 (spCode q))] ST (0, 0))) : ErrAt CT PT ST W base (some q) (.iface PT (.pointer (some ⟨b, 0, none⟩))) := by
  simp only [ErrAt, if_pos hq]
  exact ⟨b, rfl, hb, hh⟩

section
variable {P : Program} (w : World)
/-! Two errors of two types: never equal. -/
theorem run_equal_held_types (ti ta tb : TypeId) (u v : Value) (hi : P.underlying ti = some (.interface (P.methodsAt ti))) (hne : ta ≠ tb) :
    (Op.equal ti (.iface ta u) (.iface tb v)).run P w = .ok false w := by
  have h : ∀ d : Nat, (Op.equalIn (d + 1) ti (.iface ta u) (.iface tb v)).run P w = .ok false w := fun d => by
    simp [Op.equalIn, run_underlying hi, hne]
  simp [Op.equal, Op.maxDepth, h 9999]

@[go_sem] theorem run_eql_held_types (ti ta tb : TypeId) (u v : Value) (hi : P.underlying ti = some (.interface (P.methodsAt ti))) (hne : (ta == tb) = false) :
    (binOp .eql ti (.iface ta u) (.iface tb v)).run P w = .ok (.bool false) w := by
  simp only [binOp]
  simp [run_equal_held_types w ti ta tb u v hi (by simpa using hne)]

@[go_sem] theorem run_neq_held_types (ti ta tb : TypeId) (u v : Value) (hi : P.underlying ti = some (.interface (P.methodsAt ti))) (hne : (ta == tb) = false) :
    (binOp .neq ti (.iface ta u) (.iface tb v)).run P w = .ok (.bool true) w := by
  simp only [binOp]
  simp [run_equal_held_types w ti ta tb u v hi (by simpa using hne)]
end
end Go.Proofs.YtpjilbhhhpikaaaGreatDoorX
