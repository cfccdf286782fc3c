/- Laws that the kit lacks: '==' and '!=' of two errors that are numbers of one type, and of nil with an error; as the walk asks them. No condition beyond the types' own facts. -/
import Derived.LaidEql
import Derived.WideLaws
import Derived.WalkKit
import GoSem.Claim
namespace Go.Proofs.YtpjilbhhhpikaaaGreatDoorX
open Go

section
variable {P : Program} (w : World)

theorem run_equalIn_held_int (d : Nat) {ti tn : TypeId} {ms : Array (String × TypeId)} {k : IntKind} (a b : Int)
    (hi : P.underlying ti = some (.interface ms)) (hn : P.underlying tn = some (.int k)) (hc : (P.info? tn).map (fun i => i.comparable) = some true) :
    (Op.equalIn (d + 2) ti (.iface tn (.int k a)) (.iface tn (.int k b))).run P w = .ok (a == b) w := by
  cases hq : P.info? tn with
  | none => rw [hq] at hc; simp at hc
  | some i =>
    rw [hq] at hc
    have hcomp : i.comparable = true := by simpa using hc
    simp [Op.equalIn, run_underlying hi, run_underlying hn, typeInfo, hq, hcomp]

theorem run_equal_held_int {ti tn : TypeId} {ms : Array (String × TypeId)} {k : IntKind} (a b : Int)
    (hi : P.underlying ti = some (.interface ms)) (hn : P.underlying tn = some (.int k)) (hc : (P.info? tn).map (fun i => i.comparable) = some true) :
    (Op.equal ti (.iface tn (.int k a)) (.iface tn (.int k b))).run P w = .ok (a == b) w := by
  simp [Op.equal, Op.maxDepth, run_equalIn_held_int w 9998 a b hi hn hc]

@[go_sem] theorem run_eql_held_int (ti tn : TypeId) (k : IntKind) (a b : Int)
    (hi : P.underlying ti = some (.interface (P.methodsAt ti))) (hn : P.underlying tn = some (.int k)) (hc : (P.info? tn).map (fun i => i.comparable) = some true) :
    (binOp .eql ti (.iface tn (.int k a)) (.iface tn (.int k b))).run P w = .ok (.bool (a == b)) w := by
  simp only [binOp]
  simp [run_equal_held_int w a b hi hn hc]

@[go_sem] theorem run_neq_held_int (ti tn : TypeId) (k : IntKind) (a b : Int)
    (hi : P.underlying ti = some (.interface (P.methodsAt ti))) (hn : P.underlying tn = some (.int k)) (hc : (P.info? tn).map (fun i => i.comparable) = some true) :
    (binOp .neq ti (.iface tn (.int k a)) (.iface tn (.int k b))).run P w = .ok (.bool (a != b)) w := by
  simp only [binOp]
  simp [run_equal_held_int w a b hi hn hc, bne]

theorem run_equal_nil_held (ti tp : TypeId) (v : Value) (hi : P.underlying ti = some (.interface (P.methodsAt ti))) :
    (Op.equal ti .nilIface (.iface tp v)).run P w = .ok false w := by
  have h : ∀ d : Nat, (Op.equalIn (d + 1) ti .nilIface (.iface tp v)).run P w = .ok false w := fun d => by simp [Op.equalIn, run_underlying hi]
  simp [Op.equal, Op.maxDepth, h 9999]

@[go_sem] theorem run_eql_nil_held (ti tp : TypeId) (v : Value) (hi : P.underlying ti = some (.interface (P.methodsAt ti))) :
    (binOp .eql ti .nilIface (.iface tp v)).run P w = .ok (.bool false) w := by
  simp only [binOp]
  simp [run_equal_nil_held w ti tp v hi]

@[go_sem] theorem run_neq_nil_held (ti tp : TypeId) (v : Value) (hi : P.underlying ti = some (.interface (P.methodsAt ti))) :
    (binOp .neq ti .nilIface (.iface tp v)).run P w = .ok (.bool true) w := by
  simp only [binOp]
  simp [run_equal_nil_held w ti tp v hi]
end

/-! What is known of an argument: its numbers' bounds (g), its bulk (b), its weight (z). -/
def gI (k : IntKind) (n : Int) : Prop := (Lit.int k n).wf = true
def gS (s : ByteArray) : Prop := s.size ≤ 9223372036854775807
def gT {α : Type} (_ : α) : Prop := True
def gL {α : Type} (g : α → Prop) (l : List α) : Prop := l.length ≤ 9223372036854775807 ∧ ∀ x ∈ l, g x
def b1 {α : Type} (_ : α) : Nat := 1
def bS (s : ByteArray) : Nat := s.size + 1
def bL {α : Type} (b : α → Nat) (l : List α) : Nat := (l.map b).sum + 1
def zT {α : Type} (_ : α) : Prop := True
def zS (s : ByteArray) : Prop := s.size ≤ 140737488351232
def zL {α : Type} (B : Nat) (z : α → Prop) (l : List α) : Prop := l.length * B ≤ 140737488351232 ∧ ∀ x ∈ l, z x

end Go.Proofs.YtpjilbhhhpikaaaGreatDoorX
