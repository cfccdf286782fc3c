/- Comparisons, conversions, cuts, lengths, looked-up entries: reckoned by the kernel; and that the machine's operation comes to the same. No condition but what each theorem says. -/
import Derived.Test.YtpjilbhhhpikaaaGreatEvR3
import Derived.Laws.Strings
namespace Go.Ev
set_option linter.unusedVariables false
set_option linter.unusedSimpArgs false
open Go
section
variable {P : Program} {ρ : Env} {h : H} {w : World}
/-! ### equality -/
def eqL : List UInt8 → List UInt8 → Bool
  | [], [] => true
  | a :: x, b :: y => match Nat.beq a.toNat b.toNat with | true => eqL x y | false => false
  | _, _ => false
theorem eqL_eq : ∀ x y : List UInt8, eqL x y = (x == y)
  | [], [] => rfl
  | [], _ :: _ => rfl
  | _ :: _, [] => rfl
  | a :: x, b :: y => by
    unfold eqL
    rw [List.cons_beq_cons, ← eqL_eq x y]
    cases hb : Nat.beq a.toNat b.toNat with
    | true =>
      have : a = b := UInt8.toNat_inj.mp (Nat.eq_of_beq_eq_true hb)
      subst this
      simp
    | false =>
      have : a ≠ b := fun e => by subst e; rw [Nat.beq_refl] at hb; cases hb
      simp [this]
def eqS (a b : ByteArray) : Bool := eqL a.data.toList b.data.toList
theorem eqS_eq (a b : ByteArray) : eqS a b = (a.toList == b.toList) := by
  unfold eqS
  rw [eqL_eq, ByteArray.toList_eq, ByteArray.toList_eq]
def evEq1 (P : Program) (t : TypeId) (x y : V) : Option Bool :=
  match x, y with
  | .int k a, .int k' b => match P.underlying t, kindB k k' with
    | some (.int _), true => some (eqI a b)
    | _, _ => none
  | _, _ => none
/-- Are two values alike? c: one of them is a constant. -/
noncomputable def evEq (P : Program) (h : H) (t : TypeId) (c : Bool) (x y : V) : Option Bool :=
  match x, y with
  | .bool a, .bool b => match P.underlying t with
    | some .bool => match a, b with
      | true, b => some b
      | false, b => some (!b)
    | _ => none
  | .str a, .str b => some (eqS a b)
  | .pnil, .pnil => match P.underlying t with | some (.pointer _) => some true | _ => none
  | .pnil, .ptr _ _ _ => match P.underlying t with | some (.pointer _) => some false | _ => none
  | .ptr _ _ _, .pnil => match P.underlying t with | some (.pointer _) => some false | _ => none
  | .snil, .snil => match P.underlying t with | some (.slice _) => some true | _ => none
  | .snil, .slice _ _ _ _ _ => match P.underlying t with | some (.slice _) => some false | _ => none
  | .slice _ _ _ _ _, .snil => match P.underlying t with | some (.slice _) => some false | _ => none
  | .snil, .semp => match P.underlying t with | some (.slice _) => some false | _ => none
  | .semp, .snil => match P.underlying t with | some (.slice _) => some false | _ => none
  | .mnil, .mnil => match P.underlying t with | some (.map _ _) => some true | _ => none
  | .map _, .mnil => match P.underlying t with | some (.map _ _) => some false | _ => none
  | .inil, .inil => match P.underlying t, c with | some (.interface _), true => some true | _, _ => none
  | .inil, .iface _ _ => match P.underlying t with | some (.interface _) => some false | _ => none
  | .iface _ _, .inil => match P.underlying t with | some (.interface _) => some false | _ => none
  | .iface t1 a, .iface t2 b => match P.underlying t, Nat.beq t1 t2 with
    | some (.interface _), false => some false
    | some (.interface _), true => match P.info? t1 with
      | some i => match i.comparable with
        | true => evEq1 P t1 a b
        | false => none
      | none => none
    | _, _ => none
  | _, _ => none
def isC : Operand → Bool
  | .const _ => true
  | _ => false
def plainV : Value → Bool
  | .agg _ => false
  | .nilIface => false
  | _ => true
theorem eqGuard_plain (w : World) {op : BinOp} {t : TypeId} {x y : Operand} {a b : Value} (hp : (plainV a || plainV b) = true) : (eqGuard op t x y a b).run P w = .ok () w := by
  unfold eqGuard
  cases a <;> cases b <;> first
    | (simp [plainV] at hp; done)
    | (cases op <;> rfl)
def resOp (op : BinOp) (r : Bool) : Bool := match op with | .eql => r | _ => !r
theorem eqGuard_const (w : World) {op : BinOp} {t : TypeId} {x y : Operand} (hc : (isC x || isC y) = true) : (eqGuard op t x y .nilIface .nilIface).run P w = .ok () w := by
  unfold eqGuard
  cases x <;> cases y <;> first | (simp [isC] at hc; done) | (cases op <;> rfl)
def numV : Value → Bool
  | .int _ _ => true
  | .string _ => true
  | .float _ _ => true
  | .complex _ _ _ => true
  | _ => false
theorem eq_run (w : World) {op : BinOp} (hop : op = .eql ∨ op = .neq) {t : TypeId} {x y : Operand} {a b : Value} {r : Bool} (hg : (eqGuard op t x y a b).run P w = .ok () w)
    (ha : numV a = false) (he : ∀ d, (Op.equalIn (d + 2) t a b).run P w = .ok r w) :
    (do eqGuard op t x y a b; binOp op t a b).run P w = .ok (.bool (resOp op r)) w := by
  have he : (Op.equal t a b).run P w = .ok r w := he 9998
  rw [Sem.run_bind, hg, Result.andThen_ok]
  rcases hop with rfl | rfl
  · cases a <;> first | (simp [numV] at ha; done) | simp [binOp, he, resOp]
  · cases a <;> first | (simp [numV] at ha; done) | simp [binOp, he, resOp]
theorem evEq1_sound (w : World) {t : TypeId} {x y : V} {a b : Value} {r : Bool} (d : Nat) (hx : VRel ρ x a) (hy : VRel ρ y b) (he : evEq1 P t x y = some r) : (Op.equalIn (d + 1) t a b).run P w = .ok r w := by
  unfold evEq1 at he
  split at he
  · split at he
    · rename_i k n k' n' dd hu hk
      injection he with he; subst he
      cases hx; cases hy
      obtain rfl := kindB_eq hk
      simp [Op.equalIn, run_und hu, eqI_eq]
    · cases he
  · cases he
set_option maxHeartbeats 1000000 in
theorem evEq_sound (w : World) {op : BinOp} (hop : op = .eql ∨ op = .neq) {t : TypeId} {x y : V} {xo yo : Operand} {a b : Value} {r : Bool} (hx : VRel ρ x a) (hy : VRel ρ y b) (he : evEq P h t (isC xo || isC yo) x y = some r) :
    (do eqGuard op t xo yo a b; binOp op t a b).run P w = .ok (.bool (resOp op r)) w := by
  unfold evEq at he
  split at he
  · rename_i p q
    cases hx; cases hy
    split at he
    · rename_i hu
      refine eq_run w hop (eqGuard_plain w rfl) rfl ?_
      intro d
      have : (Op.equalIn (d + 2) t (.bool p) (.bool q)).run P w = .ok (p == q) w := by unfold Op.equalIn; rw [Sem.run_bind, run_und hu]; rfl
      rw [this]
      split at he <;> (injection he with he; subst he; cases q <;> rfl)
    · cases he
  · rename_i p q
    injection he with he; subst he
    cases hx; cases hy
    rw [Sem.run_bind, eqGuard_plain w rfl, Result.andThen_ok, eqS_eq]
    rcases hop with rfl | rfl <;> rfl
  · cases hx; cases hy
    split at he
    · rename_i e hu
      injection he with he; subst he
      exact eq_run w hop (eqGuard_plain w rfl) rfl (fun d => by unfold Op.equalIn; rw [Sem.run_bind, run_und hu]; rfl)
    · cases he
  · cases hx
    split at he
    · rename_i e hu
      injection he with he; subst he
      obtain ⟨ad, rfl⟩ : ∃ ad, b = .pointer (some ad) := by cases hy <;> exact ⟨_, rfl⟩
      exact eq_run w hop (eqGuard_plain w rfl) rfl (fun d => by unfold Op.equalIn; rw [Sem.run_bind, run_und hu]; rfl)
    · cases he
  · cases hy
    split at he
    · rename_i e hu
      injection he with he; subst he
      obtain ⟨ad, rfl⟩ : ∃ ad, a = .pointer (some ad) := by cases hx <;> exact ⟨_, rfl⟩
      exact eq_run w hop (eqGuard_plain w rfl) rfl (fun d => by unfold Op.equalIn; rw [Sem.run_bind, run_und hu]; rfl)
    · cases he
  · cases hx; cases hy
    split at he
    · rename_i e hu
      injection he with he; subst he
      exact eq_run w hop (eqGuard_plain w rfl) rfl (fun d => by unfold Op.equalIn; rw [Sem.run_bind, run_und hu]; rfl)
    · cases he
  · cases hx
    split at he
    · rename_i e hu
      injection he with he; subst he
      obtain ⟨ad, n, m, rfl⟩ : ∃ ad n m, b = .slice (some ad) n m := by cases hy <;> exact ⟨_, _, _, rfl⟩
      exact eq_run w hop (eqGuard_plain w rfl) rfl (fun d => by unfold Op.equalIn; rw [Sem.run_bind, run_und hu]; rfl)
    · cases he
  · cases hy
    split at he
    · rename_i e hu
      injection he with he; subst he
      obtain ⟨ad, n, m, rfl⟩ : ∃ ad n m, a = .slice (some ad) n m := by cases hx <;> exact ⟨_, _, _, rfl⟩
      exact eq_run w hop (eqGuard_plain w rfl) rfl (fun d => by unfold Op.equalIn; rw [Sem.run_bind, run_und hu]; rfl)
    · cases he
  · cases hx
    split at he
    · rename_i e hu
      injection he with he; subst he
      obtain ⟨ad, n, m, rfl⟩ : ∃ ad n m, b = .slice (some ad) n m := by cases hy <;> exact ⟨_, _, _, rfl⟩
      exact eq_run w hop (eqGuard_plain w rfl) rfl (fun d => by unfold Op.equalIn; rw [Sem.run_bind, run_und hu]; rfl)
    · cases he
  · cases hy
    split at he
    · rename_i e hu
      injection he with he; subst he
      obtain ⟨ad, n, m, rfl⟩ : ∃ ad n m, a = .slice (some ad) n m := by cases hx <;> exact ⟨_, _, _, rfl⟩
      exact eq_run w hop (eqGuard_plain w rfl) rfl (fun d => by unfold Op.equalIn; rw [Sem.run_bind, run_und hu]; rfl)
    · cases he
  · cases hx; cases hy
    split at he
    · rename_i e1 e2 hu
      injection he with he; subst he
      exact eq_run w hop (eqGuard_plain w rfl) rfl (fun d => by unfold Op.equalIn; rw [Sem.run_bind, run_und hu]; rfl)
    · cases he
  · cases hy
    split at he
    · rename_i e1 e2 hu
      injection he with he; subst he
      obtain ⟨ad, rfl⟩ : ∃ ad, a = .map (some ad) := by cases hx <;> exact ⟨_, rfl⟩
      exact eq_run w hop (eqGuard_plain w rfl) rfl (fun d => by unfold Op.equalIn; rw [Sem.run_bind, run_und hu]; rfl)
    · cases he
  · cases hx; cases hy
    split at he
    · rename_i ms _ hu hc
      injection he with he; subst he
      exact eq_run w hop (eqGuard_const w hc) rfl (fun d => by unfold Op.equalIn; rw [Sem.run_bind, run_und hu]; rfl)
    · cases he
  · cases hx
    split at he
    · rename_i ms hu
      injection he with he; subst he
      cases hy
      exact eq_run w hop (eqGuard_plain w rfl) rfl (fun d => by unfold Op.equalIn; rw [Sem.run_bind, run_und hu]; rfl)
    · cases he
  · cases hy
    split at he
    · rename_i ms hu
      injection he with he; subst he
      cases hx
      exact eq_run w hop (eqGuard_plain w rfl) rfl (fun d => by unfold Op.equalIn; rw [Sem.run_bind, run_und hu]; rfl)
    · cases he
  · rename_i t1 p t2 q
    cases hx with
    | iface hx =>
    cases hy with
    | iface hy =>
    split at he
    · rename_i ms hu ht
      injection he with he; subst he
      have ht : t1 ≠ t2 := fun e => by subst e; rw [Nat.beq_refl] at ht; cases ht
      exact eq_run w hop (eqGuard_plain w rfl) rfl (fun d => by unfold Op.equalIn; rw [Sem.run_bind, run_und hu]; simp [ht])
    · rename_i ms hu ht
      obtain rfl := Nat.eq_of_beq_eq_true ht
      split at he
      · rename_i i hi
        split at he
        · rename_i hcmp
          refine eq_run w hop (eqGuard_plain w rfl) rfl ?_
          intro d
          have h1 := evEq1_sound w d hx hy he
          rw [show d + 2 = (d + 1) + 1 from rfl]
          unfold Op.equalIn
          rw [Sem.run_bind, run_und hu]
          simp [typeInfo, hi, hcmp, h1]
        · cases he
      · cases he
    · cases he
  · cases he
end
end Go.Ev
