/- What an operation that changes no memory comes to, reckoned by the kernel; and that the machine's operation comes to the same. No condition but what each theorem says. -/
import Derived.Test.YtpjilbhhhpikaaaGreatEvM
import GoSem.Step
namespace Go.Ev
set_option linter.unusedVariables false
set_option linter.unusedSimpArgs false
open Go
section
variable (P : Program)
def siz (t : TypeId) : Option Nat := match P.info? t with | some i => some i.size | none => none
def aggB (t : TypeId) : Option Bool := match P.underlying t with | some (.struct _) => some true | some (.array _ _) => some true | some _ => some false | none => none
end
section
variable {P : Program} {ρ : Env} {h : H} {w : World}
theorem run_und {t : TypeId} {d : TypeDesc} (hd : P.underlying t = some d) (w : World) : (underlying t).run P w = .ok d w := by simp [underlying, hd]
theorem run_siz {t n : Nat} (hd : siz P t = some n) (w : World) : (sizeOf t).run P w = .ok n w := by
  unfold siz at hd
  cases hi : P.info? t with
  | none => rw [hi] at hd; cases hd
  | some i => rw [hi] at hd; injection hd with hd; simp [sizeOf, typeInfo, hi, hd]
theorem run_agg {t : Nat} {b : Bool} (hd : aggB P t = some b) (w : World) : (isAgg t).run P w = .ok b w := by
  unfold aggB at hd
  cases hu : P.underlying t with
  | none => rw [hu] at hd; cases hd
  | some d => rw [hu] at hd; cases d <;> injection hd with hd <;> subst hd <;> simp [isAgg, underlying, hu]
/-! ### constants -/
def constS : Value → Option V
  | .bool b => some (.bool b)
  | .int k n => some (.int k n)
  | .string s => some (.str s)
  | .pointer none => some .pnil
  | .slice none 0 0 => some .snil
  | .map none => some .mnil
  | .nilFunc => some .fnil
  | .nilIface => some .inil
  | _ => none
theorem constS_rel {c : Value} {v : V} (hc : constS c = some v) : VRel ρ v c := by
  unfold constS at hc
  split at hc <;> first | (injection hc with hc; subst hc; constructor) | cases hc
def same1 : V → V → Bool
  | .int k n, .int k' n' => k == k' && n == n'
  | .bool a, .bool b => a == b
  | _, _ => false
theorem same1_eq {a b : V} (hs : same1 a b = true) : a = b := by
  unfold same1 at hs
  split at hs
  · simp at hs; rw [hs.1, hs.2]
  · simp at hs; rw [hs]
  · cases hs
def consR (v : V) : List (Nat × V) → List (Nat × V)
  | (n, u) :: r => match same1 v u with | true => (n + 1, u) :: r | false => (1, v) :: (n, u) :: r
  | [] => [(1, v)]
theorem dget_cons_hit (n : Nat) (v : V) (r : List (Nat × V)) {i : Nat} (hi : i < n) : dget ((n, v) :: r) i = some v := by
  have : Nat.ble n i = false := by
    cases hb : Nat.ble n i with
    | false => rfl
    | true => exact absurd (Nat.le_of_ble_eq_true hb) (by omega)
  simp only [dget, this, cond_false]
theorem dget_cons_miss (n : Nat) (v : V) (r : List (Nat × V)) {i : Nat} (hi : n ≤ i) : dget ((n, v) :: r) i = dget r (i - n) := by
  have : Nat.ble n i = true := Nat.ble_eq_true_of_le hi
  simp only [dget, this, cond_true]
  rfl
theorem consR_t {v u : V} {n : Nat} {r : List (Nat × V)} (hs : same1 v u = true) : consR v ((n, u) :: r) = (n + 1, u) :: r := by simp [consR, hs]
theorem consR_f {v u : V} {n : Nat} {r : List (Nat × V)} (hs : same1 v u = false) : consR v ((n, u) :: r) = (1, v) :: (n, u) :: r := by simp [consR, hs]
theorem dget_consR_0 (v : V) (d : List (Nat × V)) : dget (consR v d) 0 = some v := by
  cases d with
  | nil => rfl
  | cons p r =>
    obtain ⟨n, u⟩ := p
    cases hs : same1 v u with
    | true => rw [consR_t hs, dget_cons_hit _ _ _ (Nat.succ_pos n), same1_eq hs]
    | false => rw [consR_f hs, dget_cons_hit _ _ _ (Nat.succ_pos 0)]
theorem dget_consR_S (v : V) (d : List (Nat × V)) (i : Nat) : dget (consR v d) (i + 1) = dget d i := by
  cases d with
  | nil => simp [consR, dget, Nat.ble]
  | cons p r =>
    obtain ⟨n, u⟩ := p
    cases hs : same1 v u with
    | true =>
      rw [consR_t hs]
      by_cases hi : i < n
      · rw [dget_cons_hit _ _ _ hi, dget_cons_hit _ _ _ (by omega)]
      · rw [dget_cons_miss _ _ _ (by omega), dget_cons_miss _ _ _ (by omega), Nat.add_sub_add_right]
    | false =>
      rw [consR_f hs, dget_cons_miss _ _ _ (by omega)]
      rfl
/-- Constants one behind the other: how many of each. -/
def rle (d : List (Nat × V)) : List Value → Option (List (Nat × V))
  | [] => some d
  | c :: l => match constS c with | some v => rle (consR v d) l | none => none
theorem rle_spec : ∀ (l : List Value) (d r : List (Nat × V)) (m : Nat), rle d l = some r → (∀ i, (i < l.length → ∃ c v, l[l.length - 1 - i]? = some c ∧ constS c = some v ∧ dget r i = some v) ∧ (l.length ≤ i → dget r i = dget d (i - l.length)))
  | [], d, r, m, hr => by
    injection hr with hr; subst hr
    intro i
    exact ⟨fun hi => absurd hi (Nat.not_lt_zero _), fun _ => rfl⟩
  | c :: l, d, r, m, hr => by
    unfold rle at hr
    cases hc : constS c with
    | none => rw [hc] at hr; cases hr
    | some v =>
      rw [hc] at hr
      have ih := rle_spec l (consR v d) r m hr
      intro i
      simp only [List.length_cons]
      constructor
      · intro hi
        by_cases hl : i < l.length
        · obtain ⟨c', v', h1, h2, h3⟩ := (ih i).1 hl
          refine ⟨c', v', ?_, h2, h3⟩
          rw [show l.length + 1 - 1 - i = (l.length - 1 - i) + 1 by omega]
          exact h1
        · obtain rfl : i = l.length := by omega
          refine ⟨c, v, ?_, hc, ?_⟩
          · rw [show l.length + 1 - 1 - l.length = 0 by omega]; rfl
          · rw [(ih _).2 (Nat.le_refl _), Nat.sub_self]; exact dget_consR_0 v d
      · intro hi
        rw [(ih i).2 (by omega), show i - l.length = (i - (l.length + 1)) + 1 by omega]
        exact dget_consR_S v d _
def constV : Value → Option V
  | .agg cs => match rle [] cs.toList.reverse with | some d => some (.agg cs.size d .e) | none => none
  | .iface t v => match constS v with | some u => some (.iface t u) | none => none
  | .tuple cs => match cs.size with | 0 => some (.tup []) | _ => none
  | v => constS v
theorem constV_rel {c : Value} {v : V} (hc : constV c = some v) : VRel ρ v c := by
  unfold constV at hc
  split at hc
  · rename_i cs
    cases hr : rle [] cs.toList.reverse with
    | none => rw [hr] at hc; cases hc
    | some d =>
      rw [hr] at hc; injection hc with hc; subst hc
      have hs := rle_spec _ _ _ 0 hr
      simp only [List.length_reverse, Array.length_toList] at hs
      refine .agg rfl (fun i hi => ?_) (fun i v c hv hc => ?_)
      · obtain ⟨c, v, _, _, h3⟩ := (hs i).1 hi
        exact ⟨v, h3⟩
      · have hi : i < cs.size := (Array.getElem?_eq_some_iff.mp hc).1
        obtain ⟨c', v', h1, h2, h3⟩ := (hs i).1 hi
        have hv' : dget d i = some v := hv
        rw [hv'] at h3; injection h3 with h3; subst h3
        have : cs[i]? = some c' := by
          rw [← h1, List.getElem?_reverse (by simp; omega)]
          simp only [Array.length_toList, Array.getElem?_toList]
          congr 1
          omega
        rw [hc] at this; injection this with this; subst this
        exact constS_rel h2
  · rename_i t v
    cases hv : constS v with
    | none => rw [hv] at hc; cases hc
    | some u => rw [hv] at hc; injection hc with hc; subst hc; exact .iface (constS_rel hv)
  · rename_i cs
    cases hn : cs.size with
    | zero =>
      rw [hn] at hc; injection hc with hc; subst hc
      have : cs = #[] := Array.eq_empty_of_size_eq_zero hn
      subst this
      exact .tup rfl fun i v c hv _ => by simp at hv
    | succ n => rw [hn] at hc; cases hc
  · exact constS_rel hc
/-- A value's cells. -/
noncomputable def cellsV : V → Option (List V)
  | .agg n d t => many d t 0 n
  | .tup _ => none
  | v => some [v]
theorem cellsV_rel {v : V} {c : Value} (r : VRel ρ v c) {l : List V} (hl : cellsV v = some l) : c.cells.size = l.length ∧ ∀ (i : Nat) (u : V) (x : Value), l[i]? = some u → c.cells[i]? = some x → VRel ρ u x := by
  cases r with
  | @agg n d t cs hs hd hh =>
    obtain ⟨h1, h2⟩ := many_spec d t n 0 l hl
    refine ⟨hs.trans h1.symm, fun i u x hu hx => hh i u x ?_ hx⟩
    rw [← Nat.zero_add i]; exact h2 i u hu
  | tup hs hh => cases hl
  | _ =>
    injection hl with hl; subst hl
    refine ⟨rfl, fun i u x hu hx => ?_⟩
    cases i with
    | zero =>
      simp [Value.cells] at hu hx
      subst hu; subst hx
      constructor <;> assumption
    | succ i => simp at hu
end
end Go.Ev
