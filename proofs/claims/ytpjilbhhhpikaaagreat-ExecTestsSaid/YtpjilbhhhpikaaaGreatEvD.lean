/- A region whose order is drawn, reckoned in the order in which it stands; and what is looked at, so that every order comes to the same. No condition but what each theorem says. -/
import Derived.Test.YtpjilbhhhpikaaaGreatEvS2
namespace Go.Ev
set_option linter.unusedVariables false
set_option linter.unusedSimpArgs false
open Go
def bit (b x : Nat) : Bool := Nat.testBit b x
def edgeBits (B : Nat → Nat) : List Edge → Nat
  | [] => 0
  | e :: r => match Region.binds .any e with
    | true => Nat.lor (Nat.lor (Nat.pow 2 e.on) (B e.on)) (edgeBits B r)
    | false => edgeBits B r
theorem edgeBits_spec {B : Nat → Nat} {x : Nat} : ∀ {l : List Edge}, bit (edgeBits B l) x = true → ∃ e, e ∈ l ∧ Region.binds .any e = true ∧ (e.on = x ∨ bit (B e.on) x = true)
  | [], hx => by simp [edgeBits, bit] at hx
  | e :: r, hx => by
    unfold edgeBits at hx
    cases hb : Region.binds .any e with
    | true =>
      rw [hb] at hx
      have hx : (((2 ^ e.on ||| B e.on) ||| edgeBits B r) : Nat).testBit x = true := hx
      rw [Nat.testBit_or, Nat.testBit_or, Nat.testBit_two_pow] at hx
      simp only [Bool.or_eq_true, decide_eq_true_eq] at hx
      rcases hx with (hx | hx) | hx
      · exact ⟨e, List.mem_cons_self .., hb, .inl hx⟩
      · exact ⟨e, List.mem_cons_self .., hb, .inr hx⟩
      · obtain ⟨e', h1, h2, h3⟩ := edgeBits_spec hx
        exact ⟨e', List.mem_cons_of_mem _ h1, h2, h3⟩
    | false =>
      rw [hb] at hx
      obtain ⟨e', h1, h2, h3⟩ := edgeBits_spec hx
      exact ⟨e', List.mem_cons_of_mem _ h1, h2, h3⟩
noncomputable def tabB (t : T Nat) (i : Nat) : Nat := match t.get i with | some b => b | none => 0
noncomputable def mkTab : List Oper → Nat → T Nat → T Nat
  | [], _, t => t
  | o :: r, i, t => mkTab r (i + 1) (t.set i (edgeBits (tabB t) o.after.toList))
noncomputable def mkW : List Oper → Nat → T Nat → Option (T Nat)
  | [], _, w => some w
  | o :: r, i, w => match o.dst with
    | none => mkW r (i + 1) w
    | some d => match w.get d with
      | some _ => none
      | none => mkW r (i + 1) (w.set d i)
noncomputable def tmpOk (B : Nat → Nat) (W : T Nat) (i t : Nat) : Bool :=
  match W.get t with
  | none => true
  | some j => match Nat.blt j i with
    | true => bit (B i) j
    | false => match Nat.blt i j with
      | true => bit (B j) i
      | false => false
noncomputable def opOk (ops : Array Oper) (B : Nat → Nat) (W : T Nat) (i : Nat) (o : Oper) : Bool :=
  o.after.toList.all (fun e => !Region.binds .any e || Nat.blt e.on i) && Nat.beq (B i) (edgeBits B o.after.toList) && (o.looksAt ops).all (tmpOk B W i)
noncomputable def allOk (ops : Array Oper) (B : Nat → Nat) (W : T Nat) : List Oper → Nat → Bool
  | [], _ => true
  | o :: r, i => opOk ops B W i o && allOk ops B W r (i + 1)
/-- What can be told of a region ahead of its run. -/
noncomputable def regInfo (ops : Array Oper) : Option (T Nat) :=
  match mkW ops.toList 0 .e with
  | some W => match allOk ops (tabB (mkTab ops.toList 0 .e)) W ops.toList 0 with
    | true => some (mkTab ops.toList 0 .e)
    | false => none
  | none => none
/-- A variable made ahead of everything. -/
def isF (o : Oper) : Bool := match o.op, o.after.toList, o.guard with | .alloc _, [], none => true | _, _, _ => false
noncomputable def runF (st : St) (N : Nat) (l : List Oper) (a : T V) (h : H) : Option (T V × H) :=
  match l.filter isF with
  | [] => some (a, h)
  | [o] => match st (evA a) h o with
    | some (v, h') => match putA N a o v with
      | some a' => some (a', h')
      | none => none
    | none => none
  | _ => none
/-- One operation's run: which, how many have changed memory ahead of it, the slots and the memory ahead of it, its kind (0: not carried out), its value, the memory behind it. -/
structure Rc where
  i : Nat
  k : Nat
  o : Oper
  a : T V
  h : H
  c : Nat
  v : V
  h' : H
noncomputable def consR' (rc : Rc) : Option (List Rc × T V × H) → Option (List Rc × T V × H)
  | some (l, a, h) => some (rc :: l, a, h)
  | none => none
noncomputable def trD (P : Program) (st : St) (N : Nat) (ops : Array Oper) : List Oper → Nat → Nat → T V → H → Option (List Rc × T V × H)
  | [], _, _, a, h => some ([], a, h)
  | o :: r, i, k, a, h => match isF o with
    | true => trD P st N ops r (i + 1) k a h
    | false => match want ops a o with
      | some false => match putA N a o (.tup []) with
        | some a' => consR' ⟨i, k, o, a, h, 0, .tup [], h⟩ (trD P st N ops r (i + 1) k a' h)
        | none => none
      | some true => match st (evA a) h o with
        | some (v, h') => match putA N a o v with
          | some a' => match cls P o.op with
            | 3 => consR' ⟨i, k, o, a, h, 3, v, h'⟩ (trD P st N ops r (i + 1) (k + 1) a' h')
            | c => consR' ⟨i, k, o, a, h, c, v, h⟩ (trD P st N ops r (i + 1) k a' h)
          | none => none
        | none => none
      | none => none
def eqV (x y : V) : Bool :=
  match x, y with
  | .bool a, .bool b => match a, b with | true, true => true | false, false => true | _, _ => false
  | .int k n, .int k' m => kindB k k' && eqI n m
  | .ptr k g o, .ptr k' g' o' => Nat.beq k k' && Nat.beq g g' && Nat.beq o o'
  | .slice k g o l none, .slice k' g' o' l' none => Nat.beq k k' && Nat.beq g g' && Nat.beq o o' && Nat.beq l l'
  | .slice k g o l (some c), .slice k' g' o' l' (some c') => Nat.beq k k' && Nat.beq g g' && Nat.beq o o' && Nat.beq l l' && Nat.beq c c'
  | .map k, .map k' => Nat.beq k k'
  | .pnil, .pnil => true
  | .snil, .snil => true
  | .mnil, .mnil => true
  | .fnil, .fnil => true
  | .inil, .inil => true
  | _, _ => false
noncomputable def eqCells (d : List (Nat × V)) (t : T V) (d' : List (Nat × V)) (t' : T V) : Nat → Bool
  | 0 => true
  | n + 1 => match rget d t n, rget d' t' n with
    | some x, some y => eqV x y && eqCells d t d' t' n
    | _, _ => false
noncomputable def eqW (x y : V) : Bool :=
  match x, y with
  | .agg n d t, .agg n' d' t' => Nat.beq n n' && eqCells d t d' t' n
  | .iface t x, .iface t' y => Nat.beq t t' && eqV x y
  | x, y => eqV x y
noncomputable def sameAt (st : St) (r : Rc) (h2 : H) : Bool :=
  match st (evA r.a) h2 r.o with
  | some (v2, _) => eqW v2 r.v
  | none => false
def chainOk (B : Nat → Nat) : List Rc → Bool
  | [] => true
  | e :: r => match r with
    | [] => true
    | e2 :: _ => bit (B e2.i) e.i && chainOk B r
noncomputable def pairOk (st : St) (B : Nat → Nat) (r e : Rc) : Bool :=
  match Nat.blt e.i r.i with
  | true => match bit (B r.i) e.i with
    | true => true
    | false => sameAt st r e.h
  | false => match bit (B e.i) r.i with
    | true => true
    | false => sameAt st r e.h'
def isE (r : Rc) : Bool := Nat.beq r.c 3
def isRd (r : Rc) : Bool := Nat.beq r.c 2
noncomputable def traceOk (st : St) (B : Nat → Nat) (l : List Rc) : Bool :=
  chainOk B (l.filter isE) && (l.filter isRd).all fun r => (l.filter isE).all fun e => pairOk st B r e
noncomputable def regD (P : Program) (st : St) (N : Nat) (ops : Array Oper) (a : T V) (h : H) : Option (T V × H) :=
  match regInfo ops with
  | some tab => match runF st N ops.toList a h with
    | some (a1, h1) => match trD P st N ops ops.toList 0 0 a1 h1 with
      | some (l, a2, h2) => match traceOk st (tabB tab) l with
        | true => some (a2, h2)
        | false => none
      | none => none
    | none => none
  | none => none
end Go.Ev
