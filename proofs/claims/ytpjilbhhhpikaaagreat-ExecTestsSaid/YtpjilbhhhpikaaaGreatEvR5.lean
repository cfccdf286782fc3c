/- Signs, conversions, cuts, lengths, built values, looked-up entries: reckoned by the kernel; and that the machine's operation comes to the same. No condition but what each theorem says. -/
import Derived.Test.YtpjilbhhhpikaaaGreatEvR4
namespace Go.Ev
set_option linter.unusedVariables false
set_option linter.unusedSimpArgs false
open Go
section
variable {P : Program} {ρ : Env} {h : H} {w : World}
def evUn (op : UnOp) : V → Option V
  | .bool b => match op with | .not => some (.bool (match b with | true => false | false => true)) | _ => none
  | .int k n => match op with
    | .neg => some (.int k (wrapF k (0 - n)))
    | .xor => match bitsF .xor k (match k.signed with | true => -1 | false => k.max) n with | some z => some (.int k z) | none => none
    | _ => none
  | _ => none
theorem evUn_sound (w : World) {op : UnOp} {x v : V} {c : Value} (hx : VRel ρ x c) (he : evUn op x = some v) : ∃ r, (Op.unary op c).run P w = .ok r w ∧ VRel ρ v r := by
  unfold evUn at he
  split at he
  · rename_i b
    cases hx
    split at he
    · injection he with he; subst he
      exact ⟨.bool (!b), rfl, by cases b <;> exact .bool _⟩
    · cases he
  · rename_i k n
    cases hx
    split at he
    · injection he with he; subst he
      exact ⟨.int k (k.wrap (0 - n)), rfl, by rw [wrapF_eq]; exact .int _ _⟩
    · split at he
      · rename_i z hz
        injection he with he; subst he
        have hz := bitsF_eq _ _ _ _ _ hz
        refine ⟨.int k z, ?_, .int _ _⟩
        simp only [bitsG, Option.some.injEq] at hz
        have : (match k.signed with | true => (-1 : Int) | false => k.max) = (if k.signed = true then -1 else k.max) := by cases k.signed <;> rfl
        rw [this] at hz
        simp only [Op.unary, Op.intBits, Sem.run_pure, hz]
      · cases he
    · cases he
  · cases he
noncomputable def bytesOf : List V → Option (List UInt8)
  | [] => some []
  | .int .u8 n :: l => match bytesOf l with | some r => some (UInt8.ofNat n.toNat :: r) | none => none
  | _ :: _ => none
noncomputable def evConvert (P : Program) (h : H) (src dst : TypeId) : V → Option V
  | .int _ n => match P.underlying dst with
    | some (.int k) => match P.underlying src with | some _ => some (.int k (wrapF k n)) | none => none
    | _ => none
  | .str s => match P.underlying src, P.underlying dst with
    | some .string, some .string => some (.str s)
    | _, _ => none
  | .snil => match P.underlying src, P.underlying dst with
    | some (.slice e), some .string => match P.underlying e with
      | some (.int .u8) => some (.str .empty)
      | _ => none
    | _, _ => none
  | .slice k gen off len _ => match P.underlying src, P.underlying dst with
    | some (.slice e), some .string => match P.underlying e with
      | some (.int .u8) => match h.t.get k with
        | some (.cells _ g _ _ n d t) => match Nat.beq g gen, Nat.ble (off + len) n with
          | true, true => match many d t off len with
            | some l => match bytesOf l with
              | some bs => some (.str ⟨⟨bs⟩⟩)
              | none => none
            | none => none
          | _, _ => none
        | _ => none
      | _ => none
    | _, _ => none
  | _ => none
theorem bytes_loop : ∀ (l : List V) (cs : List Value) (bs : List UInt8) (s : ByteArray), bytesOf l = some bs → cs.length = l.length → (∀ (i : Nat) (v : V) (c : Value), l[i]? = some v → cs[i]? = some c → VRel ρ v c) →
    (forIn (m := Sem) cs s fun c r => do
      let .int .u8 n := c | stuck "bytesToString: byte expected"
      pure (ForInStep.yield (r.push (UInt8.ofNat n.toNat)))).run P w = .ok ⟨⟨s.data.toList ++ bs⟩⟩ w
  | [], cs, bs, s, hb, hl, hr => by
    injection hb with hb; subst hb
    obtain rfl : cs = [] := List.eq_nil_of_length_eq_zero hl
    simp
  | v :: l, cs, bs, s, hb, hl, hr => by
    cases cs with
    | nil => cases hl
    | cons c cs =>
    unfold bytesOf at hb
    split at hb
    · rename_i heq; exact absurd heq (by simp)
    · rename_i n l' heq
      injection heq with h1 h2
      subst h1; subst h2
      split at hb
      · rename_i r hr'
        injection hb with hb; subst hb
        have hc := hr 0 _ _ rfl rfl
        cases hc
        have ih := bytes_loop l cs r (s.push (UInt8.ofNat n.toNat)) hr' (by simpa using hl) (fun i u x hu hx => hr (i + 1) u x hu hx)
        rw [List.forIn_cons, Sem.run_bind]
        simp only [Sem.run_pure, Result.andThen_ok, ih]
        congr 1
        simp [ByteArray.push]
      · cases hb
    · cases hb
theorem evConvert_sound (r : Rel ρ h w) {src dst : TypeId} {x v : V} {c : Value} (hx : VRel ρ x c) (he : evConvert P h src dst x = some v) : ∃ q, (convert src dst c).run P w = .ok q w ∧ VRel ρ v q := by
  unfold evConvert at he
  split at he
  · rename_i k n
    cases hx
    split at he
    · rename_i kk hd
      split at he
      · rename_i d hs
        injection he with he; subst he
        refine ⟨.int kk (kk.wrap n), ?_, by rw [wrapF_eq]; exact .int _ _⟩
        unfold convert
        rw [Sem.run_bind, run_und hs, Result.andThen_ok, Sem.run_bind, run_und hd, Result.andThen_ok]
        simp [Conv.intToInt]
      · cases he
    · cases he
  · cases hx
    split at he
    · rename_i hs hd
      injection he with he; subst he
      refine ⟨_, ?_, .str _⟩
      unfold convert
      rw [Sem.run_bind, run_und hs, Result.andThen_ok, Sem.run_bind, run_und hd, Result.andThen_ok]
      rfl
    · cases he
  · cases hx
    split at he
    · rename_i e hs hd
      split at he
      · rename_i hu
        injection he with he; subst he
        refine ⟨.string .empty, ?_, .str _⟩
        unfold convert
        rw [Sem.run_bind, run_und hs, Result.andThen_ok, Sem.run_bind, run_und hd, Result.andThen_ok]
        simp [run_und hu, Conv.bytesToString]
      · cases he
    · cases he
  · rename_i k gen off len cap
    split at he
    · rename_i e hs hd
      split at he
      · rename_i hu
        split at he
        · rename_i ty g esz ro n d t hk
          split at he
          · rename_i hg hle
            obtain rfl := Nat.eq_of_beq_eq_true hg
            have hle := Nat.le_of_ble_eq_true hle
            split at he
            · rename_i l hl
              split at he
              · rename_i bs hb
                injection he with he; subst he
                obtain ⟨e', m, hek, rfl, _, _, _⟩ := slice_now r hx hk
                obtain ⟨cs, h1, h2, h3⟩ := run_many (P := P) r hek hk hle hl
                refine ⟨.string ⟨⟨bs⟩⟩, ?_, .str _⟩
                unfold convert
                rw [Sem.run_bind, run_und hs, Result.andThen_ok, Sem.run_bind, run_und hd, Result.andThen_ok]
                have hloop := bytes_loop (P := P) (w := w) l cs bs ByteArray.empty hb h2 h3
                simp only [Sem.run_bind, run_und hu, Result.andThen_ok, Conv.bytesToString, h1, List.forIn_toArray]
                erw [hloop]
                simp
              · cases he
            · cases he
          · cases he
        · cases he
      · cases he
    · cases he
  · cases he
/-! ### lengths -/
noncomputable def evLen (P : Program) (h : H) (t : TypeId) (x : V) : Option V :=
  match P.underlying t, x with
  | some .string, .str s => some (.int .i64 (Int.ofNat s.data.toList.length))
  | some (.array n _), _ => some (.int .i64 (Int.ofNat n))
  | some (.slice _), .snil => some (.int .i64 0)
  | some (.slice _), .semp => some (.int .i64 0)
  | some (.slice _), .slice k gen _ len _ => match genIs h k gen with
    | true => some (.int .i64 (Int.ofNat len))
    | false => none
  | some (.map _ _), .mnil => some (.int .i64 0)
  | some (.map _ _), .map k => match h.t.get k with
    | some (.map es) => some (.int .i64 (Int.ofNat es.length))
    | _ => none
  | _, _ => none
theorem map_now (r : Rel ρ h w) {k : Nat} {c : Value} (hv : VRel ρ (.map k) c) {es : List (V × V)} (hk : h.t.get k = some (.map es)) :
    ∃ e es' clock, ρ k = some e ∧ e.gen = 0 ∧ e.ro = false ∧ c = .map (some e.b) ∧ w.heap[e.b]? = some (.map es' clock) ∧ MRel ρ es es'.toList ∧ MapOk es'.toList clock := by
  cases hv with
  | @map _ e he hg =>
    obtain ⟨o, ob, h1, h2, h3⟩ := r.obj k e he
    rw [hk] at h1; injection h1 with h1; subst h1
    obtain ⟨g1, g1', es', clock, g2, g3, g4⟩ := h3
    exact ⟨e, es', clock, he, g1, g1', rfl, g2 ▸ h2, g3, g4⟩
  | @mapOld _ e _ he hg =>
    obtain ⟨o, ob, h1, h2, h3⟩ := r.obj k e he
    rw [hk] at h1; injection h1 with h1; subst h1
    have := h3.1
    omega
theorem run_getMap (w : World) {b : Nat} {es : Array MapEntry} {clock : Nat} (hb : w.heap[b]? = some (.map es clock)) : (getObj b).run P w = .ok (.map es clock) w := by
  simp [getObj, Sem.run, hb]
theorem evLen_sound (r : Rel ρ h w) {t : TypeId} {x v : V} {c : Value} {ty : TypeId} {ts : Array TypeId} (ht : ts[0]? = some t) (hx : VRel ρ x c) (he : evLen P h t x = some v) : ∃ q, (Builtin.len_ ts ty #[c]).run P w = .ok q w ∧ VRel ρ v q := by
  unfold evLen at he
  have key : ∀ d q, P.underlying t = some d → (∀ f : TypeDesc → Sem Value, f d = Sem.pure q → True) → True := fun _ _ _ _ => trivial
  clear key
  split at he
  · rename_i s hu
    injection he with he; subst he
    cases hx
    exact ⟨goInt s.size, by simp [Builtin.len_, ht, run_und hu], .int _ _⟩
  · rename_i n e hu
    injection he with he; subst he
    exact ⟨goInt n, by simp [Builtin.len_, ht, run_und hu], .int _ _⟩
  · rename_i e hu
    injection he with he; subst he
    cases hx
    exact ⟨goInt 0, by simp [Builtin.len_, ht, run_und hu], .int _ _⟩
  · rename_i e hu
    injection he with he; subst he
    cases hx
    exact ⟨goInt 0, by simp [Builtin.len_, ht, run_und hu], .int _ _⟩
  · rename_i e k gen off len cap hu
    split at he
    · rename_i hg
      injection he with he; subst he
      obtain ⟨ty', esz, ro, len', d, t', hk⟩ := genIs_cells hg
      obtain ⟨e', m, hek, rfl, _, _, _⟩ := slice_now r hx hk
      exact ⟨goInt len, by simp [Builtin.len_, ht, run_und hu], .int _ _⟩
    · cases he
  · rename_i e1 e2 hu
    injection he with he; subst he
    cases hx
    exact ⟨goInt 0, by simp [Builtin.len_, ht, run_und hu], .int _ _⟩
  · rename_i e1 e2 k hu
    split at he
    · rename_i es hk
      injection he with he; subst he
      obtain ⟨e, es', clock, hek, _, _, rfl, hb, ⟨_, l, hp, hl, _⟩, _⟩ := map_now r hx hk
      refine ⟨goInt es'.size, by simp [Builtin.len_, ht, run_und hu, run_getMap w hb], ?_⟩
      have : es'.size = es.length := by rw [← Array.length_toList, ← hl]; exact hp.length_eq
      rw [this]
      exact .int _ _
    · cases he
  · cases he
/-! ### cuts -/
def boundOf (d : Nat) : Option V → Option Nat
  | none => some d
  | some v => natOf v
noncomputable def evSlice (P : Program) (h : H) (t : TypeId) (x : V) (lo hi mx : Option V) : Option V :=
  match P.underlying t, x with
  | some (.array n elem), .ptr k gen off => match boundOf 0 lo, boundOf n hi, boundOf n mx, siz P elem with
    | some l, some u, some m, some s => match Nat.ble l u, Nat.ble u m, Nat.ble m n with
      | true, true, true => some (.slice k gen (match Nat.beq m l with | true => off | false => Nat.add off (Nat.mul l s)) (Nat.sub u l) (some (Nat.sub m l)))
      | _, _, _ => none
    | _, _, _, _ => none
  | some (.slice elem), .slice k gen off len cap => match boundOf 0 lo, boundOf len hi, siz P elem with
    | some l, some u, some s => match h.t.get k with
      | some (.cells _ g esz _ _ _ _) => match Nat.beq g gen, Nat.ble l u, cap, mx with
        | true, true, some c, mx => match boundOf c mx with
          | some m => match Nat.ble u m, Nat.ble m c with
            | true, true => some (.slice k gen (match Nat.beq m l with | true => off | false => Nat.add off (Nat.mul l s)) (Nat.sub u l) (some (Nat.sub m l)))
            | _, _ => none
          | none => none
        | true, true, none, none => match Nat.ble u len, Nat.beq esz s, Nat.ble (l + 1) len, Nat.beq l 0 with
          | true, true, true, _ => some (.slice k gen (Nat.add off (Nat.mul l s)) (Nat.sub u l) none)
          | true, true, _, true => some (.slice k gen off u none)
          | true, _, false, _ => match Nat.beq l len with | true => some .semp | false => none
          | _, _, _, _ => none
        | true, true, none, some mv => match natOf mv with
          | some m => match Nat.ble u m, Nat.ble m len with
            | true, true => some (.slice k gen (match Nat.beq m l with | true => off | false => Nat.add off (Nat.mul l s)) (Nat.sub u l) (some (Nat.sub m l)))
            | _, _ => none
          | none => none
        | _, _, _, _ => none
      | _ => none
    | _, _, _ => none
  | some (.slice elem), .snil => match boundOf 0 lo, boundOf 0 hi, boundOf 0 mx, siz P elem with
    | some 0, some 0, some 0, some _ => some .snil
    | _, _, _, _ => none
  | _, _ => none
def ORelV (ρ : Env) : Option V → Option Value → Prop
  | none, none => True
  | some v, some c => VRel ρ v c
  | _, _ => False
theorem run_bound (w : World) {v : V} {c : Value} {n y : Nat} {code : BoundsCode} (hv : VRel ρ v c) (hn : natOf v = some n) (hy : n ≤ y) : (Instr.sliceBound c y code).run P w = .ok n w := by
  obtain ⟨k, rfl⟩ := natOf_rel hv hn
  have : (0 : Int) ≤ n ∧ (n : Int) ≤ y := by omega
  simp [Instr.sliceBound, asIntOf, hy]
theorem run_bounds (w : World) {lo hi mx : Option V} {lo' hi' mx' : Option Value} (h1 : ORelV ρ lo lo') (h2 : ORelV ρ hi hi') (h3 : ORelV ρ mx mx') {isS : Bool} {len cap l u m : Nat}
    (hl : boundOf 0 lo = some l) (hu : boundOf len hi = some u) (hm : boundOf cap mx = some m) (h4 : l ≤ u) (h5 : u ≤ m) (h6 : m ≤ cap) (h7 : mx ≠ none → hi ≠ none) :
    (Instr.sliceBounds isS len cap lo' hi' mx').run P w = .ok (l, u, m) w := by
  unfold Instr.sliceBounds
  cases mx with
  | none =>
    cases mx' with
    | some _ => exact h3.elim
    | none =>
    injection hm with hm; subst hm
    simp only [Sem.run_bind, Sem.run_pure, Result.andThen_ok]
    cases hi with
    | none =>
      cases hi' with
      | some _ => exact h2.elim
      | none =>
      injection hu with hu; subst hu
      simp only [Sem.run_bind, Sem.run_pure, Result.andThen_ok]
      cases lo with
      | none =>
        cases lo' with
        | some _ => exact h1.elim
        | none => injection hl with hl; subst hl; simp
      | some a =>
        cases lo' with
        | none => exact h1.elim
        | some a' => simp [run_bound w h1 hl h4]
    | some b =>
      cases hi' with
      | none => exact h2.elim
      | some b' =>
      simp only [Sem.run_bind, run_bound w h2 hu h5, Result.andThen_ok]
      cases lo with
      | none =>
        cases lo' with
        | some _ => exact h1.elim
        | none => injection hl with hl; subst hl; simp
      | some a =>
        cases lo' with
        | none => exact h1.elim
        | some a' => simp [run_bound w h1 hl h4]
  | some q =>
    cases mx' with
    | none => exact h3.elim
    | some q' =>
    simp only [Sem.run_bind, run_bound w h3 hm h6, Result.andThen_ok]
    cases hi with
    | none => exact absurd rfl (h7 (by simp))
    | some b =>
      cases hi' with
      | none => exact h2.elim
      | some b' =>
      simp only [Sem.run_bind, run_bound w h2 hu h5, Result.andThen_ok]
      cases lo with
      | none =>
        cases lo' with
        | some _ => exact h1.elim
        | none => injection hl with hl; subst hl; simp
      | some a =>
        cases lo' with
        | none => exact h1.elim
        | some a' => simp [run_bound w h1 hl h4]
theorem off_match (m l off s : Nat) : (match Nat.beq m l with | true => off | false => Nat.add off (Nat.mul l s)) = if m = l then off else off + l * s := by
  cases hb : Nat.beq m l with
  | true => rw [if_pos (Nat.eq_of_beq_eq_true hb)]
  | false =>
    rw [if_neg]
    · rfl
    · intro e; subst e; rw [Nat.beq_refl] at hb; cases hb
theorem evSlice_sound (r : Rel ρ h w) {t : TypeId} {x v : V} {c : Value} {lo hi mx : Option V} {lo' hi' mx' : Option Value} (h1 : ORelV ρ lo lo') (h2 : ORelV ρ hi hi') (h3 : ORelV ρ mx mx') (h7 : mx ≠ none → hi ≠ none)
    (hx : VRel ρ x c) (he : evSlice P h t x lo hi mx = some v) : ∃ q, (Instr.sliceAt t c lo' hi' mx').run P w = .ok q w ∧ VRel ρ v q := by
  unfold evSlice at he
  split at he
  · rename_i n elem k gen off hu
    split at he
    · rename_i l u m s hl hu' hm hs
      split at he
      · rename_i a1 a2 a3
        have a1 := Nat.le_of_ble_eq_true a1
        have a2 := Nat.le_of_ble_eq_true a2
        have a3 := Nat.le_of_ble_eq_true a3
        injection he with he; subst he
        obtain ⟨ad, rfl, hr⟩ := ptr_move (n := 0) hx
        refine ⟨.slice (some (if m = l then ad else ad.add (l * s))) (u - l) (m - l), ?_, ?_⟩
        · unfold Instr.sliceAt
          rw [Sem.run_bind, run_und hu, Result.andThen_ok]
          simp only [Instr.sureAddr, Sem.run_bind, Sem.run_pure, Result.andThen_ok, run_bounds w h1 h2 h3 hl hu' hm a1 a2 a3 h7, run_siz hs]
        · rw [off_match]
          cases hx with
          | @ptr _ _ _ e hek hg =>
            have : (if m = l then (⟨e.b, e.at_ + off, none⟩ : Addr) else (⟨e.b, e.at_ + off, none⟩ : Addr).add (l * s)) = ⟨e.b, e.at_ + (if m = l then off else off + l * s), none⟩ := by
              split
              · rfl
              · rw [addr_add, Nat.add_assoc]
            rw [this]
            exact .slice hek hg (fun x hx => by injection hx) (by show u - l ≤ m - l; omega) (fun hh => by cases hh)
          | ptrOld hek hg => exact .sliceOld hek hg
      · cases he
    · cases he
  · rename_i elem k gen off len cap hu
    split at he
    · rename_i l u s hl hu' hs
      split at he
      · rename_i ty g esz ro n d t' hk
        split at he
        · rename_i mx c' hg hlu
          obtain rfl := Nat.eq_of_beq_eq_true hg
          have hlu := Nat.le_of_ble_eq_true hlu
          split at he
          · rename_i m hm
            split at he
            · rename_i a2 a3
              have a2 := Nat.le_of_ble_eq_true a2
              have a3 := Nat.le_of_ble_eq_true a3
              injection he with he; subst he
              obtain ⟨e, cc, hek, rfl, hcap, hle, _⟩ := slice_now r hx hk
              obtain rfl := hcap _ rfl
              refine ⟨.slice (if m = l then some ⟨e.b, e.at_ + off, none⟩ else (some (⟨e.b, e.at_ + off, none⟩ : Addr)).map (·.add (l * s))) (u - l) (m - l), ?_, ?_⟩
              · unfold Instr.sliceAt
                rw [Sem.run_bind, run_und hu, Result.andThen_ok]
                simp only [Instr.slice, Sem.run_bind, run_und hu, Result.andThen_ok, run_bounds w h1 h2 h3 hl hu' hm hlu a2 a3 h7, run_siz hs, Sem.run_pure]
              · rw [off_match]
                have : (if m = l then some (⟨e.b, e.at_ + off, none⟩ : Addr) else (some (⟨e.b, e.at_ + off, none⟩ : Addr)).map (·.add (l * s))) = some ⟨e.b, e.at_ + (if m = l then off else off + l * s), none⟩ := by
                  split
                  · rfl
                  · rw [Option.map_some, addr_add, Nat.add_assoc]
                rw [this]
                exact .slice hek (r.cells hek hk).1 (fun x hx => by injection hx) (by show u - l ≤ m - l; omega) (fun hh => by cases hh)
            · cases he
          · cases he
        · rename_i hg hlu
          obtain rfl := Nat.eq_of_beq_eq_true hg
          have hlu := Nat.le_of_ble_eq_true hlu
          obtain ⟨e, cc, hek, rfl, _, hle, hroom⟩ := slice_now r hx hk
          have hm : boundOf cc none = some cc := rfl
          split at he
          · rename_i a1 a2 a3
            have a1 := Nat.le_of_ble_eq_true a1
            obtain rfl := Nat.eq_of_beq_eq_true a2
            have a3 := Nat.le_of_ble_eq_true a3
            injection he with he; subst he
            have hesz : e.esz = esz := (r.cells hek hk).2.1
            refine ⟨.slice (if cc = l then some ⟨e.b, e.at_ + off, none⟩ else (some (⟨e.b, e.at_ + off, none⟩ : Addr)).map (·.add (l * esz))) (u - l) (cc - l), ?_, ?_⟩
            · unfold Instr.sliceAt
              rw [Sem.run_bind, run_und hu, Result.andThen_ok]
              simp only [Instr.slice, Sem.run_bind, run_und hu, Result.andThen_ok, run_bounds w h1 h2 h3 hl hu' hm hlu (Nat.le_trans a1 hle) (Nat.le_refl _) h7, run_siz hs, Sem.run_pure]
            · rw [if_neg (by omega), Option.map_some, addr_add, Nat.add_assoc]
              refine .slice hek (r.cells hek hk).1 (fun x hx => by cases hx) (by show u - l ≤ cc - l; omega) (fun _ => ?_)
              have := hroom rfl
              rw [hesz] at this ⊢
              show off + l * esz + (cc - l) * esz ≤ e.room
              have hmul : l * esz + (cc - l) * esz = cc * esz := by rw [← Nat.add_mul]; congr 1; omega
              omega
          · rename_i a1 a2 a4 _
            have a1 := Nat.le_of_ble_eq_true a1
            obtain rfl := Nat.eq_of_beq_eq_true a4
            injection he with he; subst he
            refine ⟨.slice (if cc = 0 then some ⟨e.b, e.at_ + off, none⟩ else (some (⟨e.b, e.at_ + off, none⟩ : Addr)).map (·.add (0 * s))) (u - 0) (cc - 0), ?_, ?_⟩
            · unfold Instr.sliceAt
              rw [Sem.run_bind, run_und hu, Result.andThen_ok]
              simp only [Instr.slice, Sem.run_bind, run_und hu, Result.andThen_ok, run_bounds w h1 h2 h3 hl hu' hm hlu (Nat.le_trans a1 hle) (Nat.le_refl _) h7, run_siz hs, Sem.run_pure]
            · have : (if cc = 0 then some (⟨e.b, e.at_ + off, none⟩ : Addr) else (some (⟨e.b, e.at_ + off, none⟩ : Addr)).map (·.add (0 * s))) = some ⟨e.b, e.at_ + off, none⟩ := by
                split
                · rfl
                · rw [Option.map_some, addr_add, Nat.zero_mul, Nat.add_zero]
              rw [this]
              exact .slice hek (r.cells hek hk).1 (fun x hx => by cases hx) (by show u - 0 ≤ cc - 0; omega) (fun _ => hroom rfl)
          · have a1 : u ≤ len := Nat.le_of_ble_eq_true (by assumption)
            split at he
            · rename_i hll
              obtain rfl := Nat.eq_of_beq_eq_true hll
              injection he with he; subst he
              obtain rfl : u = l := by omega
              refine ⟨.slice (if cc = u then some ⟨e.b, e.at_ + off, none⟩ else (some (⟨e.b, e.at_ + off, none⟩ : Addr)).map (·.add (u * s))) (u - u) (cc - u), ?_, ?_⟩
              · unfold Instr.sliceAt
                rw [Sem.run_bind, run_und hu, Result.andThen_ok]
                simp only [Instr.slice, Sem.run_bind, run_und hu, Result.andThen_ok, run_bounds w h1 h2 h3 hl hu' hm hlu (Nat.le_trans a1 hle) (Nat.le_refl _) h7, run_siz hs, Sem.run_pure]
              · rw [Nat.sub_self]
                split <;> exact .semp
            · cases he
          · cases he
        · rename_i mv hg hlu
          obtain rfl := Nat.eq_of_beq_eq_true hg
          have hlu := Nat.le_of_ble_eq_true hlu
          obtain ⟨e, cc, hek, rfl, _, hle, hroom⟩ := slice_now r hx hk
          split at he
          · rename_i m hm
            have hm : boundOf cc (some mv) = some m := hm
            split at he
            · rename_i a2 a3
              have a2 := Nat.le_of_ble_eq_true a2
              have a3 := Nat.le_of_ble_eq_true a3
              injection he with he; subst he
              refine ⟨.slice (if m = l then some ⟨e.b, e.at_ + off, none⟩ else (some (⟨e.b, e.at_ + off, none⟩ : Addr)).map (·.add (l * s))) (u - l) (m - l), ?_, ?_⟩
              · unfold Instr.sliceAt
                rw [Sem.run_bind, run_und hu, Result.andThen_ok]
                simp only [Instr.slice, Sem.run_bind, run_und hu, Result.andThen_ok, run_bounds w h1 h2 h3 hl hu' hm hlu a2 (Nat.le_trans a3 hle) h7, run_siz hs, Sem.run_pure]
              · rw [off_match]
                have : (if m = l then some (⟨e.b, e.at_ + off, none⟩ : Addr) else (some (⟨e.b, e.at_ + off, none⟩ : Addr)).map (·.add (l * s))) = some ⟨e.b, e.at_ + (if m = l then off else off + l * s), none⟩ := by
                  split
                  · rfl
                  · rw [Option.map_some, addr_add, Nat.add_assoc]
                rw [this]
                exact .slice hek (r.cells hek hk).1 (fun x hx => by injection hx) (by show u - l ≤ m - l; omega) (fun hh => by cases hh)
            · cases he
          · cases he
        · cases he
      · cases he
    · cases he
  · rename_i elem hu
    split at he
    · rename_i s hl hu' hm hs
      injection he with he; subst he
      cases hx
      refine ⟨.slice none 0 0, ?_, .snil⟩
      unfold Instr.sliceAt
      rw [Sem.run_bind, run_und hu, Result.andThen_ok]
      simp only [Instr.slice, Sem.run_bind, run_und hu, Result.andThen_ok, run_bounds w h1 h2 h3 hl hu' hm (Nat.le_refl _) (Nat.le_refl _) (Nat.le_refl _) h7, run_siz hs, Sem.run_pure]
      simp
    · cases he
  · cases he
end
end Go.Ev
