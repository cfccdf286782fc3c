/- law20's two memories, without bytes; and that the linker's page can't be laid into the first a second time. No condition but what each theorem says. -/
import Derived.Test.YtpjilbhhhpikaaaGreatDoorEvU
namespace Go.Ev
set_option linter.unusedVariables false
set_option linter.unusedSimpArgs false
open Go Go.Proofs Go.RowKit
noncomputable section
def runH (f : FuncId) (args : List V) (h : H) : Option (V × H) := callV Tryz.prog ov1 (evC Tryz.prog ov1 (regD Tryz.prog) 100000) f args h
end
def spotIs (o3 : Nat) (len : Nat) : Option V → Option V → Bool
  | some (.int .u64 (.ofNat a)), some (.iface tc (.int .i64 (.ofNat c))) => Nat.beq a 1879048192 && Nat.beq tc 45 && Nat.beq c 8 && Nat.ble (o3 + 2) len
  | _, _ => false
noncomputable def chkSpot (k3 g3 o3 : Nat) (h : H) : Bool := match h.t.get k3 with
  | some (.cells ty g esz ro len d t) => Nat.beq g g3 && spotIs o3 len (rget d t o3) (rget d t (o3 + 1))
  | _ => false
noncomputable def chkPage : Option (V × H) → Bool
  | some (.iface t (.ptr k3 g3 o3), h) => Nat.beq t 71 && chkSpot k3 g3 o3 h
  | _ => false
noncomputable def chkBoth : Option (V × H) → Bool
  | some (.tup [.ptr k g o, .ptr _ _ _], h) => chkPage (runH 6 [.ptr k g o] h)
  | _ => false
set_option maxRecDepth 1000000 in
set_option maxHeartbeats 0 in
theorem both20 : chkBoth (runH 5 [.snil, .snil] ⟨0, .e⟩) = true := by decide +kernel
/-- The linker's page can't be laid into the memory at a: not now, and not later, as long as its blocks (from s0 to s1) stand. -/
def PageIs (s0 s1 : Nat) (a : Addr) (w : World) : Prop := ∀ w2, Below s1 w w2 → Calls Tryz.prog 6 #[.pointer (some a)] w2 fun e w3 => ∃ b o, e = .returned (.iface 71 (.pointer (some ⟨b, o, none⟩))) ∧
  w3.cell? ⟨b, o, none⟩ = some (.int .u64 1879048192) ∧ w3.cell? ⟨b, o + 1, none⟩ = some (.iface 45 (.int .i64 8)) ∧
  w3.os = w2.os ∧ w3.tape = w2.tape ∧ w3.output = w2.output ∧ w2.heap.size ≤ w3.heap.size ∧ ∀ j, j < w2.heap.size → (j < s0 ∨ s1 ≤ j) → w3.heap[j]? = w2.heap[j]?
theorem spotIs_spec {o3 len : Nat} {x y : Option V} (h : spotIs o3 len x y = true) : x = some (.int .u64 1879048192) ∧ y = some (.iface 45 (.int .i64 8)) ∧ o3 + 2 ≤ len := by
  unfold spotIs at h
  split at h
  · rename_i a tc c
    simp only [Bool.and_eq_true] at h
    obtain ⟨⟨⟨h1, h2⟩, h3⟩, h4⟩ := h
    rw [Nat.eq_of_beq_eq_true h1, Nat.eq_of_beq_eq_true h2, Nat.eq_of_beq_eq_true h3]
    exact ⟨rfl, rfl, Nat.le_of_ble_eq_true h4⟩
  · cases h
theorem ptr_some {ρ : Env} {k g o : Nat} {c : Value} (hc : VRel ρ (.ptr k g o) c) : ∃ a, c = .pointer (some a) := by
  cases hc with
  | ptr _ _ => exact ⟨_, rfl⟩
  | ptrOld _ _ => exact ⟨_, rfl⟩
theorem page_is {ρ : Env} {k g o : Nat} {a : Addr} {h : H} {w : World} {s0 : Nat} (r : Rel ρ h w) (hs : ∀ k e, ρ k = some e → s0 ≤ e.b) (hv : VRel ρ (.ptr k g o) (.pointer (some a))) (hc : chkPage (runH 6 [.ptr k g o] h) = true) : PageIs s0 w.heap.size a w := by
  intro w2 hb
  generalize hr : runH 6 [.ptr k g o] h = x at hc
  unfold chkPage at hc
  split at hc
  · rename_i t k3 g3 o3 h'
    simp only [Bool.and_eq_true] at hc
    obtain ⟨ht, hc⟩ := hc
    obtain rfl := Nat.eq_of_beq_eq_true ht
    have r2 : Rel ρ h w2 := ⟨fun k e he => by obtain ⟨o, ob, h1, h2, h3⟩ := r.obj k e he; exact ⟨o, ob, h1, (hb.block _ (r.b_lt he)).trans h2, h3⟩, r.inj, r.lt⟩
    refine (callV_ok ov1_ok (evC_ok entered ov1_ok (regD_ok mixedOrd) ov1_pure 100000).1 6 [.ptr k g o] h _ h' hr ρ w2 #[.pointer (some a)] r2 ⟨hv, trivial⟩).mono ?_
    rintro e w3 ⟨q, ρ', rfl, s, hq⟩
    unfold chkSpot at hc
    split at hc
    · rename_i ty g' esz ro len d t' hk
      simp only [Bool.and_eq_true] at hc
      obtain ⟨hg, hc⟩ := hc
      obtain rfl := Nat.eq_of_beq_eq_true hg
      obtain ⟨c1, c2, c3⟩ := spotIs_spec hc
      cases hq with
      | iface hp =>
        obtain ⟨e, he, rfl⟩ := ptr_now s.rel hp hk
        obtain ⟨v1, p1, p2⟩ := s.rel.cell he hk (i := o3) (by omega) c1
        obtain ⟨v2, q1, q2⟩ := s.rel.cell he hk (i := o3 + 1) (by omega) c2
        refine ⟨e.b, e.at_ + o3, rfl, ?_, ?_, s.os, s.tape, s.output, s.size, fun j hj hn => s.frame j hj fun k e he hbj => ?_⟩
        · rw [p1]; cases p2; rfl
        · rw [Nat.add_assoc, q1]; cases q2 with
          | iface h5 => cases h5; rfl
        · have h1 := hs k e he
          have h2 := r.b_lt he
          omega
    · cases hc
  · cases hc
theorem both_any {f : FuncId} (h : chkBoth (runH f [.snil, .snil] ⟨0, .e⟩) = true) (w : World) : Calls Tryz.prog f #[.slice none 0 0, .slice none 0 0] w fun e w' => ∃ a b, e = .returned (.tuple #[.pointer (some a), .pointer (some b)]) ∧ Below w.heap.size w w' ∧ PageIs w.heap.size w'.heap.size a w' := by
  generalize hr : runH f [.snil, .snil] ⟨0, .e⟩ = x at h
  unfold chkBoth at h
  split at h
  · rename_i k g o k2 g2 o2 h'
    refine (callV_ok ov1_ok (evC_ok entered ov1_ok (regD_ok mixedOrd) ov1_pure 100000).1 f _ ⟨0, .e⟩ _ h' hr (fun _ => none) w #[.slice none 0 0, .slice none 0 0] ⟨(fun _ _ h => by cases h), (fun _ _ _ _ h => by cases h), (fun _ _ h => by cases h)⟩ ⟨.snil, .snil, trivial⟩).mono ?_
    rintro e w' ⟨q, ρ', rfl, s, hq⟩
    cases hq with
    | @tup l cs hs hh =>
      have hs : cs.size = 2 := hs
      have v0 := hh 0 _ cs[0] rfl (by simp [hs])
      have v1 := hh 1 _ cs[1] rfl (by simp [hs])
      obtain ⟨a, ha⟩ := ptr_some v0
      obtain ⟨b, hb⟩ := ptr_some v1
      rw [ha] at v0
      refine ⟨a, b, ?_, ⟨s.os, s.tape, s.output, s.size, fun b hb => s.frame b hb (fun _ _ h => by cases h)⟩, page_is s.rel (fun k e he => ?_) v0 h⟩
      · have : cs = #[cs[0], cs[1]] := by
          apply Array.ext (by simp [hs])
          intro i h1 h2
          have : i = 0 ∨ i = 1 := by omega
          rcases this with rfl | rfl <;> rfl
        rw [this, ha, hb]
      · rcases s.ext.new k e he with ⟨e0, h0, _⟩ | ⟨_, _, h1⟩
        · cases h0
        · exact h1
  · cases h
theorem both_page (w : World) : Calls Tryz.prog 5 #[.slice none 0 0, .slice none 0 0] w fun e w' => ∃ a b, e = .returned (.tuple #[.pointer (some a), .pointer (some b)]) ∧ Below w.heap.size w w' ∧ PageIs w.heap.size w'.heap.size a w' := both_any both20 w
end Go.Ev
