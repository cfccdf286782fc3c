/- The row of the law shacklelaw18.TlsSteps (the first form): for every input the call returns true and every argument reads afterwards as it read before; out of its pure statement and the printed walk; no condition. -/
import Derived.Test.YtpjilbhhhpikaaaRows
import Derived.Test.YtpjilbhhhpikaaaXOpen
import Derived.Test.YtpjilbhhhpikaaaPTlsStepsx2
import Derived.Test.YtpjilbhhhpikaaaPureTlsSteps
import Derived.WalkKit
import Derived.ProofKit
import Derived.OpenShut
import Derived.ShutString
import Derived.ChangeOld
import Derived.Below
import Derived.SizedLaws
import Derived.JoinedCond
import Derived.Deep.CondSized
namespace Go.Proofs.Ytpjilbhhhpikaaa.tlsSteps
open Go.ChangeShapes Go.WideShapes Go.ChangeAt Go.RowKit
open Go.ChangeMaps (open_string shut_string)
open Go.Proofs.Ytpjilbhhhpikaaa.PTlsSteps Go.Proofs.YtpjilbhhhpikaaaW.PrintWords Go.Proofs.YtpjilbhhhpikaaaX
set_option linter.unusedVariables false
theorem own : ownKnob Try.prog.godebug = none := by kernel_rfl
theorem laidOut : laidOutB Try.prog = true := by kernel_rfl
set_option maxRecDepth 100000 in
theorem fits37 : Fits Try.prog 37 k37 g37 b37 z_37 := by
  have h := Fits.struct (P := Try.prog) (T := 37) Try.underlying37 rfl (by kernel_rfl) (FitsF.cons (Fits.slice (B := 1) (Fits.int .u8 Try.underlying5 (by kernel_rfl)) Try.underlying35 (by kernel_rfl) (by kernel_rfl)) rfl (FitsF.cons (Fits.int .u64 Try.underlying25 (by kernel_rfl)) rfl (FitsF.last (Fits.int .u64 Try.underlying25 (by kernel_rfl)) rfl) rfl) rfl) (fun x : S37 => (x.f0, x.f1, x.f2)) (fun t => ⟨t.1, t.2.1, t.2.2⟩) (fun _ => rfl)
  exact h
set_option maxHeartbeats 2000000 in
set_option maxRecDepth 100000 in
theorem lifted (os : Os) (started : os.Started) (H : Type) (enc : TypeId × Value → H) :
    ReturnsInHanded {} Try.checked os 4 .any (Rows.tlsStepsSpec.pre6 enc Try.prog Try.f4 Rows.tlsStepsRow.domain false) (Rows.tlsStepsSpec.post enc Try.prog Try.f4 false true false false) := by
  refine returnsInHanded_of_change_sized (C := Try.checked) own started (by kernel_rfl) Try.func4
    (ChangeSpec.witness6 (enc := enc) (C := Try.checked) false ⟨#[], #[.slice none 0 0, .int .i64 0], []⟩ 8 (by kernel_rfl) (by kernel_rfl) (by kernel_rfl) (by kernel_rfl)) ?_
  intro W base args ds gs before hval0 hW hcnd hsz0 _
  have hsz : (DataW.weightsEach Try.prog (Try.f4.params.toList ++ Rows.tlsStepsSpec.plain.varTypes Try.prog) (ds ++ gs)).all (· ≤ reachBytes) = true := hsz0
  have hval : ∀ (j : Nat) t v, Try.f4.params[j]? = some t → args[j]? = some v → Value.okWide Try.prog W .any base t v := hval0
  have hW' := hW
  obtain ⟨p, q, hA0, hV, rfl, hfz, hnd⟩ := hW
  have hA : DataW.TrodAll enc Try.prog W 0 (fun _ => true) true Try.f4.params.toList args.toList ds p := hA0
  rw [Try.params4] at hA hval hsz
  obtain ⟨v0, vs0, d0, ds0, p0, q0, hargs, rfl, rfl, h0, r0⟩ := trodAll_cons hA
  obtain ⟨v1, vs1, d1, ds1, p1, q1, rfl, rfl, rfl, h1, r1⟩ := trodAll_cons r0
  obtain ⟨rfl, rfl, rfl⟩ := trodAll_nil r1
  obtain rfl : args = #[v0, v1] := by cases args; simp_all
  obtain ⟨rfl, rfl⟩ := trodVars_none hV
  have k0 := h0
  have lt0 : ∀ x ∈ p0, x.block < W.heap.size := by obtain ⟨m, hm⟩ := k0; exact DataW.trod_lt m _ _ _ hm
  obtain ⟨fuel0, hf0⟩ := h0
  obtain ⟨x0, hK0, hg0, hb0, hz0⟩ := (Fits.slice (B := 40) fits37 Try.underlying22 (by kernel_rfl) (by kernel_rfl)).op hf0
  have hZ0 : (zL 40 z_37) x0 := hz0 (fun n hn => by have := List.all_eq_true.1 hsz n (DataW.weights_mem_each (j := 0) (t := 22) (d := d0) rfl rfl n hn); simpa using this)
  clear hz0 hf0
  obtain ⟨A0, len0, c0, rfl⟩ := okWide_slice Try.underlying22 (hval 0 22 v0 rfl rfl)
  obtain ⟨A0', c0', hcs0, hc0, hr0⟩ := hK0
  simp [Value.cells] at hcs0
  obtain ⟨rfl, rfl, rfl⟩ := hcs0
  have k1 := h1
  have lt1 : ∀ x ∈ p1, x.block < W.heap.size := by obtain ⟨m, hm⟩ := k1; exact DataW.trod_lt m _ _ _ hm
  obtain ⟨fuel1, hf1⟩ := h1
  obtain ⟨x1, hK1, hg1, hb1, hz1⟩ := (Fits.int .i64 Try.underlying3 (by kernel_rfl)).op hf1
  have hZ1 : zT x1 := hz1 (fun n hn => by have := List.all_eq_true.1 hsz n (DataW.weights_mem_each (j := 1) (t := 3) (d := d1) rfl rfl n hn); simpa using this)
  clear hz1 hf1
  obtain ⟨y1, rfl, -, -, -⟩ := open_int Try.underlying3 (hval 1 3 v1 rfl rfl) k1
  obtain rfl : x1 = y1 := Eq.symm (by simpa [Kd.int, Kd.scalar, Value.cells] using hK1)
  clear hA0 hval0 hsz0 hsz
  have hP := Pure.TlsSteps x0 x1 hg0 hZ0 hg1
  obtain ⟨k, hP⟩ := hP
  refine (shacklelaw18_TlsSteps.calls k _ _ x0 x1 true W hr0 hc0 hP).mono fun e W' ⟨he, bel0⟩ => ?_
  have bel := bel0
  subst he
  exact ⟨_, rfl, _, _, _, [], _, [], hW', trodAll_mk1 (shut_bool Try.underlying4 _), (trodAll_cons_mk (Below.trod laidOut (by kernel_rfl) (of_decide_eq_true (by kernel_rfl)) k0 bel lt0) (trodAll_cons_mk (Below.trod laidOut (by kernel_rfl) (of_decide_eq_true (by kernel_rfl)) k1 bel lt1) trodAll_mk0)), rfl, bel.frame _, fun h => by cases h⟩
theorem over : Rows.tlsStepsRow.holds Try.pinned (OpenSpec.ofChange Rows.tlsStepsSpec) :=
  OpenClaim.holds_of_wide 4 Try.f4 rfl rfl rfl rfl rfl rfl rfl ⟨rfl, rfl, rfl, rfl, rfl⟩ rfl rfl rfl rfl rfl (by kernel_rfl) Try.func4 (by kernel_rfl)
    (of_decide_eq_true (by kernel_rfl)) (by unfold Func.isWrapper; first | (rw [if_pos (by decide +kernel)]; kernel_rfl) | (rw [if_neg (by decide +kernel)]; exact ⟨rfl, rfl⟩))
    (fun os started H enc _ => lifted os started H enc)
theorem proved : Rows.TlsStepsSaid := over
#print axioms proved
end Go.Proofs.Ytpjilbhhhpikaaa.tlsSteps
namespace Go.Proofs.Ytpjilbhhhpikaaa
/-- The row, under a short name, for the claim. -/
theorem tlsSteps_holds : Rows.TlsStepsSaid := tlsSteps.proved
end Go.Proofs.Ytpjilbhhhpikaaa
