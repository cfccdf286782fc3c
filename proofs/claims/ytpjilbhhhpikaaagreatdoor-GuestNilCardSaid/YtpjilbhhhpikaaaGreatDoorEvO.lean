/- What a row reads of the registers (api.Regs): 18 numbers, 5 bools. No condition. -/
import Derived.Test.YtpjilbhhhpikaaaGreatDoorProg
import Derived.OpenShut
import Derived.ChangeArms
namespace Go.Ev
set_option linter.unusedVariables false
set_option linter.unusedSimpArgs false
open Go Go.Proofs
theorem take_one {L : List Value} {i : Nat} {v : Value} (h : (L.drop i).take 1 = [v]) : L[i]? = some v := by
  have : ((L.drop i).take 1)[0]? = some v := by rw [h]; rfl
  rw [List.getElem?_take_of_lt (by omega), List.getElem?_drop] at this
  simpa using this
theorem cellsOf22 : Tryz.prog.cellsOf 22 = 1 := by kernel_rfl
theorem cellsOf4 : Tryz.prog.cellsOf 4 = 1 := by kernel_rfl
theorem cellsOf23 : Tryz.prog.cellsOf 23 = 16 := by kernel_rfl
theorem cellsOf25 : Tryz.prog.cellsOf 25 = 23 := by kernel_rfl
section
variable {H : Type} {enc : TypeId × Value → H} {w : World} {base : Nat} {spare : Nat → Bool} {held : Bool} {fuel : Nat} {cs : List Value} {x : DataW H × List MemPlace}
theorem int_at {off : Nat} (h : DataW.trod enc Tryz.prog w base spare held fuel 22 ((cs.drop off).take (Tryz.prog.cellsOf 22)) = some x) : ∃ n, cs[off]? = some (.int .u64 n) := by
  obtain ⟨n, hn, _⟩ := DataW.trod_int Tryz.underlying22 h
  rw [cellsOf22] at hn
  exact ⟨n, take_one hn⟩
theorem bool_at {off : Nat} (h : DataW.trod enc Tryz.prog w base spare held fuel 4 ((cs.drop off).take (Tryz.prog.cellsOf 4)) = some x) : ∃ n, cs[off]? = some (.bool n) := by
  obtain ⟨n, hn, _⟩ := DataW.trod_bool Tryz.underlying4 h
  rw [cellsOf4] at hn
  exact ⟨n, take_one hn⟩
theorem arr_at (h : DataW.trod enc Tryz.prog w base spare held fuel 23 ((cs.drop 0).take (Tryz.prog.cellsOf 23)) = some x) (i : Nat) (hi : i < 16) : ∃ n, cs[i]? = some (.int .u64 n) := by
  obtain ⟨xs, m, _, _, _, hl, hf⟩ := DataW.trod_array Tryz.underlying23 h
  have h1 := hf i hi
  rw [List.getElem?_eq_getElem (by omega), cellsOf22, Nat.mul_one, cellsOf23] at h1
  obtain ⟨n, hn, _⟩ := DataW.trod_int Tryz.underlying22 h1
  have := take_one hn
  rw [List.drop_zero, List.getElem?_take_of_lt hi] at this
  exact ⟨n, this⟩
set_option maxRecDepth 100000 in
theorem regs_open (h : DataW.trod enc Tryz.prog w base spare held fuel 25 cs = some x) : ∃ (a0 a1 a2 a3 a4 a5 a6 a7 a8 a9 a10 a11 a12 a13 a14 a15 a16 a17 : Int) (b0 b1 b2 b3 b4 : Bool), cs = [.int .u64 a0, .int .u64 a1, .int .u64 a2, .int .u64 a3, .int .u64 a4, .int .u64 a5, .int .u64 a6, .int .u64 a7, .int .u64 a8, .int .u64 a9, .int .u64 a10, .int .u64 a11, .int .u64 a12, .int .u64 a13, .int .u64 a14, .int .u64 a15, .int .u64 a16, .int .u64 a17, .bool b0, .bool b1, .bool b2, .bool b3, .bool b4] := by
  obtain ⟨xs, m, _, _, hlen, hl, hf⟩ := DataW.trod_struct Tryz.underlying25 h
  rw [cellsOf25] at hlen
  have hl8 : xs.length = 8 := hl
  have g := fun (i : Nat) (hi : i < xs.length) (f : Field) hfi => (hf i f hfi).trans (List.getElem?_eq_getElem hi)
  have hA := arr_at (g 0 (by omega) _ rfl)
  obtain ⟨a0, e0⟩ := hA 0 (by decide)
  obtain ⟨a1, e1⟩ := hA 1 (by decide)
  obtain ⟨a2, e2⟩ := hA 2 (by decide)
  obtain ⟨a3, e3⟩ := hA 3 (by decide)
  obtain ⟨a4, e4⟩ := hA 4 (by decide)
  obtain ⟨a5, e5⟩ := hA 5 (by decide)
  obtain ⟨a6, e6⟩ := hA 6 (by decide)
  obtain ⟨a7, e7⟩ := hA 7 (by decide)
  obtain ⟨a8, e8⟩ := hA 8 (by decide)
  obtain ⟨a9, e9⟩ := hA 9 (by decide)
  obtain ⟨a10, e10⟩ := hA 10 (by decide)
  obtain ⟨a11, e11⟩ := hA 11 (by decide)
  obtain ⟨a12, e12⟩ := hA 12 (by decide)
  obtain ⟨a13, e13⟩ := hA 13 (by decide)
  obtain ⟨a14, e14⟩ := hA 14 (by decide)
  obtain ⟨a15, e15⟩ := hA 15 (by decide)
  obtain ⟨a16, e16⟩ := int_at (g 1 (by omega) _ rfl)
  obtain ⟨a17, e17⟩ := int_at (g 2 (by omega) _ rfl)
  obtain ⟨b0, e18⟩ := bool_at (g 3 (by omega) _ rfl)
  obtain ⟨b1, e19⟩ := bool_at (g 4 (by omega) _ rfl)
  obtain ⟨b2, e20⟩ := bool_at (g 5 (by omega) _ rfl)
  obtain ⟨b3, e21⟩ := bool_at (g 6 (by omega) _ rfl)
  obtain ⟨b4, e22⟩ := bool_at (g 7 (by omega) _ rfl)
  refine ⟨a0, a1, a2, a3, a4, a5, a6, a7, a8, a9, a10, a11, a12, a13, a14, a15, a16, a17, b0, b1, b2, b3, b4, ?_⟩
  match cs, hlen with
  | [c0, c1, c2, c3, c4, c5, c6, c7, c8, c9, c10, c11, c12, c13, c14, c15, c16, c17, c18, c19, c20, c21, c22], _ =>
    have e0 : some c0 = some (Value.int .u64 a0) := e0
    injection e0 with e0
    have e1 : some c1 = some (Value.int .u64 a1) := e1
    injection e1 with e1
    have e2 : some c2 = some (Value.int .u64 a2) := e2
    injection e2 with e2
    have e3 : some c3 = some (Value.int .u64 a3) := e3
    injection e3 with e3
    have e4 : some c4 = some (Value.int .u64 a4) := e4
    injection e4 with e4
    have e5 : some c5 = some (Value.int .u64 a5) := e5
    injection e5 with e5
    have e6 : some c6 = some (Value.int .u64 a6) := e6
    injection e6 with e6
    have e7 : some c7 = some (Value.int .u64 a7) := e7
    injection e7 with e7
    have e8 : some c8 = some (Value.int .u64 a8) := e8
    injection e8 with e8
    have e9 : some c9 = some (Value.int .u64 a9) := e9
    injection e9 with e9
    have e10 : some c10 = some (Value.int .u64 a10) := e10
    injection e10 with e10
    have e11 : some c11 = some (Value.int .u64 a11) := e11
    injection e11 with e11
    have e12 : some c12 = some (Value.int .u64 a12) := e12
    injection e12 with e12
    have e13 : some c13 = some (Value.int .u64 a13) := e13
    injection e13 with e13
    have e14 : some c14 = some (Value.int .u64 a14) := e14
    injection e14 with e14
    have e15 : some c15 = some (Value.int .u64 a15) := e15
    injection e15 with e15
    have e16 : some c16 = some (Value.int .u64 a16) := e16
    injection e16 with e16
    have e17 : some c17 = some (Value.int .u64 a17) := e17
    injection e17 with e17
    have e18 : some c18 = some (Value.bool b0) := e18
    injection e18 with e18
    have e19 : some c19 = some (Value.bool b1) := e19
    injection e19 with e19
    have e20 : some c20 = some (Value.bool b2) := e20
    injection e20 with e20
    have e21 : some c21 = some (Value.bool b3) := e21
    injection e21 with e21
    have e22 : some c22 = some (Value.bool b4) := e22
    injection e22 with e22
    rw [e0, e1, e2, e3, e4, e5, e6, e7, e8, e9, e10, e11, e12, e13, e14, e15, e16, e17, e18, e19, e20, e21, e22]
end
end Go.Ev
