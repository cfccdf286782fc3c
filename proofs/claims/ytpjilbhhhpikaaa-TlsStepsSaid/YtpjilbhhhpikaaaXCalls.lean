/- Calls that the model runs by itself (bits.Add64 without a carry, bytealg.IndexByte), as laws of the call over any program; no condition but the operands' bounds. -/
import Derived.Laws.Externs
import Derived.Lib.BytesEntry
import Derived.Test.YtpjilbhhhpikaaaXErr
namespace Go.Proofs.YtpjilbhhhpikaaaX
open Go
/-! bits.Add64 without a carry, and bytealg.IndexByte: the model runs both by itself. -/
section
variable {P : Program}
theorem run_call_add64 {f : FuncId} {fn : Func} (hf : P.funcs[f]? = some fn) (hname : (fn.name == "runtime.NumGoroutine") = false) (hb : fn.body.isNone = true) (hn : Extern.findNext fn = none) (he : Extern.find fn = some add64Entry) (x y : Int) (hx : 0 ≤ x) (hy : 0 ≤ y) (w : World) :
    (callFunc f #[.int .u64 x, .int .u64 y, .int .u64 0]).run P w = .ok (.value (.tuple #[.int .u64 ((x + y) % 18446744073709551616), .int .u64 ((x + y) / 18446744073709551616)])) w := by
  rw [run_callFunc_extern hf hname hb hn he, run_add64 x y 0 hx hy (by omega) (by omega), Int.add_zero]
  rfl

open Go.Lib in
theorem run_indexByte_at (w : World) (A : Option Addr) (n c : Nat) (xs : List Int) (hx : xs.length = n) (hc : 0 < n → ∃ a, A = some a ∧ ∀ i, i < n → w.cell? (a.add i) = some (.int .u8 (xs.getD i 0))) (cv : Int) :
    (Extern.BytealgIndexByte.indexByte #[.slice A n c, .int .u8 cv]).run P w = .ok (.int .i64 (indexByte (bytesOf xs) cv.toNat.toUInt8)) w := by
  cases A with
  | none =>
    have hn : n = 0 := by
      rcases Nat.eq_zero_or_pos n with h | h
      · exact h
      · obtain ⟨a, ha, _⟩ := hc h
        cases ha
    subst hn
    obtain rfl : xs = [] := List.length_eq_zero_iff.1 hx
    exact run_indexByteNil (w := w) 0 c cv
  | some a =>
    have hl := run_loadBytesX (P := P) w xs a .empty (fun j x hj => by
      have hjl : j < xs.length := (List.getElem?_eq_some_iff.1 hj).1
      obtain ⟨b, hb, hcell⟩ := hc (by omega)
      cases hb
      rw [hcell j (by omega), List.getD_eq_getElem?_getD, hj]
      rfl)
    rw [hx] at hl
    have hs := run_indexByteString (P := P) ⟨(bytesOf xs).toArray⟩ cv w
    have he : (⟨ByteArray.empty.data ++ (bytesOf xs).toArray⟩ : ByteArray) = ⟨(bytesOf xs).toArray⟩ := by
      apply ByteArray.ext
      show (#[] : Array UInt8) ++ (bytesOf xs).toArray = (bytesOf xs).toArray
      simp
    rw [he] at hl
    change Sem.run P (do
      let b ← Extern.Bytes.bytesOf (.slice (some a) n c)
      let c ← Extern.Bytes.asByte (.int .u8 cv)
      match (List.range b.size).find? fun i => b[i]! == c with
      | some i => pure (goInt i)
      | none => pure (goInt (-1))) w = _
    change Sem.run P (do
      let b ← Extern.Bytes.bytesOf (.string ⟨(bytesOf xs).toArray⟩)
      let c ← Extern.Bytes.asByte (.int .u8 cv)
      match (List.range b.size).find? fun i => b[i]! == c with
      | some i => pure (goInt i)
      | none => pure (goInt (-1))) w = _ at hs
    simp only [Extern.Bytes.bytesOf, Sem.run_bind, Sem.run_pure, hl, Result.andThen] at hs ⊢
    exact hs
end
end Go.Proofs.YtpjilbhhhpikaaaX
