/- errors.As at a target of type *api.Spot, errors.Is at a Code, and shacklelaw00.Is, by their contracts at this program's numbers (after the kit's worked examples ToyasAs and SentryIs): what each gives for nil, for a Code, for a Spot in memory; the world only grows. Condition: the variable errors.errorType holds the handle of 'error'. -/
import Derived.Test.YtpjilbhhhpikaaaGreatDoorProg
import Derived.Test.YtpjilbhhhpikaaaGreatDoorXSpot
import Derived.Test.YtpjilbhhhpikaaaGreatDoorXErr
import Derived.WalkKit
import Derived.LaidEql
import Derived.Stop.Asserts
import Derived.RowKitTokens
import Derived.Test.YtpjilbhhhpikaaaGreatDoorWWords
namespace Go.Proofs.YtpjilbhhhpikaaaGreatDoorX
open Go Go.RowKit Go.Extern.Stop Go.Stop Go.Extern Go.Proofs.YtpjilbhhhpikaaaGreatDoorW.PrintWords

/-- The variable errors.errorType holds the handle of the type 'error'. -/
def ErrTy (w : World) : Prop := w.cell? ⟨0, 0, none⟩ = some (.iface 147 (.agg #[.pointer (some ⟨1, 32, none⟩)]))
theorem ErrTy.below {w W : World} (hb : Below w.heap.size w W) (h : ErrTy w) : ErrTy W := by
  unfold ErrTy at *
  have hlt : 0 < w.heap.size := by
    rcases Nat.lt_or_ge 0 w.heap.size with h0 | h0
    · exact h0
    · simp [World.cell?, Array.getElem?_eq_none h0] at h
  exact (hb.cell (p := ⟨0, 0, none⟩) hlt).trans h

theorem as_nil (t : Value) (w : World) :
    Calls Tryz.prog 20 #[.nilIface, t] w fun e w' => e = .returned (.bool false) ∧ w' = w := by
  go_enter Tryz.func20, Tryz.ntmps20
  go_wp2
  go_ret
  exact ⟨rfl, rfl⟩

theorem is_valueOfPP (t : Addr) (w : World) : (ReflectliteValue.unpack (.iface 73 (.pointer (some t)))).run Tryz.prog w
    = .ok (.agg #[.pointer (some ⟨1, 73, none⟩), .pointer (some ⟨w.heap.size, 0, none⟩), .int .u64 150]) (w.alloc (.cells #[.pointer (some t)] 73)) := by kernel_rfl
theorem is_typePP (a : Addr) (w : World) : (ReflectliteValue.methodAny (ReflectliteValue.valueError "reflectlite.Value.Type" 0) (fun t _ _ _ => ReflectliteType.toType t) #[.agg #[.pointer (some ⟨1, 73, none⟩), .pointer (some a), .int .u64 150]]).run Tryz.prog w
    = .ok (.iface 147 (.agg #[.pointer (some ⟨1, 73, none⟩)])) w := by kernel_rfl
theorem is_methodKind (h : Value) (w : World) : (Go.method 361 147 (.agg #[h]) "Kind").run Tryz.prog w = .ok (141, h) w := by kernel_rfl
theorem is_kindPP (w : World) : ((ReflectliteType.abiMethod fun t => (fun a : Nat => Value.int IntKind.u8 (a : Int)) <$> Rtype.kind t) #[.pointer (some ⟨1, 73, none⟩)]).run Tryz.prog w = .ok (.int .u8 22) w := by kernel_rfl
theorem is_kindP (w : World) : ((ReflectliteType.abiMethod fun t => (fun a : Nat => Value.int IntKind.u8 (a : Int)) <$> Rtype.kind t) #[.pointer (some ⟨1, 71, none⟩)]).run Tryz.prog w = .ok (.int .u8 22) w := by kernel_rfl

theorem is_rlm (z : Sem Value) (f : TypeId → Addr → Nat → Nat → Sem Value) (v : Value) :
    ReflectliteValue.method z f #[v] = (do match ← ReflectliteValue.parts v with | none => z | some (t, a, fl) => f t a fl (fl % 32)) := rfl
theorem is_partsPP (a : Addr) (w : World) : (ReflectliteValue.parts (.agg #[.pointer (some ⟨1, 73, none⟩), .pointer (some a), .int .u64 150])).run Tryz.prog w = .ok (some (73, a, 150)) w := by kernel_rfl
theorem is_isNilPP (a p : Addr) (W : World) (ha : W.cell? a = some (.pointer (some p))) :
    (ReflectliteValue.method (ReflectliteValue.valueError "reflectlite.Value.IsNil" 0) ReflectliteValue.isNil #[.agg #[.pointer (some ⟨1, 73, none⟩), .pointer (some a), .int .u64 150]]).run Tryz.prog W = .ok (.bool false) W := by
  rw [is_rlm]
  simp only [Sem.run_bind, is_partsPP, Result.andThen]
  simp [ReflectliteValue.isNil, loadVar, isAgg, underlying, Tryz.underlying73, ha, Result.andThen]

theorem is_methodElem (h : Value) (w : World) : (Go.method 361 147 (.agg #[h]) "Elem").run Tryz.prog w = .ok (157, .agg #[h]) w := by kernel_rfl
theorem is_methodImplements (h : Value) (w : World) : (Go.method 361 147 (.agg #[h]) "Implements").run Tryz.prog w = .ok (158, .agg #[h]) w := by kernel_rfl
theorem is_methodAssignableTo (h : Value) (w : World) : (Go.method 361 147 (.agg #[h]) "AssignableTo").run Tryz.prog w = .ok (155, .agg #[h]) w := by kernel_rfl
theorem is_elemPP (w : World) : (ReflectliteType.method ReflectliteType.elem #[.agg #[.pointer (some ⟨1, 73, none⟩)]]).run Tryz.prog w = .ok (.iface 147 (.agg #[.pointer (some ⟨1, 71, none⟩)])) w := by kernel_rfl
theorem is_implementsP (w : World) : (ReflectliteType.relation "Implements" ReflectliteType.implements_ #[.agg #[.pointer (some ⟨1, 71, none⟩)], .iface 147 (.agg #[.pointer (some ⟨1, 32, none⟩)])]).run Tryz.prog w = .ok (.bool true) w := by kernel_rfl
theorem is_typeOfP (v : Value) (w : World) : (ReflectliteType.typeOf #[.iface 71 v]).run Tryz.prog w = .ok (.iface 147 (.agg #[.pointer (some ⟨1, 71, none⟩)])) w := by kernel_rfl
theorem is_assignableP (w : World) : (ReflectliteType.relation "AssignableTo" ReflectliteType.assignableTo #[.agg #[.pointer (some ⟨1, 71, none⟩)], .iface 147 (.agg #[.pointer (some ⟨1, 71, none⟩)])]).run Tryz.prog w = .ok (.bool true) w := by kernel_rfl
theorem is_typeOfC (v : Value) (w : World) : (ReflectliteType.typeOf #[.iface 45 v]).run Tryz.prog w = .ok (.iface 147 (.agg #[.pointer (some ⟨1, 45, none⟩)])) w := by kernel_rfl
theorem is_assignableC (w : World) : (ReflectliteType.relation "AssignableTo" ReflectliteType.assignableTo #[.agg #[.pointer (some ⟨1, 45, none⟩)], .iface 147 (.agg #[.pointer (some ⟨1, 71, none⟩)])]).run Tryz.prog w = .ok (.bool false) w := by kernel_rfl
theorem is_valueOfP (e : Addr) (w : World) : (ReflectliteValue.unpack (.iface 71 (.pointer (some e)))).run Tryz.prog w
    = .ok (.agg #[.pointer (some ⟨1, 71, none⟩), .pointer (some ⟨w.heap.size, 0, none⟩), .int .u64 150]) (w.alloc (.cells #[.pointer (some e)] 71)) := by kernel_rfl

theorem is_elemOfPP (w : World) : (Rtype.elem? 73).run Tryz.prog w = .ok (some 71) w := by kernel_rfl
theorem is_mkP (p : Addr) (w : World) : (ReflectliteValue.mk 71 p ReflectliteValue.flagAddr).run Tryz.prog w = .ok (.agg #[.pointer (some ⟨1, 71, none⟩), .pointer (some p), .int .u64 406]) w := by kernel_rfl
theorem is_elemVPP (a p : Addr) (W : World) (ha : W.cell? a = some (.pointer (some p))) :
    (ReflectliteValue.method (ReflectliteValue.valueError "reflectlite.Value.Elem" 0) ReflectliteValue.elem #[.agg #[.pointer (some ⟨1, 73, none⟩), .pointer (some a), .int .u64 150]]).run Tryz.prog W
      = .ok (.agg #[.pointer (some ⟨1, 71, none⟩), .pointer (some p), .int .u64 406]) W := by
  rw [is_rlm]
  simp only [Sem.run_bind, is_partsPP, Result.andThen]
  simp [ReflectliteValue.elem, loadVar, isAgg, underlying, Tryz.underlying73, ha, Result.andThen, is_elemOfPP, is_mkP]
theorem is_rls (v x : Value) : ReflectliteValue.set #[v, x] = (do
    let (some (dst, a, fl), some (src, b, _)) := (← ReflectliteValue.parts v, ← ReflectliteValue.parts x)
      | unsupported (.noEntry "extern/(internal/reflectlite.Value).Set.zeroValue")
    if fl / ReflectliteValue.flagAddr % 2 == 0 then unsupported (.noEntry "extern/(internal/reflectlite.Value).Set.unaddressable")
    let val ← loadVar src b
    if ← Rtype.directlyAssignable dst src then storeVar dst a val
    else if ← Rtype.implements dst src then
      if (← Rtype.kind src) == 20 then
        match val with
        | .nilIface => unsupported (.noEntry "extern/reflectlite: a nil value of one interface type handed on as a value of another")
        | _ => storeVar dst a val
      else storeVar dst a (.iface src val)
    else panicString ("reflectlite.Set: value of type " ++ (← Rtype.spelt src) ++ " is not assignable to type " ++ (← Rtype.spelt dst))
    pure (.tuple #[])) := rfl
theorem is_partsPa (a : Addr) (w : World) : (ReflectliteValue.parts (.agg #[.pointer (some ⟨1, 71, none⟩), .pointer (some a), .int .u64 406])).run Tryz.prog w = .ok (some (71, a, 406)) w := by kernel_rfl
theorem is_partsP (a : Addr) (w : World) : (ReflectliteValue.parts (.agg #[.pointer (some ⟨1, 71, none⟩), .pointer (some a), .int .u64 150])).run Tryz.prog w = .ok (some (71, a, 150)) w := by kernel_rfl
theorem is_directP (w : World) : (Rtype.directlyAssignable 71 71).run Tryz.prog w = .ok true w := by kernel_rfl
theorem is_setP (ta b e : Addr) (old : Value) (W : World) (hb : W.cell? b = some (.pointer (some e))) (ht : W.cell? ta = some old) (hf : W.frozen? ta = false) :
    (ReflectliteValue.set #[.agg #[.pointer (some ⟨1, 71, none⟩), .pointer (some ta), .int .u64 406], .agg #[.pointer (some ⟨1, 71, none⟩), .pointer (some b), .int .u64 150]]).run Tryz.prog W
      = .ok (.tuple #[]) (W.setCell ta (.pointer (some e))) := by
  rw [is_rls]
  simp only [Sem.run_bind, is_partsPa, is_partsP, Result.andThen]
  simp [ReflectliteValue.flagAddr, loadVar, isAgg, underlying, Tryz.underlying71, hb, Result.andThen, is_directP, storeVar, Value.cells, storeCells, Addr.add]
  rw [run_store Tryz.prog W ta _ _ (by rfl)]
  simp [ht, hf]

/-- the model's entry for (rtype).Comparable -/
def compEntry : Array Value → Sem Value := ReflectliteType.method fun t => do Rtype.noPackHeld "Comparable" t; pure (.bool (← typeInfo t).comparable)
/-! what the assertions of errors.as and errors.is find -/
theorem is_noAsC (v : Value) (xT : TypeId) (w : World) : (Instr.typeAssert (.iface 45 v) xT 151 true).run Tryz.prog w = .ok (.tuple #[.nilIface, .bool false]) w := run_typeAssert_lacksB Tryz.underlying151 (by kernel_rfl) (by kernel_rfl) v xT w
theorem is_noUnwrapC (v : Value) (xT : TypeId) (w : World) : (Instr.typeAssert (.iface 45 v) xT 154 true).run Tryz.prog w = .ok (.tuple #[.nilIface, .bool false]) w := run_typeAssert_lacksB Tryz.underlying154 (by kernel_rfl) (by kernel_rfl) v xT w
theorem is_noUnwrapsC (v : Value) (xT : TypeId) (w : World) : (Instr.typeAssert (.iface 45 v) xT 155 true).run Tryz.prog w = .ok (.tuple #[.nilIface, .bool false]) w := run_typeAssert_lacksB Tryz.underlying155 (by kernel_rfl) (by kernel_rfl) v xT w
theorem is_noIsC (v : Value) (xT : TypeId) (w : World) : (Instr.typeAssert (.iface 45 v) xT 158 true).run Tryz.prog w = .ok (.tuple #[.nilIface, .bool false]) w := run_typeAssert_lacksB Tryz.underlying158 (by kernel_rfl) (by kernel_rfl) v xT w
theorem is_noIsP (v : Value) (xT : TypeId) (w : World) : (Instr.typeAssert (.iface 71 v) xT 158 true).run Tryz.prog w = .ok (.tuple #[.nilIface, .bool false]) w := run_typeAssert_lacksB Tryz.underlying158 (by kernel_rfl) (by kernel_rfl) v xT w
theorem is_hasUnwrapP (v : Value) (xT : TypeId) (w : World) : (Instr.typeAssert (.iface 71 v) xT 154 true).run Tryz.prog w = .ok (.tuple #[.iface 71 v, .bool true]) w := run_typeAssert_hasB Tryz.underlying154 (by kernel_rfl) v xT w
theorem is_methodUnwrap (v : Value) (w : World) : (Go.method 361 71 v "Unwrap").run Tryz.prog w = .ok (150, v) w := by kernel_rfl
theorem is_typeOfT (v : Value) (w : World) : (Extern.ReflectliteType.typeOf #[.iface 45 v]).run Tryz.prog w = .ok (.iface 147 (.agg #[.pointer (some ⟨1, 45, none⟩)])) w := by kernel_rfl
theorem is_comparableT (w : World) : (compEntry #[.agg #[.pointer (some ⟨1, 45, none⟩)]]).run Tryz.prog w = .ok (.bool true) w := by kernel_rfl
theorem is_methodComparable (v : Value) (w : World) : (Go.method 361 147 v "Comparable").run Tryz.prog w = .ok (156, v) w := by kernel_rfl
theorem is_compC : (Tryz.prog.info? 45).map (fun i => i.comparable) = some true := by kernel_rfl
theorem is_compP : (Tryz.prog.info? 71).map (fun i => i.comparable) = some true := by kernel_rfl

/-- The world behind errors.As's own Values. -/
def asW (w : World) (t : Addr) : World := ((w.alloc (.cells #[.pointer (some t)] 73)).alloc (.cells #[.pointer (some ⟨1, 73, none⟩), .pointer (some ⟨w.heap.size, 0, none⟩), .int .u64 150] 105)).alloc (.cells #[.pointer (some ⟨1, 73, none⟩), .pointer (some ⟨w.heap.size, 0, none⟩), .int .u64 150] 105)

set_option maxHeartbeats 4000000 in
theorem as_hit (e t : Addr) (old : Value) (w : World) (hg : w.cell? ⟨0, 0, none⟩ = some (.iface 147 (.agg #[.pointer (some ⟨1, 32, none⟩)]))) (ht0 : w.cell? t = some old) (hf0 : w.frozen? t = false) :
    Calls Tryz.prog 20 #[.iface 71 (.pointer (some e)), .iface 73 (.pointer (some t))] w fun ev w' => ev = .returned (.bool true) ∧ w' = ((asW w t).alloc (.cells #[.pointer (some e)] 71)).setCell t (.pointer (some e)) := by
  have h6 := @run_callFunc_extern Tryz.prog 30 _ (fun args => ReflectliteValue.unpack (args.getD 0 (.tuple #[]))) Tryz.func30 (by kernel_rfl) (by kernel_rfl) (by kernel_rfl) (by kernel_rfl)
  have h7 := @run_callFunc_extern Tryz.prog 31 _ (ReflectliteValue.methodAny (ReflectliteValue.valueError "reflectlite.Value.Type" 0) (fun t _ _ _ => ReflectliteType.toType t)) Tryz.func31 (by kernel_rfl) (by kernel_rfl) (by kernel_rfl) (by kernel_rfl)
  have h8 := @run_callFunc_extern Tryz.prog 32 _ (ReflectliteValue.method (ReflectliteValue.valueError "reflectlite.Value.IsNil" 0) ReflectliteValue.isNil) Tryz.func32 (by kernel_rfl) (by kernel_rfl) (by kernel_rfl) (by kernel_rfl)
  have h27 := @run_callFunc_extern Tryz.prog 141 _ (ReflectliteType.abiMethod fun t => do pure (.int .u8 (← Rtype.kind t))) Tryz.func141 (by kernel_rfl) (by kernel_rfl) (by kernel_rfl) (by kernel_rfl)
  have h37 := @run_callFunc_extern Tryz.prog 157 _ (ReflectliteType.method ReflectliteType.elem) Tryz.func157 (by kernel_rfl) (by kernel_rfl) (by kernel_rfl) (by kernel_rfl)
  have h38 := @run_callFunc_extern Tryz.prog 158 _ (ReflectliteType.relation "Implements" ReflectliteType.implements_) Tryz.func158 (by kernel_rfl) (by kernel_rfl) (by kernel_rfl) (by kernel_rfl)
  have h10 := @run_callFunc_extern Tryz.prog 34 _ ReflectliteType.typeOf Tryz.func34 (by kernel_rfl) (by kernel_rfl) (by kernel_rfl) (by kernel_rfl)
  have h35 := @run_callFunc_extern Tryz.prog 155 _ (ReflectliteType.relation "AssignableTo" ReflectliteType.assignableTo) Tryz.func155 (by kernel_rfl) (by kernel_rfl) (by kernel_rfl) (by kernel_rfl)
  have h11 := @run_callFunc_extern Tryz.prog 51 _ (ReflectliteValue.method (ReflectliteValue.valueError "reflectlite.Value.Elem" 0) ReflectliteValue.elem) Tryz.func51 (by kernel_rfl) (by kernel_rfl) (by kernel_rfl) (by kernel_rfl)
  have h12 := @run_callFunc_extern Tryz.prog 52 _ ReflectliteValue.set Tryz.func52 (by kernel_rfl) (by kernel_rfl) (by kernel_rfl) (by kernel_rfl)
  have tO := is_typeOfP
  have mA := is_methodAssignableTo
  have a25 := is_assignableP
  have v25 := is_valueOfP
  have f6 := is_valueOfPP
  have f7 := is_typePP
  have mK := is_methodKind
  have mE := is_methodElem
  have mI := is_methodImplements
  have k27 := is_kindPP
  have k25 := is_kindP
  have e27 := is_elemPP
  have i25 := is_implementsP
  unfold asW
  have n8 := is_isNilPP ⟨w.heap.size, 0, none⟩ t ((w.alloc (.cells #[.pointer (some t)] 73)).alloc (.cells #[.pointer (some ⟨1, 73, none⟩), .pointer (some ⟨w.heap.size, 0, none⟩), .int .u64 150] 105)) (by simp)
  have hlt : 0 < w.heap.size := by
    rcases Nat.lt_or_ge 0 w.heap.size with h | h
    · exact h
    · simp [World.cell?, Array.getElem?_eq_none h] at hg
  have hg2 : ((w.alloc (.cells #[.pointer (some t)] 73)).alloc (.cells #[.pointer (some ⟨1, 73, none⟩), .pointer (some ⟨w.heap.size, 0, none⟩), .int .u64 150] 105)).cell? ⟨0, 0, none⟩ = some (.iface 147 (.agg #[.pointer (some ⟨1, 32, none⟩)])) := by
    rw [World.cell?_alloc_lt _ _ ⟨0, 0, none⟩ (by first | (simp; done) | (simp; omega)), World.cell?_alloc_lt _ _ ⟨0, 0, none⟩ hlt]; exact hg
  have htl : t.block < w.heap.size := by
    rcases Nat.lt_or_ge t.block w.heap.size with h | h
    · exact h
    · simp [World.cell?, Array.getElem?_eq_none h] at ht0
  have el := is_elemVPP ⟨w.heap.size, 0, none⟩ t (((w.alloc (.cells #[.pointer (some t)] 73)).alloc (.cells #[.pointer (some ⟨1, 73, none⟩), .pointer (some ⟨w.heap.size, 0, none⟩), .int .u64 150] 105)).alloc (.cells #[.pointer (some ⟨1, 73, none⟩), .pointer (some ⟨w.heap.size, 0, none⟩), .int .u64 150] 105)) (by rw [World.cell?_alloc_lt _ _ ⟨w.heap.size, 0, none⟩ (by simp; omega)]; simp)
  have st := is_setP t ⟨w.heap.size + 1 + 1 + 1, 0, none⟩ e old ((((w.alloc (.cells #[.pointer (some t)] 73)).alloc (.cells #[.pointer (some ⟨1, 73, none⟩), .pointer (some ⟨w.heap.size, 0, none⟩), .int .u64 150] 105)).alloc (.cells #[.pointer (some ⟨1, 73, none⟩), .pointer (some ⟨w.heap.size, 0, none⟩), .int .u64 150] 105)).alloc (.cells #[.pointer (some e)] 71))
    (by rw [World.cell?_alloc_at _ _ _ _ (by simp)]; rfl)
    (by rw [World.cell?_alloc_lt _ _ t (by simp; omega), World.cell?_alloc_lt _ _ t (by simp; omega), World.cell?_alloc_lt _ _ t (by simp; omega), World.cell?_alloc_lt _ _ t htl]; exact ht0)
    (by rw [World.frozen?_alloc_old _ _ t (by simp; omega), World.frozen?_alloc_old _ _ t (by simp; omega), World.frozen?_alloc_old _ _ t (by simp; omega), World.frozen?_alloc_old _ _ t (Nat.ne_of_lt htl)]; exact hf0)
  go_enter Tryz.func20, Tryz.ntmps20
  go_wp2
  refine wp_loop_rounds 1 ?_
  rw [rounds_succ]
  go_wp2
  go_ret
  exact ⟨rfl, rfl⟩

set_option maxHeartbeats 4000000 in
theorem as_miss (q : Int) (t : Addr) (w : World) (hg : w.cell? ⟨0, 0, none⟩ = some (.iface 147 (.agg #[.pointer (some ⟨1, 32, none⟩)]))) :
    Calls Tryz.prog 20 #[.iface 45 (.int .i64 q), .iface 73 (.pointer (some t))] w fun ev w' => ev = .returned (.bool false) ∧ w' = asW w t := by
  have h6 := @run_callFunc_extern Tryz.prog 30 _ (fun args => ReflectliteValue.unpack (args.getD 0 (.tuple #[]))) Tryz.func30 (by kernel_rfl) (by kernel_rfl) (by kernel_rfl) (by kernel_rfl)
  have h7 := @run_callFunc_extern Tryz.prog 31 _ (ReflectliteValue.methodAny (ReflectliteValue.valueError "reflectlite.Value.Type" 0) (fun t _ _ _ => ReflectliteType.toType t)) Tryz.func31 (by kernel_rfl) (by kernel_rfl) (by kernel_rfl) (by kernel_rfl)
  have h8 := @run_callFunc_extern Tryz.prog 32 _ (ReflectliteValue.method (ReflectliteValue.valueError "reflectlite.Value.IsNil" 0) ReflectliteValue.isNil) Tryz.func32 (by kernel_rfl) (by kernel_rfl) (by kernel_rfl) (by kernel_rfl)
  have h27 := @run_callFunc_extern Tryz.prog 141 _ (ReflectliteType.abiMethod fun t => do pure (.int .u8 (← Rtype.kind t))) Tryz.func141 (by kernel_rfl) (by kernel_rfl) (by kernel_rfl) (by kernel_rfl)
  have h37 := @run_callFunc_extern Tryz.prog 157 _ (ReflectliteType.method ReflectliteType.elem) Tryz.func157 (by kernel_rfl) (by kernel_rfl) (by kernel_rfl) (by kernel_rfl)
  have h38 := @run_callFunc_extern Tryz.prog 158 _ (ReflectliteType.relation "Implements" ReflectliteType.implements_) Tryz.func158 (by kernel_rfl) (by kernel_rfl) (by kernel_rfl) (by kernel_rfl)
  have h10 := @run_callFunc_extern Tryz.prog 34 _ ReflectliteType.typeOf Tryz.func34 (by kernel_rfl) (by kernel_rfl) (by kernel_rfl) (by kernel_rfl)
  have h35 := @run_callFunc_extern Tryz.prog 155 _ (ReflectliteType.relation "AssignableTo" ReflectliteType.assignableTo) Tryz.func155 (by kernel_rfl) (by kernel_rfl) (by kernel_rfl) (by kernel_rfl)
  have tO := is_typeOfC
  have mA := is_methodAssignableTo
  have a25 := is_assignableC
  have nA := is_noAsC
  have nU := is_noUnwrapC
  have nV := is_noUnwrapsC
  have f6 := is_valueOfPP
  have f7 := is_typePP
  have mK := is_methodKind
  have mE := is_methodElem
  have mI := is_methodImplements
  have k27 := is_kindPP
  have k25 := is_kindP
  have e27 := is_elemPP
  have i25 := is_implementsP
  unfold asW
  have n8 := is_isNilPP ⟨w.heap.size, 0, none⟩ t ((w.alloc (.cells #[.pointer (some t)] 73)).alloc (.cells #[.pointer (some ⟨1, 73, none⟩), .pointer (some ⟨w.heap.size, 0, none⟩), .int .u64 150] 105)) (by simp)
  have hlt : 0 < w.heap.size := by
    rcases Nat.lt_or_ge 0 w.heap.size with h | h
    · exact h
    · simp [World.cell?, Array.getElem?_eq_none h] at hg
  have hg2 : ((w.alloc (.cells #[.pointer (some t)] 73)).alloc (.cells #[.pointer (some ⟨1, 73, none⟩), .pointer (some ⟨w.heap.size, 0, none⟩), .int .u64 150] 105)).cell? ⟨0, 0, none⟩ = some (.iface 147 (.agg #[.pointer (some ⟨1, 32, none⟩)])) := by
    rw [World.cell?_alloc_lt _ _ ⟨0, 0, none⟩ (by first | (simp; done) | (simp; omega)), World.cell?_alloc_lt _ _ ⟨0, 0, none⟩ hlt]; exact hg
  go_enter Tryz.func20, Tryz.ntmps20
  go_wp2
  refine wp_loop_rounds 1 ?_
  rw [rounds_succ]
  go_wp2
  go_ret
  exact ⟨rfl, rfl⟩

set_option maxHeartbeats 4000000 in
set_option maxRecDepth 100000 in
theorem is_spot (b : Nat) (a q c : Int) (w : World) (hs : w.heap[b]? = some (.cells #[.int .u64 a, .iface 45 (.int .i64 q)] 76 (0, 0))) :
    Calls Tryz.prog 21 #[.iface 71 (.pointer (some ⟨b, 0, none⟩)), .iface 45 (.int .i64 c)] w fun e w' => e = .returned (.bool (q == c)) ∧ w' = w := by
  have h8 := @run_callFunc_extern Tryz.prog 34 _ Extern.ReflectliteType.typeOf Tryz.func34 (by kernel_rfl) (by kernel_rfl) (by kernel_rfl) (by kernel_rfl)
  have h32 := @run_callFunc_extern Tryz.prog 156 _ compEntry Tryz.func156 (by kernel_rfl) (by kernel_rfl) (by kernel_rfl) (by kernel_rfl)
  have tT := is_typeOfT
  have cT := is_comparableT
  have mR := is_methodComparable
  have nP := is_noIsP
  have uP := is_hasUnwrapP
  have mU := is_methodUnwrap
  have nC := is_noIsC
  have uC := is_noUnwrapC
  have vC := is_noUnwrapsC
  have hty := run_eql_iface_types (P := Tryz.prog) 71 45 (.pointer (some ⟨b, 0, none⟩)) (.int .i64 c) Tryz.underlying32 (by decide) w
  have hcc := run_eql_held_int (P := Tryz.prog) w 32 45 .i64 q c Tryz.underlying32 Tryz.underlying45 is_compC
  have hc1 : w.cell? ⟨b, 1, none⟩ = some (.iface 45 (.int .i64 q)) := by simp [World.cell?, hs]
  obtain ⟨d, hd⟩ : ∃ d, d = (q == c) := ⟨_, rfl⟩
  rw [← hd] at hcc ⊢
  clear hd
  cases d
  · go_enter Tryz.func21, Tryz.ntmps21
    go_wp2
    refine wp_loop_rounds 2 ?_
    rw [rounds_succ]
    go_wp2
    rw [rounds_succ]
    go_wp2
    go_ret
    exact ⟨rfl, rfl⟩
  · go_enter Tryz.func21, Tryz.ntmps21
    go_wp2
    refine wp_loop_rounds 2 ?_
    rw [rounds_succ]
    go_wp2
    rw [rounds_succ]
    go_wp2
    go_ret
    exact ⟨rfl, rfl⟩

theorem asW_below {w W : World} (h : Below w.heap.size w W) (t : Addr) : Below w.heap.size w (asW W t) := below_alloc (below_alloc (below_alloc h _) _) _
theorem is_infoS : (Tryz.prog.info? 76).map (fun _ => ()) = some () := by kernel_rfl

/-- What shacklelaw00.Is answers of an error told by a number. -/
def isF : Option Int → Int → Int → Option Bool
  | none, _, _ => some false
  | some q, a, c => some (decide (q < 0) && (spAt q == a && spCode q == c))

set_option maxHeartbeats 4000000 in
set_option maxRecDepth 100000 in
theorem isF_nil (a1 a2 : Int) (w : World) :
    Calls Tryz.prog 9 #[.nilIface, .int .u64 a1, .int .i64 a2] w fun e w' => e = .returned (.bool false) ∧ Below w.heap.size w w' := by
  go_enter Tryz.func9, Tryz.ntmps9
  go_wp2_with (go_at_call 20; refine (as_nil _ _).mono ?_; rintro e w' ⟨rfl, rfl⟩)
  go_ret
  exact ⟨rfl, below_alloc (Below.refl _ _) _⟩

set_option maxHeartbeats 4000000 in
set_option maxRecDepth 100000 in
theorem isF_code (q a1 a2 : Int) (w : World) (hg : ErrTy w) :
    Calls Tryz.prog 9 #[.iface 45 (.int .i64 q), .int .u64 a1, .int .i64 a2] w fun e w' => e = .returned (.bool false) ∧ Below w.heap.size w w' := by
  have hg1 : ErrTy (w.alloc (.cells #[.pointer none] 71)) := hg.below (below_alloc (Below.refl _ _) _)
  go_enter Tryz.func9, Tryz.ntmps9
  go_wp2_with (go_at_call 20; refine (as_miss _ _ _ hg1).mono ?_; rintro e w' ⟨rfl, rfl⟩)
  go_ret
  refine ⟨rfl, ?_⟩
  exact asW_below (below_alloc (Below.refl _ _) _) _

theorem is_neqP {P : Program} {ti tp te : TypeId} {i j : TypeInfo} (w : World) (a : Addr)
    (hi : P.underlying ti = some (.interface (P.methodsAt ti))) (hp : P.underlying tp = some (.pointer te)) (hinfo : P.info? tp = some i) (hcomp : i.comparable = true) (hte : P.info? te = some j) :
    (binOp .neq ti (.iface tp (.pointer (some a))) (.iface tp (.pointer (some a)))).run P w = .ok (.bool false) w := by
  simp only [binOp]
  simp [Op.equal, Op.maxDepth, run_equalIn_iface_ptr_same w 9998 a hi hp hinfo hcomp hte]

set_option maxHeartbeats 4000000 in
set_option maxRecDepth 100000 in
theorem isF_spot (b : Nat) (a q a1 a2 : Int) (w : World) (hg : ErrTy w) (hs : w.heap[b]? = some (.cells #[.int .u64 a, .iface 45 (.int .i64 q)] 76 (0, 0))) :
    Calls Tryz.prog 9 #[.iface 71 (.pointer (some ⟨b, 0, none⟩)), .int .u64 a1, .int .i64 a2] w fun e w' => e = .returned (.bool (a == a1 && q == a2)) ∧ Below w.heap.size w w' := by
  have hg1 : ErrTy (w.alloc (.cells #[.pointer none] 71)) := hg.below (below_alloc (Below.refl _ _) _)
  have hblt : b < w.heap.size := by
    rcases Nat.lt_or_ge b w.heap.size with h | h
    · exact h
    · simp [Array.getElem?_eq_none h] at hs
  obtain ⟨w2, hw2⟩ : ∃ w2, w2 = ((asW (w.alloc (.cells #[.pointer none] 71)) ⟨w.heap.size, 0, none⟩).alloc (.cells #[.pointer (some ⟨b, 0, none⟩)] 71)).setCell ⟨w.heap.size, 0, none⟩ (.pointer (some ⟨b, 0, none⟩)) := ⟨_, rfl⟩
  have hb2 : Below w.heap.size w w2 := by
    rw [hw2]
    exact below_set (below_alloc (asW_below (below_alloc (Below.refl _ _) _) _) _) (Nat.le_refl _)
  have hs2 : w2.heap[b]? = some (.cells #[.int .u64 a, .iface 45 (.int .i64 q)] 76 (0, 0)) := blk_below hs hb2
  have hv2 : w2.cell? ⟨w.heap.size, 0, none⟩ = some (.pointer (some ⟨b, 0, none⟩)) := by
    rw [hw2]
    have h0 : (w.alloc (.cells #[.pointer none] 71)).cell? ⟨w.heap.size, 0, none⟩ = some (.pointer none) := by simp
    refine World.cell?_setCell_same (u := .pointer none) _ _ _ ?_
    unfold asW
    rw [World.cell?_alloc_lt _ _ ⟨w.heap.size, 0, none⟩ (by simp; omega), World.cell?_alloc_lt _ _ ⟨w.heap.size, 0, none⟩ (by simp; omega), World.cell?_alloc_lt _ _ ⟨w.heap.size, 0, none⟩ (by simp; omega), World.cell?_alloc_lt _ _ ⟨w.heap.size, 0, none⟩ (by simp)]
    exact h0
  have hc0 : w2.cell? ⟨b, 0, none⟩ = some (.int .u64 a) := by simp [World.cell?, hs2]
  have hc1 : w2.cell? ⟨b, 1, none⟩ = some (.iface 45 (.int .i64 q)) := by simp [World.cell?, hs2]
  obtain ⟨i, hi, hcmp⟩ := Option.map_eq_some_iff.1 is_compP
  obtain ⟨j, hj, _⟩ := Option.map_eq_some_iff.1 is_infoS
  have hne := is_neqP (P := Tryz.prog) w2 ⟨b, 0, none⟩ Tryz.underlying32 Tryz.underlying71 hi hcmp hj
  have hcc := run_eql_held_int (P := Tryz.prog) w2 32 45 .i64 q a2 Tryz.underlying32 Tryz.underlying45 is_compC
  have hcc2 := run_eql_held_int (P := Tryz.prog) w2 32 45 .i64 a2 a2 Tryz.underlying32 Tryz.underlying45 is_compC
  have hAs := fun (W : World) (hW : W = w.alloc (.cells #[.pointer none] 71)) => hW ▸ as_hit ⟨b, 0, none⟩ ⟨w.heap.size, 0, none⟩ (.pointer none) _ hg1 (by simp) (by simp)
  go_enter Tryz.func9, Tryz.ntmps9
  go_wp2_with (first | (go_at_call 20; refine (hAs _ rfl).mono ?_; rintro e w' ⟨rfl, h2⟩; rw [← hw2] at h2; subst h2; clear hw2) | (go_at_call 21; refine (is_spot b a q a2 _ hs2).mono ?_; rintro e w' ⟨rfl, rfl⟩))
  all_goals first | (go_ret; refine ⟨?_, by assumption⟩; clear hcc hcc2 hne hAs; simp_all; done) | skip

/-- shacklelaw00.Is: what it answers of an error told by a number. -/
theorem isF_calls (e0 : Value) (a0 : Option Int) (a1 a2 : Int) (r : Bool) (w : World) (he0 : ErrAt 45 71 76 w 0 a0 e0) (hG : ErrTy w) (h : isF a0 a1 a2 = some r) :
    Calls Tryz.prog 9 #[e0, .int .u64 a1, .int .i64 a2] w fun e w' => e = .returned (.bool r) ∧ Below w.heap.size w w' := by
  cases a0 with
  | none =>
    obtain rfl := Option.some.inj h
    obtain rfl := he0.none_eq
    exact isF_nil a1 a2 w
  | some q =>
    obtain rfl := Option.some.inj h
    by_cases hq : q < 0
    · obtain ⟨b, rfl, _, hb⟩ := he0.spot_eq hq
      have := isF_spot b (spAt q) (spCode q) a1 a2 w hG hb
      simpa [hq] using this
    · obtain rfl := he0.code_eq hq
      have := isF_code q a1 a2 w hG
      simpa [hq] using this
end Go.Proofs.YtpjilbhhhpikaaaGreatDoorX
