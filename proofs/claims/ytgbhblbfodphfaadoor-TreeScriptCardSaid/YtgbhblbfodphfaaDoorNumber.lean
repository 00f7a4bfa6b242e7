/-
  errors.As at a target of the program's own error numbers, and api.Number by it: a nil error's number is 0, an error number's is itself; what was there stays. After the worked text of errors.As at a pointer's type (Toyas).
-/
import Derived.Test.YtgbhblbfodphfaaDoorProg
import Derived.WalkKit
import Derived.LaidEql
import Derived.Stop.Asserts
import Derived.RowKitTokens
import Derived.Below
import Derived.KernelRfl
namespace Go.Proofs.YtgbhblbfodphfaaDoor.Number
open Go.RowKit Go.Extern.Stop Go.Stop Go.Extern

/-- errors.As(nil, target). -/
theorem as_nil (t : Value) (w : World) :
    Calls Tryd.prog 21 #[.nilIface, t] w fun e w' => e = .returned (.bool false) ∧ w' = w := by
  go_enter Tryd.func21, Tryd.ntmps21
  go_wp2
  go_ret
  exact ⟨rfl, rfl⟩

theorem valueOfP (t : Addr) (w : World) : (ReflectliteValue.unpack (.iface 57 (.pointer (some t)))).run Tryd.prog w
    = .ok (.agg #[.pointer (some ⟨1, 57, none⟩), .pointer (some ⟨w.heap.size, 0, none⟩), .int .u64 150]) (w.alloc (.cells #[.pointer (some t)] 57)) := by kernel_rfl
theorem typeP (a : Addr) (w : World) : (ReflectliteValue.methodAny (ReflectliteValue.valueError "reflectlite.Value.Type" 0) (fun t _ _ _ => ReflectliteType.toType t) #[.agg #[.pointer (some ⟨1, 57, none⟩), .pointer (some a), .int .u64 150]]).run Tryd.prog w
    = .ok (.iface 78 (.agg #[.pointer (some ⟨1, 57, none⟩)])) w := by kernel_rfl
theorem methodKind (h : Value) (w : World) : (Go.method 242 78 (.agg #[h]) "Kind").run Tryd.prog w = .ok (71, h) w := by kernel_rfl
theorem kindP (w : World) : ((ReflectliteType.abiMethod fun t => (fun a : Nat => Value.int IntKind.u8 (a : Int)) <$> Rtype.kind t) #[.pointer (some ⟨1, 57, none⟩)]).run Tryd.prog w = .ok (.int .u8 22) w := by kernel_rfl
theorem kindE (w : World) : ((ReflectliteType.abiMethod fun t => (fun a : Nat => Value.int IntKind.u8 (a : Int)) <$> Rtype.kind t) #[.pointer (some ⟨1, 29, none⟩)]).run Tryd.prog w = .ok (.int .u8 2) w := by kernel_rfl

theorem rlm (z : Sem Value) (f : TypeId → Addr → Nat → Nat → Sem Value) (v : Value) :
    ReflectliteValue.method z f #[v] = (do match ← ReflectliteValue.parts v with | none => z | some (t, a, fl) => f t a fl (fl % 32)) := rfl
theorem partsP (a : Addr) (w : World) : (ReflectliteValue.parts (.agg #[.pointer (some ⟨1, 57, none⟩), .pointer (some a), .int .u64 150])).run Tryd.prog w = .ok (some (57, a, 150)) w := by kernel_rfl
theorem isNilP (a p : Addr) (W : World) (ha : W.cell? a = some (.pointer (some p))) :
    (ReflectliteValue.method (ReflectliteValue.valueError "reflectlite.Value.IsNil" 0) ReflectliteValue.isNil #[.agg #[.pointer (some ⟨1, 57, none⟩), .pointer (some a), .int .u64 150]]).run Tryd.prog W = .ok (.bool false) W := by
  rw [rlm]
  simp only [Sem.run_bind, partsP, Result.andThen]
  simp [ReflectliteValue.isNil, loadVar, isAgg, underlying, Tryd.underlying57, ha, Result.andThen]

theorem methodElem (h : Value) (w : World) : (Go.method 242 78 (.agg #[h]) "Elem").run Tryd.prog w = .ok (81, .agg #[h]) w := by kernel_rfl
theorem methodImplements (h : Value) (w : World) : (Go.method 242 78 (.agg #[h]) "Implements").run Tryd.prog w = .ok (82, .agg #[h]) w := by kernel_rfl
theorem methodAssignableTo (h : Value) (w : World) : (Go.method 242 78 (.agg #[h]) "AssignableTo").run Tryd.prog w = .ok (79, .agg #[h]) w := by kernel_rfl
theorem elemP (w : World) : (ReflectliteType.method ReflectliteType.elem #[.agg #[.pointer (some ⟨1, 57, none⟩)]]).run Tryd.prog w = .ok (.iface 78 (.agg #[.pointer (some ⟨1, 29, none⟩)])) w := by kernel_rfl
theorem implementsE (w : World) : (ReflectliteType.relation "Implements" ReflectliteType.implements_ #[.agg #[.pointer (some ⟨1, 29, none⟩)], .iface 78 (.agg #[.pointer (some ⟨1, 27, none⟩)])]).run Tryd.prog w = .ok (.bool true) w := by kernel_rfl
theorem typeOfE (v : Value) (w : World) : (ReflectliteType.typeOf #[.iface 29 v]).run Tryd.prog w = .ok (.iface 78 (.agg #[.pointer (some ⟨1, 29, none⟩)])) w := by kernel_rfl
theorem assignableE (w : World) : (ReflectliteType.relation "AssignableTo" ReflectliteType.assignableTo #[.agg #[.pointer (some ⟨1, 29, none⟩)], .iface 78 (.agg #[.pointer (some ⟨1, 29, none⟩)])]).run Tryd.prog w = .ok (.bool true) w := by kernel_rfl
theorem valueOfE (c : Int) (w : World) : (ReflectliteValue.unpack (.iface 29 (.int .i64 c))).run Tryd.prog w
    = .ok (.agg #[.pointer (some ⟨1, 29, none⟩), .pointer (some ⟨w.heap.size, 0, none⟩), .int .u64 130]) (w.alloc (.cells #[.int .i64 c] 29)) := by kernel_rfl

theorem elemOfP (w : World) : (Rtype.elem? 57).run Tryd.prog w = .ok (some 29) w := by kernel_rfl
theorem mkE (p : Addr) (w : World) : (ReflectliteValue.mk 29 p ReflectliteValue.flagAddr).run Tryd.prog w = .ok (.agg #[.pointer (some ⟨1, 29, none⟩), .pointer (some p), .int .u64 386]) w := by kernel_rfl
theorem elemVP (a p : Addr) (W : World) (ha : W.cell? a = some (.pointer (some p))) :
    (ReflectliteValue.method (ReflectliteValue.valueError "reflectlite.Value.Elem" 0) ReflectliteValue.elem #[.agg #[.pointer (some ⟨1, 57, none⟩), .pointer (some a), .int .u64 150]]).run Tryd.prog W
      = .ok (.agg #[.pointer (some ⟨1, 29, none⟩), .pointer (some p), .int .u64 386]) W := by
  rw [rlm]
  simp only [Sem.run_bind, partsP, Result.andThen]
  simp [ReflectliteValue.elem, loadVar, isAgg, underlying, Tryd.underlying57, ha, Result.andThen, elemOfP, mkE]
theorem rls (v x : Value) : ReflectliteValue.set #[v, x] = (do
    let (some (dst, a, fl), some (src, b, _)) := (← ReflectliteValue.parts v, ← ReflectliteValue.parts x)
      | unsupported (.noEntry "extern/(internal/reflectlite.Value).Set.zeroValue")
    if fl / ReflectliteValue.flagAddr % 2 == 0 then unsupported (.noEntry "extern/(internal/reflectlite.Value).Set.unaddressable")
    let val ← loadVar src b
    if ← Rtype.directlyAssignable dst src then storeVar dst a val
    else if ← Rtype.implements dst src then
      if (← Rtype.kind src) == 20 then
        match val with
        | .nilIface => unsupported (.noEntry "extern/reflectlite: a nil value of one interface type handed on as a value of another")
        | _ => storeVar dst a val
      else storeVar dst a (.iface src val)
    else panicString ("reflectlite.Set: value of type " ++ (← Rtype.spelt src) ++ " is not assignable to type " ++ (← Rtype.spelt dst))
    pure (.tuple #[])) := rfl
theorem partsEa (a : Addr) (w : World) : (ReflectliteValue.parts (.agg #[.pointer (some ⟨1, 29, none⟩), .pointer (some a), .int .u64 386])).run Tryd.prog w = .ok (some (29, a, 386)) w := by kernel_rfl
theorem partsE (a : Addr) (w : World) : (ReflectliteValue.parts (.agg #[.pointer (some ⟨1, 29, none⟩), .pointer (some a), .int .u64 130])).run Tryd.prog w = .ok (some (29, a, 130)) w := by kernel_rfl
theorem directE (w : World) : (Rtype.directlyAssignable 29 29).run Tryd.prog w = .ok true w := by kernel_rfl
theorem setE (ta b : Addr) (c : Int) (old : Value) (W : World) (hb : W.cell? b = some (.int .i64 c)) (ht : W.cell? ta = some old) (hf : W.frozen? ta = false) :
    (ReflectliteValue.set #[.agg #[.pointer (some ⟨1, 29, none⟩), .pointer (some ta), .int .u64 386], .agg #[.pointer (some ⟨1, 29, none⟩), .pointer (some b), .int .u64 130]]).run Tryd.prog W
      = .ok (.tuple #[]) (W.setCell ta (.int .i64 c)) := by
  rw [rls]
  simp only [Sem.run_bind, partsEa, partsE, Result.andThen]
  simp [ReflectliteValue.flagAddr, loadVar, isAgg, underlying, Tryd.underlying29, hb, Result.andThen, directE, storeVar, Value.cells, storeCells, Addr.add]
  rw [run_store Tryd.prog W ta _ _ (by rfl)]
  simp [ht, hf]

/-- What the library lays in its variable: the type 'error'. -/
def Laid (w : World) : Prop := w.cell? ⟨0, 0, none⟩ = some (.iface 78 (.agg #[.pointer (some ⟨1, 27, none⟩)]))

set_option maxHeartbeats 4000000 in
theorem as_hit (c : Int) (t : Addr) (old : Value) (w : World) (hg : Laid w) (ht0 : w.cell? t = some old) (hf0 : w.frozen? t = false) :
    Calls Tryd.prog 21 #[.iface 29 (.int .i64 c), .iface 57 (.pointer (some t))] w fun ev w' => ev = .returned (.bool true) ∧ w' = ((((w.alloc (.cells #[.pointer (some t)] 57)).alloc (.cells #[.pointer (some ⟨1, 57, none⟩), .pointer (some ⟨w.heap.size, 0, none⟩), .int .u64 150] 64)).alloc (.cells #[.pointer (some ⟨1, 57, none⟩), .pointer (some ⟨w.heap.size, 0, none⟩), .int .u64 150] 64)).alloc (.cells #[.int .i64 c] 29)).setCell t (.int .i64 c) := by
  unfold Laid at hg
  have hVO := @run_callFunc_extern Tryd.prog 24 _ (fun args => ReflectliteValue.unpack (args.getD 0 (.tuple #[]))) Tryd.func24 (by kernel_rfl) (by kernel_rfl) (by kernel_rfl) (by kernel_rfl)
  have hTy := @run_callFunc_extern Tryd.prog 25 _ (ReflectliteValue.methodAny (ReflectliteValue.valueError "reflectlite.Value.Type" 0) (fun t _ _ _ => ReflectliteType.toType t)) Tryd.func25 (by kernel_rfl) (by kernel_rfl) (by kernel_rfl) (by kernel_rfl)
  have hIN := @run_callFunc_extern Tryd.prog 26 _ (ReflectliteValue.method (ReflectliteValue.valueError "reflectlite.Value.IsNil" 0) ReflectliteValue.isNil) Tryd.func26 (by kernel_rfl) (by kernel_rfl) (by kernel_rfl) (by kernel_rfl)
  have hKi := @run_callFunc_extern Tryd.prog 71 _ (ReflectliteType.abiMethod fun t => do pure (.int .u8 (← Rtype.kind t))) Tryd.func71 (by kernel_rfl) (by kernel_rfl) (by kernel_rfl) (by kernel_rfl)
  have hEl := @run_callFunc_extern Tryd.prog 81 _ (ReflectliteType.method ReflectliteType.elem) Tryd.func81 (by kernel_rfl) (by kernel_rfl) (by kernel_rfl) (by kernel_rfl)
  have hIm := @run_callFunc_extern Tryd.prog 82 _ (ReflectliteType.relation "Implements" ReflectliteType.implements_) Tryd.func82 (by kernel_rfl) (by kernel_rfl) (by kernel_rfl) (by kernel_rfl)
  have hTO := @run_callFunc_extern Tryd.prog 30 _ ReflectliteType.typeOf Tryd.func30 (by kernel_rfl) (by kernel_rfl) (by kernel_rfl) (by kernel_rfl)
  have hAs := @run_callFunc_extern Tryd.prog 79 _ (ReflectliteType.relation "AssignableTo" ReflectliteType.assignableTo) Tryd.func79 (by kernel_rfl) (by kernel_rfl) (by kernel_rfl) (by kernel_rfl)
  have hVE := @run_callFunc_extern Tryd.prog 31 _ (ReflectliteValue.method (ReflectliteValue.valueError "reflectlite.Value.Elem" 0) ReflectliteValue.elem) Tryd.func31 (by kernel_rfl) (by kernel_rfl) (by kernel_rfl) (by kernel_rfl)
  have hVS := @run_callFunc_extern Tryd.prog 32 _ ReflectliteValue.set Tryd.func32 (by kernel_rfl) (by kernel_rfl) (by kernel_rfl) (by kernel_rfl)
  have tO := typeOfE
  have mA := methodAssignableTo
  have aE := assignableE
  have vE := valueOfE
  have fV := valueOfP
  have fT := typeP
  have mK := methodKind
  have mE := methodElem
  have mI := methodImplements
  have kP := kindP
  have kE := kindE
  have eP := elemP
  have iE := implementsE
  have nP := isNilP ⟨w.heap.size, 0, none⟩ t ((w.alloc (.cells #[.pointer (some t)] 57)).alloc (.cells #[.pointer (some ⟨1, 57, none⟩), .pointer (some ⟨w.heap.size, 0, none⟩), .int .u64 150] 64)) (by simp)
  have hlt : 0 < w.heap.size := by
    rcases Nat.lt_or_ge 0 w.heap.size with h | h
    · exact h
    · simp [World.cell?, Array.getElem?_eq_none h] at hg
  have hg2 : ((w.alloc (.cells #[.pointer (some t)] 57)).alloc (.cells #[.pointer (some ⟨1, 57, none⟩), .pointer (some ⟨w.heap.size, 0, none⟩), .int .u64 150] 64)).cell? ⟨0, 0, none⟩ = some (.iface 78 (.agg #[.pointer (some ⟨1, 27, none⟩)])) := by
    rw [World.cell?_alloc_lt _ _ ⟨0, 0, none⟩ (by simp <;> omega), World.cell?_alloc_lt _ _ ⟨0, 0, none⟩ hlt]; exact hg
  have htl : t.block < w.heap.size := by
    rcases Nat.lt_or_ge t.block w.heap.size with h | h
    · exact h
    · simp [World.cell?, Array.getElem?_eq_none h] at ht0
  have el := elemVP ⟨w.heap.size, 0, none⟩ t (((w.alloc (.cells #[.pointer (some t)] 57)).alloc (.cells #[.pointer (some ⟨1, 57, none⟩), .pointer (some ⟨w.heap.size, 0, none⟩), .int .u64 150] 64)).alloc (.cells #[.pointer (some ⟨1, 57, none⟩), .pointer (some ⟨w.heap.size, 0, none⟩), .int .u64 150] 64)) (by rw [World.cell?_alloc_lt _ _ ⟨w.heap.size, 0, none⟩ (by simp <;> omega)]; simp)
  have st := setE t ⟨w.heap.size + 1 + 1 + 1, 0, none⟩ c old ((((w.alloc (.cells #[.pointer (some t)] 57)).alloc (.cells #[.pointer (some ⟨1, 57, none⟩), .pointer (some ⟨w.heap.size, 0, none⟩), .int .u64 150] 64)).alloc (.cells #[.pointer (some ⟨1, 57, none⟩), .pointer (some ⟨w.heap.size, 0, none⟩), .int .u64 150] 64)).alloc (.cells #[.int .i64 c] 29))
    (by rw [World.cell?_alloc_at _ _ _ _ (by simp)]; rfl)
    (by rw [World.cell?_alloc_lt _ _ t (by simp; omega), World.cell?_alloc_lt _ _ t (by simp; omega), World.cell?_alloc_lt _ _ t (by simp; omega), World.cell?_alloc_lt _ _ t htl]; exact ht0)
    (by rw [World.frozen?_alloc_old _ _ t (by simp; omega), World.frozen?_alloc_old _ _ t (by simp; omega), World.frozen?_alloc_old _ _ t (by simp; omega), World.frozen?_alloc_old _ _ t (Nat.ne_of_lt htl)]; exact hf0)
  go_enter Tryd.func21, Tryd.ntmps21
  go_wp2
  refine wp_loop_rounds 1 ?_
  rw [rounds_succ]
  go_wp2
  go_ret
  exact ⟨rfl, rfl⟩

/-- The number of a nil error. -/
theorem number_nil (w : World) : Calls Tryd.prog 8 #[.nilIface] w fun e w' => e = .returned (.int .i64 0) ∧ Below w.heap.size w w' := by
  go_enter Tryd.func8, Tryd.ntmps8
  go_wp2_with (go_at_call 21; refine (as_nil _ _).mono ?_; rintro e w' ⟨rfl, rfl⟩)
  go_ret
  exact ⟨rfl, (Below.refl _ _).alloc (Nat.le_refl _) _⟩

theorem laid_alloc {w : World} (o : Obj) (h : Laid w) : Laid (w.alloc o) := by
  have hlt : 0 < w.heap.size := by
    rcases Nat.lt_or_ge 0 w.heap.size with h1 | h1
    · exact h1
    · unfold Laid at h
      simp [World.cell?, Array.getElem?_eq_none h1] at h
  unfold Laid
  rw [World.cell?_alloc_lt _ _ ⟨0, 0, none⟩ hlt]
  exact h
theorem laid_below {w w' : World} (h : Laid w) (hb : Below w.heap.size w w') : Laid w' := by
  have hlt : 0 < w.heap.size := by
    rcases Nat.lt_or_ge 0 w.heap.size with h1 | h1
    · exact h1
    · unfold Laid at h
      simp [World.cell?, Array.getElem?_eq_none h1] at h
  unfold Laid
  rw [hb.cell (p := ⟨0, 0, none⟩) hlt]
  exact h

set_option maxHeartbeats 4000000 in
/-- The number of an error number is that. -/
theorem number_some (c : Int) (w : World) (hg : Laid w) : Calls Tryd.prog 8 #[.iface 29 (.int .i64 c)] w fun e w' => e = .returned (.int .i64 c) ∧ Below w.heap.size w w' := by
  have hg2 := laid_alloc (.cells #[.int .i64 0] 29) hg
  have HA := as_hit c ⟨w.heap.size, 0, none⟩ (.int .i64 0) (w.alloc (.cells #[.int .i64 0] 29)) hg2 (by simp) (by simp)
  clear hg hg2
  go_enter Tryd.func8, Tryd.ntmps8
  go_wp2_with (go_at_call 21; refine HA.mono ?_; rintro e w' ⟨rfl, rfl⟩)
  go_ret
  refine ⟨by simp, ?_⟩
  refine Below.alloc ?_ (by simp <;> omega) _
  refine Below.alloc ?_ (by simp <;> omega) _
  refine Below.alloc ?_ (by simp <;> omega) _
  refine Below.alloc ?_ (by simp <;> omega) _
  exact (Below.refl _ _).alloc (Nat.le_refl _) _
end Go.Proofs.YtgbhblbfodphfaaDoor.Number
