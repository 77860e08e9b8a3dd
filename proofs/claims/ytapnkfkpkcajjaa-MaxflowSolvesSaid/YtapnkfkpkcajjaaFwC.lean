/-
  The operations that touch no memory: what the model does is what the intermediate form says.
-/
import Derived.Test.YtapnkfkpkcajjaaFwB
namespace Go.DI
open Go Go.RowKit

def Yields (P : Program) (o : Oper) (a : Act) (w : World) (v : Value) (w' : World) : Prop :=
  (execOp a.eval o).run P w = .ok (.value v) w' ∨ ((execOp a.eval o).run P w = .ok .skip w' ∧ v = undef)

section
variable {P : Program} {o : Oper} {a : Act} {w : World}

theorem y_move {x : Operand} (hop : o.op = .move x) : Yields P o a w (a.eval x) w := .inl (by simp [execOp, hop])
theorem y_assign {x : Operand} (hop : o.op = .assign x) : Yields P o a w (a.eval x) w := .inl (by simp [execOp, hop])
theorem y_pick {c x y : Operand} {b : Bool} (hop : o.op = .pick c x y) (hc : a.eval c = .bool b) : Yields P o a w (if b then a.eval x else a.eval y) w :=
  .inl (by simp [execOp, hop, hc, asBool])
theorem y_nilck {x : Operand} (hop : o.op = .nilCheck x) (hx : isNotNil (a.eval x) = true) : Yields P o a w (a.eval x) w := by
  refine .inl ?_
  simp only [execOp, hop]
  generalize a.eval x = v at hx
  cases v <;> simp_all [isNotNil]
  · rename_i p; cases p <;> simp_all
  · rename_i fn _ _; cases fn <;> simp_all
theorem y_bin {op : BinOp} {t yt : TypeId} {x y : Operand} {v : Value} (hop : o.op = .binOp op t x y yt) (hg : (eqGuard op t x y (a.eval x) (a.eval y)).run P w = .ok () w)
    (h : (binOp op t (a.eval x) (a.eval y)).run P w = .ok v w) : Yields P o a w v w :=
  .inl (by simp [execOp, hop, hg, h])
theorem y_un {op : UnOp} {t : TypeId} {x : Operand} (hop : o.op = .unOp op t x) (hx : unOk op (a.eval x) = true) : Yields P o a w (unV op (a.eval x)) w := by
  refine .inl ?_
  simp only [execOp, hop]
  generalize a.eval x = v at hx
  cases op <;> cases v <;> simp_all [unOk, unV, Op.unary, Op.intArith]
theorem y_ext {x : Operand} {i : Nat} {vs : Array Value} (hop : o.op = .extract x i) (hx : a.eval x = .tuple vs) (hi : i < vs.size) : Yields P o a w (tupAt (a.eval x) i) w := by
  refine .inl ?_
  simp [execOp, hop, hx, Instr.extract, hi, tupAt]
theorem y_convI {s d : TypeId} {k k0 k1 : IntKind} {n : Int} {x : Operand} (hop : o.op = .convert s d x) (hs : P.underlying s = some (.int k0)) (hd : P.underlying d = some (.int k)) (hx : a.eval x = .int k1 n) :
    Yields P o a w (.int k (k.wrap n)) w := by
  refine .inl ?_
  simp [execOp, hop, hx, convert, underlying, hs, hd, Conv.intToInt]
theorem y_convId {s d : TypeId} {b : ByteArray} {x : Operand} (hop : o.op = .convert s d x) (hs : P.underlying s = some .string) (hd : P.underlying d = some .string) (hx : a.eval x = .string b) :
    Yields P o a w (.string b) w := by
  refine .inl ?_
  simp [execOp, hop, hx, convert, underlying, hs, hd]
theorem y_mkfunc {fn : Fn} {x y : Array Operand} (hop : o.op = .makeFunc fn x y) : Yields P o a w (.func fn (x.map a.eval) (y.map a.eval)) w :=
  .inl (by simp [execOp, hop, Instr.makeFunc])
theorem y_faddr {s : TypeId} {x : Operand} {i : Nat} {fs : Array Field} {f : Field} {inf : TypeInfo} {c off : Nat} (hop : o.op = .fieldAddr s x i) (hs : P.underlying s = some (.struct fs)) (hf : fs[i]? = some f)
    (hi : P.info? f.type = some inf) (hn : 0 < inf.size) (hx : a.eval x = .pointer (some ⟨c, off, none⟩)) : Yields P o a w (.pointer (some ⟨c, off + f.offset, none⟩)) w := by
  refine .inl ?_
  have : inf.size ≠ 0 := by omega
  simp [execOp, hop, hx, Instr.fieldAt, underlying, hs, hf, Instr.sureAddr, fieldPlace, sizeOf, typeInfo, hi, this, Addr.add]
theorem y_iaddr {t e : TypeId} {x i : Operand} {inf : TypeInfo} {c off len cap : Nat} {k : IntKind} {n : Int} (hop : o.op = .indexAddr t x i) (ht : P.underlying t = some (.slice e))
    (hi : P.info? e = some inf) (hx : a.eval x = .slice (some ⟨c, off, none⟩) len cap) (hn : a.eval i = .int k n) (h0 : 0 ≤ n) (h1 : n < (len : Int)) :
    Yields P o a w (.pointer (some ⟨c, off + n.toNat * inf.size, none⟩)) w := by
  refine .inl ?_
  simp [execOp, hop, hx, hn, Instr.indexAt, asIntOf, underlying, ht, sizeOf, typeInfo, hi, h0, h1, Addr.add]
theorem y_iaddrA {t e : TypeId} {x i : Operand} {inf : TypeInfo} {c off len : Nat} {k : IntKind} {n : Int} (hop : o.op = .indexAddr t x i) (ht : P.underlying t = some (.array len e))
    (hi : P.info? e = some inf) (hx : a.eval x = .pointer (some ⟨c, off, none⟩)) (hn : a.eval i = .int k n) (h0 : 0 ≤ n) (h1 : n < (len : Int)) :
    Yields P o a w (.pointer (some ⟨c, off + n.toNat * inf.size, none⟩)) w := by
  refine .inl ?_
  simp [execOp, hop, hx, hn, Instr.indexAt, asIntOf, underlying, ht, sizeOf, typeInfo, hi, h0, h1, Addr.add, Instr.sureAddr]
theorem y_idxStr {t : TypeId} {x i : Operand} {s : ByteArray} {k : IntKind} {n : Int} (hop : o.op = .index t x i) (ht : P.underlying t = some .string)
    (hx : a.eval x = .string s) (hn : a.eval i = .int k n) (h0 : 0 ≤ n) (h1 : n < (s.size : Int)) :
    Yields P o a w (.int .u8 ((s.data.toList.getD n.toNat 0).toNat : Nat)) w := by
  refine .inl ?_
  have h2 : n.toNat < s.size := by omega
  have h3 : s[n.toNat]? = some (s.data.toList.getD n.toNat 0) := by
    rw [getElem?_pos s n.toNat h2]
    have : n.toNat < s.data.size := h2
    simp only [List.getD_eq_getElem?_getD, Array.getElem?_toList, Array.getElem?_eq_getElem this, Option.getD_some]
    rfl
  simp [execOp, hop, hx, hn, Instr.index, asIntOf, underlying, ht, h0, h3]
theorem y_lenS {c : Call} {x : Operand} {t : TypeId} {s : ByteArray} (hop : o.op = .call c) (hc : c.callee = .builtin .len) (ha : c.args.toList = [x]) (hT : c.argTypes.toList = [t])
    (ht : P.underlying t = some .string) (hx : a.eval x = .string s) : Yields P o a w (.int .i64 s.size) w := by
  refine .inl ?_
  have ha' : c.args = #[x] := by rw [← Array.toArray_toList (xs := c.args), ha]
  have hT' : c.argTypes = #[t] := by rw [← Array.toArray_toList (xs := c.argTypes), hT]
  simp [execOp, hop, resolve, hc, ha', hT', invoke, builtin, Builtin.len_, underlying, ht, hx, goInt]
theorem y_lenV {c : Call} {x : Operand} {t e : TypeId} {p : Option Addr} {l cap : Nat} (hop : o.op = .call c) (hc : c.callee = .builtin .len) (ha : c.args.toList = [x]) (hT : c.argTypes.toList = [t])
    (ht : P.underlying t = some (.slice e)) (hx : a.eval x = .slice p l cap) : Yields P o a w (.int .i64 l) w := by
  refine .inl ?_
  have ha' : c.args = #[x] := by rw [← Array.toArray_toList (xs := c.args), ha]
  have hT' : c.argTypes = #[t] := by rw [← Array.toArray_toList (xs := c.argTypes), hT]
  simp [execOp, hop, resolve, hc, ha', hT', invoke, builtin, Builtin.len_, underlying, ht, hx, goInt]
end

end Go.DI
