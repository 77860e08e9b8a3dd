/-
  A string made into bytes.
-/
import Derived.Test.YtapnkfkpkcajjaaFwK
namespace Go.DI
open Go Go.RowKit

section
variable {P : Program} {w : World} {o : Oper} {a : Act} {ρ : Ren} {nt : Nat} {σ : Slots} {m : Mem} {B id : Nat}

theorem modify_push {α : Type} (xs : Array α) (x : α) (f : α → α) : (xs.push x).modify xs.size f = xs.push (f x) := by
  apply Array.ext_getElem?
  intro i
  rw [Array.getElem?_modify, Array.getElem?_push, Array.getElem?_push]
  by_cases h : xs.size = i
  · simp [h]
  · have : ¬ i = xs.size := fun e => h e.symm
    simp [h, this]

theorem s_convSB {s d e : TypeId} {x : Operand} (hop : o.op = .convert s d x) (hS : P.underlying s = some .string) (hD : P.underlying d = some (.slice e)) (hE : P.underlying e = some (.int .u8)) (hx : argOk x = true)
    (hs : SRel ρ nt σ a) (hm : MRel B ρ m w) (hB : B ≤ w.heap.size) (hid : id < m.next) (hr : ρ id = none) (hok : (IK.convSB x).ok σ m = true) : Sound P o (.convSB x) a B ρ σ m w id := by
  simp only [IK.ok, Bool.and_eq_true, decide_eq_true_eq] at hok
  obtain ⟨h1, h2⟩ := hok
  obtain ⟨e1, b, hv⟩ := str_of (hs.ev hx) h1
  rw [hv] at h2
  simp only [asS] at h2
  have hge := grownCap_ge w b.size 0 e
  have hcm : grownCap w b.size 0 e ≤ maxLen := grownCap_le_maxLen w _ 0 e (by unfold maxLen; omega)
  generalize hcap : grownCap w b.size 0 e = cap at hge hcm
  let arr : Array Value := (b.data.map fun (x : UInt8) => Value.int .u8 x.toNat) ++ Array.replicate (cap - b.size) (Value.int .u8 0)
  have hsz : arr.size = cap := by
    show ((b.data.map fun (x : UInt8) => Value.int .u8 x.toNat) ++ Array.replicate (cap - b.size) (Value.int .u8 0)).size = cap
    simp only [Array.size_append, Array.size_map, Array.size_replicate]
    have : b.data.size = b.size := rfl
    omega
  have hfz : (w.drew.alloc (.cells arr e)).freeze ⟨w.heap.size, arr.size, none⟩ 1 = w.drew.alloc (.cells arr e (arr.size, arr.size + 1)) := by
    simp only [World.freeze, Nat.one_ne_zero, if_false, World.alloc]
    congr 1
    show (w.heap.push _).modify w.heap.size _ = w.heap.push _
    rw [modify_push]
    simp
  have hrun : (Conv.stringToBytes e b).run P w = .ok (.slice (some ⟨w.heap.size, 0, none⟩) b.size cap) (w.drew.alloc (.cells arr e (arr.size, arr.size + 1))) := by
    have hch : (choose (.appendCap b.size 0 e)).run P w = .ok cap w.drew := by
      rw [← hcap]
      rfl
    have hnew : (newRow e arr).run P w.drew = .ok ⟨w.heap.size, 0, none⟩ (w.drew.alloc (.cells arr e)) := rfl
    have hshape : (w.drew.alloc (.cells arr e)).shape? w.heap.size = some (e, arr.size) := by
      show (match (w.heap.push (Obj.cells arr e))[w.heap.size]? with | some (.cells c elem _) => some (elem, c.size) | _ => none) = _
      simp
    have hmark : (markStringish ⟨w.heap.size, 0, none⟩).run P (w.drew.alloc (.cells arr e)) = .ok () (w.drew.alloc (.cells arr e (arr.size, arr.size + 1))) := by
      simp only [markStringish, Sem.run_bind]
      have : (shape w.heap.size).run P (w.drew.alloc (.cells arr e)) = .ok (some (e, arr.size)) (w.drew.alloc (.cells arr e)) := by
        simp only [shape, Sem.run, hshape]
      rw [this]
      simp only [Result.andThen_ok]
      show Result.ok () ((w.drew.alloc (.cells arr e)).freeze ⟨w.heap.size, arr.size, none⟩ 1) = _
      rw [hfz]
    simp only [Conv.stringToBytes, Sem.run_bind, hch, Result.andThen_ok]
    have e2 : (b.data.map fun (b : UInt8) => Value.int .u8 b.toNat) ++ Array.replicate (cap - b.size) (Value.int .u8 0) = arr := rfl
    rw [e2, hnew]
    simp only [Result.andThen_ok, hmark]
    rfl
  refine ⟨.slice (some ⟨w.heap.size, 0, none⟩) b.size cap, _, updR ρ id ⟨w.heap.size, 0, cap⟩, .inl ?_, updR_le hr, updR_other, ?_, ?_, below_alloc (w := w) (w1 := w.drew) rfl rfl rfl rfl hB (.cells arr e (arr.size, arr.size + 1))⟩
  · simp [execOp, hop, e1, hv, convert, underlying, hS, hD, hE, hrun]
  · simp only [IK.val, hv, asS]
    exact .slice (off := 0) (l := ⟨w.heap.size, 0, cap⟩) (by simp [updR]) (.inr ⟨by simp, by simp⟩) hge hcm
  · simp only [IK.mem, hv, asS]
    refine hm.newBlock (w1 := w.drew) rfl hB hid hr (by simp only [ofBytes, List.length_map, Array.length_toList]; exact hge) (by rw [hsz]; exact Nat.le_refl _) (fun i v hv' => ?_) (fun i hi' => by simp only; omega)
    have hi2 : i < b.data.size := by have := (List.getElem?_eq_some_iff.1 hv').1; simpa [ofBytes] using this
    have hvv : v = .int .u8 (b.data[i]).toNat := by
      simp only [ofBytes, List.getElem?_map, Array.getElem?_toList, Array.getElem?_eq_getElem hi2, Option.map_some, Option.some.injEq] at hv'
      exact hv'.symm
    subst hvv
    refine ⟨rfl, _, ?_, .flat rfl⟩
    show ((b.data.map fun (x : UInt8) => Value.int .u8 x.toNat) ++ Array.replicate (cap - b.size) (Value.int .u8 0))[i]? = _
    rw [Array.getElem?_append_left (by simpa using hi2), Array.getElem?_map, Array.getElem?_eq_getElem hi2]
    rfl

end
end Go.DI
