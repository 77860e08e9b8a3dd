/-
  Every operation, in one theorem; calls; one step of a region.
-/
import Derived.Test.YtapnkfkpkcajjaaFwL
namespace Go.DI
open Go Go.RowKit

section
variable {P : Program} {w : World} {o : Oper} {a : Act} {ρ : Ren} {nt : Nat} {σ : Slots} {m : Mem} {B id : Nat}

theorem pure_mem {k : IK} (h : k.pure = true) : k.mem id σ m = m := by
  cases k <;> first | rfl | (simp [IK.pure] at h)

set_option maxHeartbeats 1000000 in
theorem op_sound {k : IK} (hk : cKind P o = some k) (hc : k.isCall = false) (hs : SRel ρ nt σ a) (hm : MRel B ρ m w) (hB : B ≤ w.heap.size) (hid : k.isAlloc = true → id < m.next) (hr : k.isAlloc = true → ρ id = none) (hok : k.ok σ m = true) : Sound P o k a B ρ σ m w id := by
  by_cases hp : k.pure = true
  · obtain ⟨v', h1, h2⟩ := pure_sound (w := w) (m := m) hk hp hs hok id
    exact ⟨v', w, ρ, h1, RenLe.refl ρ, fun _ _ => rfl, h2, by rw [pure_mem hp]; exact hm, Below.refl _ _⟩
  · unfold cKind at hk
    split at hk
    · split at hk <;> cases hk; exact absurd rfl hp
    · split at hk <;> cases hk; exact absurd rfl hp
    · split at hk <;> cases hk; exact absurd rfl hp
    · split at hk <;> cases hk; exact absurd rfl hp
    · -- alloc
      rename_i e hop
      split at hk <;> cases hk
      rename_i z hz
      exact s_alloc hop hz hm hB (hid rfl) (hr rfl)
    · -- box
      rename_i e x hop
      split at hk <;> cases hk
      rename_i hx
      exact s_box hop hx hs hok hm hB (hid rfl) (hr rfl)
    · (repeat' split at hk) <;> cases hk <;> exact absurd rfl hp
    · -- buildSlice
      rename_i t n ps hop
      split at hk
      · rename_i e ht
        split at hk
        · rename_i z hz
          split at hk
          · rename_i qs hq
            split at hk <;> cases hk
            rename_i hc'
            simp only [Bool.and_eq_true, decide_eq_true_eq] at hc'
            exact s_bslice hop ht hz hq hc'.1 hc'.2 hs hm hB (hid rfl) (hr rfl) hok
          · cases hk
        · cases hk
      · cases hk
    · -- load
      rename_i t x hop
      split at hk
      · rename_i ag n hag hn
        split at hk <;> cases hk
        rename_i hx
        exact s_load hop hag hn hx hs hm hok
      · cases hk
    · -- store
      rename_i t x v hop
      split at hk
      · rename_i n hn
        split at hk <;> cases hk
        rename_i hx
        simp only [Bool.and_eq_true] at hx
        exact s_store hop hn hx.1 hx.2 hs hm hok
      · cases hk
    · (repeat' split at hk) <;> cases hk <;> exact absurd rfl hp
    · (repeat' split at hk) <;> cases hk <;> exact absurd rfl hp
    · -- convert
      rename_i s d x hop
      split at hk
      · split at hk <;> cases hk; exact absurd rfl hp
      · split at hk <;> cases hk; exact absurd rfl hp
      · rename_i e hS hD
        split at hk
        · rename_i hE
          split at hk <;> cases hk
          rename_i hx
          exact s_convBS hop hS hD hE hx hs hm hok
        · cases hk
      · rename_i e hS hD
        split at hk
        · rename_i hE
          split at hk <;> cases hk
          rename_i hx
          exact s_convSB hop hS hD hE hx hs hm hB (hid rfl) (hr rfl) hok
        · cases hk
      · cases hk
    · -- makeSlice
      rename_i t l c hop
      split at hk
      · rename_i e ht
        split at hk
        · rename_i z inf hz hi
          split at hk <;> cases hk
          rename_i hx
          simp only [Bool.and_eq_true] at hx
          exact s_mkslice hop ht hz hi hx.1 hx.2 hs hm hB (hid rfl) (hr rfl) hok
        · cases hk
      · cases hk
    · (repeat' split at hk) <;> cases hk <;> exact absurd rfl hp
    · (repeat' split at hk) <;> cases hk <;> exact absurd rfl hp
    · (repeat' split at hk) <;> cases hk <;> exact absurd rfl hp
    · (repeat' split at hk) <;> cases hk <;> exact absurd rfl hp
    · (repeat' split at hk) <;> cases hk <;> exact absurd rfl hp
    · (repeat' split at hk) <;> cases hk <;> exact absurd rfl hp
    · (repeat' split at hk) <;> cases hk <;> exact absurd rfl hp
    · -- call
      rename_i c hop
      unfold cCall at hk
      split at hk
      · (repeat' split at hk) <;> cases hk <;> simp [IK.isCall] at hc
      · (repeat' split at hk) <;> cases hk <;> simp [IK.isCall] at hc
      · (repeat' split at hk) <;> cases hk <;> exact absurd rfl hp
      · rename_i hcl
        split at hk
        · rename_i x y t u ha hT
          split at hk
          · rename_i e ht
            split at hk
            · rename_i inf hi
              split at hk <;> cases hk
              rename_i hx
              simp only [Bool.and_eq_true, decide_eq_true_eq] at hx
              obtain ⟨⟨⟨rfl, h1⟩, h2⟩, h3⟩ := hx
              obtain ⟨z, hz⟩ := Option.isSome_iff_exists.1 h3
              exact s_app hop hcl ha hT ht hi hz h1 h2 hs hm hB (hid rfl) (hr rfl) hok
            · cases hk
          · cases hk
        · cases hk
      · (repeat' split at hk) <;> cases hk <;> exact absurd rfl hp
      · (repeat' split at hk) <;> cases hk <;> exact absurd rfl hp
      · cases hk
    · cases hk

/-! calls -/
def Callable (P : Program) (f : Nat) : Prop := ∃ fn, P.funcs[f]? = some fn ∧ fn.body.isSome = true ∧ (fn.name == "runtime.NumGoroutine") = false

theorem run_callFunc {f : Nat} {args : Array Value} (h : Callable P f) : (callFunc f args).run P w = .ok (.enter f args) w := by
  obtain ⟨fn, h1, h2, h3⟩ := h
  have h4 : fn.body ≠ none := by intro hb; simp [hb] at h2
  have h5 : fn.name ≠ "runtime.NumGoroutine" := by simpa using h3
  simp [callFunc, h1, h4, h5]

/-- what is known of a callee -/
def ClSound (P : Program) (B : Nat) (cl : Callee) : Prop := ∀ f args m r m', cl f args m = some (r, m') → Callable P f ∧ m.next ≤ m'.next ∧ (∀ b, b < m.next → m.get b = none → m'.get b = none) ∧
  ∀ ρ w (args' : Array Value), LRel ρ args args'.toList → MRel B ρ m w → B ≤ w.heap.size →
    Calls P f args' w fun e w' => ∃ v ρ', e = .returned v ∧ RenLe ρ ρ' ∧ (∀ b, b < m.next → ρ' b = ρ b) ∧ VRel ρ' r v ∧ MRel B ρ' m' w' ∧ Below B w w'

/-- an operation that calls -/
theorem call_sound {k : IK} (hk : cKind P o = some k) (hs : SRel ρ nt σ a) {f : Nat} {args : List Value} (hcal : k.callee σ = some (f, args)) (hf : Callable P f) :
    ∃ args' : Array Value, (execOp a.eval o).run P w = .ok (.enter f args') w ∧ LRel ρ args args'.toList := by
  unfold cKind at hk
  split at hk
  case h_22 c hop =>
    unfold cCall at hk
    split at hk
    · -- a named function
      rename_i g hcl
      split at hk
      · rename_i fn hfn
        split at hk <;> cases hk
        rename_i hc'
        simp only [Bool.and_eq_true] at hc'
        simp only [IK.callee, Option.some.injEq, Prod.mk.injEq] at hcal
        obtain ⟨rfl, rfl⟩ := hcal
        refine ⟨c.args.map a.eval, ?_, by simpa using list_rel hs _ hc'.2⟩
        have h1 : a.eval (.func g) = .func (.func g) #[] #[] := rfl
        simp only [execOp, hop, resolve, hcl, Sem.run_bind, h1, Deferred.ofValue, Sem.run_pure, Result.andThen_ok, invoke]
        rw [run_callFunc hf]
        simp
      · cases hk
    · -- a function value
      rename_i t hcl
      split at hk <;> cases hk
      rename_i hc'
      simp only [IK.callee] at hcal
      have hr := hs.ev (x := .tmp t) rfl
      split at hcal
      · rename_i g first caps hv
        simp only [Option.some.injEq, Prod.mk.injEq] at hcal
        obtain ⟨rfl, rfl⟩ := hcal
        rw [hv] at hr
        obtain ⟨ys, ds, h1, h2, h3⟩ := hr.inv_func
        refine ⟨ys ++ c.args.map a.eval ++ ds, ?_, by simpa using (h2.append (list_rel hs _ hc')).append h3⟩
        simp only [execOp, hop, resolve, hcl, Sem.run_bind, h1, Deferred.ofValue, Sem.run_pure, Result.andThen_ok, invoke]
        rw [run_callFunc hf]
      · cases hcal
    all_goals ((repeat' split at hk) <;> cases hk <;> simp [IK.callee] at hcal)
  all_goals ((repeat' split at hk) <;> cases hk <;> simp [IK.callee] at hcal)

end
end Go.DI
