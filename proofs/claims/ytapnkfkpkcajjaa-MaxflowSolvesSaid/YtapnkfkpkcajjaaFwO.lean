/-
  Two operations of a region that may come up in either order.
-/
import Derived.Test.YtapnkfkpkcajjaaFwN
namespace Go.DI
open Go Go.RowKit

def IK.wr (k : IK) (id : Nat) (σ : Slots) (m : Mem) : List (Nat × Option Blk) :=
  match k with
  | .alloc z => [(id, some ⟨z, true⟩)]
  | .box x => [(id, some ⟨vcells (ev σ x), true⟩)]
  | .bslice _ _ z ps => [(id, some ⟨partsV z σ ps, true⟩)]
  | .store _ x v => match ev σ x with
    | .pointer (some a) => (match m.get a.block with | some b => [(a.block, some ⟨blit b.cells a.off (vcells (ev σ v)), b.own⟩)] | none => [])
    | _ => []
  | .convSB x => [(id, some ⟨ofBytes (asS (ev σ x)), true⟩)]
  | .mkslice _ _ zero l _ => [(id, some ⟨(List.replicate (asI (ev σ l)).toNat zero).flatten, true⟩)]
  | .app z _ x y => if sliceLen (ev σ y) = 0 then [] else (match ev σ x with | .slice (some a) _ _ => [(a.block, none)] | _ => []) ++ [(id, some ⟨sliceCells m z (ev σ x) ++ sliceCells m z (ev σ y), true⟩)]
  | _ => []
def applyW (m : Mem) (l : List (Nat × Option Blk)) : Mem := l.foldl (fun m p => m.put p.1 p.2) m

section
variable {P : Program} {σ σ2 : Slots} {m m2 : Mem} {B : Nat} {cl : Callee} {base id : Nat} {k : IK}

theorem mem_wr : k.mem id σ m = applyW m (k.wr id σ m) := by
  cases k <;> simp only [IK.mem, IK.wr, applyW, List.foldl_nil, List.foldl_cons]
  · rename_i n x v
    generalize ev σ x = u
    cases u <;> try rfl
    rename_i p
    cases p with
    | none => rfl
    | some ad =>
      simp only [storeM]
      cases m.get ad.block <;> rfl
  · rename_i z by_ x y
    split
    · rfl
    · generalize ev σ x = u
      cases u <;> try rfl
      rename_i p l c
      cases p <;> rfl

theorem wr_keys : ∀ p ∈ k.wr id σ m, (k.isAlloc = true ∧ p.1 = id ∧ blkOf (k.val id σ m) = some id) ∨ ∃ x ∈ k.wro, blkOf (ev σ x) = some p.1 := by
  intro p hp
  cases k <;> simp only [IK.wr, List.not_mem_nil, List.mem_singleton] at hp
  case alloc => subst hp; exact .inl ⟨rfl, rfl, rfl⟩
  case box => subst hp; exact .inl ⟨rfl, rfl, rfl⟩
  case bslice => subst hp; exact .inl ⟨rfl, rfl, rfl⟩
  case convSB => subst hp; exact .inl ⟨rfl, rfl, rfl⟩
  case mkslice => subst hp; exact .inl ⟨rfl, rfl, rfl⟩
  case store n x v =>
    split at hp
    · rename_i ad h
      split at hp
      · simp only [List.mem_singleton] at hp
        subst hp
        exact .inr ⟨x, by simp [IK.wro], by simp [h, blkOf]⟩
      · cases hp
    · cases hp
  case app z by_ x y =>
    split at hp
    · cases hp
    · rename_i hn
      rcases List.mem_append.1 hp with h | h
      · split at h
        · rename_i ad l c hx
          simp only [List.mem_singleton] at h
          subst h
          exact .inr ⟨x, by simp [IK.wro], by simp [hx, blkOf]⟩
        · cases h
      · simp only [List.mem_singleton] at h
        subst h
        exact .inl ⟨rfl, rfl, by simp [IK.val, hn, blkOf]⟩

theorem get_applyW : ∀ (l : List (Nat × Option Blk)) (m : Mem) (b : Nat), (∀ p ∈ l, p.1 ≠ b) → (applyW m l).get b = m.get b
  | [], _, _, _ => rfl
  | p :: l, m, b, h => by
    show (applyW (m.put p.1 p.2) l).get b = _
    rw [get_applyW l _ b (fun q hq => h q (by simp [hq])), Mem.get_put, if_neg (Ne.symm (h p (by simp)))]
theorem put_comm {a b : Nat} {x y : Option Blk} (h : a ≠ b) : (m.put a x).put b y = (m.put b y).put a x := by
  unfold Mem.put
  simp only [Mem.mk.injEq, true_and]
  funext i
  by_cases h1 : i = b
  · subst h1; simp [Ne.symm h]
  · simp [h1]
theorem applyW_put : ∀ (l : List (Nat × Option Blk)) (m : Mem) (b : Nat) (x : Option Blk), (∀ p ∈ l, p.1 ≠ b) → applyW (m.put b x) l = (applyW m l).put b x
  | [], _, _, _, _ => rfl
  | p :: l, m, b, x, h => by
    show applyW ((m.put b x).put p.1 p.2) l = (applyW (m.put p.1 p.2) l).put b x
    rw [put_comm (Ne.symm (h p (by simp))), applyW_put l _ b x (fun q hq => h q (by simp [hq]))]
theorem applyW_comm : ∀ (l r : List (Nat × Option Blk)) (m : Mem), (∀ p ∈ l, ∀ q ∈ r, p.1 ≠ q.1) → applyW (applyW m l) r = applyW (applyW m r) l
  | [], _, _, _ => rfl
  | p :: l, r, m, h => by
    show applyW (applyW (m.put p.1 p.2) l) r = applyW ((applyW m r).put p.1 p.2) l
    rw [applyW_comm l r _ (fun p' hp' => h p' (by simp [hp'])), applyW_put r m p.1 p.2 (fun q hq => Ne.symm (h p (by simp) q hq))]
theorem applyW_next : ∀ (l : List (Nat × Option Blk)) (m : Mem), (applyW m l).next = m.next
  | [], _ => rfl
  | p :: l, m => by show (applyW (m.put p.1 p.2) l).next = _; rw [applyW_next l]; rfl

theorem cellsAt_congr {b : Nat} (h : m.get b = m2.get b) (off n : Nat) : cellsAt m b off n = cellsAt m2 b off n := by unfold cellsAt; rw [h]

/-- of the memory an operation sees what it reads alone -/
theorem congr_m (h : ∀ x ∈ k.rd, ∀ b, blkOf (ev σ x) = some b → m.get b = m2.get b) : k.ok σ m = k.ok σ m2 ∧ k.val id σ m = k.val id σ m2 ∧ k.wr id σ m = k.wr id σ m2 := by
  cases k <;> try exact ⟨rfl, rfl, rfl⟩
  case load ag n x =>
    have h1 := h x (by simp [IK.rd])
    cases hv : ev σ x <;> simp only [IK.ok, IK.val, IK.wr, hv, addrOk, loadV, and_self]
    rename_i p
    cases p with
    | none => simp
    | some ad =>
      have h2 := h1 ad.block (by simp [hv, blkOf])
      simp only [h2, cellsAt_congr h2, and_self]
  case store n x v =>
    have h1 := h x (by simp [IK.rd])
    cases hv : ev σ x <;> simp only [IK.ok, IK.val, IK.wr, hv, addrOk, addrOwn, true_and, and_self]
    rename_i p
    cases p with
    | none => simp
    | some ad =>
      have h2 := h1 ad.block (by simp [hv, blkOf])
      simp only [h2, and_self]
  case convBS x =>
    have h1 := h x (by simp [IK.rd])
    cases hv : ev σ x <;> simp only [IK.ok, IK.val, IK.wr, hv, sliceOk, sliceCells, and_self]
    rename_i p l c
    cases p with
    | none => simp
    | some ad =>
      have h2 := h1 ad.block (by simp [hv, blkOf])
      simp only [h2, cellsAt_congr h2, and_self]
  case app z by_ x y =>
    have h1 := h x (by simp [IK.rd])
    have h1' := h y (by simp [IK.rd])
    have s : ∀ v : Value, (∀ b, blkOf v = some b → m.get b = m2.get b) → sliceOk m z v = sliceOk m2 z v ∧ sliceOwn m v = sliceOwn m2 v ∧ sliceCells m z v = sliceCells m2 z v := by
      intro v hv
      cases v <;> simp only [sliceOk, sliceOwn, sliceCells, and_self]
      rename_i p l c
      cases p with
      | none => simp
      | some ad =>
        have h2 := hv ad.block (by simp [blkOf])
        simp only [h2, cellsAt_congr h2, and_self]
    obtain ⟨a1, a2, a3⟩ := s _ h1
    obtain ⟨b1, _, b3⟩ := s _ h1'
    simp only [IK.ok, IK.val, IK.wr, a1, a2, a3, b1, b3, and_self]

/-- living blocks -/
theorem ok_live (h : k.ok σ m = true) : ∀ x ∈ k.rd ++ k.wro, ∀ b, blkOf (ev σ x) = some b → (m.get b).isSome = true := by
  have ha : ∀ (v : Value) n, addrOk m v n = true → ∀ b, blkOf v = some b → (m.get b).isSome = true := by
    intro v n hv b hb
    obtain ⟨b', off, x, rfl, hx, _⟩ := addrOk_spec hv
    simp only [blkOf, Option.some.injEq] at hb
    subst hb; rw [hx]; rfl
  have hs : ∀ (v : Value) z, sliceOk m z v = true → ∀ b, blkOf v = some b → (m.get b).isSome = true := by
    intro v z hv b hb
    rcases sliceOk_spec hv with rfl | ⟨b', off, len, x, rfl, hx, _⟩
    · simp [blkOf] at hb
    · simp only [blkOf, Option.some.injEq] at hb
      subst hb; rw [hx]; rfl
  intro x hx b hb
  cases k <;> simp only [IK.rd, IK.wro, List.append_nil, List.not_mem_nil] at hx
  case load ag n y =>
    simp only [List.mem_singleton] at hx; subst hx
    simp only [IK.ok, Bool.and_eq_true] at h
    exact ha _ _ h.1 b hb
  case store n y v =>
    simp at hx; subst hx
    simp only [IK.ok, Bool.and_eq_true] at h
    exact ha _ _ h.1.1.1 b hb
  case convBS y =>
    simp only [List.mem_singleton] at hx; subst hx
    simp only [IK.ok, Bool.and_eq_true] at h
    exact hs _ _ h.1 b hb
  case app z by_ y v =>
    simp only [IK.ok, Bool.and_eq_true] at h
    simp at hx
    rcases hx with rfl | rfl | rfl
    · exact hs _ _ h.1.1.1.1.1 b hb
    · exact hs _ _ h.1.1.1.2 b hb
    · exact hs _ _ h.1.1.1.1.1 b hb

theorem ev_congr {x : Operand} (h : ∀ t, x = .tmp t → σ t = σ2 t) : ev σ x = ev σ2 x := by cases x <;> first | rfl | exact h _ rfl

theorem parts_congr : ∀ (ps : List (Nat × Nat × Operand)) (cs : List Value), (∀ p ∈ ps, ev σ p.2.2 = ev σ2 p.2.2) → partsOk cs σ ps = partsOk cs σ2 ps ∧ partsV cs σ ps = partsV cs σ2 ps
  | [], _, _ => ⟨rfl, rfl⟩
  | (q1, q2, q3) :: ps, cs, h => by
    have h0 : ev σ q3 = ev σ2 q3 := h (q1, q2, q3) (by simp)
    have h1 := (parts_congr ps cs fun p hp => h p (by simp [hp])).1
    have h2 := (parts_congr ps (blit cs q1 (vcells (ev σ2 q3))) fun p hp => h p (by simp [hp])).2
    simp only [partsOk, List.all_cons, partsV, h0] at h1 ⊢
    exact ⟨by rw [h1], h2⟩

theorem opt_congr {l : Option Operand} {d : Int} (h : ∀ x ∈ l.toList, ev σ x = ev σ2 x) : optOk σ l = optOk σ2 l ∧ optI σ l d = optI σ2 l d := by
  cases l with
  | none => exact ⟨rfl, rfl⟩
  | some x => have := h x (by simp); simp [optOk, optI, this]

theorem congr_ev (h : ∀ x ∈ k.opnds, ev σ x = ev σ2 x) : k.ok σ m = k.ok σ2 m ∧ k.val id σ m = k.val id σ2 m ∧ k.wr id σ m = k.wr id σ2 m ∧ k.callee σ = k.callee σ2 := by
  cases k <;> simp only [IK.opnds, List.mem_cons, List.not_mem_nil, or_false, forall_eq_or_imp, forall_eq, List.mem_append] at h
  case build z ps =>
    obtain ⟨h1, h2⟩ := parts_congr ps z fun p hp => h _ (List.mem_map.2 ⟨p, hp, rfl⟩)
    simp only [IK.ok, IK.val, IK.wr, IK.callee, h1, h2, and_self]
  case bslice z n cs ps =>
    obtain ⟨h1, h2⟩ := parts_congr ps cs fun p hp => h _ (List.mem_map.2 ⟨p, hp, rfl⟩)
    simp only [IK.ok, IK.val, IK.wr, IK.callee, h1, h2, and_self]
  case sliceStr x l r =>
    have h1 := fun d => opt_congr (l := l) (d := d) fun y hy => h.2 y (.inl hy)
    have h2 := fun d => opt_congr (l := r) (d := d) fun y hy => h.2 y (.inr hy)
    simp only [IK.ok, IK.val, IK.wr, IK.callee, h.1, (h1 0).1, (h2 0).1, fun d => (h1 d).2, fun d => (h2 d).2, and_self]
  case sliceS z x l r =>
    have h1 := fun d => opt_congr (l := l) (d := d) fun y hy => h.2 y (.inl hy)
    have h2 := fun d => opt_congr (l := r) (d := d) fun y hy => h.2 y (.inr hy)
    simp only [IK.ok, IK.val, IK.wr, IK.callee, h.1, (h1 0).1, (h2 0).1, fun d => (h1 d).2, fun d => (h2 d).2, and_self]
  case minmax mx x xs =>
    have h1 : ∀ (l : List Operand), (∀ y ∈ l, ev σ y = ev σ2 y) → (l.all fun y => isI (ev σ y)) = (l.all fun y => isI (ev σ2 y)) ∧
        ∀ acc, l.foldl (fun acc y => if mx then maxI acc (ev σ y) else minI acc (ev σ y)) acc = l.foldl (fun acc y => if mx then maxI acc (ev σ2 y) else minI acc (ev σ2 y)) acc := by
      intro l
      induction l with
      | nil => intro _; exact ⟨rfl, fun _ => rfl⟩
      | cons y l ih =>
        intro hl
        obtain ⟨g1, g2⟩ := ih fun z hz => hl z (by simp [hz])
        have := hl y (by simp)
        exact ⟨by simp only [List.all_cons, this, g1], fun acc => by simp only [List.foldl_cons, this, g2]⟩
    obtain ⟨g1, g2⟩ := h1 xs h.2
    simp only [IK.ok, IK.val, IK.wr, IK.callee, h.1, g1, g2, and_self]
  case mkfunc fn xs ys =>
    have h1 : xs.map (ev σ) = xs.map (ev σ2) := List.map_congr_left fun y hy => h y (.inl hy)
    have h2 : ys.map (ev σ) = ys.map (ev σ2) := List.map_congr_left fun y hy => h y (.inr hy)
    simp only [IK.ok, IK.val, IK.wr, IK.callee, h1, h2, and_self]
  case call f as =>
    have h1 : as.map (ev σ) = as.map (ev σ2) := List.map_congr_left h
    simp only [IK.ok, IK.val, IK.wr, IK.callee, h1, and_self]
  case callv x as =>
    have h1 : as.map (ev σ) = as.map (ev σ2) := List.map_congr_left h.2
    simp only [IK.ok, IK.val, IK.wr, IK.callee, h1, h.1, and_self]
  all_goals simp only [IK.ok, IK.val, IK.wr, IK.callee, h, and_self]

end
end Go.DI
