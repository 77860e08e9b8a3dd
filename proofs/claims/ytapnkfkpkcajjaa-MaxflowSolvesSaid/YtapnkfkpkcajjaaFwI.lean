/-
  The operations that touch memory: loads, stores, new blocks, make.
-/
import Derived.Test.YtapnkfkpkcajjaaFwH
namespace Go.DI
open Go Go.RowKit

/-- what is shown of an operation -/
def Sound (P : Program) (o : Oper) (k : IK) (a : Act) (B : Nat) (ρ : Ren) (σ : Slots) (m : Mem) (w : World) (id : Nat) : Prop :=
  ∃ v' w' ρ', Yields P o a w v' w' ∧ RenLe ρ ρ' ∧ (∀ b, b ≠ id → ρ' b = ρ b) ∧ VRel ρ' (k.val id σ m) v' ∧ MRel B ρ' (k.mem id σ m) w' ∧ Below B w w'

section
variable {P : Program} {w : World} {o : Oper} {a : Act} {ρ : Ren} {nt : Nat} {σ : Slots} {m : Mem} {B id : Nat}

theorem updR_other {l : Loc} : ∀ b, b ≠ id → updR ρ id l b = ρ b := fun b h => by simp [updR, h]

theorem MRel.newBlock (hm : MRel B ρ m w) {w1 : World} (hw : w1.heap = w.heap) (hB : B ≤ w.heap.size) (hid : id < m.next) (hr : ρ id = none) {cs : List Value} {ds : Array Value} {e : TypeId} {fr : Nat × Nat} {n : Nat}
    (hlen : cs.length ≤ n) (hn : n ≤ ds.size) (hcs : ∀ (i : Nat) v, cs[i]? = some v → oneC v = true ∧ ∃ v', ds[i]? = some v' ∧ VRel ρ v v') (hfr : ∀ i, i < n → ¬ (fr.1 ≤ i ∧ i < fr.2)) :
    MRel B (updR ρ id ⟨w.heap.size, 0, n⟩) (m.put id (some ⟨cs, true⟩)) (w1.alloc (.cells ds e fr)) := by
  have hsz : (w1.alloc (.cells ds e fr)).heap.size = w.heap.size + 1 := by show (w1.heap.push _).size = _; rw [Array.size_push, hw]
  have hnew : (w1.alloc (.cells ds e fr)).heap[w.heap.size]? = some (.cells ds e fr) := by show (w1.heap.push _)[_]? = _; rw [hw]; simp
  refine hm.adopt hid hr (fun b x l hx hl => by have := hm.inb b l hl; omega) (by omega) (by omega) hB (fun ad h1 h2 => ?_) hlen (fun i v hv => ?_) (fun i hi => ?_)
  · have : (w1.alloc (.cells ds e fr)).heap[ad.block]? = w.heap[ad.block]? := by
      show (w1.heap.push _)[_]? = _
      rw [hw, Array.getElem?_push, if_neg (by omega)]
    exact ⟨World.cell?_of_block (w := w) this, World.frozen?_of_block (w := w) this⟩
  · obtain ⟨q1, v', q2, q3⟩ := hcs i v hv
    refine ⟨q1, v', ?_, q3⟩
    simp [World.cell?, hnew, q2]
  · have hi2 : i < ds.size := by omega
    refine ⟨by simp [World.cell?, hnew, hi2], ?_⟩
    have := hfr i hi
    simp only [World.frozen?, hnew, Nat.zero_add]
    simpa using this

theorem below_alloc {w1 : World} (hw : w1.heap = w.heap) (ho : w1.os = w.os) (ht : w1.tape = w.tape) (hu : w1.output = w.output) (hB : B ≤ w.heap.size) (x : Obj) : Below B w (w1.alloc x) := by
  have : Below B w w1 := ⟨ho, ht, hu, by rw [hw]; exact Nat.le_refl _, fun k _ => by rw [hw]⟩
  exact this.alloc (by rw [hw]; exact hB) x

theorem cells_list {cs : List Value} {ds : Array Value} (h : LRel ρ cs ds.toList) (h1 : ∀ v ∈ cs, oneC v = true) : ∀ (i : Nat) v, cs[i]? = some v → oneC v = true ∧ ∃ v', ds[i]? = some v' ∧ VRel ρ v v' := by
  intro i v hv
  obtain ⟨y, hy, hxy⟩ := h.get hv
  exact ⟨h1 v (List.mem_of_getElem? hv), y, by simpa using hy, hxy⟩

theorem s_alloc {e : TypeId} {z : List Value} (hop : o.op = .alloc e) (hz : tyZero P e = some z) (hm : MRel B ρ m w) (hB : B ≤ w.heap.size) (hid : id < m.next) (hr : ρ id = none) : Sound P o (.alloc z) a B ρ σ m w id := by
  obtain ⟨inf, zv, hi, hzv, hzl, hfl, hlen⟩ := tyZero_spec hz
  refine ⟨.pointer (some ⟨w.heap.size, 0, none⟩), w.alloc (.cells zv.cells e), updR ρ id ⟨w.heap.size, 0, z.length⟩, .inl ?_, updR_le hr, updR_other, ?_, ?_, below_alloc rfl rfl rfl rfl hB _⟩
  · simp only [execOp, hop, Instr.alloc, Sem.run_bind, zeroValue, typeInfo, run_program, hi, Sem.run_pure, Result.andThen_ok, hzv, newVar, newRow]
    rfl
  · exact .ptr (off := 0) (l := ⟨w.heap.size, 0, z.length⟩) (by simp [updR])
  · refine hm.newBlock rfl hB hid hr (Nat.le_refl _) (by rw [← hzl]; simp) (cells_list (by rw [hzl]; exact LRel.flat ρ hfl) fun v hv => flat_one (List.all_eq_true.1 hfl v hv)) (fun i _ => by simp)

theorem s_box {e : TypeId} {x : Operand} (hop : o.op = .box e x) (hx : argOk x = true) (hs : SRel ρ nt σ a) (hok : (IK.box x).ok σ m = true) (hm : MRel B ρ m w) (hB : B ≤ w.heap.size) (hid : id < m.next) (hr : ρ id = none) : Sound P o (.box x) a B ρ σ m w id := by
  have hv := vcells_rel (hs.ev hx)
  have hone := vcells_one (hs.ev hx) hok
  have hl : (a.eval x).cells.size = (vcells (ev σ x)).length := by have := hv.1; simp at this; exact this.symm
  refine ⟨.pointer (some ⟨w.heap.size, 0, none⟩), w.alloc (.cells (a.eval x).cells e), updR ρ id ⟨w.heap.size, 0, (vcells (ev σ x)).length⟩, .inl ?_, updR_le hr, updR_other, ?_, ?_, below_alloc rfl rfl rfl rfl hB _⟩
  · simp only [execOp, hop, Instr.box, Sem.run_bind, newVar, newRow]
    rfl
  · exact .ptr (off := 0) (l := ⟨w.heap.size, 0, (vcells (ev σ x)).length⟩) (by simp [updR])
  · exact hm.newBlock rfl hB hid hr (Nat.le_refl _) (by omega) (cells_list hv hone) (fun i _ => by simp)

/-! loads -/
theorem addrOk_spec {v : Value} {n : Nat} (h : addrOk m v n = true) : ∃ b off x, v = .pointer (some ⟨b, off, none⟩) ∧ m.get b = some x ∧ off + n ≤ x.cells.length := by
  unfold addrOk at h
  split at h
  · rename_i ad
    simp only [Bool.and_eq_true, Option.isNone_iff_eq_none] at h
    obtain ⟨hsp, h⟩ := h
    split at h
    · rename_i x hx
      obtain ⟨b, off, sp⟩ := ad
      simp only at hsp hx h
      subst hsp
      exact ⟨b, off, x, rfl, hx, by simpa using h⟩
    · cases h
  · cases h

theorem run_loadVar {t : TypeId} {ag : Bool} {n : Nat} {ad : Addr} {ds : List Value} (hag : tyAgg P t = some ag) (hn : tySize P t = some n) (h1 : ag = true ∨ n = 1) (hl : ds.length = n) (hc : ∀ (j : Nat) u, ds[j]? = some u → w.cell? (ad.add j) = some u) :
    (loadVar t ad).run P w = .ok (if ag then .agg ds.toArray else ds.headD undef) w := by
  obtain ⟨inf, hi, rfl⟩ := tySize_spec hn
  simp only [loadVar, Sem.run_bind, tyAgg_spec hag, Result.andThen_ok]
  cases ag
  · have h2 : inf.size = 1 := by simpa using h1
    rw [h2] at hl
    obtain ⟨d, rfl⟩ := len1 hl
    have h3 := hc 0 d rfl
    have e : ad.add 0 = ad := by simp [Addr.add]
    rw [e] at h3
    simp only [Bool.false_eq_true, if_false, List.headD_cons]
    simp [Go.load, Sem.run, h3]
  · simp only [if_true, Sem.run_bind, sizeOf, typeInfo, run_program, hi, Sem.run_pure, Result.andThen_ok]
    have := run_loadCells_list (P := P) w ad ds hc
    rw [hl] at this
    simp [this]

theorem loadV_rel {ag : Bool} {n : Nat} {v v' : Value} (hm : MRel B ρ m w) (hv : VRel ρ v v') (hok : addrOk m v n = true) (h1 : ag = true ∨ n = 1) :
    ∃ (ad : Addr) (ds : List Value), v' = .pointer (some ad) ∧ ds.length = n ∧ (∀ (j : Nat) u, ds[j]? = some u → w.cell? (ad.add j) = some u) ∧ VRel ρ (loadV m ag n v) (if ag then .agg ds.toArray else ds.headD undef) := by
  obtain ⟨b, off, x, rfl, hx, hoff⟩ := addrOk_spec hok
  obtain ⟨l, hl, _, rfl⟩ := hv.inv_ptr
  obtain ⟨ds, r1, r2, r3, r4⟩ := hm.cells hx hl hoff
  refine ⟨_, ds, rfl, r2, r3, ?_⟩
  simp only [loadV]
  cases ag
  · have h2 : n = 1 := by simpa using h1
    subst h2
    obtain ⟨d, rfl⟩ := len1 r2
    simp only [Bool.false_eq_true, if_false, List.headD_cons]
    have hlen := r1.1
    simp only [List.length_cons, List.length_nil] at hlen
    obtain ⟨u, hu⟩ := len1 hlen
    rw [hu] at r1 ⊢
    exact r1.2 0 u d rfl rfl
  · refine r1.agg fun u hu => ?_
    obtain ⟨l', hl', q1, q2, q3⟩ := hm.live b x hx
    simp only [cellsAt, hx] at hu
    obtain ⟨i, hi, hiu⟩ := List.getElem_of_mem (List.mem_of_mem_drop (List.mem_of_mem_take hu))
    exact (q2 i u (by rw [List.getElem?_eq_getElem hi, hiu])).1

theorem s_load {t : TypeId} {x : Operand} {ag : Bool} {n : Nat} (hop : o.op = .load t x) (hag : tyAgg P t = some ag) (hn : tySize P t = some n) (hx : argOk x = true) (hs : SRel ρ nt σ a) (hm : MRel B ρ m w)
    (hok : (IK.load ag n x).ok σ m = true) : Sound P o (.load ag n x) a B ρ σ m w id := by
  simp only [IK.ok, Bool.and_eq_true, Bool.or_eq_true, decide_eq_true_eq] at hok
  obtain ⟨ad, ds, h1, h2, h3, h4⟩ := loadV_rel hm (hs.ev hx) hok.1 hok.2
  refine ⟨_, w, ρ, .inl ?_, RenLe.refl ρ, fun _ _ => rfl, h4, hm, Below.refl _ _⟩
  simp only [execOp, hop, h1, Instr.loadAt, Instr.sureAddr, Sem.run_bind, Sem.run_pure, Result.andThen_ok, run_loadVar hag hn hok.2 h2 h3]

theorem s_store {t : TypeId} {x v : Operand} {n : Nat} (hop : o.op = .store t x v) (hn : tySize P t = some n) (hx : argOk x = true) (hv : argOk v = true) (hs : SRel ρ nt σ a) (hm : MRel B ρ m w)
    (hok : (IK.store n x v).ok σ m = true) : Sound P o (.store n x v) a B ρ σ m w id := by
  simp only [IK.ok, Bool.and_eq_true, decide_eq_true_eq] at hok
  obtain ⟨⟨⟨h1, h2⟩, hnt⟩, h3⟩ := hok
  have hone := vcells_one (hs.ev hv) hnt
  obtain ⟨b, off, y, e1, hy, hoff⟩ := addrOk_spec h1
  have hr := hs.ev hx
  rw [e1] at hr
  obtain ⟨l, hl, _, e2⟩ := hr.inv_ptr
  have hown : y.own = true := by simpa [e1, addrOwn, hy] using h2
  have hc := vcells_rel (hs.ev hv)
  obtain ⟨inf, hi, rfl⟩ := tySize_spec hn
  have hsz : (a.eval v).cells.size = inf.size := by have := hc.1; simp at this; omega
  obtain ⟨l', hl', q1, q2, q3⟩ := hm.live b y hy
  rw [hl] at hl'; cases hl'
  have hones : ∀ u ∈ (a.eval v).cells.toList, u.oneCell' = true := by
    intro u hu
    obtain ⟨i, hi', hiu⟩ := List.getElem_of_mem hu
    have hi2 : i < (vcells (ev σ v)).length := by rw [hc.1]; exact hi'
    have := (hc.2 i _ u (List.getElem?_eq_getElem hi2) (by rw [List.getElem?_eq_getElem hi', hiu])).oneC
    rw [oneC_eq, this]
    exact hone _ (List.getElem_mem hi2)
  refine ⟨undef, w.setCells l.c (l.o + off) (a.eval v).cells.toList, ρ, .inr ⟨?_, rfl⟩, RenLe.refl ρ, fun _ _ => rfl, VRel.undef ρ, ?_, below_setCells (q3 hown).1 _ _ _⟩
  · have hst := run_storeCells_cells (P := P) l.c (l.o + off) (a.eval v).cells.toList 0 w (fun j hj => by
      have := ((q3 hown).2 (off + j) (by simp at hj; omega)).1
      rwa [← Nat.add_assoc] at this) (fun j hj => by
      have := ((q3 hown).2 (off + j) (by simp at hj; omega)).2
      rwa [← Nat.add_assoc] at this) hones
    simp only [Nat.add_zero] at hst
    simp [execOp, hop, e2, Instr.storeAt, Instr.sureAddr, storeVar, sizeOf, typeInfo, hi, hsz, hst]
  · simp only [IK.mem, e1, storeM, hy]
    exact hm.store hy hown hl hc hone (by omega)

end
end Go.DI
