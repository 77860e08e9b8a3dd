/-
  'FleetLaw' as a law of its argument in memory.
-/
import Derived.Test.YtkpifdkccdndcaaGreatLmA
namespace Go.Proofs.YtkpifdkccdndcaaGreat
open Go Go.DI Go.Big
set_option linter.unusedSimpArgs false
set_option linter.unusedVariables false
theorem raw_fr {m : Mem} {v : Value} {xs : List RawF} (h : rawRp.S m v xs) (hs : ∀ x ∈ xs, x.sz ≤ 300) : frRp.S m v (xs.map RawF.fr) := by
  refine h.to RawF.fr rfl fun cs x hx hr => ?_
  obtain ⟨va, vb, e, h1, h2⟩ := hr
  have := hs x hx
  simp only [RawF.sz] at this
  exact ⟨va, vb, e, ⟨_, h1, by simp [Big]; omega, rfl⟩, ⟨_, h2, by simp [Big]; omega, rfl⟩⟩
theorem raw_rows {m : Mem} {v : Value} {rs : List (List RawF)} (h : rawRp.list.S m v rs) (hs : ∀ row ∈ rs, row.length ≤ 300 ∧ ∀ x ∈ row, x.sz ≤ 300) : frRp.list.S m v (rs.map (fun l : List RawF => l.map RawF.fr)) := by
  refine Rp.S.to (q := frRp.list) (fun l : List RawF => l.map RawF.fr) h rfl fun cs x hx hr => ?_
  obtain ⟨w, e, h1⟩ := hr
  exact ⟨w, e, raw_fr h1 (hs x hx).2⟩
set_option maxHeartbeats 8000000 in
theorem fleetlaw_wp {m : Mem} {nm : ByteArray} {vs vr ve : Value} {s e : List RawF} {rs : List (List RawF)} (hs : rawRp.S m vs s) (hr : rawRp.list.S m vr rs) (he : rawRp.S m ve e)
    (ls : s.length ≤ 140737488355328) (le : e.length ≤ 140737488355328) (lr : rs.length ≤ 140737488355328) (bs : ∀ x ∈ s, x.ok) (be : ∀ x ∈ e, x.ok) (br : ∀ row ∈ rs, row.length ≤ 140737488355328 ∧ ∀ x ∈ row, x.ok) :
    WPCall Tryz.prog 3 [.agg #[.string nm, vs, vr, ve]] m fun r _ => r = .bool true := by
  rw [call3 (by simp)]
  obtain ⟨p1, n1, c1, rfl⟩ := Rp.S.form hs
  obtain ⟨p2, n2, c2, rfl⟩ := Rp.S.form hr
  obtain ⟨p3, n3, c3, rfl⟩ := Rp.S.form he
  simp (disch := first | omega | (simp only [zqp, zqq]; omega)) [ir3_b, ir3_k1, zqa, zqb, zqc, zqd, zqe, zqf, zqg, zqh, zqi, zqj, zqk, u64b, u32b, zql, zqm, zqn, zqo, -zqu, -isSl, -zqs, -zqt, -zqv, -zqr]
  have sb : ∀ k x, Sub m ((m.bump k).put m.next x) := fun k x => Sub.of_old (((Old.refl m).bump k).put (by omega))
  refine limbs_wp (hs.mono (sb _ _)) bs ls fun A hA hA3 => ?_
  simp (disch := first | omega | (simp only [zqp, zqq]; omega)) [callK, keepOk, zqa, zqb, zqc, zqd, zqe, zqf, zqg, zqh, zqi, zqj, zqk, u64b, u32b, zql, zqm, zqn, zqo, -zqu, -isSl, -zqs, -zqt, -zqv, -zqr]
  refine limbs_wp (he.mono (sb _ _)) be le fun B hB hB3 => ?_
  have w1 : IntKind.i64.wrap ((A : Int) + B) = ((A + B : Nat) : Int) := by rw [i64_id (by omega) (by omega)]; rfl
  simp (disch := first | omega | (simp only [zqp, zqq]; omega)) [callK, keepOk, w1, zqa, zqb, zqc, zqd, zqe, zqf, zqg, zqh, zqi, zqj, zqk, u64b, u32b, zql, zqm, zqn, zqo, -zqu, -isSl, -zqs, -zqt, -zqv, -zqr]
  refine matrix_wp (hr.mono (sb _ _)) br lr fun C hC hC3 => ?_
  have w2 : IntKind.i64.wrap ((A : Int) + B + C) = ((A + B + C : Nat) : Int) := by rw [i64_id (by omega) (by omega)]; rfl
  by_cases hbig : 300 < A + B + C
  · have hb' : (300 : Int) < (A : Int) + B + C := by omega
    simp (disch := first | omega | (simp only [zqp, zqq]; omega)) [callK, keepOk, w2, hb', zqa, zqb, zqc, zqd, zqe, zqf, zqg, zqh, zqi, zqj, zqk, u64b, u32b, zql, zqm, zqn, zqo, -zqu, -isSl, -zqs, -zqt, -zqv, -zqr]
    refine awake_wp.mono fun r m1 hp => ?_
    obtain ⟨_, rfl⟩ := hp
    simp (disch := first | omega | (simp only [zqp, zqq]; omega)) [callK, keepOk, zqa, zqb, zqc, zqd, zqe, zqf, zqg, zqh, zqi, zqj, zqk, u64b, u32b, zql, zqm, zqn, zqo, -zqu, -isSl, -zqs, -zqt, -zqv, -zqr]
  · have hb' : ¬ (300 : Int) < (A : Int) + B + C := by omega
    obtain ⟨s1, s2⟩ := hA3 (by omega)
    obtain ⟨e1, e2⟩ := hB3 (by omega)
    obtain ⟨r1, r2⟩ := hC3 (by omega)
    have fs := raw_fr hs s2
    have fe := raw_fr he e2
    have frr := raw_rows hr r2
    have lv : LawV m (.agg #[.string nm, .slice p1 n1 c1, .slice p2 n2 c2, .slice p3 n3 c3]) (s.map RawF.fr) (rs.map (fun l : List RawF => l.map RawF.fr)) (e.map RawF.fr) := ⟨_, _, _, _, rfl, fs, frr, fe⟩
    have om : Old m ((m.bump 2).put m.next (some ⟨[.string nm, .slice p1 n1 c1, .slice p2 n2 c2, .slice p3 n3 c3], true⟩)) := ((Old.refl m).bump 2).put (by omega)
    have lv1 : ∀ m', Old m m' → LawV m' (.agg #[.string nm, .slice p1 n1 c1, .slice p2 n2 c2, .slice p3 n3 c3]) (s.map RawF.fr) (rs.map (fun l : List RawF => l.map RawF.fr)) (e.map RawF.fr) := fun m' o => ⟨_, _, _, _, rfl, fs.mono (Sub.of_old o), frr.mono (Sub.of_old o), fe.mono (Sub.of_old o)⟩
    simp (disch := first | omega | (simp only [zqp, zqq]; omega)) [callK, keepOk, w2, hb', ir3_k2, ir3_k1, zqa, zqb, zqc, zqd, zqe, zqf, zqg, zqh, zqi, zqj, zqk, u64b, u32b, zql, zqm, zqn, zqo, -zqu, -isSl, -zqs, -zqt, -zqv, -zqr]
    refine (vlaw_wp (lv1 _ om) (by simp; omega) (by simp; omega) (by simp; omega) (fun row hrow => ?_)).mono fun r m1 hp => ?_
    · rw [List.mem_map] at hrow
      obtain ⟨l, hl, rfl⟩ := hrow
      have := (r2 l hl).1
      simp; omega
    obtain ⟨o1, rfl⟩ := hp
    have g1 := o1.get m.next (by simp)
    simp (disch := first | omega | (simp only [zqp, zqq]; omega)) [callK, keepOk, g1, zqa, zqb, zqc, zqd, zqe, zqf, zqg, zqh, zqi, zqj, zqk, u64b, u32b, zql, zqm, zqn, zqo, -zqu, -isSl, -zqs, -zqt, -zqv, -zqr]
    refine (rvlaw_wp (lv1 _ (om.trans o1)) (by simp; omega)).mono fun r m2 hp => ?_
    obtain ⟨o2, rfl⟩ := hp
    simp (disch := first | omega | (simp only [zqp, zqq]; omega)) [callK, keepOk, zqa, zqb, zqc, zqd, zqe, zqf, zqg, zqh, zqi, zqj, zqk, u64b, u32b, zql, zqm, zqn, zqo, -zqu, -isSl, -zqs, -zqt, -zqv, -zqr]
    refine awake_wp.mono fun r m3 hp => ?_
    obtain ⟨_, rfl⟩ := hp
    simp (disch := first | omega | (simp only [zqp, zqq]; omega)) [callK, keepOk, zqa, zqb, zqc, zqd, zqe, zqf, zqg, zqh, zqi, zqj, zqk, u64b, u32b, zql, zqm, zqn, zqo, -zqu, -isSl, -zqs, -zqt, -zqv, -zqr]
end Go.Proofs.YtkpifdkccdndcaaGreat
