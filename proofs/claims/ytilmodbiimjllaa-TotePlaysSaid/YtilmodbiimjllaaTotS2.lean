import Derived.Test.YtilmodbiimjllaaTotS
namespace Go.Proofs.Ytilmodbiimjllaa
set_option linter.unusedVariables false
set_option linter.unusedSimpArgs false
open Go.RowKit
theorem mkT_ext {r : Int} {n : Nat} {f g : Nat → List Int} (h : ∀ j, j < n → f j = g j) : mkT r n f = mkT r n g := by
  unfold mkT
  congr 1
  exact List.map_congr_left (fun j hj => h j (List.mem_range.1 hj))
theorem at_sim {d : RS} (h : d.okay) (x : Int) : (d.at? x = none ∧ (∀ j : Nat, j < d.n → x ∉ d.f j)) ∨ ∃ y, d.at? x = some y ∧ ∃ i : Nat, y.zone = i ∧ i < d.n ∧ x ∈ d.f i ∧ ∀ j : Nat, j < i → x ∉ d.f j := by
  cases hy : d.at? x with
  | none =>
    refine .inl ⟨rfl, fun j _ hc => ?_⟩
    obtain ⟨y, hy', -, he⟩ := row_mem.1 hc
    have := List.find?_eq_none.1 hy y hy'
    simp [he] at this
  | some y =>
    have hm := List.mem_of_find?_eq_some hy
    have he : y.tote = x := by simpa using List.find?_some hy
    obtain ⟨h0, h1⟩ := h.2 y hm
    have hx : x ∈ d.row y.zone := row_mem.2 ⟨y, hm, rfl, he⟩
    refine .inr ⟨y, rfl, y.zone.toNat, by omega, by omega, ?_, fun j hj => row_else h hx (by omega)⟩
    unfold RS.f
    rw [show ((y.zone.toNat : Nat) : Int) = y.zone by omega]
    exact hx
theorem where_sim {d : RS} (h : d.okay) (x : Int) : d.whereV x = d.ts.whereV x ∧ (d.at? x).isSome = (d.ts.at? x).isSome := by
  rcases at_sim h x with ⟨h1, h2⟩ | ⟨y, h1, i, h2, h3, h4, h5⟩
  · unfold RS.whereV TS.whereV
    rw [h1, show d.ts.at? x = none from mkT_none h2]
    exact ⟨rfl, rfl⟩
  · unfold RS.whereV TS.whereV
    rw [h1, show d.ts.at? x = some i from mkT_some h3 h4 h5]
    simp only [h2]
    exact ⟨trivial, rfl⟩
theorem full_sim (d : RS) {i : Nat} (hi : i < d.n) : d.ts.full i = d.full i := by
  unfold TS.full RS.full
  rw [show d.ts.row i = d.f i from mkT_row hi]
  rfl
theorem move_ts (d : RS) (x z : Int) : (d.move x z).ts = mkT d.rr d.n (fun j => (d.f j).filter (fun t => t != x) ++ if d.there z = true ∧ z = j then [x] else []) := by
  show mkT d.rr d.n (d.move x z).f = _
  exact mkT_ext (fun j _ => move_row d x z j)
theorem put_sim {d : RS} (h : d.okay) (x z : Int) : d.ts.put x z = ((d.put x z).1.ts, (d.put x z).2) ∧ (d.put x z).1.okay ∧ (d.put x z).1.l.length ≤ d.l.length + 1 := by
  rcases there_form d z with ⟨h1, -, h2⟩ | ⟨i, rfl, hi, h1⟩
  · unfold TS.put RS.put
    rw [h2, h1]
    exact ⟨rfl, h, by simp⟩
  · have hz : d.ts.zone (i : Int) = some i := mkT_zone hi
    have hw := (where_sim h x).2
    unfold TS.put RS.put
    rw [hz, if_pos h1]
    simp only
    rw [hw, full_sim d hi]
    by_cases hs : (d.ts.at? x).isSome = true
    · rw [if_pos hs, if_pos hs]; exact ⟨rfl, h, by simp⟩
    · rw [if_neg hs, if_neg hs]
      by_cases hf : d.full i = true
      · rw [if_pos hf, if_pos hf]; exact ⟨rfl, h, by simp⟩
      · rw [if_neg hf, if_neg hf]
        refine ⟨?_, move_okay h x i, ?_⟩
        · have hx : ∀ j : Nat, j < d.n → x ∉ d.f j := by
            rcases at_sim h x with ⟨-, h2⟩ | ⟨y, h3, -⟩
            · exact h2
            · rw [← hw, h3] at hs; simp at hs
          show (d.ts.upd i (d.ts.row i ++ [x]), (0 : Int)) = ((d.move x i).ts, 0)
          rw [move_ts, show d.ts.row i = d.f i from mkT_row hi, show d.ts.upd i (d.f i ++ [x]) = _ from mkT_upd]
          congr 1
          refine mkT_ext (fun j hj => ?_)
          rw [filt_id (hx j hj)]
          by_cases e : j = i
          · subst e; rw [updL_same, if_pos ⟨h1, rfl⟩]
          · rw [updL_other _ _ e, if_neg (fun c => e (by omega)), List.append_nil]
        · show (d.l.filter (fun (y : It) => y.tote != x) ++ if d.there i = true then [(⟨x, i⟩ : It)] else []).length ≤ _
          rw [if_pos h1, List.length_append]
          have := List.length_filter_le (fun (y : It) => y.tote != x) d.l
          show _ + 1 ≤ _
          omega
theorem move_len {d : RS} {y : Int} {i : Int} (hy : y ∈ d.row i) (z : Int) : (d.move y z).l.length ≤ d.l.length := by
  show (d.l.filter (fun (t : It) => t.tote != y) ++ if d.there z = true then [(⟨y, z⟩ : It)] else []).length ≤ _
  obtain ⟨a, ha, -, he⟩ := row_mem.1 hy
  have h1 : (d.l.filter (fun (t : It) => t.tote != y)).length < d.l.length := by
    rcases Nat.lt_or_ge (d.l.filter (fun (t : It) => t.tote != y)).length d.l.length with c | c
    · exact c
    · have e : d.l.filter (fun (t : It) => t.tote != y) = d.l := (List.filter_sublist).eq_of_length_le c
      rw [List.filter_eq_self] at e
      have := e a ha
      simp [he] at this
  rw [List.length_append]
  split
  · show _ + 1 ≤ _; omega
  · show _ + 0 ≤ _; omega
theorem skip_sim {d : RS} (h : d.okay) (z : Int) : d.ts.skip z = ((d.skip z).1.ts, (d.skip z).2) ∧ (d.skip z).1.okay ∧ (d.skip z).1.l.length ≤ d.l.length := by
  rcases there_form d z with ⟨h1, -, h2⟩ | ⟨i, rfl, hi, h1⟩
  · unfold TS.skip RS.skip
    rw [h2, h1]
    exact ⟨rfl, h, by simp⟩
  · have hz : d.ts.zone (i : Int) = some i := mkT_zone hi
    unfold TS.skip RS.skip
    rw [hz, if_pos h1]
    simp only
    rw [show d.ts.row i = d.row i from mkT_row hi]
    cases hr : d.row i with
    | nil => exact ⟨rfl, h, by simp⟩
    | cons y q =>
      have hy : y ∈ d.row i := by rw [hr]; simp
      have hn := row_nodup h i
      rw [hr, List.nodup_cons] at hn
      refine ⟨?_, move_okay h y i, move_len hy i⟩
      show (d.ts.upd i (q ++ [y]), (0 : Int)) = ((d.move y i).ts, 0)
      rw [move_ts, show d.ts.upd i (q ++ [y]) = _ from mkT_upd]
      congr 1
      refine mkT_ext (fun j hj => ?_)
      by_cases e : j = i
      · subst e
        rw [updL_same, if_pos ⟨h1, rfl⟩]
        unfold RS.f
        rw [hr, List.filter_cons, if_neg (by simp), filt_id hn.1]
      · rw [updL_other _ _ e, if_neg (fun c => e (by omega)), List.append_nil]
        exact (filt_id (row_else h hy (by omega))).symm
theorem pass_sim {d : RS} (h : d.okay) (z : Int) : d.ts.pass z = ((d.pass z).1.ts, (d.pass z).2.1, (d.pass z).2.2) ∧ (d.pass z).1.okay ∧ (d.pass z).1.l.length ≤ d.l.length := by
  rcases there_form d z with ⟨h1, -, h2⟩ | ⟨i, rfl, hi, h1⟩
  · unfold TS.pass RS.pass
    rw [h2, h1]
    exact ⟨rfl, h, by simp⟩
  · have hz : d.ts.zone (i : Int) = some i := mkT_zone hi
    unfold TS.pass RS.pass
    rw [hz, if_pos h1]
    simp only
    rw [show d.ts.row i = d.row i from mkT_row hi]
    cases hr : d.row i with
    | nil => exact ⟨rfl, h, by simp⟩
    | cons y q =>
      have hy : y ∈ d.row i := by rw [hr]; simp
      have hn := row_nodup h i
      rw [hr, List.nodup_cons] at hn
      simp only
      rcases there_form d (i + 1) with ⟨h3, hne, h4⟩ | ⟨k, hk, hk1, h3⟩
      · rw [h4, h3, Bool.false_and, if_neg (by simp)]
        refine ⟨?_, move_okay h y _, move_len hy _⟩
        show (d.ts.upd i q, y, (0 : Int)) = ((d.move y (i + 1)).ts, y, 0)
        rw [move_ts, show d.ts.upd i q = _ from mkT_upd]
        congr 1
        refine mkT_ext (fun j hj => ?_)
        rw [if_neg (fun c => by rw [h3] at c; simp at c), List.append_nil]
        by_cases e : j = i
        · subst e
          rw [updL_same]
          unfold RS.f
          rw [hr, List.filter_cons, if_neg (by simp), filt_id hn.1]
        · rw [updL_other _ _ e]
          exact (filt_id (row_else h hy (by omega))).symm
      · obtain rfl : k = i + 1 := by omega
        have hz2 : d.ts.zone ((i : Int) + 1) = some (i + 1) := mkT_zone hk1
        have hfu : d.full ((i : Int) + 1) = d.ts.full (i + 1) := (full_sim d hk1).symm
        rw [hz2, h3, Bool.true_and, hfu]
        simp only
        by_cases hf : d.ts.full (i + 1) = true
        · rw [if_pos hf, if_pos hf]; exact ⟨rfl, h, by simp⟩
        · rw [if_neg hf, if_neg hf]
          refine ⟨?_, move_okay h y _, move_len hy _⟩
          show ((d.ts.upd i q).upd (i + 1) (d.ts.row (i + 1) ++ [y]), y, (0 : Int)) = ((d.move y (i + 1)).ts, y, 0)
          rw [move_ts, show d.ts.row (i + 1) = d.f (i + 1) from mkT_row hk1, show d.ts.upd i q = _ from mkT_upd, mkT_upd]
          congr 1
          refine mkT_ext (fun j hj => ?_)
          by_cases e2 : j = i + 1
          · subst e2
            rw [updL_same, if_pos ⟨h3, rfl⟩]
            unfold RS.f
            rw [filt_id (row_else h hy (by omega))]
          · rw [updL_other _ _ e2, if_neg (fun c => e2 (by omega)), List.append_nil]
            by_cases e : j = i
            · subst e
              rw [updL_same]
              unfold RS.f
              rw [hr, List.filter_cons, if_neg (by simp), filt_id hn.1]
            · rw [updL_other _ _ e]
              exact (filt_id (row_else h hy (by omega))).symm
theorem rowZ_sim (d : RS) (h : d.okay) (z : Int) : d.ts.rowZ z = d.row z := by
  rcases there_form d z with ⟨h1, hne, h2⟩ | ⟨i, rfl, hi, h1⟩
  · rw [rowZ_out _ h2]
    symm
    rw [List.eq_nil_iff_forall_not_mem]
    intro x hx
    obtain ⟨y, hy, rfl, -⟩ := row_mem.1 hx
    obtain ⟨a, b⟩ := h.2 y hy
    exact hne y.zone.toNat (by omega) (by omega)
  · exact mkT_rowZ hi
end Go.Proofs.Ytilmodbiimjllaa
