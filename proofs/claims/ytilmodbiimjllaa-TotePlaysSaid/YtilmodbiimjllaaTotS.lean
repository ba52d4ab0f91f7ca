import Derived.Test.YtilmodbiimjllaaTotR3
namespace Go.Proofs.Ytilmodbiimjllaa
set_option linter.unusedVariables false
set_option linter.unusedSimpArgs false
open Go.RowKit
/-! The document's totes, as totes by zone. -/
def RS.n (d : RS) : Nat := (mn (mx d.zs 1) 8).toNat
def RS.rr (d : RS) : Int := mn (mx d.rm 1) 64
def RS.f (d : RS) (j : Nat) : List Int := d.row j
def RS.ts (d : RS) : TS := mkT d.rr d.n d.f
def RS.okay (d : RS) : Prop := (d.l.map (·.tote)).Nodup ∧ ∀ y ∈ d.l, 0 ≤ y.zone ∧ y.zone < d.n
theorem RS.n_eq (d : RS) : mn (mx d.zs 1) 8 = d.n ∧ 1 ≤ d.n ∧ d.n ≤ 8 := by
  have : 1 ≤ mn (mx d.zs 1) 8 ∧ mn (mx d.zs 1) 8 ≤ 8 := by unfold mn mx; split <;> split <;> omega
  unfold RS.n
  omega
theorem RS.rr_b (d : RS) : 1 ≤ d.rr ∧ d.rr ≤ 64 := by unfold RS.rr mn mx; split <;> split <;> omega
theorem there_form (d : RS) (z : Int) : (d.there z = false ∧ (∀ i : Nat, i < d.n → z ≠ i) ∧ d.ts.zone z = none) ∨ ∃ i : Nat, z = i ∧ i < d.n ∧ d.there z = true := by
  have hn := d.n_eq
  unfold RS.there
  rw [hn.1]
  by_cases h : 0 ≤ z ∧ z < d.n
  · exact .inr ⟨z.toNat, by omega, by omega, by simp [h.1, h.2]⟩
  · refine .inl ⟨?_, fun i hi => by omega, ?_⟩
    · by_cases h0 : 0 ≤ z
      · simp [h0]; omega
      · simp [h0]
    · unfold TS.zone
      rw [if_neg (by simp [RS.ts, mkT]; omega)]
theorem move_row (d : RS) (x z : Int) (j : Int) : (d.move x z).row j = (d.row j).filter (fun t => t != x) ++ if d.there z = true ∧ z = j then [x] else [] := by
  unfold RS.move RS.row
  simp only [List.filter_append, List.map_append, List.filter_map]
  congr 1
  · congr 1
    rw [List.filter_filter, List.filter_filter]
    exact List.filter_congr (fun y _ => by simp [Bool.and_comm])
  · by_cases h : d.there z = true
    · rw [if_pos h]
      by_cases hj : z = j
      · rw [if_pos ⟨h, hj⟩, hj]; simp
      · rw [if_neg (fun c => hj c.2)]; simp [hj]
    · rw [if_neg h, if_neg (fun c => h c.1)]; rfl
theorem same_tote : ∀ {l : List It}, (l.map (·.tote)).Nodup → ∀ {a b : It}, a ∈ l → b ∈ l → a.tote = b.tote → a = b := by
  intro l
  induction l with
  | nil => intro _ a b h; simp at h
  | cons c l ih =>
    intro hn a b ha hb he
    rw [List.map_cons, List.nodup_cons] at hn
    rcases List.mem_cons.1 ha with e1 | h1
    · rcases List.mem_cons.1 hb with e2 | h2
      · rw [e1, e2]
      · exact absurd (List.mem_map.2 ⟨b, h2, by rw [← he, e1]⟩) hn.1
    · rcases List.mem_cons.1 hb with e2 | h2
      · exact absurd (List.mem_map.2 ⟨a, h1, by rw [he, e2]⟩) hn.1
      · exact ih hn.2 h1 h2 he
theorem row_mem {d : RS} {j x : Int} : x ∈ d.row j ↔ ∃ y ∈ d.l, y.zone = j ∧ y.tote = x := by
  unfold RS.row
  simp only [List.mem_map, List.mem_filter, beq_iff_eq, and_assoc]
theorem row_nodup {d : RS} (h : d.okay) (j : Int) : (d.row j).Nodup := h.1.sublist ((List.filter_sublist).map _)
theorem row_else {d : RS} (h : d.okay) {i j : Int} {x : Int} (hx : x ∈ d.row i) (hij : j ≠ i) : x ∉ d.row j := by
  intro hc
  obtain ⟨a, ha, rfl, rfl⟩ := row_mem.1 hx
  obtain ⟨b, hb, rfl, he⟩ := row_mem.1 hc
  exact hij (by rw [same_tote h.1 hb ha he])
theorem filt_id {l : List Int} {x : Int} (h : x ∉ l) : l.filter (fun t => t != x) = l := by
  rw [List.filter_eq_self]
  intro a ha
  simp only [bne_iff_ne, ne_eq]
  intro c; subst c; exact h ha
theorem move_okay {d : RS} (h : d.okay) (x z : Int) : (d.move x z).okay := by
  have hsub : (d.l.filter (fun y => y.tote != x)).Sublist d.l := List.filter_sublist
  constructor
  · show (List.map It.tote (d.l.filter (fun (y : It) => y.tote != x) ++ if d.there z = true then [(⟨x, z⟩ : It)] else [])).Nodup
    rw [List.map_append, List.nodup_append]
    refine ⟨h.1.sublist (hsub.map _), by split <;> simp, ?_⟩
    intro a ha b hb c
    subst c
    split at hb
    · simp only [List.map_cons, List.map_nil, List.mem_singleton] at hb
      subst hb
      simp only [List.mem_map, List.mem_filter] at ha
      obtain ⟨y, ⟨-, hy⟩, he⟩ := ha
      simp [he] at hy
    · simp at hb
  · intro y hy
    rcases List.mem_append.1 (show y ∈ d.l.filter (fun y => y.tote != x) ++ (if d.there z = true then [(⟨x, z⟩ : It)] else []) from hy) with hy | hy
    · exact h.2 y (hsub.mem hy)
    · rcases there_form d z with ⟨h1, -⟩ | ⟨i, rfl, hi, h1⟩
      · rw [h1] at hy; simp at hy
      · rw [h1] at hy
        simp only [if_true, List.mem_singleton] at hy
        subst hy
        exact ⟨by show (0 : Int) ≤ i; omega, by show (i : Int) < d.n; omega⟩
end Go.Proofs.Ytilmodbiimjllaa
