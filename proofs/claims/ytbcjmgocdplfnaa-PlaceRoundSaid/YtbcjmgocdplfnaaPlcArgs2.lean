import Derived.Test.YtbcjmgocdplfnaaPlcL
namespace Go.Proofs.Ytbcjmgocdplfnaa
set_option linter.unusedVariables false
set_option linter.unusedSimpArgs false
open Go.RowKit Go.ChangeShapes Go.WideShapes Go.Deep
section
variable {H : Type} {enc : TypeId × Value → H} {W : World} {base : Nat} {spare : Nat → Bool} {held : Bool}
theorem open_Bools {A : Option Addr} {n c : Nat} {d : DataW H} {p : List MemPlace} (h : DataW.Trod enc Try.prog W base spare held 61 (.slice A n c) d p) : ∃ l : List Bool, SeesIn W (fun k => k < W.heap.size) 1 (.slice A n c) l.length (l.flatMap (fun y => [Value.bool y])) ∧ ∀ x ∈ l, True := by
  obtain ⟨fuel, h⟩ := h
  obtain ⟨l, hl⟩ := open_R (sz := 1) (fun (y : Bool) cs => cs = [.bool y] ∧ (True)) Try.underlying61 (by kernel_rfl) (by decide) (fun n cs x _ h => by obtain ⟨i, hi, -⟩ := DataW.trod_bool Try.underlying4 h; exact ⟨i, hi, trivial⟩) h
  exact ⟨l, (hl.imp (fun x cs h => h.1)).flat (by decide) (fun _ => rfl) (fun x u hu => by simp only [List.mem_cons, List.not_mem_nil, or_false] at hu; subst hu; rfl), fun x hx => by obtain ⟨cs, -, h⟩ := hl.all x hx; exact h⟩
theorem open_Bools_at {fuel : Nat} {v : Value} {x : DataW H × List MemPlace} (h : DataW.trod enc Try.prog W base spare held fuel 61 [v] = some x) : ∃ l : List Bool, SeesIn W (fun k => k < W.heap.size) 1 v l.length (l.flatMap (fun y => [Value.bool y])) ∧ ∀ x ∈ l, True := by
  have hv : ∃ A n c, v = .slice A n c := by
    rcases open_slice Try.underlying61 h with ⟨h0, -⟩ | ⟨a, len, cap, m, n', D, Pl, hcs, -⟩
    · exact ⟨none, 0, 0, by simpa using h0⟩
    · exact ⟨some a, len, cap, by simpa using hcs⟩
  obtain ⟨A, n, c, rfl⟩ := hv
  obtain ⟨l, hl⟩ := open_R (sz := 1) (fun (y : Bool) cs => cs = [.bool y] ∧ (True)) Try.underlying61 (by kernel_rfl) (by decide) (fun n cs x _ h => by obtain ⟨i, hi, -⟩ := DataW.trod_bool Try.underlying4 h; exact ⟨i, hi, trivial⟩) h
  exact ⟨l, (hl.imp (fun x cs h => h.1)).flat (by decide) (fun _ => rfl) (fun x u hu => by simp only [List.mem_cons, List.not_mem_nil, or_false] at hu; subst hu; rfl), fun x hx => by obtain ⟨cs, -, h⟩ := hl.all x hx; exact h⟩
end
end Go.Proofs.Ytbcjmgocdplfnaa
