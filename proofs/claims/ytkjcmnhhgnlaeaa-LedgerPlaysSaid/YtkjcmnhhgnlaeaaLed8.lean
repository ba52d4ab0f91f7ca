import Derived.Test.YtkjcmnhhgnlaeaaLed7
namespace Go.Proofs.Ytkjcmnhhgnlaeaa
set_option linter.unusedVariables false
set_option linter.unusedSimpArgs false
open Go.RowKit

/-- A ledger that is ours, beside a block of an order and one of its lines. -/
structure Stt (w0 : World) (x ob lb : Nat) (ls : List Ln) (W : World) (s : LS) : Prop where
  keep : Keep none_ w0 W
  new : w0.heap.size ≤ ob ∧ w0.heap.size ≤ lb
  rep : LRep W (fun k => w0.heap.size ≤ k ∧ k ≠ ob ∧ k ≠ lb ∧ k < W.heap.size) x s
  ord : W.heap[ob]? = some (.cells #[.int .u32 7, .slice (some ⟨lb, 0, none⟩) ls.length ls.length] 34 (0, 0))
  lin : SeesIn W (fun k => k = lb) 3 (.slice (some ⟨lb, 0, none⟩) ls.length ls.length) ls.length (lns ls)
  lbs : lb < W.heap.size
theorem Stt.next {w0 W W' : World} {x ob lb : Nat} {ls : List Ln} {s s' : LS} (h : Stt w0 x ob lb ls W s) (hk : Keep (fun k => w0.heap.size ≤ k ∧ k ≠ ob ∧ k ≠ lb ∧ k < W.heap.size) W W') (hr : LRep W' (fresh (fun k => w0.heap.size ≤ k ∧ k ≠ ob ∧ k ≠ lb ∧ k < W.heap.size) W W') x s') : Stt w0 x ob lb ls W' s' := by
  have hos := lt_of_block h.ord
  have hls := h.lbs
  have h1 := h.keep.size
  have h2 := hk.size
  refine ⟨h.keep.trans (hk.mono (fun q hq => .inr hq.1)), h.new, hr.move (fun q hq hl => ⟨?_, rfl⟩), (hk.block _ hos (fun c => c.2.1 rfl)).trans h.ord, h.lin.move h2 (fun q hq hl => ⟨hq, hk.block q hl (fun c => c.2.2.1 hq)⟩), by omega⟩
  rcases hq with ⟨a, b, c, d⟩ | ⟨a, b⟩
  · exact ⟨a, b, c, by omega⟩
  · exact ⟨by omega, by omega, by omega, b⟩
theorem Stt.quiet {w0 W W' : World} {x ob lb : Nat} {ls : List Ln} {s : LS} (h : Stt w0 x ob lb ls W s) (hk : Keep none_ W W') : Stt w0 x ob lb ls W' s :=
  h.next hk.none (h.rep.move (fun q hq hl => ⟨.inl hq, hk.block q hl (fun c => c)⟩))
theorem Stt.turns {w0 W : World} {x ob lb : Nat} {ls : List Ln} {s : LS} (h : Stt w0 x ob lb ls W s) : ∀ k, (fun k => w0.heap.size ≤ k ∧ k ≠ ob ∧ k ≠ lb ∧ k < W.heap.size) k → k < W.heap.size := fun k hk => hk.2.2.2
theorem Stt.open_ {w0 W : World} {x ob lb : Nat} {ls : List Ln} {s : LS} (h : Stt w0 x ob lb ls W s) :
    Calls Try.prog 24 #[.pointer (some ⟨x, 0, none⟩), .agg #[.int .u32 7, .slice (some ⟨lb, 0, none⟩) ls.length ls.length]] W fun e w' => e = .returned (.int .i64 (s.openUp 7 ls).2) ∧ Stt w0 x ob lb ls w' (s.openUp 7 ls).1 :=
  (lOpen_any x s 7 _ ls _ (fun k => k = lb) W h.rep h.lin (fun k hk c => c.2.2.1 hk)).mono (fun e w' q => ⟨q.1, h.next q.2.1 q.2.2⟩)
theorem Stt.pPick {w0 W : World} {x ob lb : Nat} {ls : List Ln} {s : LS} (h : Stt w0 x ob lb ls W s) (id item qty : Int) :
    Calls Try.prog 25 #[.pointer (some ⟨x, 0, none⟩), .int .u32 id, .int .u16 item, .int .i64 qty] W fun e w' => e = .returned (.int .i64 (s.turn id item qty 1).2) ∧ Stt w0 x ob lb ls w' (s.turn id item qty 1).1 :=
  (pPick_any x s id item qty _ W h.rep h.turns).mono (fun e w' q => ⟨q.1, h.next q.2.1 q.2.2⟩)
theorem Stt.pShort {w0 W : World} {x ob lb : Nat} {ls : List Ln} {s : LS} (h : Stt w0 x ob lb ls W s) (id item qty : Int) :
    Calls Try.prog 27 #[.pointer (some ⟨x, 0, none⟩), .int .u32 id, .int .u16 item, .int .i64 qty] W fun e w' => e = .returned (.int .i64 (s.turn id item qty 2).2) ∧ Stt w0 x ob lb ls w' (s.turn id item qty 2).1 :=
  (pShort_any x s id item qty _ W h.rep h.turns).mono (fun e w' q => ⟨q.1, h.next q.2.1 q.2.2⟩)
theorem Stt.pPut {w0 W : World} {x ob lb : Nat} {ls : List Ln} {s : LS} (h : Stt w0 x ob lb ls W s) (id item qty : Int) :
    Calls Try.prog 26 #[.pointer (some ⟨x, 0, none⟩), .int .u32 id, .int .u16 item, .int .i64 qty] W fun e w' => e = .returned (.int .i64 (s.turn id item qty 3).2) ∧ Stt w0 x ob lb ls w' (s.turn id item qty 3).1 :=
  (pPut_any x s id item qty _ W h.rep h.turns).mono (fun e w' q => ⟨q.1, h.next q.2.1 q.2.2⟩)
theorem Stt.drop_ {w0 W : World} {x ob lb : Nat} {ls : List Ln} {s : LS} (h : Stt w0 x ob lb ls W s) (id : Int) :
    Calls Try.prog 28 #[.pointer (some ⟨x, 0, none⟩), .int .u32 id] W fun e w' => e = .returned (.int .i64 (s.drop id).2) ∧ Stt w0 x ob lb ls w' (s.drop id).1 :=
  (drop_any x s id _ W h.rep).mono (fun e w' q => ⟨q.1, h.next q.2.1 q.2.2⟩)
theorem Stt.closed {w0 W : World} {x ob lb : Nat} {ls : List Ln} {s : LS} (h : Stt w0 x ob lb ls W s) (id : Int) :
    Calls Try.prog 20 #[.pointer (some ⟨x, 0, none⟩), .int .u32 id] W fun e w' => e = .returned (.bool (s.all id Rw.closed)) ∧ Stt w0 x ob lb ls w' s :=
  (closed_any x s id _ W h.rep).mono (fun e w' q => ⟨q.1, h.quiet q.2⟩)
theorem Stt.full {w0 W : World} {x ob lb : Nat} {ls : List Ln} {s : LS} (h : Stt w0 x ob lb ls W s) (id : Int) :
    Calls Try.prog 22 #[.pointer (some ⟨x, 0, none⟩), .int .u32 id] W fun e w' => e = .returned (.bool (s.all id Rw.full)) ∧ Stt w0 x ob lb ls w' s :=
  (full_any x s id _ W h.rep).mono (fun e w' q => ⟨q.1, h.quiet q.2⟩)
theorem Stt.rows {w0 W : World} {x ob lb : Nat} {ls : List Ln} {s : LS} (h : Stt w0 x ob lb ls W s) (id : Int) :
    Calls Try.prog 18 #[.pointer (some ⟨x, 0, none⟩), .int .u32 id] W fun e w' => ∃ v', e = .returned (.tuple #[v', .bool (s.get id).isSome]) ∧ Stt w0 x ob lb ls w' s ∧ Own w' (fresh none_ W w') 52 5 v' ((s.get id).getD []).length (rws ((s.get id).getD [])) :=
  (lRows_any x s id _ W h.rep).mono (fun e w' q => by obtain ⟨v', e1, e2, e3⟩ := q; exact ⟨v', e1, h.quiet e2, e3⟩)

theorem sh1 : LS.openUp [] 7 [⟨3, 1, 5⟩] = ([(7, [⟨3, 5, 0, 0, 0⟩])], 0) := by decide
theorem sh2 : LS.openUp [(7, [⟨3, 5, 0, 0, 0⟩])] 7 [⟨3, 1, 5⟩] = ([(7, [⟨3, 5, 0, 0, 0⟩])], 8) := by decide
theorem sh3 : LS.turn [(7, [⟨3, 5, 0, 0, 0⟩])] 7 3 1 3 = ([(7, [⟨3, 5, 0, 0, 0⟩])], 10) := by decide
theorem sh4 : LS.turn [(7, [⟨3, 5, 0, 0, 0⟩])] 7 3 3 1 = ([(7, [⟨3, 5, 3, 0, 0⟩])], 0) := by decide
theorem sh5 : LS.turn [(7, [⟨3, 5, 3, 0, 0⟩])] 7 3 3 2 = ([(7, [⟨3, 5, 3, 0, 0⟩])], 10) := by decide
theorem sh6 : LS.turn [(7, [⟨3, 5, 3, 0, 0⟩])] 7 3 2 2 = ([(7, [⟨3, 5, 3, 2, 0⟩])], 0) := by decide
theorem sh7 : LS.all [(7, [⟨3, 5, 3, 2, 0⟩])] 7 Rw.closed = true := by decide
theorem sh8 : LS.all [(7, [⟨3, 5, 3, 2, 0⟩])] 7 Rw.full = false := by decide
theorem sh9 : LS.turn [(7, [⟨3, 5, 3, 2, 0⟩])] 7 3 3 3 = ([(7, [⟨3, 5, 3, 2, 3⟩])], 0) := by decide
theorem sh10 : LS.turn [(7, [⟨3, 5, 3, 2, 3⟩])] 7 4 1 1 = ([(7, [⟨3, 5, 3, 2, 3⟩])], 11) := by decide
theorem sh11 : LS.turn [(7, [⟨3, 5, 3, 2, 3⟩])] 8 3 1 1 = ([(7, [⟨3, 5, 3, 2, 3⟩])], 6) := by decide
theorem sh12 : LS.all [(7, [⟨3, 5, 3, 2, 3⟩])] 7 Rw.full = true := by decide
theorem sh13 : LS.drop [(7, [⟨3, 5, 3, 2, 3⟩])] 7 = ([], 0) := by decide
theorem sh14 : LS.all [] 7 Rw.closed = false := by decide
end Go.Proofs.Ytkjcmnhhgnlaeaa
