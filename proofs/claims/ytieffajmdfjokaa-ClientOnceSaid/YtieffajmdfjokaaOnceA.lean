/- The walks of the law ClientOnce, what they share. -/
import Derived.Test.YtieffajmdfjokaaLawB
import Derived.Lib.Hide
set_option linter.unusedSimpArgs false
set_option linter.unusedVariables false
namespace Go.Proofs.Ytieffajmdfjokaa
open Go.RowKit
theorem check_okv (id nodes seq view target : Int) (busy : Bool) (a b c d e f g : Int) (hr : rightB ⟨id, nodes, seq, view, target, busy, ⟨a, b, c, d, e, f, g⟩⟩ = true) (w : World) :
    Calls Try.prog 10 #[.agg #[.int .i64 id, .int .i64 nodes, .int .i64 seq, .int .i64 view, .int .i64 target, .bool busy, .int .i64 a, .int .i64 b, .int .i64 c, .int .i64 d, .int .i64 e, .int .i64 f, .int .i64 g]] w fun e w' => e = .returned (.int .i64 0) ∧ Below w.heap.size w w' := by
  have := check10 ⟨id, nodes, seq, view, target, busy, ⟨a, b, c, d, e, f, g⟩⟩ w
  rw [hr] at this; exact this

/-- An operation whose guard's own operation was not wanted. -/
theorem wanted_nu {ops : List Oper} {l : List Value} {o oj : Oper} {j d : Nat} {want : Bool} {r : List Oper} {r' : List Value} (hg : o.guard = some (j, want)) (hj : ops.drop j = oj :: r) (hd : oj.dst = some d)
    (ht : l.drop d = undef :: r') : Region.wanted o (yielded ops.toArray l.toArray) = false := by
  have h1 : (ops.drop j)[0]? = some oj := by rw [hj]; rfl
  have h2 : (l.drop d)[0]? = some undef := by rw [ht]; rfl
  rw [List.getElem?_drop] at h1 h2
  simp only [Nat.add_zero] at h1 h2
  have : yielded ops.toArray l.toArray j = none := by simp [yielded, h1, hd, h2, undef]
  simp [Region.wanted, hg, this]
theorem Keeps.all {B : Nat} {w0 w : World} {L : List Blk} (h : Hp B w0 w L) : Keeps B w0 L w := ⟨L, h, fun _ hp => hp⟩

theorem right_called {id nodes seq view target : Int} {op o : OpD} (hr : rightB ⟨id, nodes, seq, view, target, false, op⟩ = true) (hs : seq < 1000000) : rightB ⟨id, nodes, seq + 1, view, target, true, o⟩ = true := by
  simp [rightB, headB, tailB, withinB, nodesB] at hr ⊢; omega
theorem mod_within {nodes target : Int} (h : nodesB nodes = true) : 1 ≤ target % nodes + 1 ∧ target % nodes + 1 ≤ nodes := by
  have := nodes_pos h
  have h1 := Int.emod_nonneg target (b := nodes) (by omega)
  have h2 := Int.emod_lt_of_pos target (b := nodes) (by omega)
  omega
theorem right_turned {id nodes seq view target : Int} {op : OpD} (hr : rightB ⟨id, nodes, seq, view, target, true, op⟩ = true) : rightB ⟨id, nodes, seq, view, target % nodes + 1, true, op⟩ = true := by
  have hn : nodesB nodes = true := by simp [rightB, headB] at hr; exact hr.1.1.1.1.1
  have := mod_within (target := target) hn
  simp [rightB, headB, tailB, withinB, nodesB] at hr ⊢; omega
theorem turned_ne {id nodes seq view target : Int} {op : OpD} (hr : rightB ⟨id, nodes, seq, view, target, true, op⟩ = true) : (target % nodes + 1 == target) = false := by
  have h1 := target_of hr
  simp only at h1
  have hn : nodesB nodes = true := by simp [rightB, headB] at hr; exact hr.1.1.1.1.1
  have h2 := nodes_pos hn
  simp only [beq_eq_false_iff_ne, ne_eq]
  by_cases h : target = nodes
  · subst h; rw [Int.emod_self]; omega
  · rw [Int.emod_eq_of_lt (by omega) (by omega)]; omega

end Go.Proofs.Ytieffajmdfjokaa
