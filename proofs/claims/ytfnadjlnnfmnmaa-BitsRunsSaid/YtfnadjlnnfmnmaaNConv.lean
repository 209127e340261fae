/- Bytes to strings, in and out of drawn regions. -/
import Derived.Test.YtfnadjlnnfmnmaaNRefB
set_option linter.unusedSimpArgs false
set_option linter.unusedVariables false
namespace Go.Proofs.Ytfnadjlnnfmnmaa
open Go.RowKit
section
variable {P : Program}
theorem conv_row {w : World} {src dst e : TypeId} (hs : P.underlying src = some (.slice e)) (he : P.underlying e = some (.int .u8)) (hd : P.underlying dst = some .string) {a : Option Addr} {n : Nat} (c : Nat) {xs : List Int} (hx : xs.length = n) (hr : RowIs w a (xs.map (Value.int .u8))) :
    (convert src dst (.slice a n c)).run P w = .ok (.string (strOfNums xs)) w := by
  rcases Nat.eq_zero_or_pos n with h0 | h0
  · subst h0
    have : xs = [] := List.eq_nil_of_length_eq_zero hx
    subst this
    cases a with
    | none => exact run_convert_bytes_nil w src e hs he 0 c dst hd
    | some ad =>
      have hl : (loadCells ad 0).run P w = .ok (([] : List Int).map (Value.int .u8)).toArray w := by simp [loadCells, loadCellsFrom]
      rw [run_convert_bytes_string w src dst e _ 0 c hs he hd, run_bytesToString w ad 0 c [] hl, foldl_push_bytes]
      simp [strOfNums, ByteArray.empty, ByteArray.emptyWithCapacity]
      rfl
  · obtain ⟨b, off, rfl, hc⟩ := hr.addr (by rw [List.length_map]; omega)
    refine run_convert_bytes_arg w src e hs he b off n c xs hx (fun i hi => ?_) dst hd
    refine hc i _ ?_
    rw [List.getElem?_map, List.getElem?_eq_getElem (by omega)]
    simp [List.getD, List.getElem?_eq_getElem (show i < xs.length by omega)]
variable {ops : Array Oper} {Q : Exit → Act → World → Prop} {S : World → Prop} {tl : List Nat} {l : List Oper}
theorem plan_conv {i : Nat} {rest : List (Nat × Bool)} {a : Act} {w : World} {o : Oper} {r : List Oper} (ho : l.drop i = o :: r) (src dst : TypeId) (x : Operand) (hx : o.op = .convert src dst x) (hw : Region.wanted o (yielded l.toArray a.tmps) = true)
    (u : Value) (he : a.eval x = u) (v : Value) (hv : ∀ w, S w → (convert src dst u).run P w = .ok v w)
    (h : wpPlan P l.toArray Q S tl rest (a.put o.dst v) w) : wpPlan P l.toArray Q S tl ((i, true) :: rest) a w :=
  plan_take ho hw (fun w hS => by unfold execOp; rw [hx]; simp [he, hv w hS]) h
variable {rest : List Oper} {o : Oper} {a : Act} {w : World}
theorem wpList_conv_row (src dst e : TypeId) (x : Operand) (ho : o.op = .convert src dst x) (hw : Region.wanted o (yielded ops a.tmps) = true)
    (hs : P.underlying src = some (.slice e)) (he : P.underlying e = some (.int .u8)) (hd : P.underlying dst = some .string) (A : Option Addr) (n c : Nat) (hx : a.eval x = .slice A n c) (xs : List Int) (hl : xs.length = n) (hr : RowIs w A (xs.map (Value.int .u8)))
    (h : wpList P ops Q rest (a.put o.dst (.string (strOfNums xs))) w) : wpList P ops Q (o :: rest) a w := by
  refine BigFrame.wpList_want hw fun K hK => ?_
  unfold Oper.wp execOp
  have hr' := conv_row (P := P) hs he hd c hl hr
  simp only [ho, hx, Sem.run_bind, hr', Result.andThen_ok, Sem.run_pure]
  exact hK _ _ h
end
theorem Keeps.row {w0 w : World} {M : List Blk} {a : Option Addr} {xs : List Value} (hS : Keeps w0.heap.size w0 M w) (h : RowIs w0 a xs) : RowIs w a xs := by
  obtain ⟨L, hp, _⟩ := hS
  exact h.below hp.below
/-- Byte numbers. -/
def nI (l : List Nat) : List Int := l.map fun x => ((x : Nat) : Int)
theorem nI_len (l : List Nat) : (nI l).length = l.length := by simp [nI]
theorem nI_cells (l : List Nat) : (nI l).map (Value.int .u8) = l.flatMap byV := by rw [fl_by]; simp [nI]
theorem str_inj {xs ys : List Nat} (hx : ∀ x ∈ xs, x < 256) (hy : ∀ x ∈ ys, x < 256) (h : strOfNums (nI xs) = strOfNums (nI ys)) : xs = ys := by
  simp only [strOfNums, nI] at h
  injection h with h
  have h1 : xs.map (fun x => UInt8.ofNat x) = ys.map (fun x => UInt8.ofNat x) := by
    have := congrArg Array.toList h
    simpa [List.map_map, Function.comp_def] using this
  have h2 : ∀ l : List Nat, (∀ x ∈ l, x < 256) → (l.map fun x => (UInt8.ofNat x).toNat) = l := by
    intro l hl
    conv => rhs; rw [← List.map_id l]
    apply List.map_congr_left
    intro x hx
    have := hl x hx
    simp [UInt8.toNat_ofNat]; omega
  have h3 := congrArg (List.map UInt8.toNat) h1
  simp only [List.map_map, Function.comp_def] at h3
  rw [h2 xs hx, h2 ys hy] at h3
  exact h3
set_option maxHeartbeats 400000 in
theorem may14 (n : Int) (w : World) : Calls Try.prog 14 #[.int .i64 n] w fun e w' => e = .returned (.bool (decide (0 ≤ n ∧ n ≤ 4096))) ∧ w = w' := by
  go_enter Try.func14, Try.ntmps14
  go_wp2
  all_goals go_ret
  all_goals refine ⟨ret_bool ?_, rfl⟩
  all_goals simp
  all_goals omega
end Go.Proofs.Ytfnadjlnnfmnmaa
