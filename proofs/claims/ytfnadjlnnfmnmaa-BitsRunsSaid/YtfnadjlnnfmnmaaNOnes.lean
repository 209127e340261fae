/- The walk of OnesCount64. -/
import Derived.Test.YtfnadjlnnfmnmaaNGet
import Derived.Test.YtfnadjlnnfmnmaaNPop
import Derived.Laws.Bits128
set_option linter.unusedSimpArgs false
set_option linter.unusedVariables false
namespace Go.Proofs.Ytfnadjlnnfmnmaa
open Go.RowKit
theorem fA_lt : ∀ n x, fA n x < 256 ^ n
  | 0, x => by rw [fA_zero]; decide
  | n + 1, x => by
    have h := (fin_bd ⟨x % 256, by omega⟩).1
    simp only at h
    have ih := fA_lt n (x / 256)
    rw [fA_succ, Nat.pow_succ]
    generalize 256 ^ n = M at ih ⊢
    omega
theorem fBA_lt : ∀ n x, fB n (fA n x) * 3 < 256 ^ n
  | 0, x => by rw [fB_zero]; decide
  | n + 1, x => by
    have h := (fin_bd ⟨x % 256, by omega⟩)
    simp only at h
    have e1 : fA (n + 1) x % 256 = a1 (x % 256) := by rw [fA_succ]; omega
    have e2 : fA (n + 1) x / 256 = fA n (x / 256) := by rw [fA_succ]; omega
    have ih := fBA_lt n (x / 256)
    rw [fB_succ, e1, e2, Nat.pow_succ]
    generalize 256 ^ n = M at ih ⊢
    omega
theorem mm85 : mm 85 8 = 6148914691236517205 := by decide
theorem mm51 : mm 51 8 = 3689348814741910323 := by decide
theorem mm15 : mm 15 8 = 1085102592571150095 := by decide
theorem and85 (y : Nat) (hy : y < 18446744073709551616) : bits .and .u64 (y : Int) 6148914691236517205 = ((y &&& mm 85 8 : Nat) : Int) := by
  rw [mm85]; exact Go.u64_and_nat y 6148914691236517205 hy (by decide)
theorem and51 (y : Nat) (hy : y < 18446744073709551616) : bits .and .u64 (y : Int) 3689348814741910323 = ((y &&& mm 51 8 : Nat) : Int) := by
  rw [mm51]; exact Go.u64_and_nat y 3689348814741910323 hy (by decide)
theorem and15 (y : Nat) (hy : y < 18446744073709551616) : bits .and .u64 (y : Int) 1085102592571150095 = ((y &&& mm 15 8 : Nat) : Int) := by
  rw [mm15]; exact Go.u64_and_nat y 1085102592571150095 hy (by decide)
theorem wrapu (y : Nat) (hy : y < 18446744073709551616) : IntKind.u64.wrap (y : Int) = (y : Int) := by rw [Go.IntKind.wrap_u64]; omega
theorem stepA (x : Nat) (hx : x < 18446744073709551616) : IntKind.u64.wrap (bits .and .u64 ((x : Int) / 2) 6148914691236517205 + bits .and .u64 (x : Int) 6148914691236517205) = ((fA 8 x : Nat) : Int) := by
  have e : ((x : Int) / 2) = ((x / 2 : Nat) : Int) := by omega
  have h := fA_lt 8 x
  rw [e, and85 _ (by omega), and85 _ hx, ← Int.natCast_add]
  exact wrapu _ h
theorem stepB (x : Nat) (hx : x < 18446744073709551616) (hz : fB 8 x < 18446744073709551616) : IntKind.u64.wrap (bits .and .u64 ((x : Int) / 4) 3689348814741910323 + bits .and .u64 (x : Int) 3689348814741910323) = ((fB 8 x : Nat) : Int) := by
  have e : ((x : Int) / 4) = ((x / 4 : Nat) : Int) := by omega
  rw [e, and51 _ (by omega), and51 _ hx, ← Int.natCast_add]
  exact wrapu _ hz
theorem stepC (x : Nat) (hx : x * 3 < 18446744073709551616) : bits .and .u64 (IntKind.u64.wrap ((x : Int) / 16 + (x : Int))) 1085102592571150095 = ((fC 8 x : Nat) : Int) := by
  have e : ((x : Int) / 16 + (x : Int)) = ((x / 16 + x : Nat) : Int) := by omega
  rw [e, wrapu _ (by omega), and15 _ (by omega)]; rfl
theorem stepD (x y k : Nat) (hy : y = x + x / k) (hl : y < 18446744073709551616) : IntKind.u64.wrap ((x : Int) + (x : Int) / (k : Int)) = (y : Int) := by
  have e : ((x : Int) + (x : Int) / (k : Int)) = (y : Int) := by subst hy; rw [Int.natCast_add, Int.natCast_ediv]
  rw [e, wrapu _ hl]
theorem stepD1 (x y : Nat) (hy : y = x + x / 256) (hl : y < 18446744073709551616) : IntKind.u64.wrap ((x : Int) + (x : Int) / 256) = (y : Int) := stepD x y 256 hy hl
theorem stepD2 (x y : Nat) (hy : y = x + x / 65536) (hl : y < 18446744073709551616) : IntKind.u64.wrap ((x : Int) + (x : Int) / 65536) = (y : Int) := stepD x y 65536 hy hl
theorem stepD3 (x y : Nat) (hy : y = x + x / 4294967296) (hl : y < 18446744073709551616) : IntKind.u64.wrap ((x : Int) + (x : Int) / 4294967296) = (y : Int) := stepD x y 4294967296 hy hl
theorem stepF (s : Nat) : bits .and .i64 (wrap64 (s : Int)) 127 = ((s % 128 : Nat) : Int) := by
  rw [Go.i64_and127]; unfold wrap64; omega
set_option maxRecDepth 100000 in
set_option maxHeartbeats 1000000 in
theorem ones30 (x : Nat) (hx : x < 18446744073709551616) (w : World) : Calls Try.prog 30 #[.int .u64 x] w fun e w' => e = .returned (.int .i64 (pcn 8 x : Nat)) ∧ w = w' := by
  have hx' : (x : Int) < 18446744073709551616 := by omega
  have hx0 := Lib.hid hx
  clear hx
  have h0 : (0 : Int) ≤ (x : Int) := by omega
  go_enter Try.func30, Try.ntmps30
  go_wp2
  go_ret
  refine ⟨ret_int ?_, rfl⟩
  obtain ⟨u, v, s, hu, hv, hs, lu, lv, ls, hp⟩ := sum_bytes x
  have hA := fA_lt 8 x
  have hB := fBA_lt 8 x
  have e256 : (256 : Nat) ^ 8 = 18446744073709551616 := by decide
  rw [e256] at hA hB
  rw [stepA x hx0.out]
  have hB' : fB 8 (fA 8 x) < 18446744073709551616 := by omega
  rw [stepB _ hA hB', stepC _ hB]
  rw [show fC 8 (fB 8 (fA 8 x)) = fS 8 x from rfl]
  rw [stepD1 (fS 8 x) u hu lu]
  rw [stepD2 u v hv lv]
  rw [stepD3 v s hs ls]
  rw [stepF, hp]
end Go.Proofs.Ytfnadjlnnfmnmaa
