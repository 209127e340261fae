import Derived.Test.YtcjbepaclbhjaaaTjQB
import Derived.Test.YtcjbepaclbhjaaaTjGW
import Derived.Test.YtcjbepaclbhjaaaTjQG
import Derived.Test.YtcjbepaclbhjaaaTjQD
import Derived.Test.YtcjbepaclbhjaaaTjMS
/- The walk of the law BuddyMaps. -/
set_option linter.unusedSimpArgs false
set_option linter.unusedVariables false
namespace Go.Proofs.Ytcjbepaclbhjaaa
open Go.RowKit
theorem putOn {L : List Blk} {bm bw n : Nat} {f : Nat → Bool} {B : Nat} {w0 w : World} (a m : Nat) (hn : n ≤ 4096) (ha : a + m ≤ n) (hp : Hp B w0 w (mBlk bm bw n :: wBlk bw n f :: L)) :
    Calls Try.prog 10 #[.pointer (some ⟨bm, 0, none⟩), .int .i64 a, .int .i64 m, .bool true] w fun e w' => e = .returned (.int .i64 0) ∧ Hp B w0 w' (mBlk bm bw n :: wBlk bw n (upd f a (a + m) true) :: L) :=
  put12_on _ 0 1 bm bw n f a m hn ha B w0 w hp (isMap0 _ _ _ _ _)
theorem countIs {L : List Blk} {bm bw n : Nat} {f : Nat → Bool} {B : Nat} {w0 w : World} {c : Int} (hn : n ≤ 4096) (hz : ∀ i, n ≤ i → f i = false) (hc : (cb f n : Int) = c) {i j : Nat} (hp : Hp B w0 w L) (hM : IsMap L i j bm bw n f) :
    Calls Try.prog 12 #[.pointer (some ⟨bm, 0, none⟩)] w fun e w' => e = .returned (.int .i64 c) ∧ w = w' := by
  subst hc
  exact count20 bm bw n f hn hz w (hM.at_ hp)
theorem MapAt.below {w w' : World} {bm bw n : Nat} {f : Nat → Bool} (h : MapAt w bm bw n f) (hb : Below w.heap.size w w') : MapAt w' bm bw n f :=
  ⟨(hb.cell (World.block_lt_of_cell? w _ h.len)).trans h.len, (hb.cell (World.block_lt_of_cell? w _ h.row)).trans h.row, fun k hk => (hb.cell (World.block_lt_of_cell? w _ (h.word k hk))).trans (h.word k hk)⟩
theorem isMap1 (x : Blk) (bm bw n : Nat) (f : Nat → Bool) (L : List Blk) : IsMap (x :: mBlk bm bw n :: wBlk bw n f :: L) 1 2 bm bw n f := ⟨rfl, rfl⟩
end Go.Proofs.Ytcjbepaclbhjaaa
