import Derived.Test.YtpgljcapgakanaaGreatGaRM
import Derived.Test.YtpgljcapgakanaaGreatGaQC
/- The walks that read a text and rows. -/
set_option linter.unusedSimpArgs false
set_option linter.unusedVariables false
namespace Go.Proofs.YtpgljcapgakanaaGreat
open Go.RowKit
theorem leftr150 (br n c : Nat) (a : Option Addr) {B : Nat} {w0 w : World} {L : List Blk} (hp : Hp B w0 w (Rb br a n c :: L)) : Calls Tryz.prog 150 #[.pointer (some ⟨br, 0, none⟩)] w fun e w' => e = .returned (.int .i64 n) ∧ w = w' := by
  have HC := Lib.hid (Rb.cell hp)
  clear hp
  go_enter Tryz.func150, Tryz.ntmps150
  go_wp2_with (first | ((with_reducible refine pre_load 194 _ rfl ?_); refine wpList_loadRowOne_hp (Hp.start _) _ _ rfl wy _ _ (slot_tmp rfl) cell194 _ HC.out ?_; simp only [put_some, put_none, List.set_cons_succ, List.set_cons_zero]) | go_skip)
  go_ret
  exact ⟨rfl, rfl⟩
end Go.Proofs.YtpgljcapgakanaaGreat
