/- The walks of container/heap over a queue of blocks. -/
import Derived.Test.YtbflmnoaiklnbaaTQ
import Derived.Test.YtbflmnoaiklnbaaTHS
import Derived.Shelf.Abstract
set_option linter.unusedSimpArgs false
set_option linter.unusedVariables false
namespace Go.Proofs.Ytbflmnoaiklnbaa
open Go.RowKit Go.Shelf
theorem meth_len (bb : Nat) (w : World) : Sem.run Try.prog (method 333 103 (.agg #[.pointer (some ⟨bb, 0, none⟩)]) "Len") w = .ok (182, .pointer (some ⟨bb, 0, none⟩)) w := by kernel_rfl
theorem ent_len (args : Array Value) (w : World) : (callFunc 182 args).run Try.prog w = .ok (.enter 182 args) w := enters_of Try.func182 (by kernel_rfl) rfl args w
theorem meth_less (bb : Nat) (w : World) : Sem.run Try.prog (method 333 103 (.agg #[.pointer (some ⟨bb, 0, none⟩)]) "Less") w = .ok (183, .pointer (some ⟨bb, 0, none⟩)) w := by kernel_rfl
theorem ent_less (args : Array Value) (w : World) : (callFunc 183 args).run Try.prog w = .ok (.enter 183 args) w := enters_of Try.func183 (by kernel_rfl) rfl args w
theorem meth_swap (bb : Nat) (w : World) : Sem.run Try.prog (method 333 103 (.agg #[.pointer (some ⟨bb, 0, none⟩)]) "Swap") w = .ok (186, .pointer (some ⟨bb, 0, none⟩)) w := by kernel_rfl
theorem ent_swap (args : Array Value) (w : World) : (callFunc 186 args).run Try.prog w = .ok (.enter 186 args) w := enters_of Try.func186 (by kernel_rfl) rfl args w
theorem meth_push (bb : Nat) (w : World) : Sem.run Try.prog (method 333 103 (.agg #[.pointer (some ⟨bb, 0, none⟩)]) "Push") w = .ok (185, .pointer (some ⟨bb, 0, none⟩)) w := by kernel_rfl
theorem ent_push (args : Array Value) (w : World) : (callFunc 185 args).run Try.prog w = .ok (.enter 185 args) w := enters_of Try.func185 (by kernel_rfl) rfl args w
theorem meth_pop (bb : Nat) (w : World) : Sem.run Try.prog (method 333 103 (.agg #[.pointer (some ⟨bb, 0, none⟩)]) "Pop") w = .ok (184, .pointer (some ⟨bb, 0, none⟩)) w := by kernel_rfl
theorem ent_pop (args : Array Value) (w : World) : (callFunc 184 args).run Try.prog w = .ok (.enter 184 args) w := enters_of Try.func184 (by kernel_rfl) rfl args w
def DownPost (B : Nat) (w0 : World) (bb g cap : Nat) (l : List Bl) (M : List Blk) (n i0 : Nat) (e : Ending) (w' : World) : Prop := ∃ b l', e = .returned (.bool b) ∧ QHp B w0 w' bb g cap l' M ∧ Downed l l' n i0
set_option maxRecDepth 100000 in
set_option maxHeartbeats 4000000 in
theorem down104 {B : Nat} {w0 w : World} {bb g cap : Nat} {l : List Bl} {M : List Blk} (hp : QHp B w0 w bb g cap l M) (hl : l.length ≤ 2000) {i0 n : Nat} (hin : i0 ≤ n) (hn : n ≤ l.length) :
    Calls Try.prog 104 #[.iface 103 (.agg #[.pointer (some ⟨bb, 0, none⟩)]), .int .i64 i0, .int .i64 n] w (DownPost B w0 bb g cap l M n i0) := by
  have mls := meth_less bb
  have msw := meth_swap bb
  have els := ent_less
  have esw := ent_swap
  have HLN : RowKit.Hid (n ≤ l.length) := Lib.hid hn
  have HLL : RowKit.Hid (l.length ≤ 2000) := Lib.hid hl
  have hn1 : n ≤ 2000 := by omega
  clear hl hn
  go_enter Try.func104, Try.ntmps104
  go_wp2_with fail
  go_loopg [7] (n - i0) (fun k i wr => ∃ (j : Nat) (l' : List Bl), k + j = n ∧ i = .int .i64 j ∧ i0 ≤ j ∧ RowKit.Hid (Downs l l' n i0 j) ∧ QHp B w0 wr bb g cap l' M)
  case atStart => exact ⟨i0, l, by omega, rfl, by omega, Lib.hid (Downs.start _ _ _), hp⟩
  case round =>
    clear hp
    obtain ⟨j, l', hkj, rfl, hij, HD, hp⟩ := hrel
    have hll : RowKit.Hid (n ≤ l'.length) := Lib.hid (by rw [HD.out.perm.length_eq]; exact HLN.out)
    have hl' : l'.length ≤ 2000 := by rw [HD.out.perm.length_eq]; exact HLL.out
    obtain ⟨a, ha⟩ : ∃ a : Nat, a = 2 * j := ⟨_, rfl⟩
    obtain ⟨b1, hb1⟩ : ∃ b1 : Nat, b1 = 2 * j + 1 := ⟨_, rfl⟩
    obtain ⟨b2, hb2⟩ : ∃ b2 : Nat, b2 = 2 * j + 2 := ⟨_, rfl⟩
    have ew1 : wrap64 (2 * (j : Int)) = (a : Int) := by rw [IntWalk.wrap64_in _ ⟨by omega, by omega⟩]; omega
    have ew2 : wrap64 ((a : Int) + 1) = (b1 : Int) := by rw [IntWalk.wrap64_in _ ⟨by omega, by omega⟩]; omega
    have ew3 : wrap64 ((b1 : Int) + 1) = (b2 : Int) := by rw [IntWalk.wrap64_in _ ⟨by omega, by omega⟩]; omega
    have HB : RowKit.Hid (b1 = 2 * j + 1 ∧ b2 = 2 * j + 2) := Lib.hid ⟨hb1, hb2⟩
    have HKJ := Lib.hid hkj
    by_cases h1 : n ≤ b1
    · have HDD := Lib.hid (HD.out.leaf (by omega))
      have e1 : decide ((n : Int) ≤ (b1 : Int)) = true := by simp; omega
      have e1' : decide (n ≤ b1) = true := decide_eq_true h1
      clear ha hb1 hb2 HD hkj hn1
      go_wp2_with fail
      go_ret
      exact ⟨_, l', rfl, hp, HDD.out⟩
    · have e1 : decide ((n : Int) ≤ (b1 : Int)) = false := by simp; omega
      have e1' : decide (n ≤ b1) = false := decide_eq_false h1
      have e2 : decide ((b1 : Int) < 0) = false := by simp
      have hjl : j < l'.length := by have := hll.out; omega
      have h1l : b1 < l'.length := by have := hll.out; omega
      have HJ := Lib.hid (gB_get hjl)
      have H1 := Lib.hid (gB_get h1l)
      obtain ⟨m, hm, hw⟩ : ∃ m, LeastC l' n j m ∧ ((b2 < n ∧ lessB (gB l' b2) (gB l' b1) = true ∧ m = b2) ∨ (b2 < n ∧ lessB (gB l' b2) (gB l' b1) = false ∧ m = b1) ∨ (¬ b2 < n ∧ m = b1)) := by
        by_cases h2 : b2 < n
        · cases hq : lessB (gB l' b2) (gB l' b1) with
          | true => exact ⟨b2, by rw [hb2]; exact least_right (by omega) (by rw [← hb1, ← hb2]; exact lessB_iff.1 hq), .inl ⟨h2, rfl, rfl⟩⟩
          | false => exact ⟨b1, by rw [hb1]; exact least_left (by omega) (by rw [← hb1, ← hb2]; exact lessB_no.1 hq), .inr (.inl ⟨h2, rfl, rfl⟩)⟩
        · exact ⟨b1, by rw [hb1]; exact least_one (by omega) (by omega), .inr (.inr ⟨h2, rfl⟩)⟩
      have hml : m < l'.length := by have := hm.2.1; have := hll.out; omega
      have hjm : j < m := by have := hm.1; omega
      have hmn : m < n := hm.2.1
      have HM := Lib.hid (gB_get hml)
      have HMC := Lib.hid hm
      have HW := Lib.hid hw
      clear ha hb1 hb2 hm hw hml h1l hjl hkj hn1
      cases hq : lessB (gB l' m) (gB l' j)
      · have HB2 := Lib.hid hq
        have HDD := Lib.hid (HD.out.stop HMC.out (lessB_no.1 hq))
        clear hq HD
        rcases HW.out with ⟨h2, h3, rfl⟩ | ⟨h2, h3, rfl⟩ | ⟨h2, rfl⟩
        · have HB1 := Lib.hid h3
          have h2l : m < l'.length := by have := hll.out; omega
          have H2 := Lib.hid (gB_get h2l)
          have e3 : decide ((m : Int) < (n : Int)) = true := by simp; omega
          have e3' : decide (m < n) = true := decide_eq_true h2
          clear h3 h2l HW HMC
          go_wp2_with (first | (go_at_call 183; first | ((with_reducible refine (less183 hp hl' H2.out H1.out).mono ?_); clear hp; rintro e w1 ⟨rfl, hp⟩; rw [HB1.out]) | ((with_reducible refine (less183 hp hl' HM.out HJ.out).mono ?_); clear hp; rintro e w1 ⟨rfl, hp⟩; rw [HB2.out])) | (go_at_call 186; (with_reducible refine (swap186 hp hl' HJ.out HM.out).mono ?_); clear hp; rintro e w1 ⟨rfl, hp⟩))
          go_ret
          exact ⟨_, l', rfl, hp, HDD.out⟩
        · have HB1 := Lib.hid h3
          have h2l : b2 < l'.length := by have := hll.out; omega
          have H2 := Lib.hid (gB_get h2l)
          have e3 : decide ((b2 : Int) < (n : Int)) = true := by simp; omega
          have e3' : decide (b2 < n) = true := decide_eq_true h2
          clear h3 h2l HW HMC
          go_wp2_with (first | (go_at_call 183; first | ((with_reducible refine (less183 hp hl' H2.out H1.out).mono ?_); clear hp; rintro e w1 ⟨rfl, hp⟩; rw [HB1.out]) | ((with_reducible refine (less183 hp hl' HM.out HJ.out).mono ?_); clear hp; rintro e w1 ⟨rfl, hp⟩; rw [HB2.out])) | (go_at_call 186; (with_reducible refine (swap186 hp hl' HJ.out HM.out).mono ?_); clear hp; rintro e w1 ⟨rfl, hp⟩))
          go_ret
          exact ⟨_, l', rfl, hp, HDD.out⟩
        · have e3 : decide ((b2 : Int) < (n : Int)) = false := by simp; omega
          have e3' : decide (b2 < n) = false := decide_eq_false h2
          clear HW HMC
          go_wp2_with (first | (go_at_call 183; first | ((with_reducible refine (less183 hp hl' H2.out H1.out).mono ?_); clear hp; rintro e w1 ⟨rfl, hp⟩; rw [HB1.out]) | ((with_reducible refine (less183 hp hl' HM.out HJ.out).mono ?_); clear hp; rintro e w1 ⟨rfl, hp⟩; rw [HB2.out])) | (go_at_call 186; (with_reducible refine (swap186 hp hl' HJ.out HM.out).mono ?_); clear hp; rintro e w1 ⟨rfl, hp⟩))
          go_ret
          exact ⟨_, l', rfl, hp, HDD.out⟩
      · have HB2 := Lib.hid hq
        have HDN := Lib.hid (HD.out.sink hij HMC.out (lessB_iff.1 hq) hll.out)
        clear hq HD
        rcases HW.out with ⟨h2, h3, rfl⟩ | ⟨h2, h3, rfl⟩ | ⟨h2, rfl⟩
        · have HB1 := Lib.hid h3
          have h2l : m < l'.length := by have := hll.out; omega
          have H2 := Lib.hid (gB_get h2l)
          have e3 : decide ((m : Int) < (n : Int)) = true := by simp; omega
          have e3' : decide (m < n) = true := decide_eq_true h2
          clear h3 h2l HW HMC
          go_wp2_with (first | (go_at_call 183; first | ((with_reducible refine (less183 hp hl' H2.out H1.out).mono ?_); clear hp; rintro e w1 ⟨rfl, hp⟩; rw [HB1.out]) | ((with_reducible refine (less183 hp hl' HM.out HJ.out).mono ?_); clear hp; rintro e w1 ⟨rfl, hp⟩; rw [HB2.out])) | (go_at_call 186; (with_reducible refine (swap186 hp hl' HJ.out HM.out).mono ?_); clear hp; rintro e w1 ⟨rfl, hp⟩))
          go_roundg (n - m)
          case measure => have := HKJ.out; omega
          case rel => exact ⟨m, _, by have := HKJ.out; omega, rfl, by omega, HDN, hp⟩
        · have HB1 := Lib.hid h3
          have h2l : b2 < l'.length := by have := hll.out; omega
          have H2 := Lib.hid (gB_get h2l)
          have e3 : decide ((b2 : Int) < (n : Int)) = true := by simp; omega
          have e3' : decide (b2 < n) = true := decide_eq_true h2
          clear h3 h2l HW HMC
          go_wp2_with (first | (go_at_call 183; first | ((with_reducible refine (less183 hp hl' H2.out H1.out).mono ?_); clear hp; rintro e w1 ⟨rfl, hp⟩; rw [HB1.out]) | ((with_reducible refine (less183 hp hl' HM.out HJ.out).mono ?_); clear hp; rintro e w1 ⟨rfl, hp⟩; rw [HB2.out])) | (go_at_call 186; (with_reducible refine (swap186 hp hl' HJ.out HM.out).mono ?_); clear hp; rintro e w1 ⟨rfl, hp⟩))
          go_roundg (n - m)
          case measure => have := HKJ.out; omega
          case rel => exact ⟨m, _, by have := HKJ.out; omega, rfl, by omega, HDN, hp⟩
        · have e3 : decide ((b2 : Int) < (n : Int)) = false := by simp; omega
          have e3' : decide (b2 < n) = false := decide_eq_false h2
          clear HW HMC
          go_wp2_with (first | (go_at_call 183; first | ((with_reducible refine (less183 hp hl' H2.out H1.out).mono ?_); clear hp; rintro e w1 ⟨rfl, hp⟩; rw [HB1.out]) | ((with_reducible refine (less183 hp hl' HM.out HJ.out).mono ?_); clear hp; rintro e w1 ⟨rfl, hp⟩; rw [HB2.out])) | (go_at_call 186; (with_reducible refine (swap186 hp hl' HJ.out HM.out).mono ?_); clear hp; rintro e w1 ⟨rfl, hp⟩))
          go_roundg (n - m)
          case measure => have := HKJ.out; omega
          case rel => exact ⟨m, _, by have := HKJ.out; omega, rfl, by omega, HDN, hp⟩
def Upped (B : Nat) (w0 : World) (bb g cap : Nat) (l : List Bl) (M : List Blk) (e : Ending) (w' : World) : Prop := e = .returned (.tuple #[]) ∧ ∃ l', QHp B w0 w' bb g cap l' M ∧ l'.Perm l
set_option maxRecDepth 100000 in
set_option maxHeartbeats 4000000 in
theorem up105 {B : Nat} {w0 w : World} {bb g cap : Nat} {l : List Bl} {M : List Blk} (hp : QHp B w0 w bb g cap l M) (hl : l.length ≤ 2000) {j0 : Nat} (hj : j0 < l.length) :
    Calls Try.prog 105 #[.iface 103 (.agg #[.pointer (some ⟨bb, 0, none⟩)]), .int .i64 j0] w (Upped B w0 bb g cap l M) := by
  have mls := meth_less bb
  have msw := meth_swap bb
  have els := ent_less
  have esw := ent_swap
  have HLL : RowKit.Hid (l.length ≤ 2000) := Lib.hid hl
  clear hl
  go_enter Try.func105, Try.ntmps105
  go_wp2_with fail
  go_loopg [1] j0 (fun k i wr => ∃ (l' : List Bl), i = .int .i64 k ∧ k < l'.length ∧ RowKit.Hid (l'.Perm l) ∧ QHp B w0 wr bb g cap l' M)
  case atStart => exact ⟨l, rfl, hj, Lib.hid (List.Perm.refl _), hp⟩
  case round =>
    clear hp hj
    obtain ⟨l', rfl, hjl, HP, hp⟩ := hrel
    have hl' : l'.length ≤ 2000 := by rw [HP.out.length_eq]; exact HLL.out
    rcases Nat.eq_zero_or_pos gk with h0 | h0
    · subst h0
      have e0 : (-1 : Int).tdiv 2 = 0 := by decide
      have e1 : wrap64 (-1) = -1 := IntWalk.wrap64_in _ ⟨by omega, by omega⟩
      have e2 : wrap64 0 = 0 := IntWalk.wrap64_in _ ⟨by omega, by omega⟩
      go_wp2_with fail
      refine bodyPost_end (results_none Try.results105 _ _ _) rfl ⟨rfl, l', hp, HP.out⟩
    · obtain ⟨j, hj⟩ : ∃ j, j = gk := ⟨_, rfl⟩
      rw [← hj] at hjl h0 ⊢
      obtain ⟨p, hpp⟩ : ∃ p : Nat, p = j - 1 := ⟨_, rfl⟩
      obtain ⟨i, hi⟩ : ∃ i : Nat, i = p / 2 := ⟨_, rfl⟩
      have hij : i < j := by omega
      have hil : i < l'.length := by omega
      have ew1 : wrap64 ((j : Int) - 1) = (p : Int) := by rw [IntWalk.wrap64_in _ ⟨by omega, by omega⟩]; omega
      have ew2 : (p : Int).tdiv 2 = (i : Int) := by rw [Int.tdiv_eq_ediv_of_nonneg (by omega)]; omega
      have ew3 : wrap64 (i : Int) = (i : Int) := IntWalk.wrap64_in _ ⟨by omega, by omega⟩
      have e1 : ((i : Int) == (j : Int)) = false := by simp; omega
      have e1' : (i == j) = false := by simp; omega
      have HJ := Lib.hid (gB_get hjl)
      have HI := Lib.hid (gB_get hil)
      have HIJ : RowKit.Hid (i < gk ∧ i < l'.length) := Lib.hid ⟨by omega, hil⟩
      clear hpp hi hij hil hjl h0
      have HJG := Lib.hid hj
      clear hj
      cases hq : lessB (gB l' j) (gB l' i)
      · have HB := Lib.hid hq
        clear hq
        go_wp2_with (first | (go_at_call 183; (with_reducible refine (less183 hp hl' HJ.out HI.out).mono ?_); clear hp; rintro e w1 ⟨rfl, hp⟩; rw [HB.out]) | (go_at_call 186; (with_reducible refine (swap186 hp hl' HI.out HJ.out).mono ?_); clear hp; rintro e w1 ⟨rfl, hp⟩))
        refine bodyPost_end (results_none Try.results105 _ _ _) rfl ⟨rfl, l', hp, HP.out⟩
      · have HB := Lib.hid hq
        have HPS := Lib.hid ((swapL_perm HI.out HJ.out).trans HP.out)
        clear hq
        go_wp2_with (first | (go_at_call 183; (with_reducible refine (less183 hp hl' HJ.out HI.out).mono ?_); clear hp; rintro e w1 ⟨rfl, hp⟩; rw [HB.out]) | (go_at_call 186; (with_reducible refine (swap186 hp hl' HI.out HJ.out).mono ?_); clear hp; rintro e w1 ⟨rfl, hp⟩))
        go_roundg i
        case measure => exact HIJ.out.1
        case rel => exact ⟨_, rfl, by rw [swapL_len]; exact HIJ.out.2, HPS, hp⟩
end Go.Proofs.Ytbflmnoaiklnbaa
