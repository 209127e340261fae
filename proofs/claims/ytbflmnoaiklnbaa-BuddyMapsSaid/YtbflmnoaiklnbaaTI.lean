/- The walks of Init, Push, Pop of container/heap over a queue of blocks. -/
import Derived.Test.YtbflmnoaiklnbaaTH
set_option linter.unusedSimpArgs false
set_option linter.unusedVariables false
namespace Go.Proofs.Ytbflmnoaiklnbaa
open Go.RowKit Go.Shelf
def Inited (B : Nat) (w0 : World) (bb g cap : Nat) (l : List Bl) (M : List Blk) (e : Ending) (w' : World) : Prop := e = .returned (.tuple #[]) ∧ ∃ l', QHp B w0 w' bb g cap l' M ∧ l'.Perm l ∧ HeapF l' l'.length 0
set_option maxRecDepth 100000 in
set_option maxHeartbeats 4000000 in
theorem init103 {B : Nat} {w0 w : World} {bb g cap : Nat} {l : List Bl} {M : List Blk} (hp : QHp B w0 w bb g cap l M) (hl : l.length ≤ 2000) : Calls Try.prog 103 #[.iface 103 (.agg #[.pointer (some ⟨bb, 0, none⟩)])] w (Inited B w0 bb g cap l M) := by
  have mln := meth_len bb
  have eln := ent_len
  have HLL : RowKit.Hid (l.length ≤ 2000) := Lib.hid hl
  obtain ⟨n, hn⟩ : ∃ n, n = l.length := ⟨_, rfl⟩
  obtain ⟨h, hh⟩ : ∃ h : Nat, h = n / 2 := ⟨_, rfl⟩
  have ew1 : (n : Int).tdiv 2 = (h : Int) := by rw [Int.tdiv_eq_ediv_of_nonneg (by omega)]; omega
  have ew2 : wrap64 (h : Int) = (h : Int) := IntWalk.wrap64_in _ ⟨by omega, by omega⟩
  have ew3 : wrap64 ((h : Int) - 1) = (h : Int) - 1 := IntWalk.wrap64_in _ ⟨by omega, by omega⟩
  have HN := Lib.hid hn
  have HH := Lib.hid hh
  unfold QHp at hp
  rw [← hn] at hp
  clear hn hh hl
  go_enter Try.func103, Try.ntmps103
  go_wp2_with (first | (go_at_call 182; (with_reducible refine (len182 hp).mono ?_); clear hp; rintro e w1 ⟨rfl, hp⟩))
  have hp' : QHp B w0 w1 bb g cap l M := by unfold QHp; rw [← HN.out]; exact hp
  have EW3 := Lib.hid ew3
  clear hp ew1 ew2 ew3
  go_loopg [3] h (fun k i wr => ∃ (l' : List Bl), i = .int .i64 ((k : Int) - 1) ∧ k ≤ h ∧ RowKit.Hid (l'.Perm l ∧ HeapF l' n k) ∧ QHp B w0 wr bb g cap l' M)
  case atStart => exact ⟨l, congrArg (Value.int .i64) EW3.out, Nat.le_refl _, Lib.hid ⟨List.Perm.refl _, HeapF.high (by have := HH.out; omega)⟩, hp'⟩
  case round =>
    clear hp'
    obtain ⟨l', rfl, hkh, HP, hp⟩ := hrel
    have hl' : l'.length ≤ 2000 := by rw [HP.out.1.length_eq]; exact HLL.out
    have hnl : RowKit.Hid (n ≤ l'.length) := Lib.hid (by rw [HP.out.1.length_eq, HN.out]; exact Nat.le_refl _)
    rcases Nat.eq_zero_or_pos gk with h0 | h0
    · subst h0
      have e1 : decide ((0 : Int) ≤ -1) = false := by decide
      go_wp2_with fail
      refine bodyPost_end (results_none Try.results103 _ _ _) rfl ⟨rfl, l', hp, HP.out.1, ?_⟩
      have h1 := HP.out.2
      have h2 : l'.length = n := by rw [HP.out.1.length_eq, HN.out]
      rw [h2]; exact h1
    · obtain ⟨p, hpk⟩ : ∃ p, gk = p + 1 := ⟨gk - 1, by omega⟩
      have ei : (gk : Int) - 1 = (p : Int) := by omega
      rw [ei]
      have e1 : (0 : Int) ≤ (p : Int) := by omega
      have hpn : RowKit.Hid (p ≤ n) := Lib.hid (by have := HH.out; omega)
      have ew3 : wrap64 ((p : Int) - 1) = (p : Int) - 1 := IntWalk.wrap64_in _ ⟨by omega, by have := hpn.out; have := hnl.out; omega⟩
      have HPK := Lib.hid hpk
      have HKH := Lib.hid hkh
      have EW4 := Lib.hid ew3
      clear hpk ei h0 hkh
      go_wp2_with (first | (go_at_call 104; (with_reducible refine (down104 hp hl' hpn.out hnl.out).mono ?_); clear hp; rintro e w1 ⟨rb, l2, rfl, hp, hdd⟩; have HDD := Lib.hid hdd; clear hdd))
      go_roundg p
      case measure => have := HPK.out; omega
      case rel => exact ⟨l2, congrArg (Value.int .i64) EW4.out, by have := HPK.out; have := HKH.out; omega, Lib.hid ⟨HDD.out.perm.trans HP.out.1, HDD.out.heap (by have h := HP.out.2; rw [HPK.out] at h; exact h)⟩, hp⟩
theorem Qhp_of {B : Nat} {w0 w : World} {bb g cap n m : Nat} {l : List Bl} {x : Bl} {M : List Blk} (hn : n = l.length) (hm : m = n + 1) (hp : Hp B w0 w (⟨bb, [.slice (some ⟨g, 0, none⟩) m cap], 109, 1⟩ :: ⟨g, (l ++ [x]).flatMap blV, 44, cap * 2⟩ :: M)) : QHp B w0 w bb g cap (l ++ [x]) M := by
  unfold QHp
  rw [List.length_append, List.length_singleton, ← hn, ← hm]
  exact hp
def HPushed (B : Nat) (w0 : World) (bb : Nat) (l : List Bl) (M : List Blk) (e : Ending) (w' : World) : Prop := e = .returned (.tuple #[]) ∧ ∃ g cap l', QHp B w0 w' bb g cap l' M ∧ l'.Perm l ∧ l'.length ≤ cap ∧ cap ≤ maxLen
set_option maxRecDepth 100000 in
set_option maxHeartbeats 4000000 in
theorem hpush58 {B : Nat} {w0 w : World} {bb g cap : Nat} {l : List Bl} {M : List Blk} (hp : QHp B w0 w bb g cap l M) (hl : l.length ≤ 1900) (hcap0 : l.length ≤ cap) (hmax0 : cap ≤ maxLen) (x : Bl) :
    Calls Try.prog 58 #[.iface 103 (.agg #[.pointer (some ⟨bb, 0, none⟩)]), .iface 44 (.agg #[.int .i64 x.p, .int .i64 x.o])] w (HPushed B w0 bb (l ++ [x]) M) := by
  have mln := meth_len bb
  have eln := ent_len
  have mps := meth_push bb
  have eps := ent_push
  have hcap := Lib.hid hcap0
  have hmax := Lib.hid hmax0
  obtain ⟨n, hn⟩ : ∃ n, n = l.length := ⟨_, rfl⟩
  obtain ⟨m, hm⟩ : ∃ m, m = n + 1 := ⟨_, rfl⟩
  have ew : wrap64 ((m : Int) - 1) = (n : Int) := by rw [IntWalk.wrap64_in _ ⟨by omega, by omega⟩]; omega
  have HL2 : RowKit.Hid ((l ++ [x]).length ≤ 2000) := Lib.hid (by simp; omega)
  have HJ : RowKit.Hid (n < (l ++ [x]).length) := Lib.hid (by simp; omega)
  have HN := Lib.hid hn
  have HM := Lib.hid hm
  have hl : l.length ≤ 2000 := by omega
  clear hn hm hcap0 hmax0
  go_enter Try.func58, Try.ntmps58
  go_wp2_with (first | (go_at_call 185; (with_reducible refine (push185 hp hl hcap.out hmax.out x).mono ?_); clear hp; rintro e w1 ⟨rfl, g', cap', hp, hc1, hc2⟩; have HC := Lib.hid (And.intro hc1 hc2); clear hc1 hc2; unfold QHp at hp; rw [List.length_append, List.length_singleton, ← HN.out, ← HM.out] at hp) | (go_at_call 182; (with_reducible refine (len182 hp).mono ?_); clear hp; rintro e w1 ⟨rfl, hp⟩) | (go_at_call 105; (with_reducible refine (up105 (Qhp_of HN.out HM.out hp) HL2.out HJ.out).mono ?_); clear hp; rintro e w1 ⟨rfl, l2, hp, hperm⟩))
  refine bodyPost_end (results_none Try.results58 _ _ _) rfl ⟨rfl, g', cap', l2, hp, hperm, ?_, HC.out.2⟩
  rw [hperm.length_eq]; exact HC.out.1
def HPopped (B : Nat) (w0 : World) (bb g cap : Nat) (l : List Bl) (M : List Blk) (e : Ending) (w' : World) : Prop := ∃ l', e = .returned (.iface 44 (.agg #[.int .i64 (gB l 0).p, .int .i64 (gB l 0).o])) ∧ QHp B w0 w' bb g cap l' M ∧ (l' ++ [gB l 0]).Perm l
theorem last_of {l : List Bl} {n : Nat} (h : l.length = n + 1) : ∃ l', l = l' ++ [gB l n] ∧ l'.length = n := by
  refine ⟨l.take n, ?_, by rw [List.length_take]; omega⟩
  have h1 := gB_get (l := l) (k := n) (by omega)
  have h2 := List.take_append_drop n l
  rw [List.drop_eq_getElem_cons (by omega), List.drop_eq_nil_of_le (by omega)] at h2
  rw [List.getElem?_eq_getElem (by omega)] at h1
  injection h1 with h1
  rw [← h1]; exact h2.symm
theorem swap0186 {B : Nat} {w0 w : World} {bb g cap : Nat} {l : List Bl} {M : List Blk} (hp : QHp B w0 w bb g cap l M) (hl : l.length ≤ 2000) {k : Nat} {x y : Bl} (hx : l[0]? = some x) (hy : l[k]? = some y) :
    Calls Try.prog 186 #[.pointer (some ⟨bb, 0, none⟩), .int .i64 0, .int .i64 k] w fun e w' => e = .returned (.tuple #[]) ∧ QHp B w0 w' bb g cap (swapL l 0 k x y) M := swap186 hp hl (i := 0) hx hy
theorem down0104 {B : Nat} {w0 w : World} {bb g cap : Nat} {l : List Bl} {M : List Blk} (hp : QHp B w0 w bb g cap l M) (hl : l.length ≤ 2000) {n : Nat} (hn : n ≤ l.length) :
    Calls Try.prog 104 #[.iface 103 (.agg #[.pointer (some ⟨bb, 0, none⟩)]), .int .i64 0, .int .i64 n] w (DownPost B w0 bb g cap l M n 0) := down104 hp hl (i0 := 0) (Nat.zero_le n) hn
theorem Qhp_eq {B : Nat} {w0 w : World} {bb g cap m : Nat} {l : List Bl} {M : List Blk} (hm : l.length = m) (hp : Hp B w0 w (⟨bb, [.slice (some ⟨g, 0, none⟩) m cap], 109, 1⟩ :: ⟨g, l.flatMap blV, 44, cap * 2⟩ :: M)) : QHp B w0 w bb g cap l M := by
  unfold QHp
  rw [hm]; exact hp
set_option maxRecDepth 100000 in
set_option maxHeartbeats 4000000 in
theorem hpop57 {B : Nat} {w0 w : World} {bb g cap : Nat} {l : List Bl} {M : List Blk} (hp : QHp B w0 w bb g cap l M) (hl : l.length ≤ 2000) (hpos : 0 < l.length) (hcap0 : l.length ≤ cap) :
    Calls Try.prog 57 #[.iface 103 (.agg #[.pointer (some ⟨bb, 0, none⟩)])] w (HPopped B w0 bb g cap l M) := by
  have mln := meth_len bb
  have eln := ent_len
  have msw := meth_swap bb
  have esw := ent_swap
  have mpo := meth_pop bb
  have epo := ent_pop
  obtain ⟨n, hn⟩ : ∃ n, l.length = n + 1 := ⟨l.length - 1, by omega⟩
  obtain ⟨m, hm⟩ : ∃ m, m = n + 1 := ⟨_, rfl⟩
  rw [← hm] at hn
  have HN := Lib.hid hn
  have ew : wrap64 ((m : Int) - 1) = (n : Int) := by rw [IntWalk.wrap64_in _ ⟨by omega, by omega⟩]; omega
  have HCP : RowKit.Hid (n + 1 ≤ cap) := Lib.hid (by omega)
  have H0 := Lib.hid (gB_get (l := l) (k := 0) hpos)
  have HNN := Lib.hid (gB_get (l := l) (k := n) (by omega))
  have HLS : RowKit.Hid ((swapL l 0 n (gB l 0) (gB l n)).length ≤ 2000) := Lib.hid (by rw [swapL_len]; exact hl)
  have HNS : RowKit.Hid (n ≤ (swapL l 0 n (gB l 0) (gB l n)).length) := Lib.hid (by rw [swapL_len]; omega)
  have HGN : RowKit.Hid (gB (swapL l 0 n (gB l 0) (gB l n)) n = gB l 0) := Lib.hid (by rw [gB_swap hpos (by omega), if_pos rfl])
  unfold QHp at hp
  rw [hn] at hp
  have HMM := Lib.hid hm
  have HNE : RowKit.Hid (n ≤ 2000) := Lib.hid (by omega)
  clear hm hn hpos hcap0
  go_enter Try.func57, Try.ntmps57
  go_wp2_with (first | (go_at_call 182; (with_reducible refine (len182 hp).mono ?_); clear hp; rintro e w1 ⟨rfl, hp⟩) | (go_at_call 186; (with_reducible refine (swap0186 (Qhp_eq HN.out hp) hl H0.out HNN.out).mono ?_); clear hp; rintro e w1 ⟨rfl, hp⟩) | (go_at_call 104; (with_reducible refine (down0104 hp HLS.out HNS.out).mono ?_); clear hp; rintro e w1 ⟨rb, l2, rfl, hp, hdd⟩; obtain ⟨l3, hl3, hn3⟩ := last_of (l := l2) (n := n) (by rw [hdd.perm.length_eq, swapL_len]; exact HN.out.trans HMM.out); rw [hl3] at hp; have HDD := Lib.hid hdd; have HL3 := Lib.hid hl3; have HN3 := Lib.hid hn3; clear hdd hl3 hn3) | (go_at_call 184; (with_reducible refine (pop184 hp (by have := HN3.out; have := HNE.out; omega) (by have := HN3.out; have := HCP.out; omega)).mono ?_); clear hp; rintro e w1 ⟨rfl, hp⟩))
  go_ret
  have h1 : gB l2 n = gB l 0 := (HDD.out.same n (Nat.le_refl _)).trans HGN.out
  have h2 := HL3.out
  rw [h1] at h2 ⊢
  refine ⟨l3, rfl, hp, ?_⟩
  rw [← h2]
  exact HDD.out.perm.trans (swapL_perm H0.out HNN.out)
end Go.Proofs.Ytbflmnoaiklnbaa
