/- The walk of the document's rows (awake). -/
import Derived.Test.YtfnadjlnnfmnmaaNCount
import Derived.Test.YtfnadjlnnfmnmaaNRun
import Derived.Test.YtfnadjlnnfmnmaaNBytes
import Derived.Laws.BytesArg
set_option linter.unusedSimpArgs false
set_option linter.unusedVariables false
namespace Go.Proofs.Ytfnadjlnnfmnmaa
open Go.RowKit
section
variable {P : Program} {ops : Array Oper} {rest : List Oper} {o : Oper} {a : Act} {w : World} {Q : Exit → Act → World → Prop} {w0 : World} {L : List Blk}
/-- 'string(b)' of a row of the call's own. -/
theorem wpList_strOf_hp {B : Nat} (hp : Hp B w0 w L) (src dst e : TypeId) (x : Operand) (ho : o.op = .convert src dst x) (hw : Region.wanted o (yielded ops a.tmps) = true)
    (hs : P.underlying src = some (.slice e)) (he : P.underlying e = some (.int .u8)) (hd : P.underlying dst = some .string) (b n c : Nat) (hx : a.eval x = .slice (some ⟨b, 0, none⟩) n c) (xs : List Int) (t : TypeId) (m i : Nat)
    (hi : L[i]? = some ⟨b, xs.map (Value.int .u8), t, m⟩) (hl : xs.length = n) (h : wpList P ops Q rest (a.put o.dst (.string (strOfNums xs))) w) : wpList P ops Q (o :: rest) a w := by
  refine BigFrame.wpList_want hw fun K hK => ?_
  unfold Oper.wp execOp
  have hr := run_convert_bytes_arg (P := P) w src e hs he b 0 n c xs hl (fun j hj => by
    rw [Nat.zero_add]
    refine hp.cell hi ?_
    rw [List.getElem?_map, List.getElem?_eq_getElem (by omega)]
    simp [List.getD, List.getElem?_eq_getElem (show j < xs.length by omega)]) dst hd
  simp only [ho, hx, Sem.run_bind, hr, Result.andThen_ok, Sem.run_pure]
  exact hK _ _ h
theorem Hp.adopt2 {B : Nat} {w' : World} {p q : Blk} (hp : Hp B w0 w L) (hb : Below w.heap.size w w') (hf : Fresh w w' p) (hg : Fresh w w' q) (hne : p.id ≠ q.id) : Hp B w0 w' (p :: q :: L) := by
  have h := hp.adopt hb hg
  refine ⟨h.below, h.size, ?_, ?_⟩
  · simp only [List.map_cons, List.nodup_cons, List.mem_cons]
    refine ⟨?_, by simpa using h.nodup⟩
    rintro (h1 | h1)
    · exact hne h1
    · obtain ⟨r, hr, he⟩ := List.mem_map.1 h1
      have := (hp.lt hr).2
      have := hf.1
      omega
  · intro r hr
    rcases List.mem_cons.1 hr with rfl | hr
    · exact ⟨Nat.le_trans hp.size hf.1, hf.2⟩
    · exact h.own r hr
end
abbrev mBlk (bm bw n : Nat) : Blk := ⟨bm, [.int .i64 n, .slice (some ⟨bw, 0, none⟩) (wN n) (wN n)], 57, 2⟩
theorem isMap0 (bm bw n : Nat) (f : Nat → Bool) (L : List Blk) : IsMap (mBlk bm bw n :: wBlk bw n f :: L) 0 1 bm bw n f := ⟨rfl, rfl⟩
def F5 : Nat → Bool := upd (upd noBit 2 5 true) 10 10 true
theorem F5_eq : F5 = upd noBit 2 5 true := upd_zero _ _ _
theorem F5_out (i : Nat) (h : 10 ≤ i) : F5 i = false := by rw [F5_eq]; unfold upd noBit; rw [if_neg (by omega)]
theorem aw_run1 : RunI F5 10 0 2 true 2 := .inr ⟨by decide, .inr ⟨2, rfl, by decide, by decide, by unfold AllOn; decide, fun b' _ hb => by
  match b', hb with
  | 0, _ => unfold AllOn; decide
  | 1, _ => unfold AllOn; decide⟩⟩
theorem aw_run2 : RunI F5 10 0 3 false 5 := .inr ⟨by decide, .inr ⟨5, rfl, by decide, by decide, by unfold AllOn; decide, fun b' _ hb => by
  match b', hb with
  | 0, _ => unfold AllOn; decide
  | 1, _ => unfold AllOn; decide
  | 2, _ => unfold AllOn; decide
  | 3, _ => unfold AllOn; decide
  | 4, _ => unfold AllOn; decide⟩⟩
theorem aw_new (w : World) : Calls Try.prog 10 #[.int .i64 10] w (NewPost w 10) := new10_yes 10 (by decide) w
theorem aw_new2 (w : World) : Calls Try.prog 10 #[.int .i64 4097] w fun e w' => e = .returned (.tuple #[.pointer none, .int .i64 1]) ∧ w = w' := new10_no 4097 (by decide) w
section
variable {L : List Blk} {bm bw B : Nat} {w0 w : World}
theorem aw_put1 (hp : Hp B w0 w (mBlk bm bw 10 :: wBlk bw 10 noBit :: L)) : Calls Try.prog 12 #[.pointer (some ⟨bm, 0, none⟩), .int .i64 2, .int .i64 3, .bool true] w fun e w' => e = .returned (.int .i64 0) ∧ Hp B w0 w' (mBlk bm bw 10 :: wBlk bw 10 (upd noBit 2 5 true) :: L) :=
  put12_on _ 0 1 bm bw 10 noBit 2 3 (by decide) (by decide) B w0 w hp (isMap0 _ _ _ _ _)
theorem aw_put2 {f : Nat → Bool} (hp : Hp B w0 w (mBlk bm bw 10 :: wBlk bw 10 f :: L)) : Calls Try.prog 12 #[.pointer (some ⟨bm, 0, none⟩), .int .i64 9, .int .i64 2, .bool true] w fun e w' => e = .returned (.int .i64 30) ∧ w = w' :=
  put12_out bm bw 10 f 9 2 true (by decide) (by decide) w ((isMap0 _ _ _ _ _).at_ hp)
theorem aw_put3 (hp : Hp B w0 w (mBlk bm bw 10 :: wBlk bw 10 (upd noBit 2 5 true) :: L)) : Calls Try.prog 12 #[.pointer (some ⟨bm, 0, none⟩), .int .i64 10, .int .i64 0, .bool true] w fun e w' => e = .returned (.int .i64 0) ∧ Hp B w0 w' (mBlk bm bw 10 :: wBlk bw 10 F5 :: L) :=
  put12_on _ 0 1 bm bw 10 (upd noBit 2 5 true) 10 0 (by decide) (by decide) B w0 w hp (isMap0 _ _ _ _ _)
theorem aw_get (hp : Hp B w0 w (mBlk bm bw 10 :: wBlk bw 10 F5 :: L)) : Calls Try.prog 13 #[.pointer (some ⟨bm, 0, none⟩), .int .i64 3] w fun e w' => e = .returned (.tuple #[.bool true, .int .i64 0]) ∧ w = w' :=
  get13_in bm bw 10 F5 3 (by decide) (by decide) w ((isMap0 _ _ _ _ _).at_ hp)
theorem aw_count (hp : Hp B w0 w (mBlk bm bw 10 :: wBlk bw 10 F5 :: L)) : Calls Try.prog 20 #[.pointer (some ⟨bm, 0, none⟩)] w fun e w' => e = .returned (.int .i64 3) ∧ w = w' :=
  count20 bm bw 10 F5 (by decide) F5_out w ((isMap0 _ _ _ _ _).at_ hp)
theorem aw_runa (hp : Hp B w0 w (mBlk bm bw 10 :: wBlk bw 10 F5 :: L)) : Calls Try.prog 16 #[.pointer (some ⟨bm, 0, none⟩), .int .i64 0, .int .i64 2, .bool true] w fun e w' => e = .returned (.int .i64 2) ∧ w = w' :=
  (run16 bm bw 10 F5 (by decide) 0 2 true (by decide) w ((isMap0 _ _ _ _ _).at_ hp)).mono fun e w' ⟨r, he, hr, hw⟩ => ⟨by rw [he, hr.eq aw_run1], hw⟩
theorem aw_runb (hp : Hp B w0 w (mBlk bm bw 10 :: wBlk bw 10 F5 :: L)) : Calls Try.prog 16 #[.pointer (some ⟨bm, 0, none⟩), .int .i64 0, .int .i64 3, .bool false] w fun e w' => e = .returned (.int .i64 5) ∧ w = w' :=
  (run16 bm bw 10 F5 (by decide) 0 3 false (by decide) w ((isMap0 _ _ _ _ _).at_ hp)).mono fun e w' ⟨r, he, hr, hw⟩ => ⟨by rw [he, hr.eq aw_run2], hw⟩
def AwBytes (w : World) (e : Ending) (w' : World) : Prop := ∃ b, e = .returned (.slice (some ⟨b, 0, none⟩) 2 2) ∧ Fresh w w' ⟨b, [.int .u8 28, .int .u8 0], 5, 2⟩ ∧ Below w.heap.size w w'
theorem aw_bytes (hp : Hp B w0 w (mBlk bm bw 10 :: wBlk bw 10 F5 :: L)) : Calls Try.prog 18 #[.pointer (some ⟨bm, 0, none⟩)] w (AwBytes w) :=
  (bytes18 bm bw 10 F5 (by decide) w ((isMap0 _ _ _ _ _).at_ hp)).mono fun e w' ⟨b, he, hf, hb⟩ => ⟨b, he, hf, hb⟩
end
theorem aw_str : strOfNums [28, 0] = { data := #[28, 0] } := by decide

set_option maxRecDepth 100000 in
set_option maxHeartbeats 8000000 in
theorem awake11 (w : World) : Calls Try.prog 11 #[] w fun e w' => e = .returned (.bool true) ∧ Below w.heap.size w w' := by
  have hp := Hp.start w
  go_enter Try.func11, Try.ntmps11
  go_wp2_with fail
  refine (aw_new _).mono ?_
  rintro e w1 ⟨bm, bw, rfl, hne, hf, hg, hb⟩
  replace hp := hp.adopt2 hb hf hg hne
  clear hb hf hg hne
  go_wp2_with fail
  refine (aw_new2 _).mono ?_
  rintro e w' ⟨rfl, rfl⟩
  go_wp2_with fail
  refine (aw_put1 hp).mono ?_
  rintro e w1 ⟨rfl, hp⟩
  go_wp2_with fail
  refine (aw_put2 hp).mono ?_
  rintro e w' ⟨rfl, rfl⟩
  go_wp2_with fail
  refine (aw_put3 hp).mono ?_
  rintro e w1 ⟨rfl, hp⟩
  go_wp2_with fail
  refine (aw_get hp).mono ?_
  rintro e w' ⟨rfl, rfl⟩
  go_wp2_with fail
  refine (aw_count hp).mono ?_
  rintro e w' ⟨rfl, rfl⟩
  go_wp2_with fail
  refine (aw_runa hp).mono ?_
  rintro e w' ⟨rfl, rfl⟩
  go_wp2_with fail
  refine (aw_runb hp).mono ?_
  rintro e w' ⟨rfl, rfl⟩
  go_wp2_with fail
  refine (aw_bytes hp).mono ?_
  rintro e w1 ⟨b, rfl, hf, hb⟩
  replace hp := hp.adopt hb hf
  clear hf hb
  go_wp2_with (refine wpList_strOf_hp hp _ _ 5 _ rfl (by first | exact wanted_none rfl | exact wanted_yes rfl rfl rfl rfl) Try.underlying40 Try.underlying5 Try.underlying9 _ _ _ (slot_tmp rfl) [28, 0] _ _ _ at0 rfl ?_; simp only [aw_str, put_some, put_none, List.set_cons_succ, List.set_cons_zero])
  go_ret
  exact ⟨rfl, hp.below⟩
end Go.Proofs.Ytfnadjlnnfmnmaa
