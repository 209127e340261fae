/- Parts of the proof. -/
import Derived.Test.YtcjbepaclbhjaaaGreatKd1
import Derived.Test.YtcjbepaclbhjaaaGreatKd44
import Derived.Test.YtcjbepaclbhjaaaGreatKd41
import Derived.Test.YtcjbepaclbhjaaaGreatKd45
import Derived.Test.YtcjbepaclbhjaaaGreatKd46
open List renaming set_cons_zero → zSet, set_cons_succ → sSet
/- What the walk of ChangeVotes leans on: Vote and its document's twin by what they tell, Add with rows of one's own, the document's copies. -/
set_option linter.unusedSimpArgs false
set_option linter.unusedVariables false
namespace Go.Proofs.YtcjbepaclbhjaaaGreat
open Go.RowKit Go.Lib
structure Vq where
  a : Int
  b : Int
  c : Int
  d : Int
  e : Int
  es : List Env
def voteQ (r : Bool) (id nm bs nu cm : Int) (es : List Env) : Vq := if r = true then ⟨id, nm, bs, nu, cm, es⟩ else ⟨0, 0, 0, 0, 0, []⟩
def VoteQP (w : World) (n1 n2 n3 n4 n5 : Int) (fs : List Env) (e : Ending) (w' : World) : Prop := ∃ (a : Option Addr) (c : Nat) (R : List Blk), e = .returned (.agg #[.int .i64 n1, .int .i64 n2, .int .i64 n3, .int .i64 n4, .int .i64 n5, .slice a fs.length c]) ∧ OwnRow 47 11 (.slice a fs.length c) fs.length (fs.flatMap envL) R ∧ Hp w.heap.size w w' R
def RVoteQP (w : World) (n1 n2 n3 n4 n5 : Int) (fs : List Env) (e : Ending) (w' : World) : Prop := ∃ (a : Option Addr) (c : Nat) (R : List Blk), e = .returned (.agg #[.int .i64 n1, .int .i64 n2, .int .i64 n3, .int .i64 n4, .int .i64 n5, .slice a fs.length c]) ∧ Kept R (fun w => RowIs w a (fs.flatMap envL)) ∧ Hp w.heap.size w w' R
theorem vote_Q (id cm vw nm bs : Int) (im : ByteArray) (ea : Option Addr) (es : List Env) (ec : Nat) (hel : es.length ≤ 100000) (hs : Kv.Small ⟨vw, nm, bs, im, ea, es, ec⟩) (w : World) (ha : RowIs w ea (es.flatMap envL)) (n1 n2 n3 n4 n5 : Int) (fs : List Env)
    (hv : voteQ (okC ⟨vw, nm, bs, im, ea, es, ec⟩) id nm bs (wrap64 (bs + es.length)) cm es = ⟨n1, n2, n3, n4, n5, fs⟩) : Calls Tryz.prog 10 #[.int .i64 id, .agg #[.int .i64 vw, .int .i64 nm, .int .i64 bs, .string im, .slice ea es.length ec], .int .i64 cm] w (VoteQP w n1 n2 n3 n4 n5 fs) := by
  refine (vote10 id cm vw nm bs im ea es ec hel _ rfl hs w ha).mono fun e w' h => ?_
  rcases h with ⟨hb, rfl, hw⟩ | ⟨hb, a, c, R, rfl, hr, hp⟩
  · rw [hb] at hv
    simp only [voteQ, Bool.false_eq_true, if_false, Vq.mk.injEq] at hv
    obtain ⟨rfl, rfl, rfl, rfl, rfl, rfl⟩ := hv
    exact ⟨none, 0, [], rfl, OwnRow.nil _ _, (Hp.start w).call hw⟩
  · rw [hb] at hv
    simp only [voteQ, if_true, Vq.mk.injEq] at hv
    obtain ⟨rfl, rfl, rfl, rfl, rfl, rfl⟩ := hv
    exact ⟨a, c, R, rfl, hr, hp⟩
theorem rvote_Q (id cm vw nm bs : Int) (im : ByteArray) (ea : Option Addr) (es : List Env) (ec : Nat) (hel : es.length ≤ 100000) (hs : Kv.Small ⟨vw, nm, bs, im, ea, es, ec⟩) (w : World) (ha : RowIs w ea (es.flatMap envL)) (n1 n2 n3 n4 n5 : Int) (fs : List Env)
    (hv : voteQ (okC ⟨vw, nm, bs, im, ea, es, ec⟩) id nm bs (wrap64 (bs + es.length)) cm es = ⟨n1, n2, n3, n4, n5, fs⟩) : Calls Tryz.prog 12 #[.int .i64 id, .agg #[.int .i64 vw, .int .i64 nm, .int .i64 bs, .string im, .slice ea es.length ec], .int .i64 cm] w (RVoteQP w n1 n2 n3 n4 n5 fs) := by
  refine (rvote12 id cm vw nm bs im ea es ec hel _ rfl hs w ha).mono fun e w' h => ?_
  rcases h with ⟨hb, rfl, hw⟩ | ⟨hb, a, c, R, rfl, hr, hp⟩
  · rw [hb] at hv
    simp only [voteQ, Bool.false_eq_true, if_false, Vq.mk.injEq] at hv
    obtain ⟨rfl, rfl, rfl, rfl, rfl, rfl⟩ := hv
    exact ⟨none, 0, [], rfl, Kept.none_ (fun w => RowIs.nil _ _) _, (Hp.start w).call hw⟩
  · rw [hb] at hv
    simp only [voteQ, if_true, Vq.mk.injEq] at hv
    obtain ⟨rfl, rfl, rfl, rfl, rfl, rfl⟩ := hv
    exact ⟨a, c, R, rfl, hr, hp⟩
theorem voteQ_len {r : Bool} {id nm bs nu cm : Int} {es : List Env} {n1 n2 n3 n4 n5 : Int} {fs : List Env} (h : voteQ r id nm bs nu cm es = ⟨n1, n2, n3, n4, n5, fs⟩) (hl : es.length ≤ 100000) : fs.length ≤ 100000 := by
  unfold voteQ at h
  split at h <;> simp only [Vq.mk.injEq] at h <;> obtain ⟨_, _, _, _, _, rfl⟩ := h
  · exact hl
  · exact Nat.zero_le _
def AddP3 (w : World) (l : List Vt) (v : Vt) (e : Ending) (w' : World) : Prop :=
  ∃ (g cap n : Nat) (ys : List Vt) (M : List Blk), e = .returned (.slice (some ⟨g, 0, none⟩) n cap) ∧ ys.length = n ∧ n ≤ l.length + 1 ∧ (∀ y ∈ ys, y.es.length ≤ 100000) ∧ ys.map vstrip = addV (l.map vstrip) (vstrip v) ∧ OwnVs ys M ∧ Hp w.heap.size w w' (⟨g, ys.flatMap vtV, 27, cap * 6⟩ :: M)
theorem add_3 (l : List Vt) (a : Option Addr) (k : Nat) (hl : l.length ≤ 1000) (hes : ∀ v ∈ l, v.es.length ≤ 100000) (nd nm bs nu cm : Int) (va : Option Addr) (es : List Env) (vc : Nat) (hel : es.length ≤ 100000) (w : World) (ha : RowIs w a (l.flatMap vtV)) (hlv : ∀ v ∈ l, v.Is w) (hva : RowIs w va (es.flatMap envL)) :
    Calls Tryz.prog 15 #[.slice a l.length k, .agg #[.int .i64 nd, .int .i64 nm, .int .i64 bs, .int .i64 nu, .int .i64 cm, .slice va es.length vc]] w (AddP3 w l ⟨nd, nm, bs, nu, cm, va, es, vc⟩) := by
  refine (add15 l a k hl hes nd nm bs nu cm va es vc hel w ha hlv hva).mono fun e w' h => ?_
  obtain ⟨x, ys, R, M, rfl, hy, hr, hk, hp⟩ := h
  have hpos : 0 < ys.length := by
    have h1 := congrArg List.length hy
    rw [List.length_map] at h1
    unfold addV at h1
    rw [List.length_append, List.length_cons] at h1
    omega
  obtain ⟨g, cap, rfl, rfl⟩ := own_row hr hpos
  refine ⟨g, cap, ys.length, ys, M, rfl, rfl, ?_, ?_, hy, hk, hp⟩
  · have h1 := congrArg List.length hy
    have h2 := addV_len (l.map vstrip) (vstrip ⟨nd, nm, bs, nu, cm, va, es, vc⟩)
    rw [List.length_map] at h1 h2
    omega
  · intro y hy2
    have h1 : vstrip y ∈ ys.map vstrip := List.mem_map.2 ⟨y, hy2, rfl⟩
    rw [hy] at h1
    rcases mem_addV h1 with h | h
    · obtain ⟨x, hx, he⟩ := List.mem_map.1 h
      have h3 : (vstrip x).es = (vstrip y).es := congrArg Vt.es he
      replace h3 : x.es = y.es := h3
      rw [← h3]; exact hes x hx
    · have h3 : (vstrip y).es = (vstrip ⟨nd, nm, bs, nu, cm, va, es, vc⟩).es := congrArg Vt.es h
      replace h3 : y.es = es := h3
      rw [h3]; exact hel
theorem sm_bound {l ys : List Vt} {N : Nat} (h : VtsSm l ys) (hl : ∀ v ∈ l, v.es.length ≤ N) : ∀ y ∈ ys, y.es.length ≤ N := fun y hy => by
  obtain ⟨i, hi, rfl⟩ := List.getElem_of_mem hy
  have hs := h.2 i _ _ (List.getElem?_eq_getElem (by rw [h.1]; exact hi)) (List.getElem?_eq_getElem hi)
  rw [← hs.2.2.2.2.2]
  exact hl _ (List.getElem_mem _)
theorem add_same {l cs ys rs : List Vt} {v m : Vt} (h1 : VtsSm l cs) (hvm : v.Sm m) (h2 : ys.map vstrip = addV (l.map vstrip) (vstrip v)) (h3 : VtsSm (addV cs m) rs) : VtsSm ys rs := by
  rw [vts_strip] at h1 h3 ⊢
  rw [h2, ← h3, addV_strip, ← h1, ← vt_strip.1 hvm]
theorem OwnVs.part {ys : List Vt} {M : List Blk} {q : Nat} {x : Vt} (h : OwnVs (ys.drop q) M) (hx : ys[q]? = some x) : ∃ R M', OwnRow 47 11 (.slice x.a x.es.length x.c) x.es.length (x.es.flatMap envL) R ∧ M.Perm (R ++ M') ∧ OwnVs (ys.drop (q + 1)) M' := by
  have hq := (List.getElem?_eq_some_iff.1 hx).1
  have he : ys[q] = x := by have := List.getElem?_eq_getElem hq; rw [hx] at this; injection this with this; exact this.symm
  rw [List.drop_eq_getElem_cons hq, he] at h
  exact h
end Go.Proofs.YtcjbepaclbhjaaaGreat
