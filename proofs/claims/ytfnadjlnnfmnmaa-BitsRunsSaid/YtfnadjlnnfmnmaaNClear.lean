/- Put over the whole map (clear), and Put at any numbers. -/
import Derived.Test.YtfnadjlnnfmnmaaNAwake
set_option linter.unusedSimpArgs false
set_option linter.unusedVariables false
namespace Go.Proofs.Ytfnadjlnnfmnmaa
open Go.RowKit
section
variable {P : Program} {ops : Array Oper} {rest : List Oper} {o : Oper} {a : Act} {w : World} {Q : Exit → Act → World → Prop} {w0 : World} {L : List Blk}
theorem wpList_clear_hp {B : Nat} (hp : Hp B w0 w L) (t e : TypeId) (x : Operand) (ho : o.op = .call { callee := .builtin .clear, args := #[x], argTypes := #[t] }) (hw : Region.wanted o (yielded ops a.tmps) = true)
    (ht : P.underlying t = some (.slice e)) (inf : TypeInfo) (z : Value) (hi : P.info? e = some inf) (hz : inf.zero = some z) (hzc : z.cells = #[z]) (h1 : z.oneCell' = true) (b n c : Nat) (hx : a.eval x = .slice (some ⟨b, 0, none⟩) n c) (i : Nat) (l : List Value) (m : Nat)
    (hL : L[i]? = some ⟨b, l, e, m⟩) (hl : l.length = n)
    (h : ∀ v w', Hp B w0 w' (L.set i ⟨b, List.replicate n z, e, m⟩) → wpList P ops Q rest (a.put o.dst v) w') : wpList P ops Q (o :: rest) a w := by
  refine BigFrame.wpList_want hw fun K hK => ?_
  have key : ∃ w', (Builtin.clear_ #[t] o.type #[.slice (some ⟨b, 0, none⟩) n c]).run P w = .ok (.tuple #[]) w' ∧ Hp B w0 w' (L.set i ⟨b, List.replicate n z, e, m⟩) := by
    rcases Nat.eq_zero_or_pos n with h0 | h0
    · subst h0
      have : l = [] := List.eq_nil_of_length_eq_zero hl
      subst this
      exact ⟨w, by simp [Builtin.clear_, run_underlying ht], by rw [List.replicate_zero, set_same hL]; exact hp⟩
    · have hzl : (Builtin.zeroCells #[z] n).toList = List.replicate n z := by
        unfold Builtin.zeroCells
        apply List.ext_getElem?
        intro k
        by_cases hk : k < n <;> simp [hk, Nat.mod_one]
      obtain ⟨w', hr, hp'⟩ := Hp.storeCells (P := P) 0 (List.replicate n z) w L l 0 hp hL (by simp [hl]) (by simp [h1])
      refine ⟨w', ?_, by rw [Nat.zero_add, spl_all _ _ (by simp [hl])] at hp'; exact hp'⟩
      obtain ⟨k, rfl⟩ : ∃ k, n = k + 1 := ⟨n - 1, by omega⟩
      simp [Builtin.clear_, run_underlying ht, zeroValue, typeInfo, hi, hz, hzc, hzl, hr]
  obtain ⟨w', hr, hp'⟩ := key
  unfold Oper.wp execOp
  simp only [ho, resolve, invoke, builtin, Sem.run_bind, Sem.run_pure, Result.andThen_ok, List.map_toArray, List.map_cons, List.map_nil, hx, hr]
  exact hK _ _ (h _ w' hp')
end
set_option maxRecDepth 100000 in
set_option maxHeartbeats 4000000 in
theorem put12_clear (L : List Blk) (i j bm bw n : Nat) (f : Nat → Bool) (hn : n ≤ 4096) (B : Nat) (w0 w : World) (hp : Hp B w0 w L) (hm : IsMap L i j bm bw n f) :
    Calls Try.prog 12 #[.pointer (some ⟨bm, 0, none⟩), .int .i64 0, .int .i64 n, .bool false] w fun e w' => e = .returned (.int .i64 0) ∧ Hp B w0 w' (L.set j (wBlk bw n noBit)) := by
  obtain ⟨i0, hi0, hz0, hz1, hz2⟩ := info_parts info58
  have HM := Lib.hid hm
  clear hm
  have d2 : decide ((n : Int) < 0) = false := by simp
  have d5 : (0 : Int) ≤ (n : Int) := by omega
  go_enter Try.func12, Try.ntmps12
  go_wp2_with (first | (refine wpList_clear_hp hp _ 58 _ rfl (by first | exact wanted_none rfl | exact wanted_yes rfl rfl rfl rfl) Try.underlying55 i0 _ hi0 hz0 rfl rfl _ _ _ (slot_tmp rfl) _ _ _ HM.out.hj (words_len _ _) ?_; clear hp; intro v w1 hp; rw [← words_no] at hp; simp only [put_some, put_none, List.set_cons_succ, List.set_cons_zero]) | (refine wpList_loadOne_hp hp _ _ rfl (by first | exact wanted_none rfl | exact wanted_yes rfl rfl rfl rfl) _ _ (slot_tmp rfl) (by first | exact cell3 | exact cell55) _ _ _ _ HM.out.hi _ (by rfl) ?_; simp only [put_some, put_none, List.set_cons_succ, List.set_cons_zero]))
  go_ret
  exact ⟨rfl, hp⟩

/-- What Put tells, and what it makes of a map. -/
def putOk (n : Nat) (a m : Int) : Bool := decide (0 ≤ a ∧ 0 ≤ m ∧ a ≤ n ∧ m ≤ n - a)
def putE (n : Nat) (a m : Int) : Int := if putOk n a m then 0 else 30
def putF (f : Nat → Bool) (n : Nat) (a m : Int) (on : Bool) : Nat → Bool := if putOk n a m then upd f a.toNat (a.toNat + m.toNat) on else f
theorem putF_out {f : Nat → Bool} {n : Nat} (h : ∀ i, n ≤ i → f i = false) (a m : Int) (on : Bool) : ∀ i, n ≤ i → putF f n a m on i = false := by
  intro i hi
  unfold putF
  split
  · rename_i ho
    simp only [putOk, decide_eq_true_eq] at ho
    unfold upd
    rw [if_neg (by omega)]
    exact h i hi
  · exact h i hi
theorem upd_all {f : Nat → Bool} {n : Nat} (h : ∀ i, n ≤ i → f i = false) : upd f 0 n false = noBit := by
  funext i
  unfold upd noBit
  split
  · rfl
  · exact h i (by omega)
theorem put_w {L : List Blk} {bm bw n : Nat} {f : Nat → Bool} (hn : n ≤ 4096) (hz : ∀ i, n ≤ i → f i = false) {B : Nat} {w0 w : World} (a m : Int) (on : Bool) (hp : Hp B w0 w (mBlk bm bw n :: wBlk bw n f :: L)) :
    Calls Try.prog 12 #[.pointer (some ⟨bm, 0, none⟩), .int .i64 a, .int .i64 m, .bool on] w fun e w' => e = .returned (.int .i64 (putE n a m)) ∧ Hp B w0 w' (mBlk bm bw n :: wBlk bw n (putF f n a m on) :: L) := by
  cases ho : putOk n a m
  · have h1 : a < 0 ∨ m < 0 ∨ (n : Int) < a ∨ (n : Int) - a < m := by simp only [putOk, decide_eq_false_iff_not] at ho; omega
    refine (put12_out bm bw n f a m on hn h1 w ((isMap0 _ _ _ _ _).at_ hp)).mono fun e w' ⟨he, hw⟩ => ?_
    subst hw
    refine ⟨by rw [he]; simp [putE, ho], ?_⟩
    have : putF f n a m on = f := by simp [putF, ho]
    rw [this]; exact hp
  · have h1 := ho
    simp only [putOk, decide_eq_true_eq] at h1
    obtain ⟨x, rfl⟩ := Int.eq_ofNat_of_zero_le h1.1
    obtain ⟨y, rfl⟩ := Int.eq_ofNat_of_zero_le h1.2.1
    have e1 : putE n x y = 0 := by simp [putE, ho]
    have e2 : putF f n x y on = upd f x (x + y) on := by simp [putF, ho]
    rw [e1, e2]
    cases on
    · by_cases hxy : y = n
      · have hx0 : x = 0 := by omega
        subst hxy; subst hx0
        rw [Nat.zero_add, upd_all hz]
        exact put12_clear _ 0 1 bm bw y f hn B w0 w hp (isMap0 _ _ _ _ _)
      · exact put12_off _ 0 1 bm bw n f x y hn (by omega) hxy B w0 w hp (isMap0 _ _ _ _ _)
    · exact put12_on _ 0 1 bm bw n f x y hn (by omega) B w0 w hp (isMap0 _ _ _ _ _)

/-- What Get tells. -/
def getE (n : Nat) (i : Int) : Int := if 0 ≤ i ∧ i < n then 0 else 30
def getV (f : Nat → Bool) (n : Nat) (i : Int) : Bool := decide (0 ≤ i ∧ i < n) && f i.toNat
theorem get_w {L : List Blk} {bm bw n : Nat} {f : Nat → Bool} (hn : n ≤ 4096) {B : Nat} {w0 w : World} (i : Int) (hp : Hp B w0 w (mBlk bm bw n :: wBlk bw n f :: L)) :
    Calls Try.prog 13 #[.pointer (some ⟨bm, 0, none⟩), .int .i64 i] w fun e w' => e = .returned (.tuple #[.bool (getV f n i), .int .i64 (getE n i)]) ∧ w = w' := by
  by_cases h : 0 ≤ i ∧ i < n
  · obtain ⟨k, rfl⟩ := Int.eq_ofNat_of_zero_le h.1
    have e1 : getE n k = 0 := by simp [getE]; omega
    have e2 : getV f n k = f k := by simp [getV]; omega
    rw [e1, e2]
    exact get13_in bm bw n f k (by omega) hn w ((isMap0 _ _ _ _ _).at_ hp)
  · have e1 : getE n i = 30 := by simp only [getE]; rw [if_neg h]
    have e2 : getV f n i = false := by simp only [getV]; simp; intro h1 h2; exact absurd ⟨h1, h2⟩ h
    rw [e1, e2]
    exact get13_out bm bw n f i (by omega) w ((isMap0 _ _ _ _ _).at_ hp)
end Go.Proofs.Ytfnadjlnnfmnmaa
